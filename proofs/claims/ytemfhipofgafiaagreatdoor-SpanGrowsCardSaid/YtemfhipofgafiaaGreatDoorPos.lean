/- THE WALKS of packages vtime and pos. -/
import Derived.Test.YtemfhipofgafiaaGreatDoorWideC
import Derived.Test.YtemfhipofgafiaaGreatDoorRegion
set_option linter.unusedVariables false
set_option linter.unusedSimpArgs false
namespace Go.Proofs.YtemfhipofgafiaaGreatDoor
open Go.RowKit


def since (t u : Int) : Int := wrap64 (t - u)
def addT (t d : Int) : Int := (t + d) % P64
theorem I64_since (t u : Int) : I64 (since t u) := I64_wrap _
theorem U64_addT (t d : Int) : U64 (addT t d) := U64_mod _
theorem since_wrap (t u : Int) : wrap64 (IntKind.u64.wrap (t - u)) = since t u := by rw [wrapU64]; unfold since wrap64 P64; omega
theorem addT_wrap (t d : Int) : IntKind.u64.wrap (t + IntKind.u64.wrap d) = addT t d := by rw [wrapU64, wrapU64]; unfold addT P64; omega

set_option maxHeartbeats 1000000 in
set_option maxRecDepth 100000 in
theorem vtime_Since (t u : Int) (w : World) : Calls Tryz.prog 32 #[.int .u64 t, .int .u64 u] w (Ret w (.int .i64 (since t u))) := by
  go_enter Tryz.func32, Tryz.ntmps32
  go_wp2_with fail
  go_ret
  exact ⟨by rw [← since_wrap]; rfl, by (repeat' (first | (with_reducible exact Below.refl _ _) | (with_reducible refine Below.alloc ?_ ?_ _) | (with_reducible refine Below.setCell ?_ ?_ _) | (with_reducible refine Below.drew ?_) | (with_reducible refine belowN ?_ _) | (with_reducible refine bthen (by assumption) ?_ ?_) | omega | (simp only [World.size_alloc, World.size_setCell, World.size_drew, World.heap_drewN] at *; omega) | (simp; omega)))⟩

set_option maxHeartbeats 1000000 in
set_option maxRecDepth 100000 in
theorem vtime_Add (t d : Int) (w : World) : Calls Tryz.prog 102 #[.int .u64 t, .int .i64 d] w (Ret w (.int .u64 (addT t d))) := by
  go_enter Tryz.func102, Tryz.ntmps102
  go_wp2_with fail
  go_ret
  exact ⟨by rw [← addT_wrap]; rfl, by (repeat' (first | (with_reducible exact Below.refl _ _) | (with_reducible refine Below.alloc ?_ ?_ _) | (with_reducible refine Below.setCell ?_ ?_ _) | (with_reducible refine Below.drew ?_) | (with_reducible refine belowN ?_ _) | (with_reducible refine bthen (by assumption) ?_ ?_) | omega | (simp only [World.size_alloc, World.size_setCell, World.size_drew, World.heap_drewN] at *; omega) | (simp; omega)))⟩

set_option maxHeartbeats 1000000 in
set_option maxRecDepth 100000 in
theorem vtime_Before (t u : Int) (w : World) : Calls Tryz.prog 117 #[.int .u64 t, .int .u64 u] w (Ret w (.bool (decide (since t u < 0)))) := by
  go_enter Tryz.func117, Tryz.ntmps117
  go_wp2_with (go_at_call 32; refine (vtime_Since _ _ _).mono ?_; rintro e w1 ⟨rfl, hb1⟩; obtain ⟨hc1, hf1⟩ := bcell hb1; (try simp only [World.heap_drewN, World.cell?_drewN] at hc1); (try simp only [World.heap_drewN, World.frozen?_drewN] at hf1); have hz1 := bsize hb1; (try simp only [World.size_alloc, World.size_setCell, World.size_drew, World.heap_drewN] at hz1); (try (have hs0 : w.heap.size < w1.heap.size := by omega)); (try (have hs1 : w.heap.size + 1 < w1.heap.size := by omega)); (try (have hs2 : w.heap.size + 2 < w1.heap.size := by omega)); (try (have hs3 : w.heap.size + 3 < w1.heap.size := by omega)))
  go_ret
  exact ⟨by rfl, by (repeat' (first | (with_reducible exact Below.refl _ _) | (with_reducible refine Below.alloc ?_ ?_ _) | (with_reducible refine Below.setCell ?_ ?_ _) | (with_reducible refine Below.drew ?_) | (with_reducible refine belowN ?_ _) | (with_reducible refine bthen (by assumption) ?_ ?_) | omega | (simp only [World.size_alloc, World.size_setCell, World.size_drew, World.heap_drewN] at *; omega) | (simp; omega)))⟩

def wOK (w : Int) : Bool := decide (1 ≤ w) && decide (w ≤ 1048576)
def posOK (r w : Int) : Bool := wOK w && decide (r < w)
set_option maxHeartbeats 1000000 in
set_option maxRecDepth 100000 in
theorem pos_weight (x : Int) (w : World) : Calls Tryz.prog 89 #[.int .u32 x] w (Ret w (.bool (wOK x))) := by
  by_cases h : 1 ≤ x
  all_goals
    go_enter Tryz.func89, Tryz.ntmps89
    go_wp2_with fail
    go_ret
    refine ⟨?_, by (repeat' (first | (with_reducible exact Below.refl _ _) | (with_reducible refine Below.alloc ?_ ?_ _) | (with_reducible refine Below.setCell ?_ ?_ _) | (with_reducible refine Below.drew ?_) | (with_reducible refine belowN ?_ _) | (with_reducible refine bthen (by assumption) ?_ ?_) | omega | (simp only [World.size_alloc, World.size_setCell, World.size_drew, World.heap_drewN] at *; omega) | (simp; omega)))⟩
  · simp [wOK, h]
  · have h2 : decide (1 ≤ x) = false := by simpa using h
    unfold wOK
    rw [h2]
    rfl

set_option maxHeartbeats 1000000 in
set_option maxRecDepth 100000 in
theorem pos_Right (t r x : Int) (w : World) : Calls Tryz.prog 33 #[.agg #[.int .u64 t, .int .u32 r, .int .u32 x]] w (Ret w (.bool (posOK r x))) := by
  cases h : wOK x
  all_goals
    have H := Lib.hid h
    have Q := fun w => pos_weight x w
    rw [h] at Q
    clear h
    go_enter Tryz.func33, Tryz.ntmps33
    go_wp2_with (go_at_call 89; refine (Q _).mono ?_; rintro e w1 ⟨rfl, hb1⟩; obtain ⟨hc1, hf1⟩ := bcell hb1; (try simp only [World.heap_drewN, World.cell?_drewN] at hc1); (try simp only [World.heap_drewN, World.frozen?_drewN] at hf1); have hz1 := bsize hb1; (try simp only [World.size_alloc, World.size_setCell, World.size_drew, World.heap_drewN] at hz1); (try (have hs0 : w.heap.size < w1.heap.size := by omega)); (try (have hs1 : w.heap.size + 1 < w1.heap.size := by omega)); (try (have hs2 : w.heap.size + 2 < w1.heap.size := by omega)); (try (have hs3 : w.heap.size + 3 < w1.heap.size := by omega)))
    all_goals go_outline
    all_goals go_ret
    all_goals exact ⟨by simp [posOK, H.out], by (repeat' (first | (with_reducible exact Below.refl _ _) | (with_reducible refine Below.alloc ?_ ?_ _) | (with_reducible refine Below.setCell ?_ ?_ _) | (with_reducible refine Below.drew ?_) | (with_reducible refine belowN ?_ _) | (with_reducible refine bthen (by assumption) ?_ ?_) | omega | (simp only [World.size_alloc, World.size_setCell, World.size_drew, World.heap_drewN] at *; omega) | (simp; omega)))⟩

/-- The distance of a position. -/
def dist (t r x base : Int) : Int := x * since t base + r
theorem dist_fits {t r x base : Int} (hr : U32 r) (hx : U32 x) : InW (dist t r x base) ∧ InW (x * since t base) ∧ InW x ∧ InW r := by
  have h := I64_since t base
  unfold dist InW
  generalize since t base = s at *
  unfold U32 at hr hx
  have h1 : x * s ≤ 4294967296 * P63 := by
    have a : x * s ≤ x * P63 := Int.mul_le_mul_of_nonneg_left (by unfold I64 at h; omega) hx.1
    have b : x * P63 ≤ 4294967296 * P63 := Int.mul_le_mul_of_nonneg_right (by omega) (by unfold P63; omega)
    omega
  have h2 : -(4294967296 * P63) ≤ x * s := by
    have a : x * (-P63) ≤ x * s := Int.mul_le_mul_of_nonneg_left (by unfold I64 at h; omega) hx.1
    have b : x * P63 ≤ 4294967296 * P63 := Int.mul_le_mul_of_nonneg_right (by omega) (by unfold P63; omega)
    rw [Int.mul_neg] at a
    omega
  unfold P63 at *; unfold P127; omega

set_option maxHeartbeats 1000000 in
set_option maxRecDepth 100000 in
theorem pos_Distance (t r x base : Int) (w : World) (hr : U32 r) (hx : U32 x) :
    Calls Tryz.prog 76 #[.agg #[.int .u64 t, .int .u32 r, .int .u32 x], .int .u64 base] w (Ret w (.agg #[.int .i64 (hiI (dist t r x base)), .int .u64 (loI (dist t r x base))])) := by
  go_enter Tryz.func76, Tryz.ntmps76
  have f := dist_fits (t := t) (base := base) hr hx
  have e1 : val 0 x = x := by unfold val; omega
  have e2 : val 0 r = r := by unfold val; omega
  have u1 : U64 x := by unfold U32 at hx; unfold U64 P64; omega
  have u2 : U64 r := by unfold U32 at hr; unfold U64 P64; omega
  have i0 : I64 0 := by unfold I64 P63; omega
  have M : ∀ w, Calls Tryz.prog 96 #[.agg #[.int .i64 0, .int .u64 x], .int .i64 (since t base)] w
      (Ret w (.tuple #[.agg #[.int .i64 (hiI (x * since t base)), .int .u64 (loI (x * since t base))], .bool true])) := fun w => by
    have h := wide_Mul 0 x (since t base) w i0 u1 (I64_since _ _)
    rw [e1, sel_of f.2.1, inWB_true f.2.1] at h
    exact h
  have D : ∀ w, Calls Tryz.prog 100 #[.agg #[.int .i64 (hiI (x * since t base)), .int .u64 (loI (x * since t base))], .agg #[.int .i64 0, .int .u64 r]] w
      (Ret w (.tuple #[.agg #[.int .i64 (hiI (dist t r x base)), .int .u64 (loI (dist t r x base))], .bool true])) := fun w => by
    have h := wide_Add (hiI (x * since t base)) (loI (x * since t base)) 0 r w (I64_hi _) (U64_lo _) i0 u2
    rw [e2, val_hi_lo f.2.1, show x * since t base + r = dist t r x base from rfl, sel_of f.1, inWB_true f.1] at h
    exact h
  have wx : IntKind.u64.wrap x = x := wrapU64_id u1
  have wr : IntKind.u64.wrap r = r := wrapU64_id u2
  have Mh := Lib.hid M
  have Dh := Lib.hid D
  clear M D f e1 e2 u1 u2 i0
  go_wp2_with fail
  refine Reg.wp_region_E 12 2 (by kernel_rfl) (by kernel_rfl) ?_
  simp only [List.take_succ_cons, List.take_zero, List.drop_succ_cons, List.drop_zero]
  iterate 12 (first | (refine Reg.head_pure rfl rfl (fun K hK => ?_); apply Exists.intro; refine ⟨fun w2 => ?_, ?_⟩; (go_simp; exact .mk); (go_simp; refine hK _ ?_; clear hK K)) | (refine Reg.head_cps rfl rfl (fun K hK => ?_); apply Exists.intro; refine ⟨fun w2 hE => ?_, ?_⟩; (obtain ⟨hcE, hfE⟩ := bcellB hE; (try simp only [World.size_drew, World.heap_drewN, World.cell?_drewN, World.size_alloc, World.size_setCell] at hcE); go_simp; first | (exact .value (Reg.E.refl _)) | (apply Reg.Comes1.enter (Reg.E.refl _); first | (exact wide_OfU _ _) | (exact vtime_Since _ _ _) | (exact Mh.out _))); (go_simp; refine hK _ ?_; clear hK K)))
  refine Reg.head_nil ?_
  refine Reg.make_cps rfl (fun w2 hE2 K hK => ?_)
  have hz_w2 := Below.size hE2
  (try simp only [World.size_drew, World.heap_drewN, World.size_alloc, World.size_setCell] at hz_w2)
  obtain ⟨hc_w2, hf_w2⟩ := bcell hE2
  (try simp only [World.size_drew, World.heap_drewN, World.cell?_drewN, World.size_alloc, World.size_setCell] at hc_w2)
  (try simp only [World.size_drew, World.heap_drewN, World.frozen?_drewN, World.size_alloc, World.size_setCell] at hf_w2)
  (try (have hs0_w2 : w.heap.size < (w2).heap.size := by omega))
  (try (have hn0_w2 : ¬ (w.heap.size = (w2).heap.size) := by omega))
  (try (have hm0_w2 : ¬ ((w2).heap.size = w.heap.size) := by omega))
  (try (have hs1_w2 : w.heap.size + 1 < (w2).heap.size := by omega))
  (try (have hn1_w2 : ¬ (w.heap.size + 1 = (w2).heap.size) := by omega))
  (try (have hm1_w2 : ¬ ((w2).heap.size = w.heap.size + 1) := by omega))
  (try (have hs2_w2 : w.heap.size + 2 < (w2).heap.size := by omega))
  (try (have hn2_w2 : ¬ (w.heap.size + 2 = (w2).heap.size) := by omega))
  (try (have hm2_w2 : ¬ ((w2).heap.size = w.heap.size + 2) := by omega))
  (try (have hs3_w2 : w.heap.size + 3 < (w2).heap.size := by omega))
  (try (have hn3_w2 : ¬ (w.heap.size + 3 = (w2).heap.size) := by omega))
  (try (have hm3_w2 : ¬ ((w2).heap.size = w.heap.size + 3) := by omega))
  unfold Oper.wp
  go_simp
  refine hK _ _ (Below.alloc (Below.refl _ _) (by simp; omega) _) ?_
  clear hK K
  refine Reg.make_cps rfl (fun w3 hE3 K hK => ?_)
  have hz_w3 := Below.size hE3
  (try simp only [World.size_drew, World.heap_drewN, World.size_alloc, World.size_setCell] at hz_w3)
  obtain ⟨hc_w3, hf_w3⟩ := bcell hE3
  (try simp only [World.size_drew, World.heap_drewN, World.cell?_drewN, World.size_alloc, World.size_setCell] at hc_w3)
  (try simp only [World.size_drew, World.heap_drewN, World.frozen?_drewN, World.size_alloc, World.size_setCell] at hf_w3)
  (try (have hs0_w3 : w.heap.size < (w3).heap.size := by omega))
  (try (have hn0_w3 : ¬ (w.heap.size = (w3).heap.size) := by omega))
  (try (have hm0_w3 : ¬ ((w3).heap.size = w.heap.size) := by omega))
  (try (have hs1_w3 : w.heap.size + 1 < (w3).heap.size := by omega))
  (try (have hn1_w3 : ¬ (w.heap.size + 1 = (w3).heap.size) := by omega))
  (try (have hm1_w3 : ¬ ((w3).heap.size = w.heap.size + 1) := by omega))
  (try (have hs2_w3 : w.heap.size + 2 < (w3).heap.size := by omega))
  (try (have hn2_w3 : ¬ (w.heap.size + 2 = (w3).heap.size) := by omega))
  (try (have hm2_w3 : ¬ ((w3).heap.size = w.heap.size + 2) := by omega))
  (try (have hs3_w3 : w.heap.size + 3 < (w3).heap.size := by omega))
  (try (have hn3_w3 : ¬ (w.heap.size + 3 = (w3).heap.size) := by omega))
  (try (have hm3_w3 : ¬ ((w3).heap.size = w.heap.size + 3) := by omega))
  unfold Oper.wp
  go_simp
  refine hK _ _ (Below.setCell (Below.setCell (Below.refl _ _) (by simp; omega) _) (by simp; omega) _) ?_
  clear hK K
  refine Reg.make_nil (fun w4 hb4 => ?_)
  replace hb4 : Below _ _ w4 := hb4
  obtain ⟨hc_w4, hf_w4⟩ := bcell hb4
  (try simp only [World.heap_drewN, World.cell?_drewN, World.size_drew, World.size_alloc, World.size_setCell] at hc_w4)
  (try simp only [World.heap_drewN, World.frozen?_drewN, World.size_drew, World.size_alloc, World.size_setCell] at hf_w4)
  have hz_w4 := Below.size hb4
  (try simp only [World.size_alloc, World.size_setCell, World.size_drew, World.heap_drewN] at hz_w4)
  (try (have hs0_w4 : w.heap.size < (w4).heap.size := by omega))
  (try (have hs1_w4 : w.heap.size + 1 < (w4).heap.size := by omega))
  (try (have hs2_w4 : w.heap.size + 2 < (w4).heap.size := by omega))
  (try (have hs3_w4 : w.heap.size + 3 < (w4).heap.size := by omega))
  have hd3 : w2.heap.size < w3.heap.size := by omega
  have hd4 : w2.heap.size < w4.heap.size := by omega
  go_wp2_with fail
  refine Reg.qn ?_
  go_wp2_with fail
  refine Reg.wp_region_E 9 0 (by kernel_rfl) (by kernel_rfl) ?_
  simp only [List.take_succ_cons, List.take_zero, List.drop_succ_cons, List.drop_zero]
  iterate 9 (first | (refine Reg.head_pure rfl rfl (fun K hK => ?_); apply Exists.intro; refine ⟨fun w2 => ?_, ?_⟩; (go_simp; exact .mk); (go_simp; refine hK _ ?_; clear hK K)) | (refine Reg.head_cps rfl rfl (fun K hK => ?_); apply Exists.intro; refine ⟨fun w2 hE => ?_, ?_⟩; (obtain ⟨hcE, hfE⟩ := bcellB hE; (try simp only [World.size_drew, World.heap_drewN, World.cell?_drewN, World.size_alloc, World.size_setCell] at hcE); go_simp; first | (exact .value (Reg.E.refl _)) | (apply Reg.Comes1.enter (Reg.E.refl _); first | (exact wide_OfU _ _) | (exact Dh.out _))); (go_simp; refine hK _ ?_; clear hK K)))
  refine Reg.head_nil ?_
  refine Reg.make_nil (fun w5 hb5 => ?_)
  replace hb5 : Below _ _ w5 := hb5
  obtain ⟨hc_w5, hf_w5⟩ := bcell hb5
  (try simp only [World.heap_drewN, World.cell?_drewN, World.size_drew, World.size_alloc, World.size_setCell] at hc_w5)
  (try simp only [World.heap_drewN, World.frozen?_drewN, World.size_drew, World.size_alloc, World.size_setCell] at hf_w5)
  have hz_w5 := Below.size hb5
  (try simp only [World.size_alloc, World.size_setCell, World.size_drew, World.heap_drewN] at hz_w5)
  (try (have hs0_w5 : w.heap.size < (w5).heap.size := by omega))
  (try (have hs1_w5 : w.heap.size + 1 < (w5).heap.size := by omega))
  (try (have hs2_w5 : w.heap.size + 2 < (w5).heap.size := by omega))
  (try (have hs3_w5 : w.heap.size + 3 < (w5).heap.size := by omega))
  have hd5 : w2.heap.size < w5.heap.size := by omega
  have c0 : w5.cell? ⟨w2.heap.size, 0, none⟩ = some (.int .i64 (hiI (x * since t base))) := by go_simp
  have c1 : w5.cell? ⟨w2.heap.size, 1, none⟩ = some (.int .u64 (loI (x * since t base))) := by go_simp
  have f0 : w5.frozen? ⟨w2.heap.size, 0, none⟩ = false := by go_simp
  have f1 : w5.frozen? ⟨w2.heap.size, 1, none⟩ = false := by go_simp
  have k0 : w5.cell? ⟨w.heap.size + 1, 0, none⟩ = some (.int .i64 0) := by go_simp
  have k1 : w5.cell? ⟨w.heap.size + 1, 1, none⟩ = some (.int .u64 0) := by go_simp
  have g0 : w5.frozen? ⟨w.heap.size + 1, 0, none⟩ = false := by go_simp
  have g1 : w5.frozen? ⟨w.heap.size + 1, 1, none⟩ = false := by go_simp
  clear hc_w5 hf_w5 hc_w4 hf_w4 hc_w3 hf_w3 hc_w2 hf_w2
  go_wp2_with fail
  refine Reg.qn ?_
  go_wp2_with fail
  replace hE2 : Below _ _ _ := hE2
  replace hE3 : Below _ _ _ := hE3
  refine bodyPost_ret (by simp [*, results, Tryz.results76, go_sem]; try rfl) rfl ?_
  refine ⟨eqRet rfl, ?_⟩
  exact by (repeat' (first | (with_reducible exact Below.refl _ _) | (with_reducible refine Below.alloc ?_ ?_ _) | (with_reducible refine Below.setCell ?_ ?_ _) | (with_reducible refine Below.drew ?_) | (with_reducible refine belowN ?_ _) | (with_reducible refine bthen (by assumption) ?_ ?_) | omega | (simp only [World.size_alloc, World.size_setCell, World.size_drew, World.heap_drewN] at *; omega) | (simp; omega)))

/-- A position if the flag says so, else the empty one. -/
def onlyV (b : Bool) (x : Int) : Int := if b = true then x else 0
theorem onlyV_true (x : Int) : onlyV true x = x := rfl
theorem onlyV_false (x : Int) : onlyV false x = 0 := rfl
def atB (z x : Int) : Bool := wOK x && smallB (z / x)
theorem wOK_iff (x : Int) : wOK x = true ↔ 1 ≤ x ∧ x ≤ 1048576 := by simp [wOK]
theorem smallV_of {z : Int} (h : smallB z = true) : smallV z = z := by simp [smallV, h]
theorem InW_div {z c : Int} (h : InW z) (hc : 0 < c) : InW (z / c) := by
  unfold InW at *
  constructor
  · rw [Int.le_ediv_iff_mul_le hc]
    have : P127 * 1 ≤ P127 * c := Int.mul_le_mul_of_nonneg_left (by omega) (by unfold P127; omega)
    rw [Int.neg_mul]; omega
  · rw [Int.ediv_lt_iff_lt_mul hc]
    have : P127 * 1 ≤ P127 * c := Int.mul_le_mul_of_nonneg_left (by omega) (by unfold P127; omega)
    omega

set_option maxHeartbeats 1000000 in
set_option maxRecDepth 100000 in
theorem pos_At (base a b x : Int) (w : World) (ha : I64 a) (hb : U64 b) (hx : U32 x) :
    Calls Tryz.prog 97 #[.int .u64 base, .agg #[.int .i64 a, .int .u64 b], .int .u32 x] w
      (Ret w (.tuple #[(.agg #[.int .u64 (onlyV (atB (val a b) x) (addT base (val a b / x))), .int .u32 (onlyV (atB (val a b) x) (val a b % x)), .int .u32 (onlyV (atB (val a b) x) x)]), .bool (atB (val a b) x)])) := by
  have P := fun w => pos_weight x w
  cases h1 : wOK x
  · rw [h1] at P
    have e : atB (val a b) x = false := by simp [atB, h1]
    rw [e]
    simp only [onlyV_false]
    clear h1 e
    go_enter Tryz.func97, Tryz.ntmps97
    go_wp2_with (go_at_call 89; refine (P _).mono ?_; rintro e w1 ⟨rfl, hb1⟩; obtain ⟨hc1, hf1⟩ := bcell hb1; (try simp only [World.heap_drewN, World.cell?_drewN] at hc1); (try simp only [World.heap_drewN, World.frozen?_drewN] at hf1); have hz1 := bsize hb1; (try simp only [World.size_alloc, World.size_setCell, World.size_drew, World.heap_drewN] at hz1); (try (have hs0 : w.heap.size < w1.heap.size := by omega)); (try (have hs1 : w.heap.size + 1 < w1.heap.size := by omega)); (try (have hs2 : w.heap.size + 2 < w1.heap.size := by omega)); (try (have hs3 : w.heap.size + 3 < w1.heap.size := by omega)))
    refine bodyPost_ret (by simp [*, results, Tryz.results97, go_sem]; try rfl) rfl ?_
    exact ⟨eqRet rfl, by (repeat' (first | (with_reducible exact Below.refl _ _) | (with_reducible refine Below.alloc ?_ ?_ _) | (with_reducible refine Below.setCell ?_ ?_ _) | (with_reducible refine Below.drew ?_) | (with_reducible refine belowN ?_ _) | (with_reducible refine bthen (by assumption) ?_ ?_) | omega | (simp only [World.size_alloc, World.size_setCell, World.size_drew, World.heap_drewN] at *; omega) | (simp; omega)))⟩
  · rw [h1] at P
    have hr := (wOK_iff x).1 h1
    have D := fun w => wide_Div a b x w ha hb (by omega) (by omega)
    have S := fun w => wide_Small (hiI (val a b / x)) (loI (val a b / x)) w (I64_hi _) (U64_lo _)
    rw [val_hi_lo (InW_div (InW_val ha hb) (by omega))] at S
    have wx : IntKind.u64.wrap x = x := wrapU64_id (by unfold U64 P64; omega)
    have wm : IntKind.u32.wrap (val a b % x) = val a b % x := by
      have := Int.emod_nonneg (val a b) (show x ≠ 0 by omega)
      have := Int.emod_lt_of_pos (val a b) (show 0 < x by omega)
      exact wrapU32_id (by unfold U32; omega)
    cases h2 : smallB (val a b / x)
    · rw [h2] at S
      have e : atB (val a b) x = false := by simp [atB, h1, h2]
      rw [e]
      simp only [onlyV_false]
      go_enter Tryz.func97, Tryz.ntmps97
      go_wp2_with first | (go_at_call 89; refine (P _).mono ?_; rintro e w1 ⟨rfl, hb1⟩; obtain ⟨hc1, hf1⟩ := bcell hb1; (try simp only [World.heap_drewN, World.cell?_drewN] at hc1); (try simp only [World.heap_drewN, World.frozen?_drewN] at hf1); have hz1 := bsize hb1; (try simp only [World.size_alloc, World.size_setCell, World.size_drew, World.heap_drewN] at hz1); (try (have hs0 : w.heap.size < w1.heap.size := by omega)); (try (have hs1 : w.heap.size + 1 < w1.heap.size := by omega)); (try (have hs2 : w.heap.size + 2 < w1.heap.size := by omega)); (try (have hs3 : w.heap.size + 3 < w1.heap.size := by omega))) | (go_at_call 81; refine (D _).mono ?_; rintro e w1 ⟨rfl, hb1⟩; obtain ⟨hc1, hf1⟩ := bcell hb1; (try simp only [World.heap_drewN, World.cell?_drewN] at hc1); (try simp only [World.heap_drewN, World.frozen?_drewN] at hf1); have hz1 := bsize hb1; (try simp only [World.size_alloc, World.size_setCell, World.size_drew, World.heap_drewN] at hz1); (try (have hs0 : w.heap.size < w1.heap.size := by omega)); (try (have hs1 : w.heap.size + 1 < w1.heap.size := by omega)); (try (have hs2 : w.heap.size + 2 < w1.heap.size := by omega)); (try (have hs3 : w.heap.size + 3 < w1.heap.size := by omega))) | (go_at_call 47; refine (S _).mono ?_; rintro e w1 ⟨rfl, hb1⟩; obtain ⟨hc1, hf1⟩ := bcell hb1; (try simp only [World.heap_drewN, World.cell?_drewN] at hc1); (try simp only [World.heap_drewN, World.frozen?_drewN] at hf1); have hz1 := bsize hb1; (try simp only [World.size_alloc, World.size_setCell, World.size_drew, World.heap_drewN] at hz1); (try (have hs0 : w.heap.size < w1.heap.size := by omega)); (try (have hs1 : w.heap.size + 1 < w1.heap.size := by omega)); (try (have hs2 : w.heap.size + 2 < w1.heap.size := by omega)); (try (have hs3 : w.heap.size + 3 < w1.heap.size := by omega)))
      refine bodyPost_ret (by simp [*, results, Tryz.results97, go_sem]; try rfl) rfl ?_
      exact ⟨eqRet rfl, by (repeat' (first | (with_reducible exact Below.refl _ _) | (with_reducible refine Below.alloc ?_ ?_ _) | (with_reducible refine Below.setCell ?_ ?_ _) | (with_reducible refine Below.drew ?_) | (with_reducible refine belowN ?_ _) | (with_reducible refine bthen (by assumption) ?_ ?_) | omega | (simp only [World.size_alloc, World.size_setCell, World.size_drew, World.heap_drewN] at *; omega) | (simp; omega)))⟩
    · rw [h2, smallV_of h2] at S
      have e : atB (val a b) x = true := by simp [atB, h1, h2]
      rw [e]
      simp only [onlyV_true]
      go_enter Tryz.func97, Tryz.ntmps97
      go_wp2_with first | (go_at_call 89; refine (P _).mono ?_; rintro e w1 ⟨rfl, hb1⟩; obtain ⟨hc1, hf1⟩ := bcell hb1; (try simp only [World.heap_drewN, World.cell?_drewN] at hc1); (try simp only [World.heap_drewN, World.frozen?_drewN] at hf1); have hz1 := bsize hb1; (try simp only [World.size_alloc, World.size_setCell, World.size_drew, World.heap_drewN] at hz1); (try (have hs0 : w.heap.size < w1.heap.size := by omega)); (try (have hs1 : w.heap.size + 1 < w1.heap.size := by omega)); (try (have hs2 : w.heap.size + 2 < w1.heap.size := by omega)); (try (have hs3 : w.heap.size + 3 < w1.heap.size := by omega))) | (go_at_call 81; refine (D _).mono ?_; rintro e w1 ⟨rfl, hb1⟩; obtain ⟨hc1, hf1⟩ := bcell hb1; (try simp only [World.heap_drewN, World.cell?_drewN] at hc1); (try simp only [World.heap_drewN, World.frozen?_drewN] at hf1); have hz1 := bsize hb1; (try simp only [World.size_alloc, World.size_setCell, World.size_drew, World.heap_drewN] at hz1); (try (have hs0 : w.heap.size < w1.heap.size := by omega)); (try (have hs1 : w.heap.size + 1 < w1.heap.size := by omega)); (try (have hs2 : w.heap.size + 2 < w1.heap.size := by omega)); (try (have hs3 : w.heap.size + 3 < w1.heap.size := by omega))) | (go_at_call 47; refine (S _).mono ?_; rintro e w1 ⟨rfl, hb1⟩; obtain ⟨hc1, hf1⟩ := bcell hb1; (try simp only [World.heap_drewN, World.cell?_drewN] at hc1); (try simp only [World.heap_drewN, World.frozen?_drewN] at hf1); have hz1 := bsize hb1; (try simp only [World.size_alloc, World.size_setCell, World.size_drew, World.heap_drewN] at hz1); (try (have hs0 : w.heap.size < w1.heap.size := by omega)); (try (have hs1 : w.heap.size + 1 < w1.heap.size := by omega)); (try (have hs2 : w.heap.size + 2 < w1.heap.size := by omega)); (try (have hs3 : w.heap.size + 3 < w1.heap.size := by omega))) | (go_at_call 102; refine (vtime_Add _ _ _).mono ?_; rintro e w1 ⟨rfl, hb1⟩; obtain ⟨hc1, hf1⟩ := bcell hb1; (try simp only [World.heap_drewN, World.cell?_drewN] at hc1); (try simp only [World.heap_drewN, World.frozen?_drewN] at hf1); have hz1 := bsize hb1; (try simp only [World.size_alloc, World.size_setCell, World.size_drew, World.heap_drewN] at hz1); (try (have hs0 : w.heap.size < w1.heap.size := by omega)); (try (have hs1 : w.heap.size + 1 < w1.heap.size := by omega)); (try (have hs2 : w.heap.size + 2 < w1.heap.size := by omega)); (try (have hs3 : w.heap.size + 3 < w1.heap.size := by omega)))
      refine bodyPost_ret (by simp [*, results, Tryz.results97, go_sem]; try rfl) rfl ?_
      exact ⟨eqRet rfl, by (repeat' (first | (with_reducible exact Below.refl _ _) | (with_reducible refine Below.alloc ?_ ?_ _) | (with_reducible refine Below.setCell ?_ ?_ _) | (with_reducible refine Below.drew ?_) | (with_reducible refine belowN ?_ _) | (with_reducible refine bthen (by assumption) ?_ ?_) | omega | (simp only [World.size_alloc, World.size_setCell, World.size_drew, World.heap_drewN] at *; omega) | (simp; omega)))⟩

set_option maxHeartbeats 1000000 in
set_option maxRecDepth 100000 in
theorem pos_Shift (t r x by_ : Int) (w : World) :
    Calls Tryz.prog 110 #[(.agg #[.int .u64 (t), .int .u32 (r), .int .u32 (x)]), .int .u64 by_] w (Ret w (.agg #[.int .u64 ((t + by_) % P64), .int .u32 (r), .int .u32 (x)])) := by
  have e : IntKind.u64.wrap (t + by_) = (t + by_) % P64 := by rw [wrapU64]
  go_enter Tryz.func110, Tryz.ntmps110
  go_wp2_with fail
  all_goals go_outline
  refine bodyPost_ret (by simp [*, results, Tryz.results110, go_sem]; try rfl) rfl ?_
  exact ⟨eqRet rfl, by (repeat' (first | (with_reducible exact Below.refl _ _) | (with_reducible refine Below.alloc ?_ ?_ _) | (with_reducible refine Below.setCell ?_ ?_ _) | (with_reducible refine Below.drew ?_) | (with_reducible refine belowN ?_ _) | (with_reducible refine bthen (by assumption) ?_ ?_) | omega | (simp only [World.size_alloc, World.size_setCell, World.size_drew, World.heap_drewN] at *; omega) | (simp; omega)))⟩

set_option maxHeartbeats 1000000 in
set_option maxRecDepth 100000 in
theorem pos_Move (t r x g : Int) (w : World) (hr : U32 r) (hx : U32 x) (hg : U64 g) :
    Calls Tryz.prog 192 #[(.agg #[.int .u64 (t), .int .u32 (r), .int .u32 (x)]), .int .u64 g] w
      (Ret w (.tuple #[(.agg #[.int .u64 (onlyV (atB (g + r) x) (addT t ((g + r) / x))), .int .u32 (onlyV (atB (g + r) x) ((g + r) % x)), .int .u32 (onlyV (atB (g + r) x) x)]), .bool (atB (g + r) x)])) := by
  have e1 : val 0 g = g := by unfold val; omega
  have e2 : val 0 r = r := by unfold val; omega
  have ur : U64 r := by unfold U32 at hr; unfold U64 P64; omega
  have i0 : I64 0 := by unfold I64 P63; omega
  have fit : InW (g + r) := by unfold U64 P64 at hg; unfold U32 at hr; unfold InW P127; omega
  have D : ∀ w, Calls Tryz.prog 100 #[.agg #[.int .i64 0, .int .u64 g], .agg #[.int .i64 0, .int .u64 r]] w
      (Ret w (.tuple #[.agg #[.int .i64 (hiI (g + r)), .int .u64 (loI (g + r))], .bool true])) := fun w => by
    have h := wide_Add 0 g 0 r w i0 hg i0 ur
    rw [e1, e2, sel_of fit, inWB_true fit] at h
    exact h
  have T := fun w => pos_At t (hiI (g + r)) (loI (g + r)) x w (I64_hi _) (U64_lo _) hx
  rw [val_hi_lo fit] at T
  have wr : IntKind.u64.wrap r = r := wrapU64_id ur
  have Dh := Lib.hid D
  have Th := Lib.hid T
  clear D T e1 e2 i0
  go_enter Tryz.func192, Tryz.ntmps192
  go_wp2_with fail
  refine Reg.wp_region_E 10 1 (by kernel_rfl) (by kernel_rfl) ?_
  simp only [List.take_succ_cons, List.take_zero, List.drop_succ_cons, List.drop_zero]
  iterate 10 (first | (refine Reg.head_pure rfl rfl (fun K hK => ?_); apply Exists.intro; refine ⟨fun w2 => ?_, ?_⟩; (go_simp; exact .mk); (go_simp; refine hK _ ?_; clear hK K)) | (refine Reg.head_cps rfl rfl (fun K hK => ?_); apply Exists.intro; refine ⟨fun w2 hE => ?_, ?_⟩; (obtain ⟨hcE, hfE⟩ := bcellB hE; (try simp only [World.size_drew, World.heap_drewN, World.cell?_drewN, World.size_alloc, World.size_setCell] at hcE); go_simp; first | (exact .value (Reg.E.refl _)) | (apply Reg.Comes1.enter (Reg.E.refl _); first | (exact wide_OfU _ _) | (exact Dh.out _))); (go_simp; refine hK _ ?_; clear hK K)))
  refine Reg.head_nil ?_
  refine Reg.make_cps rfl (fun w2 hE2 K hK => ?_)
  have hz_w2 := Below.size hE2
  (try simp only [World.size_drew, World.heap_drewN, World.size_alloc, World.size_setCell] at hz_w2)
  obtain ⟨hc_w2, hf_w2⟩ := bcell hE2
  (try simp only [World.size_drew, World.heap_drewN, World.cell?_drewN, World.size_alloc, World.size_setCell] at hc_w2)
  (try simp only [World.size_drew, World.heap_drewN, World.frozen?_drewN, World.size_alloc, World.size_setCell] at hf_w2)
  (try (have hs0_w2 : w.heap.size < (w2).heap.size := by omega))
  (try (have hn0_w2 : ¬ (w.heap.size = (w2).heap.size) := by omega))
  (try (have hm0_w2 : ¬ ((w2).heap.size = w.heap.size) := by omega))
  (try (have hs1_w2 : w.heap.size + 1 < (w2).heap.size := by omega))
  (try (have hn1_w2 : ¬ (w.heap.size + 1 = (w2).heap.size) := by omega))
  (try (have hm1_w2 : ¬ ((w2).heap.size = w.heap.size + 1) := by omega))
  (try (have hs2_w2 : w.heap.size + 2 < (w2).heap.size := by omega))
  (try (have hn2_w2 : ¬ (w.heap.size + 2 = (w2).heap.size) := by omega))
  (try (have hm2_w2 : ¬ ((w2).heap.size = w.heap.size + 2) := by omega))
  (try (have hs3_w2 : w.heap.size + 3 < (w2).heap.size := by omega))
  (try (have hn3_w2 : ¬ (w.heap.size + 3 = (w2).heap.size) := by omega))
  (try (have hm3_w2 : ¬ ((w2).heap.size = w.heap.size + 3) := by omega))
  unfold Oper.wp
  go_simp
  refine hK _ _ (Below.alloc (Below.refl _ _) (by simp; omega) _) ?_
  clear hK K
  refine Reg.make_nil (fun w4 hb4 => ?_)
  replace hb4 : Below _ _ w4 := hb4
  obtain ⟨hc_w4, hf_w4⟩ := bcell hb4
  (try simp only [World.heap_drewN, World.cell?_drewN, World.size_drew, World.size_alloc, World.size_setCell] at hc_w4)
  (try simp only [World.heap_drewN, World.frozen?_drewN, World.size_drew, World.size_alloc, World.size_setCell] at hf_w4)
  have hz_w4 := Below.size hb4
  (try simp only [World.size_alloc, World.size_setCell, World.size_drew, World.heap_drewN] at hz_w4)
  (try (have hs0_w4 : w.heap.size < (w4).heap.size := by omega))
  (try (have hs1_w4 : w.heap.size + 1 < (w4).heap.size := by omega))
  (try (have hs2_w4 : w.heap.size + 2 < (w4).heap.size := by omega))
  (try (have hs3_w4 : w.heap.size + 3 < (w4).heap.size := by omega))
  have hd4 : w2.heap.size < w4.heap.size := by omega
  go_wp2_with fail
  refine Reg.qn ?_
  clear ur fit
  go_wp2_with (go_at_call 97; refine (Th.out _).mono ?_; rintro e w1 ⟨rfl, hb1⟩; obtain ⟨hc1, hf1⟩ := bcell hb1; (try simp only [World.heap_drewN, World.cell?_drewN] at hc1); (try simp only [World.heap_drewN, World.frozen?_drewN] at hf1); have hz1 := bsize hb1; (try simp only [World.size_alloc, World.size_setCell, World.size_drew, World.heap_drewN] at hz1); (try (have hs0 : w.heap.size < w1.heap.size := by omega)); (try (have hs1 : w.heap.size + 1 < w1.heap.size := by omega)); (try (have hs2 : w.heap.size + 2 < w1.heap.size := by omega)); (try (have hs3 : w.heap.size + 3 < w1.heap.size := by omega)))
  replace hE2 : Below _ _ _ := hE2
  refine bodyPost_ret (by simp [*, results, Tryz.results192, go_sem]; try rfl) rfl ?_
  exact ⟨eqRet rfl, by (repeat' (first | (with_reducible exact Below.refl _ _) | (with_reducible refine Below.alloc ?_ ?_ _) | (with_reducible refine Below.setCell ?_ ?_ _) | (with_reducible refine Below.drew ?_) | (with_reducible refine belowN ?_ _) | (with_reducible refine bthen (by assumption) ?_ ?_) | omega | (simp only [World.size_alloc, World.size_setCell, World.size_drew, World.heap_drewN] at *; omega) | (simp; omega)))⟩

def posCmp (t r x t2 r2 x2 : Int) : Int := orI (cmpI 0 (since t2 t)) (cmpI (r * x2) (r2 * x))
set_option maxHeartbeats 1000000 in
set_option maxRecDepth 100000 in
theorem pos_Cmp (t r x t2 r2 x2 : Int) (w : World) (hr : U32 r) (hx : U32 x) (hr2 : U32 r2) (hx2 : U32 x2) :
    Calls Tryz.prog 160 #[(.agg #[.int .u64 (t), .int .u32 (r), .int .u32 (x)]), (.agg #[.int .u64 (t2), .int .u32 (r2), .int .u32 (x2)])] w (Ret w (.int .i64 (posCmp t r x t2 r2 x2))) := by
  have u : ∀ {z : Int}, U32 z → IntKind.u64.wrap z = z := fun {z} h => wrapU64_id (by unfold U32 at h; unfold U64 P64; omega)
  have m : ∀ {y z : Int}, U32 y → U32 z → IntKind.u64.wrap (y * z) = y * z := fun {y z} h k => wrapU64_id (by
    unfold U32 at h k; unfold U64 P64
    have a : 0 ≤ y * z := Int.mul_nonneg h.1 k.1
    have b : y * z ≤ 4294967296 * z := Int.mul_le_mul_of_nonneg_right (by omega) k.1
    omega)
  have u1 := u hr
  have u2 := u hx
  have u3 := u hr2
  have u4 := u hx2
  have m1 := m hr hx2
  have m2 := m hr2 hx
  clear u m hr hx hr2 hx2
  go_enter Tryz.func160, Tryz.ntmps160
  go_wp2_with fail
  refine Reg.wp_region_E 21 1 (by kernel_rfl) (by kernel_rfl) ?_
  simp only [List.take_succ_cons, List.take_zero, List.drop_succ_cons, List.drop_zero]
  iterate 21 (first | (refine Reg.head_pure rfl rfl (fun K hK => ?_); apply Exists.intro; refine ⟨fun w2 => ?_, ?_⟩; (go_simp; exact .mk); (go_simp; refine hK _ ?_; clear hK K)) | (refine Reg.head_cps rfl rfl (fun K hK => ?_); apply Exists.intro; refine ⟨fun w2 hE => ?_, ?_⟩; (obtain ⟨hcE, hfE⟩ := bcellB hE; (try simp only [World.size_drew, World.heap_drewN, World.cell?_drewN, World.size_alloc, World.size_setCell] at hcE); go_simp; first | (exact .value (Reg.E.refl _)) | (apply Reg.Comes1.enter (Reg.E.refl _); first | (exact vtime_Since _ _ _) | (exact cmp_Compare_i _ _ _) | (exact cmp_Compare_u _ _ _))); (go_simp; refine hK _ ?_; clear hK K)))
  refine Reg.head_nil ?_
  refine Reg.make_cps rfl (fun w2 hE2 K hK => ?_)
  have hz_w2 := Below.size hE2
  (try simp only [World.size_drew, World.heap_drewN, World.size_alloc, World.size_setCell] at hz_w2)
  obtain ⟨hc_w2, hf_w2⟩ := bcell hE2
  (try simp only [World.size_drew, World.heap_drewN, World.cell?_drewN, World.size_alloc, World.size_setCell] at hc_w2)
  (try simp only [World.size_drew, World.heap_drewN, World.frozen?_drewN, World.size_alloc, World.size_setCell] at hf_w2)
  (try (have hs0_w2 : w.heap.size < (w2).heap.size := by omega))
  (try (have hn0_w2 : ¬ (w.heap.size = (w2).heap.size) := by omega))
  (try (have hm0_w2 : ¬ ((w2).heap.size = w.heap.size) := by omega))
  (try (have hs1_w2 : w.heap.size + 1 < (w2).heap.size := by omega))
  (try (have hn1_w2 : ¬ (w.heap.size + 1 = (w2).heap.size) := by omega))
  (try (have hm1_w2 : ¬ ((w2).heap.size = w.heap.size + 1) := by omega))
  (try (have hs2_w2 : w.heap.size + 2 < (w2).heap.size := by omega))
  (try (have hn2_w2 : ¬ (w.heap.size + 2 = (w2).heap.size) := by omega))
  (try (have hm2_w2 : ¬ ((w2).heap.size = w.heap.size + 2) := by omega))
  (try (have hs3_w2 : w.heap.size + 3 < (w2).heap.size := by omega))
  (try (have hn3_w2 : ¬ (w.heap.size + 3 = (w2).heap.size) := by omega))
  (try (have hm3_w2 : ¬ ((w2).heap.size = w.heap.size + 3) := by omega))
  unfold Oper.wp
  go_simp
  refine hK _ _ (Below.alloc (Below.refl _ _) (by simp; omega) _) ?_
  clear hK K
  refine Reg.make_nil (fun w4 hb4 => ?_)
  replace hb4 : Below _ _ w4 := hb4
  obtain ⟨hc_w4, hf_w4⟩ := bcell hb4
  (try simp only [World.heap_drewN, World.cell?_drewN, World.size_drew, World.size_alloc, World.size_setCell] at hc_w4)
  (try simp only [World.heap_drewN, World.frozen?_drewN, World.size_drew, World.size_alloc, World.size_setCell] at hf_w4)
  have hz_w4 := Below.size hb4
  (try simp only [World.size_alloc, World.size_setCell, World.size_drew, World.heap_drewN] at hz_w4)
  (try (have hs0_w4 : w.heap.size < (w4).heap.size := by omega))
  (try (have hs1_w4 : w.heap.size + 1 < (w4).heap.size := by omega))
  (try (have hs2_w4 : w.heap.size + 2 < (w4).heap.size := by omega))
  (try (have hs3_w4 : w.heap.size + 3 < (w4).heap.size := by omega))
  have hd4 : w2.heap.size < w4.heap.size := by omega
  have c0 : w4.cell? ⟨w2.heap.size, 0, none⟩ = some (.int .i64 (cmpI 0 (since t2 t))) := by go_simp
  have c1 : w4.cell? ⟨w2.heap.size, 1, none⟩ = some (.int .i64 (cmpI (r * x2) (r2 * x))) := by go_simp
  clear hc_w4 hf_w4 hc_w2 hf_w2
  go_wp2_with (go_at_call 134; refine ((cmp_Or _ _ _ _ c0 c1)).mono ?_; rintro e w1 ⟨rfl, hb1⟩; obtain ⟨hc1, hf1⟩ := bcell hb1; (try simp only [World.heap_drewN, World.cell?_drewN] at hc1); (try simp only [World.heap_drewN, World.frozen?_drewN] at hf1); have hz1 := bsize hb1; (try simp only [World.size_alloc, World.size_setCell, World.size_drew, World.heap_drewN] at hz1); (try (have hs0 : w.heap.size < w1.heap.size := by omega)); (try (have hs1 : w.heap.size + 1 < w1.heap.size := by omega)); (try (have hs2 : w.heap.size + 2 < w1.heap.size := by omega)); (try (have hs3 : w.heap.size + 3 < w1.heap.size := by omega)))
  refine Reg.qn ?_
  go_wp2_with fail
  replace hE2 : Below _ _ _ := hE2
  refine bodyPost_ret (by simp [*, results, Tryz.results160, go_sem]; try rfl) rfl ?_
  exact ⟨eqRet rfl, by (repeat' (first | (with_reducible exact Below.refl _ _) | (with_reducible refine Below.alloc ?_ ?_ _) | (with_reducible refine Below.setCell ?_ ?_ _) | (with_reducible refine Below.drew ?_) | (with_reducible refine belowN ?_ _) | (with_reducible refine bthen (by assumption) ?_ ?_) | omega | (simp only [World.size_alloc, World.size_setCell, World.size_drew, World.heap_drewN] at *; omega) | (simp; omega)))⟩
end Go.Proofs.YtemfhipofgafiaaGreatDoor
