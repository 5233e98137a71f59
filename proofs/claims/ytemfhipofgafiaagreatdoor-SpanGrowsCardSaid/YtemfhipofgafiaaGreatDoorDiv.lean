/- THE WALK of math/bits.Div64, by a number below 2^32. -/
import Derived.Test.YtemfhipofgafiaaGreatDoorBits
import Derived.Test.YtemfhipofgafiaaGreatDoorPlainDiv
set_option linter.unusedVariables false
set_option linter.unusedSimpArgs false
namespace Go.Proofs.YtemfhipofgafiaaGreatDoor
open Go.RowKit


set_option maxHeartbeats 1000000 in
set_option maxRecDepth 100000 in
theorem div64_walk (hi lo y : Int) (n k : Nat) (Yv Y U L L1 L0 Q T V Q0 T0 Z : Int) (w : World) (hz : Calls Tryz.prog 143 #[.int .u64 y] w (Ret w (.int .i64 n)))
    (h1 : 0 < hi) (h2 : hi < y) (n1 : 32 ≤ n) (n2 : n ≤ 63) (r2 : min n 64 = n) (r3 : (64 : Int) - n = k) (r3' : min k 64 = k)
    (rY : IntKind.u64.wrap (y * 2 ^ n) = Yv) (rY1 : Yv / 4294967296 = Y) (rY0 : bits .and .u64 Yv 4294967295 = 0)
    (rU : bits .or .u64 (IntKind.u64.wrap (hi * 2 ^ n)) (lo / 2 ^ k) = U) (rL : IntKind.u64.wrap (lo * 2 ^ n) = L) (rL1 : L / 4294967296 = L1) (rL0 : bits .and .u64 L 4294967295 = L0)
    (bY : 1 ≤ Y) (bU : 0 ≤ U) (rQ : IntKind.u64.wrap (U.tdiv Y) = Q) (bQ0 : 0 ≤ Q) (bQ : Q < 4294967296) (rT : IntKind.u64.wrap (Q * Y) = T) (bT0 : T ≤ U) (bT : U - T < 4294967296) (bL0 : 0 ≤ L1) (bL : L1 < 4294967296)
    (rV : IntKind.u64.wrap (IntKind.u64.wrap (IntKind.u64.wrap (U * 4294967296) + L1) - IntKind.u64.wrap (Q * Yv)) = V) (bV : 0 ≤ V)
    (rQ0 : IntKind.u64.wrap (V.tdiv Y) = Q0) (bQ00 : 0 ≤ Q0) (bQ0' : Q0 < 4294967296) (rT0 : IntKind.u64.wrap (Q0 * Y) = T0) (bT00 : T0 ≤ V) (bT0' : V - T0 < 4294967296) (bL00 : 0 ≤ L0) (bL0' : L0 < 4294967296)
    (rZ : IntKind.u64.wrap (IntKind.u64.wrap (IntKind.u64.wrap (V * 4294967296) + L0) - IntKind.u64.wrap (Q0 * Yv)) = Z) :
    Calls Tryz.prog 121 #[.int .u64 hi, .int .u64 lo, .int .u64 y] w (Ret w (.tuple #[.int .u64 (Q * 4294967296 + Q0), .int .u64 (Z / 2 ^ n)])) := by
  have y0 : (y == 0) = false := by simp; omega
  have y1 : decide (y ≤ hi) = false := by simp; omega
  have y2 : (hi == 0) = false := by simp; omega
  go_enter Tryz.func121, Tryz.ntmps121
  go_wp2_with ((go_at_call 143; refine (hz).mono ?_; rintro e w1 ⟨rfl, hb1⟩; obtain ⟨hc1, hf1⟩ := bcell hb1; (try simp only [World.heap_drewN, World.cell?_drewN] at hc1); (try simp only [World.heap_drewN, World.frozen?_drewN] at hf1); have hz1 := bsize hb1; (try simp only [World.size_alloc, World.size_setCell, World.size_drew, World.heap_drewN] at hz1); (try (have hs0 : w.heap.size < w1.heap.size := by omega)); (try (have hs1 : w.heap.size + 1 < w1.heap.size := by omega)); (try (have hs2 : w.heap.size + 2 < w1.heap.size := by omega)); (try (have hs3 : w.heap.size + 3 < w1.heap.size := by omega))))
  refine wp_loop_rounds 1 ?_
  rw [rounds_succ]
  go_wp2
  refine wp_loop_rounds 1 ?_
  rw [rounds_succ]
  go_wp2
  go_ret2
  exact ⟨rfl, by (repeat' (first | (with_reducible exact Below.refl _ _) | (with_reducible refine Below.alloc ?_ ?_ _) | (with_reducible refine Below.setCell ?_ ?_ _) | (with_reducible refine Below.drew ?_) | (with_reducible refine belowN ?_ _) | (with_reducible refine bthen (by assumption) ?_ ?_) | omega | (simp only [World.size_alloc, World.size_setCell, World.size_drew, World.heap_drewN] at *; omega) | (simp; omega)))⟩

set_option maxHeartbeats 1000000 in
set_option maxRecDepth 100000 in
theorem div64_low (lo y : Int) (w : World) (hlo : U64 lo) (h0 : 0 < y) :
    Calls Tryz.prog 121 #[.int .u64 0, .int .u64 lo, .int .u64 y] w (Ret w (.tuple #[.int .u64 (lo / y), .int .u64 (lo % y)])) := by
  have y0 : (y == 0) = false := by simp; omega
  have y1 : decide (y ≤ 0) = false := by simp; omega
  have l0 := hlo.1
  have b0 : 0 ≤ lo / y := Int.ediv_nonneg l0 (by omega)
  have e1 : IntKind.u64.wrap (lo.tdiv y) = lo / y := by
    rw [Int.tdiv_eq_ediv_of_nonneg l0, wrapU64_id]
    exact ⟨b0, Int.lt_of_le_of_lt (Int.ediv_le_self y l0) hlo.2⟩
  have e2 : lo.tmod y = lo % y := Int.tmod_eq_emod_of_nonneg l0
  clear b0
  go_enter Tryz.func121, Tryz.ntmps121
  go_wp2_with fail
  go_quiet (fail)
  go_wp2
  go_ret2
  refine ⟨eqRet ?_, by (repeat' (first | (with_reducible exact Below.refl _ _) | (with_reducible refine Below.alloc ?_ ?_ _) | (with_reducible refine Below.setCell ?_ ?_ _) | (with_reducible refine Below.drew ?_) | (with_reducible refine belowN ?_ _) | (with_reducible refine bthen (by assumption) ?_ ?_) | omega | (simp only [World.size_alloc, World.size_setCell, World.size_drew, World.heap_drewN] at *; omega) | (simp; omega)))⟩
  show Value.tuple #[.int .u64 _, .int .u64 _] = _
  first | rfl | (rw [e1]; first | rfl | (rw [e2]; rfl)) | (rw [e2]; rfl) | (rw [Int.tdiv_eq_ediv_of_nonneg l0] at e1; rw [e1]; rfl)

theorem bits_Div64 (hi lo y : Int) (w : World) (hlo : U64 lo) (h0 : 0 ≤ hi) (h1 : hi < y) (h2 : y < 4294967296) :
    Calls Tryz.prog 121 #[.int .u64 hi, .int .u64 lo, .int .u64 y] w (Ret w (.tuple #[.int .u64 ((hi * P64 + lo) / y), .int .u64 ((hi * P64 + lo) % y)])) := by
  have hl2 := hlo.2
  have hl1 := hlo.1
  unfold P64 at hl2
  by_cases h : hi = 0
  · subst h
    have := div64_low lo y w hlo h1
    rwa [show (0 : Int) * P64 + lo = lo by omega]
  · obtain ⟨hi', rfl⟩ := Int.eq_ofNat_of_zero_le h0
    obtain ⟨lo', rfl⟩ := Int.eq_ofNat_of_zero_le hl1
    obtain ⟨y', rfl⟩ := Int.eq_ofNat_of_zero_le (show 0 ≤ y by omega)
    obtain ⟨n, k, Yv, Y, U, L, L1, L0, Q, T, V, Q0, T0, Z, e, n1, n2, r2, r3, r3', rY, rY1, rY0, rU, rL, rL1, rL0, bY, bU, rQ, bQ0, bQ, rT, bT0, bT, bL0, bL, rV, bV, rQ0, bQ00, bQ0', rT0, bT00, bT0', bL00, bL0', rZ, f1, f2⟩ :=
      PlainDiv.all hi' lo' y' (by omega) (by omega) (by omega) (by omega)
    have hz := bits_LeadingZeros64 (y' : Int) w (by unfold U64 P64; omega)
    rw [Int.toNat_natCast, e] at hz
    have := div64_walk hi' lo' y' n k Yv Y U L L1 L0 Q T V Q0 T0 Z w hz (by omega) h1 n1 n2 r2 r3 r3' rY rY1 rY0 rU rL rL1 rL0 bY bU rQ bQ0 bQ rT bT0 bT bL0 bL rV bV rQ0 bQ00 bQ0' rT0 bT00 bT0' bL00 bL0' rZ
    rw [f1, f2] at this
    exact this
end Go.Proofs.YtemfhipofgafiaaGreatDoor
