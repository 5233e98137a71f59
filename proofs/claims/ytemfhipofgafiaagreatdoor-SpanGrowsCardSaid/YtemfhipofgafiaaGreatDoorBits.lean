/- THE WALKS of math/bits: Mul64, Len64, LeadingZeros64; cmp.Or, cmp.Compare. -/
import Derived.Test.YtemfhipofgafiaaGreatDoorBase
import Derived.Shelf.Small.Bits
import Derived.Laws.MathBits
set_option linter.unusedVariables false
set_option linter.unusedSimpArgs false
namespace Go.Proofs.YtemfhipofgafiaaGreatDoor
open Go.RowKit
open Go.Shelf


def cmpI (x y : Int) : Int := if x < y then -1 else if x > y then 1 else 0
def orI (x y : Int) : Int := if x = 0 then y else x

set_option maxHeartbeats 1000000 in
set_option maxRecDepth 100000 in
theorem cmp_isNaN_i (x : Int) (w : World) : Calls Tryz.prog 145 #[.int .i64 x] w (Ret w (.bool false)) := by
  go_enter Tryz.func145, Tryz.ntmps145
  go_wp2_with fail
  go_ret
  exact ⟨by simp, by (repeat' (first | (with_reducible exact Below.refl _ _) | (with_reducible refine Below.alloc ?_ ?_ _) | (with_reducible refine Below.setCell ?_ ?_ _) | (with_reducible refine Below.drew ?_) | (with_reducible refine belowN ?_ _) | (with_reducible refine bthen (by assumption) ?_ ?_) | omega | (simp only [World.size_alloc, World.size_setCell, World.size_drew, World.heap_drewN] at *; omega) | (simp; omega)))⟩

set_option maxHeartbeats 1000000 in
set_option maxRecDepth 100000 in
theorem cmp_isNaN_u (x : Int) (w : World) : Calls Tryz.prog 146 #[.int .u64 x] w (Ret w (.bool false)) := by
  go_enter Tryz.func146, Tryz.ntmps146
  go_wp2_with fail
  go_ret
  exact ⟨by simp, by (repeat' (first | (with_reducible exact Below.refl _ _) | (with_reducible refine Below.alloc ?_ ?_ _) | (with_reducible refine Below.setCell ?_ ?_ _) | (with_reducible refine Below.drew ?_) | (with_reducible refine belowN ?_ _) | (with_reducible refine bthen (by assumption) ?_ ?_) | omega | (simp only [World.size_alloc, World.size_setCell, World.size_drew, World.heap_drewN] at *; omega) | (simp; omega)))⟩

set_option maxHeartbeats 1000000 in
set_option maxRecDepth 100000 in
theorem cmp_Compare_i (x y : Int) (w : World) : Calls Tryz.prog 135 #[.int .i64 x, .int .i64 y] w (Ret w (.int .i64 (cmpI x y))) := by
  go_enter Tryz.func135, Tryz.ntmps135
  go_wp2_with (go_at_call 145; refine (cmp_isNaN_i _ _).mono ?_; rintro e w1 ⟨rfl, hb1⟩; obtain ⟨hc1, hf1⟩ := bcell hb1; (try simp only [World.heap_drewN, World.cell?_drewN] at hc1); (try simp only [World.heap_drewN, World.frozen?_drewN] at hf1); have hz1 := bsize hb1; (try simp only [World.size_alloc, World.size_setCell, World.size_drew, World.heap_drewN] at hz1); (try (have hs0 : w.heap.size < w1.heap.size := by omega)); (try (have hs1 : w.heap.size + 1 < w1.heap.size := by omega)); (try (have hs2 : w.heap.size + 2 < w1.heap.size := by omega)); (try (have hs3 : w.heap.size + 3 < w1.heap.size := by omega)))
  all_goals go_ret
  all_goals refine ⟨eqRet ?_, by (repeat' (first | (with_reducible exact Below.refl _ _) | (with_reducible refine Below.alloc ?_ ?_ _) | (with_reducible refine Below.setCell ?_ ?_ _) | (with_reducible refine Below.drew ?_) | (with_reducible refine belowN ?_ _) | (with_reducible refine bthen (by assumption) ?_ ?_) | omega | (simp only [World.size_alloc, World.size_setCell, World.size_drew, World.heap_drewN] at *; omega) | (simp; omega)))⟩
  all_goals unfold cmpI
  · rename_i h; rw [if_pos h]; rfl
  · rename_i h1 _ h2; rw [if_neg (by omega), if_pos h2]; rfl
  · rename_i h1 h2; rw [if_neg (by omega), if_neg (by omega)]; rfl

set_option maxHeartbeats 1000000 in
set_option maxRecDepth 100000 in
theorem cmp_Compare_u (x y : Int) (w : World) : Calls Tryz.prog 136 #[.int .u64 x, .int .u64 y] w (Ret w (.int .i64 (cmpI x y))) := by
  go_enter Tryz.func136, Tryz.ntmps136
  go_wp2_with (go_at_call 146; refine (cmp_isNaN_u _ _).mono ?_; rintro e w1 ⟨rfl, hb1⟩; obtain ⟨hc1, hf1⟩ := bcell hb1; (try simp only [World.heap_drewN, World.cell?_drewN] at hc1); (try simp only [World.heap_drewN, World.frozen?_drewN] at hf1); have hz1 := bsize hb1; (try simp only [World.size_alloc, World.size_setCell, World.size_drew, World.heap_drewN] at hz1); (try (have hs0 : w.heap.size < w1.heap.size := by omega)); (try (have hs1 : w.heap.size + 1 < w1.heap.size := by omega)); (try (have hs2 : w.heap.size + 2 < w1.heap.size := by omega)); (try (have hs3 : w.heap.size + 3 < w1.heap.size := by omega)))
  all_goals go_ret
  all_goals refine ⟨eqRet ?_, by (repeat' (first | (with_reducible exact Below.refl _ _) | (with_reducible refine Below.alloc ?_ ?_ _) | (with_reducible refine Below.setCell ?_ ?_ _) | (with_reducible refine Below.drew ?_) | (with_reducible refine belowN ?_ _) | (with_reducible refine bthen (by assumption) ?_ ?_) | omega | (simp only [World.size_alloc, World.size_setCell, World.size_drew, World.heap_drewN] at *; omega) | (simp; omega)))⟩
  all_goals unfold cmpI
  · rename_i h; rw [if_pos h]; rfl
  · rename_i h1 _ h2; rw [if_neg (by omega), if_pos h2]; rfl
  · rename_i h1 h2; rw [if_neg (by omega), if_neg (by omega)]; rfl

set_option maxHeartbeats 1000000 in
set_option maxRecDepth 100000 in
theorem cmp_Or (x y : Int) (b : Nat) (w : World) (h0 : w.cell? ⟨b, 0, none⟩ = some (.int .i64 x)) (h1 : w.cell? ⟨b, 1, none⟩ = some (.int .i64 y)) :
    Calls Tryz.prog 134 #[.slice (some ⟨b, 0, none⟩) 2 2] w (Ret w (.int .i64 (orI x y))) := by
  go_enter Tryz.func134, Tryz.ntmps134
  go_wp2_with fail
  go_rounds 3
  all_goals go_ret
  all_goals refine ⟨eqRet ?_, by (repeat' (first | (with_reducible exact Below.refl _ _) | (with_reducible refine Below.alloc ?_ ?_ _) | (with_reducible refine Below.setCell ?_ ?_ _) | (with_reducible refine Below.drew ?_) | (with_reducible refine belowN ?_ _) | (with_reducible refine bthen (by assumption) ?_ ?_) | omega | (simp only [World.size_alloc, World.size_setCell, World.size_drew, World.heap_drewN] at *; omega) | (simp; omega)))⟩
  all_goals unfold orI
  · have h : (x != 0) = true := by assumption
    rw [if_neg (by simpa using h)]; rfl
  · have h : (x != 0) = false := by assumption
    rw [if_pos (by simpa using h)]; rfl
  · have h : (x != 0) = false := by assumption
    have g : (y != 0) = false := by assumption
    rw [if_pos (by simpa using h), show y = 0 from by simpa using g]; rfl

set_option maxHeartbeats 1000000 in
set_option maxRecDepth 100000 in
theorem bits_Mul64 (x y : Int) (w : World) (hx : U64 x) (hy : U64 y) : Calls Tryz.prog 129 #[.int .u64 x, .int .u64 y] w (Ret w (.tuple #[.int .u64 (x * y / P64), .int .u64 (x * y % P64)])) := by
  go_enter Tryz.func129, Tryz.ntmps129
  go_wp2_with fail
  go_ret2
  refine ⟨eqRet ?_, by (repeat' (first | (with_reducible exact Below.refl _ _) | (with_reducible refine Below.alloc ?_ ?_ _) | (with_reducible refine Below.setCell ?_ ?_ _) | (with_reducible refine Below.drew ?_) | (with_reducible refine belowN ?_ _) | (with_reducible refine bthen (by assumption) ?_ ?_) | omega | (simp only [World.size_alloc, World.size_setCell, World.size_drew, World.heap_drewN] at *; omega) | (simp; omega)))⟩
  have hx2 := hx.2
  have hy2 := hy.2
  unfold P64 at hx2 hy2
  have h := mul64_arith x y hx.1 hx2 hy.1 hy2
  show Value.tuple #[.int .u64 _, .int .u64 _] = _
  simp only [IntKind.wrap_u64]
  rw [and_low32 x hx.1 hx2, and_low32 y hy.1 hy2, and_low32 _ (by omega) (by omega), h]
  rfl

/-! ### the lengths: the library's own contracts, at this program -/
def lzRen : Go.Shelf.Ren := ⟨fun | 134 => 143 | 129 => 155 | n => n, fun | 53 => 22 | 3 => 3 | 4 => 4 | 46 => 171 | 5 => 5 | 9 => 9 | n => n, fun | n => n⟩
theorem lzLays : Go.Proofs.Lays.n134 Tryz.prog lzRen := {
  mixed := by kernel_rfl
  f129 := Tryz.func155.trans (congrArg some (by kernel_rfl))
  f134 := Tryz.func143.trans (congrArg some (by kernel_rfl))
  t3 := Tryz.underlying3
  a3 := Tryz.isAgg3
  z3 := Tryz.sizeOf3
  v3 := Tryz.zeroValue3
  t4 := Tryz.underlying4
  a4 := Tryz.isAgg4
  z4 := Tryz.sizeOf4
  v4 := Tryz.zeroValue4
  t5 := Tryz.underlying5
  a5 := Tryz.isAgg5
  z5 := Tryz.sizeOf5
  v5 := Tryz.zeroValue5
  t9 := Tryz.underlying9
  a9 := Tryz.isAgg9
  z9 := Tryz.sizeOf9
  v9 := Tryz.zeroValue9
  t46 := Tryz.underlying171
  a46 := Tryz.isAgg171
  z46 := Tryz.sizeOf171
  v46 := Tryz.zeroValue171
  t53 := Tryz.underlying22
  a53 := Tryz.isAgg22
  z53 := Tryz.sizeOf22
  v53 := Tryz.zeroValue22 }
theorem bits_LeadingZeros64 (x : Int) (w : World) (hx : U64 x) :
    Calls Tryz.prog 143 #[.int .u64 x] w (Ret w (.int .i64 (64 - (Lib.bitLen x.toNat : Int)))) :=
  (Any.bits_LeadingZeros64 lzLays x w hx.1 (by have := hx.2; unfold P64 at this; omega)).mono fun e w' ⟨he, hw⟩ => ⟨he, by rw [hw]; exact Below.refl _ _⟩
end Go.Proofs.YtemfhipofgafiaaGreatDoor
