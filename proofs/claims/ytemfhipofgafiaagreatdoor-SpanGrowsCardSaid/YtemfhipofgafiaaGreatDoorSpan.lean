/- span.Within, span.Room; item.Right. -/
import Derived.Test.YtemfhipofgafiaaGreatDoorSpread
set_option linter.unusedVariables false
set_option linter.unusedSimpArgs false
namespace Go.Proofs.YtemfhipofgafiaaGreatDoor
open Go.RowKit


def withinI (base : Int) (l : List It) : Bool := decide (spreadI base l ≤ 4611686018427387904)
set_option maxHeartbeats 1000000 in
set_option maxRecDepth 100000 in
theorem span_Within (base : Int) (ao : Option Addr) (cap : Nat) (l : List It) (w : World) (hlen : l.length ≤ 100000) (hc : At w ao (cellsI l)) :
    Calls Tryz.prog 60 #[.int .u64 base, .slice ao l.length cap] w (Ret w (.bool (withinI base l))) := by
  have S := item_Spread base ao cap l w hlen hc
  go_enter Tryz.func60, Tryz.ntmps60
  go_wp2_with (go_at_call 69; refine (S).mono ?_; rintro e w1 ⟨rfl, hb1⟩; obtain ⟨hc1, hf1⟩ := bcell hb1; (try simp only [World.heap_drewN, World.cell?_drewN] at hc1); (try simp only [World.heap_drewN, World.frozen?_drewN] at hf1); have hz1 := bsize hb1; (try simp only [World.size_alloc, World.size_setCell, World.size_drew, World.heap_drewN] at hz1); (try (have hs0 : w.heap.size < w1.heap.size := by omega)); (try (have hs1 : w.heap.size + 1 < w1.heap.size := by omega)); (try (have hs2 : w.heap.size + 2 < w1.heap.size := by omega)); (try (have hs3 : w.heap.size + 3 < w1.heap.size := by omega)))
  refine bodyPost_ret (by simp [*, results, Tryz.results60, go_sem]; try rfl) rfl ?_
  exact ⟨eqRet rfl, by (repeat' (first | (with_reducible exact Below.refl _ _) | (with_reducible refine Below.alloc ?_ ?_ _) | (with_reducible refine Below.setCell ?_ ?_ _) | (with_reducible refine Below.drew ?_) | (with_reducible refine belowN ?_ _) | (with_reducible refine bthen (by assumption) ?_ ?_) | omega | (simp only [World.size_alloc, World.size_setCell, World.size_drew, World.heap_drewN] at *; omega) | (simp; omega)))⟩
def roomI (base : Int) (l : List It) : Int := if withinI base l = true then 4611686018427387904 - spreadI base l else 0
theorem spreadI_U (base : Int) (l : List It) : U64 (spreadI base l) := U64_wrap _
set_option maxHeartbeats 1000000 in
set_option maxRecDepth 100000 in
theorem span_Room (base : Int) (ao : Option Addr) (cap : Nat) (l : List It) (w : World) (hlen : l.length ≤ 100000) (hc : At w ao (cellsI l)) :
    Calls Tryz.prog 59 #[.int .u64 base, .slice ao l.length cap] w (Ret w (.int .u64 (roomI base l))) := by
  have S := fun w (hc : At w ao (cellsI l)) => item_Spread base ao cap l w hlen hc
  have W := span_Within base ao cap l w hlen hc
  cases h : withinI base l
  · rw [h] at W
    have e : roomI base l = 0 := by simp [roomI, h]
    rw [e]
    clear S e h
    go_enter Tryz.func59, Tryz.ntmps59
    go_wp2_with (go_at_call 60; refine (W).mono ?_; rintro e w1 ⟨rfl, hb1⟩; obtain ⟨hc1, hf1⟩ := bcell hb1; (try simp only [World.heap_drewN, World.cell?_drewN] at hc1); (try simp only [World.heap_drewN, World.frozen?_drewN] at hf1); have hz1 := bsize hb1; (try simp only [World.size_alloc, World.size_setCell, World.size_drew, World.heap_drewN] at hz1); (try (have hs0 : w.heap.size < w1.heap.size := by omega)); (try (have hs1 : w.heap.size + 1 < w1.heap.size := by omega)); (try (have hs2 : w.heap.size + 2 < w1.heap.size := by omega)); (try (have hs3 : w.heap.size + 3 < w1.heap.size := by omega)))
    refine bodyPost_ret (by simp [*, results, Tryz.results59, go_sem]; try rfl) rfl ?_
    exact ⟨eqRet rfl, by (repeat' (first | (with_reducible exact Below.refl _ _) | (with_reducible refine Below.alloc ?_ ?_ _) | (with_reducible refine Below.setCell ?_ ?_ _) | (with_reducible refine Below.drew ?_) | (with_reducible refine belowN ?_ _) | (with_reducible refine bthen (by assumption) ?_ ?_) | omega | (simp only [World.size_alloc, World.size_setCell, World.size_drew, World.heap_drewN] at *; omega) | (simp; omega)))⟩
  · rw [h] at W
    have hb := spreadI_U base l
    have e : roomI base l = 4611686018427387904 - spreadI base l := by simp [roomI, h]
    have v : IntKind.u64.wrap (4611686018427387904 - spreadI base l) = 4611686018427387904 - spreadI base l := wrapU64_id (by
      simp only [withinI, decide_eq_true_eq] at h
      unfold U64 P64 at *
      omega)
    rw [e]
    clear e h
    go_enter Tryz.func59, Tryz.ntmps59
    go_wp2_with fail
    refine W.mono ?_
    rintro e w1 ⟨rfl, hb1⟩
    have S1 := S w1 (hc.below hb1)
    clear S
    go_wp2_with fail
    refine S1.mono ?_
    rintro e w2 ⟨rfl, hb2⟩
    go_wp2_with fail
    refine bodyPost_ret (by simp [*, results, Tryz.results59, go_sem]; try rfl) rfl ?_
    exact ⟨eqRet rfl, hb1.trans (hb2.mono hb1.size)⟩
end Go.Proofs.YtemfhipofgafiaaGreatDoor
