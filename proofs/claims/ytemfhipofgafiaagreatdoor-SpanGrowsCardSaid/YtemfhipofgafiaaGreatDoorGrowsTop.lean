/- FOR EVERY INPUT THE LAW SpanGrows RETURNS TRUE, and each argument reads behind the call as it read before. Conditions: none of its own; the listed package-level variables are as the program's text lays them (tied). -/
import Derived.Test.YtemfhipofgafiaaGreatDoorGrowsCard
set_option linter.unusedVariables false
namespace Go.Proofs.YtemfhipofgafiaaGreatDoor
open Go
theorem span_grows_card : Rows.SpanGrowsCardSaid :=
  Claim7.holds_tied_plain_at .later [] [.data, .data, .data] true (true, "5a34dd84234efd2226f9adeda76bfa1a1f02a95b7a654b46d7108b88feac3ee4") false
    grows_holds (fun _ h => by cases h) (by kernel_rfl) (fun _ h => by cases h) spanGrows_row_tie rfl ⟨rfl, rfl⟩ (by kernel_rfl) rfl
    (fun f fn hf hfn => by
      obtain rfl : f = 12 := Option.some.inj ((show Tryz.prog.funcNamed "turnstone/turnstonelaw13.SpanGrows" = some 12 by kernel_rfl).symm.trans hf) |>.symm
      obtain rfl : fn = Tryz.f12 := (Option.some.inj (Tryz.func12.symm.trans hfn)).symm
      exact ⟨by kernel_rfl, fun j t ht => by
        rw [Tryz.params12] at ht
        have hm : t ∈ [22, 93, 95] := by simpa using Array.mem_of_getElem? ht
        have hall : ([22, 93, 95].all fun u => !Tryz.prog.wantsStandIn u) = true := by kernel_rfl
        exact (show Tryz.prog.wantsStandIn t = false by simpa using List.all_eq_true.1 hall t hm)⟩)
    (by kernel_rfl)
#print axioms span_grows_card
end Go.Proofs.YtemfhipofgafiaaGreatDoor
