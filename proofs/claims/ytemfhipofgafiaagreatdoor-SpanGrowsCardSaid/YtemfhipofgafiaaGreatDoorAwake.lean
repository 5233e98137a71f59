/- THE CHAPTERS' EXAMPLES: each comes to true, in any world: reckoned by the kernel. -/
import Derived.Test.YtemfhipofgafiaaGreatDoorKnown
set_option linter.unusedVariables false
set_option linter.unusedSimpArgs false
namespace Go.Proofs.YtemfhipofgafiaaGreatDoor.Ev
open Go Go.RowKit
noncomputable def z1 : List (Nat × (List Value → Option Value)) := contracts
theorem z1_ok : TabOk Tryz.prog z1 := contracts_ok
theorem aw1 (w : World) : Calls Tryz.prog 206 #[] w (Ret w (.bool true)) := run_okZ (first_ok z1_ok) 600 w (fun σ => by kernel_rfl)
noncomputable def y1 : List (Nat × (List Value → Option Value)) := (206, isTrue) :: contracts
theorem y1_ok : TabOk Tryz.prog y1 := ⟨isTrue_ok Tryz.call206 aw1, contracts_ok⟩
theorem Aw1 (w : World) : Calls Tryz.prog 205 #[] w (Ret w (.bool true)) := run_okZ (first_ok y1_ok) 600 w (fun σ => by kernel_rfl)
noncomputable def z2 : List (Nat × (List Value → Option Value)) := (205, isTrue) :: contracts
theorem z2_ok : TabOk Tryz.prog z2 := ⟨isTrue_ok Tryz.call205 Aw1, contracts_ok⟩
theorem aw2 (w : World) : Calls Tryz.prog 196 #[] w (Ret w (.bool true)) := run_okZ (first_ok z2_ok) 600 w (fun σ => by kernel_rfl)
noncomputable def y2 : List (Nat × (List Value → Option Value)) := (196, isTrue) :: contracts
theorem y2_ok : TabOk Tryz.prog y2 := ⟨isTrue_ok Tryz.call196 aw2, contracts_ok⟩
theorem Aw2 (w : World) : Calls Tryz.prog 193 #[] w (Ret w (.bool true)) := run_okZ (first_ok y2_ok) 600 w (fun σ => by kernel_rfl)
noncomputable def z3 : List (Nat × (List Value → Option Value)) := (205, isTrue) :: contracts
theorem z3_ok : TabOk Tryz.prog z3 := ⟨isTrue_ok Tryz.call205 Aw1, contracts_ok⟩
theorem aw3 (w : World) : Calls Tryz.prog 197 #[] w (Ret w (.bool true)) := run_okZ (first_ok z3_ok) 600 w (fun σ => by kernel_rfl)
noncomputable def y3 : List (Nat × (List Value → Option Value)) := (197, isTrue) :: contracts
theorem y3_ok : TabOk Tryz.prog y3 := ⟨isTrue_ok Tryz.call197 aw3, contracts_ok⟩
theorem Aw3 (w : World) : Calls Tryz.prog 194 #[] w (Ret w (.bool true)) := run_okZ (first_ok y3_ok) 600 w (fun σ => by kernel_rfl)
noncomputable def z4 : List (Nat × (List Value → Option Value)) := (193, isTrue) :: (194, isTrue) :: contracts
theorem z4_ok : TabOk Tryz.prog z4 := ⟨isTrue_ok Tryz.call193 Aw2, ⟨isTrue_ok Tryz.call194 Aw3, contracts_ok⟩⟩
theorem aw4 (w : World) : Calls Tryz.prog 176 #[] w (Ret w (.bool true)) := run_okZ (first_ok z4_ok) 600 w (fun σ => by kernel_rfl)
noncomputable def y4 : List (Nat × (List Value → Option Value)) := (176, isTrue) :: contracts
theorem y4_ok : TabOk Tryz.prog y4 := ⟨isTrue_ok Tryz.call176 aw4, contracts_ok⟩
theorem Aw4 (w : World) : Calls Tryz.prog 165 #[] w (Ret w (.bool true)) := run_okZ (first_ok y4_ok) 600 w (fun σ => by kernel_rfl)
noncomputable def z5 : List (Nat × (List Value → Option Value)) := (165, isTrue) :: contracts
theorem z5_ok : TabOk Tryz.prog z5 := ⟨isTrue_ok Tryz.call165 Aw4, contracts_ok⟩
theorem aw5 (w : World) : Calls Tryz.prog 153 #[] w (Ret w (.bool true)) := run_okZ (first_ok z5_ok) 600 w (fun σ => by kernel_rfl)
noncomputable def y5 : List (Nat × (List Value → Option Value)) := (153, isTrue) :: contracts
theorem y5_ok : TabOk Tryz.prog y5 := ⟨isTrue_ok Tryz.call153 aw5, contracts_ok⟩
theorem Aw5 (w : World) : Calls Tryz.prog 141 #[] w (Ret w (.bool true)) := run_okZ (first_ok y5_ok) 600 w (fun σ => by kernel_rfl)
noncomputable def z6 : List (Nat × (List Value → Option Value)) := contracts
theorem z6_ok : TabOk Tryz.prog z6 := contracts_ok
theorem aw6 (w : World) : Calls Tryz.prog 154 #[] w (Ret w (.bool true)) := run_okZ (first_ok z6_ok) 600 w (fun σ => by kernel_rfl)
noncomputable def y6 : List (Nat × (List Value → Option Value)) := (154, isTrue) :: contracts
theorem y6_ok : TabOk Tryz.prog y6 := ⟨isTrue_ok Tryz.call154 aw6, contracts_ok⟩
theorem Aw6 (w : World) : Calls Tryz.prog 142 #[] w (Ret w (.bool true)) := run_okZ (first_ok y6_ok) 600 w (fun σ => by kernel_rfl)
noncomputable def z7 : List (Nat × (List Value → Option Value)) := (141, isTrue) :: (142, isTrue) :: contracts
theorem z7_ok : TabOk Tryz.prog z7 := ⟨isTrue_ok Tryz.call141 Aw5, ⟨isTrue_ok Tryz.call142 Aw6, contracts_ok⟩⟩
theorem aw7 (w : World) : Calls Tryz.prog 119 #[] w (Ret w (.bool true)) := run_okZ (first_ok z7_ok) 600 w (fun σ => by kernel_rfl)
noncomputable def y7 : List (Nat × (List Value → Option Value)) := (119, isTrue) :: contracts
theorem y7_ok : TabOk Tryz.prog y7 := ⟨isTrue_ok Tryz.call119 aw7, contracts_ok⟩
theorem Aw7 (w : World) : Calls Tryz.prog 71 #[] w (Ret w (.bool true)) := run_okZ (first_ok y7_ok) 600 w (fun σ => by kernel_rfl)
noncomputable def z8 : List (Nat × (List Value → Option Value)) := (71, isTrue) :: contracts
theorem z8_ok : TabOk Tryz.prog z8 := ⟨isTrue_ok Tryz.call71 Aw7, contracts_ok⟩
theorem aw8 (w : World) : Calls Tryz.prog 15 #[] w (Ret w (.bool true)) := run_okZ (first_ok z8_ok) 600 w (fun σ => by kernel_rfl)
noncomputable def y8 : List (Nat × (List Value → Option Value)) := (15, isTrue) :: contracts
theorem y8_ok : TabOk Tryz.prog y8 := ⟨isTrue_ok Tryz.call15 aw8, contracts_ok⟩
theorem Aw8 (w : World) : Calls Tryz.prog 77 #[] w (Ret w (.bool true)) := run_okZ (first_ok y8_ok) 600 w (fun σ => by kernel_rfl)
noncomputable def z9 : List (Nat × (List Value → Option Value)) := (77, isTrue) :: contracts
theorem z9_ok : TabOk Tryz.prog z9 := ⟨isTrue_ok Tryz.call77 Aw8, contracts_ok⟩
theorem aw9 (w : World) : Calls Tryz.prog 23 #[] w (Ret w (.bool true)) := run_okZ (first_ok z9_ok) 600 w (fun σ => by kernel_rfl)
noncomputable def y9 : List (Nat × (List Value → Option Value)) := (23, isTrue) :: contracts
theorem y9_ok : TabOk Tryz.prog y9 := ⟨isTrue_ok Tryz.call23 aw9, contracts_ok⟩
theorem Aw9 (w : World) : Calls Tryz.prog 95 #[] w (Ret w (.bool true)) := run_okZ (first_ok y9_ok) 600 w (fun σ => by kernel_rfl)
noncomputable def z10 : List (Nat × (List Value → Option Value)) := (95, isTrue) :: contracts
theorem z10_ok : TabOk Tryz.prog z10 := ⟨isTrue_ok Tryz.call95 Aw9, contracts_ok⟩
theorem aw10 (w : World) : Calls Tryz.prog 40 #[] w (Ret w (.bool true)) := run_okZ (first_ok z10_ok) 600 w (fun σ => by kernel_rfl)
noncomputable def y10 : List (Nat × (List Value → Option Value)) := (40, isTrue) :: contracts
theorem y10_ok : TabOk Tryz.prog y10 := ⟨isTrue_ok Tryz.call40 aw10, contracts_ok⟩
theorem Aw10 (w : World) : Calls Tryz.prog 99 #[] w (Ret w (.bool true)) := run_okZ (first_ok y10_ok) 600 w (fun σ => by kernel_rfl)
noncomputable def z11 : List (Nat × (List Value → Option Value)) := (99, isTrue) :: contracts
theorem z11_ok : TabOk Tryz.prog z11 := ⟨isTrue_ok Tryz.call99 Aw10, contracts_ok⟩
theorem aw11 (w : World) : Calls Tryz.prog 43 #[] w (Ret w (.bool true)) := run_okZ (first_ok z11_ok) 600 w (fun σ => by kernel_rfl)
noncomputable def y11 : List (Nat × (List Value → Option Value)) := (43, isTrue) :: contracts
theorem y11_ok : TabOk Tryz.prog y11 := ⟨isTrue_ok Tryz.call43 aw11, contracts_ok⟩
theorem Aw11 (w : World) : Calls Tryz.prog 103 #[] w (Ret w (.bool true)) := run_okZ (first_ok y11_ok) 600 w (fun σ => by kernel_rfl)
noncomputable def z12 : List (Nat × (List Value → Option Value)) := (103, isTrue) :: contracts
theorem z12_ok : TabOk Tryz.prog z12 := ⟨isTrue_ok Tryz.call103 Aw11, contracts_ok⟩
theorem aw12 (w : World) : Calls Tryz.prog 49 #[] w (Ret w (.bool true)) := run_okZ (first_ok z12_ok) 600 w (fun σ => by kernel_rfl)
noncomputable def y12 : List (Nat × (List Value → Option Value)) := (49, isTrue) :: contracts
theorem y12_ok : TabOk Tryz.prog y12 := ⟨isTrue_ok Tryz.call49 aw12, contracts_ok⟩
theorem Aw12 (w : World) : Calls Tryz.prog 111 #[] w (Ret w (.bool true)) := run_okZ (first_ok y12_ok) 600 w (fun σ => by kernel_rfl)
noncomputable def z13 : List (Nat × (List Value → Option Value)) := (111, isTrue) :: contracts
theorem z13_ok : TabOk Tryz.prog z13 := ⟨isTrue_ok Tryz.call111 Aw12, contracts_ok⟩
theorem aw13 (w : World) : Calls Tryz.prog 58 #[] w (Ret w (.bool true)) := run_okZ (first_ok z13_ok) 600 w (fun σ => by kernel_rfl)
end Go.Proofs.YtemfhipofgafiaaGreatDoor.Ev
