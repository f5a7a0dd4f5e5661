import Derived.Test.YtdnefddmghhgpaaGreatDoorCaS1
set_option maxRecDepth 1000000
set_option maxHeartbeats 4000000
namespace Go.Proofs.YtdnefddmghhgpaaGreatDoor
open AM Go
noncomputable section
theorem Car14 : checkL Caenv [] [Cam13] 10000 Cam14 = true := by kernel_rfl
theorem Car15 : checkL Caenv [] [Cam14] 10000 Cam15 = true := by kernel_rfl
theorem Car16 : checkL Caenv [] [Cam15] 10000 Cam16 = true := by kernel_rfl
theorem Car17 : checkL Caenv [] [Cam16] 10000 Cam17 = true := by kernel_rfl
theorem Car18 : checkM Caenv [Cam0] [Cam17] 10000 Cam18 = true := by kernel_rfl
theorem Car19 : checkM Caenv [] [] 10000 Cam19 = true := by kernel_rfl
theorem Car20 : checkL Caenv [] [] 10000 Cam20 = true := by kernel_rfl
theorem Car21 : checkL Caenv [] [Cam20] 10000 Cam21 = true := by kernel_rfl
theorem Car22 : checkL Caenv [] [Cam21] 10000 Cam22 = true := by kernel_rfl
theorem Car23 : checkL Caenv [] [Cam22] 10000 Cam23 = true := by kernel_rfl
theorem Car24 : checkL Caenv [] [Cam23] 10000 Cam24 = true := by kernel_rfl
theorem Car25 : checkL Caenv [] [Cam24] 10000 Cam25 = true := by kernel_rfl
end
end Go.Proofs.YtdnefddmghhgpaaGreatDoor
