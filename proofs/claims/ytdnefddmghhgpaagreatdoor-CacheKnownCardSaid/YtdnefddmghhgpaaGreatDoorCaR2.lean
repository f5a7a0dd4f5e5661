import Derived.Test.YtdnefddmghhgpaaGreatDoorCaS1
set_option maxRecDepth 1000000
set_option maxHeartbeats 4000000
namespace Go.Proofs.YtdnefddmghhgpaaGreatDoor
open AM Go
noncomputable section
theorem Car26 : checkL Caenv [] [Cam25] 10000 Cam26 = true := by kernel_rfl
theorem Car27 : checkL Caenv [] [Cam26] 10000 Cam27 = true := by kernel_rfl
theorem Car28 : checkL Caenv [] [Cam27] 10000 Cam28 = true := by kernel_rfl
theorem Car29 : checkL Caenv [] [Cam28] 10000 Cam29 = true := by kernel_rfl
theorem Car30 : checkL Caenv [] [Cam29] 10000 Cam30 = true := by kernel_rfl
theorem Car31 : checkL Caenv [] [Cam30] 10000 Cam31 = true := by kernel_rfl
theorem Car32 : checkL Caenv [] [Cam31] 10000 Cam32 = true := by kernel_rfl
theorem Car33 : checkL Caenv [] [Cam32] 10000 Cam33 = true := by kernel_rfl
theorem Car34 : checkL Caenv [] [Cam33] 10000 Cam34 = true := by kernel_rfl
theorem Car35 : checkL Caenv [] [Cam34] 10000 Cam35 = true := by kernel_rfl
theorem Car36 : checkL Caenv [] [Cam35] 10000 Cam36 = true := by kernel_rfl
theorem Car37 : checkL Caenv [] [] 10000 Cam37 = true := by kernel_rfl
theorem Car38 : checkL Caenv [] [] 10000 Cam38 = true := by kernel_rfl
theorem Car39 : checkL Caenv [] [Cam38] 10000 Cam39 = true := by kernel_rfl
end
end Go.Proofs.YtdnefddmghhgpaaGreatDoor
