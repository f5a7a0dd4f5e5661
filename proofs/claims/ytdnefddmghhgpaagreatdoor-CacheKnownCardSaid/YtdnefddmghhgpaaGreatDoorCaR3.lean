import Derived.Test.YtdnefddmghhgpaaGreatDoorCaS1
set_option maxRecDepth 1000000
set_option maxHeartbeats 4000000
namespace Go.Proofs.YtdnefddmghhgpaaGreatDoor
open AM Go
noncomputable section
theorem Car40 : checkL Caenv [] [Cam39] 10000 Cam40 = true := by kernel_rfl
theorem Car41 : checkL Caenv [] [Cam40] 10000 Cam41 = true := by kernel_rfl
theorem Car42 : checkL Caenv [] [Cam41] 10000 Cam42 = true := by kernel_rfl
theorem Car43 : checkL Caenv [] [Cam42] 10000 Cam43 = true := by kernel_rfl
theorem Car44 : checkL Caenv [] [Cam43] 10000 Cam44 = true := by kernel_rfl
theorem Car45 : checkL Caenv [] [Cam44] 10000 Cam45 = true := by kernel_rfl
theorem Car46 : checkL Caenv [] [Cam45] 10000 Cam46 = true := by kernel_rfl
theorem Car47 : checkL Caenv [] [Cam46] 10000 Cam47 = true := by kernel_rfl
theorem Car48 : checkL Caenv [] [Cam47] 10000 Cam48 = true := by kernel_rfl
theorem Car49 : checkL Caenv [] [Cam48] 10000 Cam49 = true := by kernel_rfl
theorem Car50 : checkL Caenv [] [Cam49] 10000 Cam50 = true := by kernel_rfl
theorem Car51 : checkL Caenv [] [Cam50] 10000 Cam51 = true := by kernel_rfl
theorem Car52 : checkL Caenv [] [Cam51] 10000 Cam52 = true := by kernel_rfl
theorem Car53 : checkL Caenv [] [Cam52] 10000 Cam53 = true := by kernel_rfl
end
end Go.Proofs.YtdnefddmghhgpaaGreatDoor
