import Derived.Test.YtdnefddmghhgpaaGreatDoorCaS1
set_option maxRecDepth 1000000
set_option maxHeartbeats 4000000
namespace Go.Proofs.YtdnefddmghhgpaaGreatDoor
open AM Go
noncomputable section
theorem Car0 : checkM Caenv [] [] 10000 Cam0 = true := by kernel_rfl
theorem Car1 : checkL Caenv [] [] 10000 Cam1 = true := by kernel_rfl
theorem Car2 : checkL Caenv [] [Cam1] 10000 Cam2 = true := by kernel_rfl
theorem Car3 : checkL Caenv [] [Cam2] 10000 Cam3 = true := by kernel_rfl
theorem Car4 : checkL Caenv [] [Cam3] 10000 Cam4 = true := by kernel_rfl
theorem Car5 : checkL Caenv [] [Cam4] 10000 Cam5 = true := by kernel_rfl
theorem Car6 : checkL Caenv [] [Cam5] 10000 Cam6 = true := by kernel_rfl
theorem Car7 : checkL Caenv [] [Cam6] 10000 Cam7 = true := by kernel_rfl
theorem Car8 : checkL Caenv [] [Cam7] 10000 Cam8 = true := by kernel_rfl
theorem Car9 : checkL Caenv [] [Cam8] 10000 Cam9 = true := by kernel_rfl
theorem Car10 : checkL Caenv [] [Cam9] 10000 Cam10 = true := by kernel_rfl
theorem Car11 : checkL Caenv [] [Cam10] 10000 Cam11 = true := by kernel_rfl
theorem Car12 : checkL Caenv [] [Cam11] 10000 Cam12 = true := by kernel_rfl
theorem Car13 : checkL Caenv [] [Cam12] 10000 Cam13 = true := by kernel_rfl
end
end Go.Proofs.YtdnefddmghhgpaaGreatDoor
