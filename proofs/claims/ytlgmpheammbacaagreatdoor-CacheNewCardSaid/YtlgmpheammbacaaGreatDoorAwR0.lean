import Derived.Test.YtlgmpheammbacaaGreatDoorAwS0
set_option maxRecDepth 1000000
set_option maxHeartbeats 4000000
namespace Go.Proofs.YtlgmpheammbacaaGreatDoor
open AM Go
noncomputable section
theorem Awr0 : checkL env [] [] 10000 Awm0 = true := by kernel_rfl
theorem Awr1 : checkL env [] [Awm0] 10000 Awm1 = true := by kernel_rfl
theorem Awr2 : checkL env [] [Awm1] 10000 Awm2 = true := by kernel_rfl
theorem Awr3 : checkL env [] [Awm2] 10000 Awm3 = true := by kernel_rfl
theorem Awr4 : checkL env [] [Awm3] 10000 Awm4 = true := by kernel_rfl
theorem Awr5 : checkL env [] [Awm4] 10000 Awm5 = true := by kernel_rfl
theorem Awr6 : checkL env [] [Awm5] 10000 Awm6 = true := by kernel_rfl
theorem Awr7 : checkL env [] [Awm6] 10000 Awm7 = true := by kernel_rfl
theorem Awr8 : checkL env [] [Awm7] 10000 Awm8 = true := by kernel_rfl
theorem Awr9 : checkL env [] [Awm8] 10000 Awm9 = true := by kernel_rfl
end
end Go.Proofs.YtlgmpheammbacaaGreatDoor
