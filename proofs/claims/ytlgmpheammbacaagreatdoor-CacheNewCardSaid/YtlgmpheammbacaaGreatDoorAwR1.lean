import Derived.Test.YtlgmpheammbacaaGreatDoorAwS0
set_option maxRecDepth 1000000
set_option maxHeartbeats 4000000
namespace Go.Proofs.YtlgmpheammbacaaGreatDoor
open AM Go
noncomputable section
theorem Awr10 : checkL env [] [Awm9] 10000 Awm10 = true := by kernel_rfl
theorem Awr11 : checkL env [] [Awm10] 10000 Awm11 = true := by kernel_rfl
theorem Awr12 : checkL env [] [Awm11] 10000 Awm12 = true := by kernel_rfl
theorem Awr13 : checkL env [] [Awm12] 10000 Awm13 = true := by kernel_rfl
theorem Awr14 : checkL env [] [Awm13] 10000 Awm14 = true := by kernel_rfl
theorem Awr15 : checkM env [] [Awm14] 10000 Awm15 = true := by kernel_rfl
theorem Awr16 : checkM env [Awm15] [] 10000 Awm16 = true := by kernel_rfl
end
end Go.Proofs.YtlgmpheammbacaaGreatDoor
