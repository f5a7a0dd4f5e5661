import Derived.Test.YtdnefddmghhgpaaGreatDoorDcS1
set_option maxRecDepth 1000000
set_option maxHeartbeats 4000000
namespace Go.Proofs.YtdnefddmghhgpaaGreatDoor
open AM Go
noncomputable section
theorem Dcr47 : checkL env [] [Dcm46] 10000 [] Dcm47 = true := by kernel_rfl
theorem Dcr48 : checkL env [] [Dcm47] 10000 [] Dcm48 = true := by kernel_rfl
theorem Dcr49 : checkL env [] [Dcm48] 10000 [] Dcm49 = true := by kernel_rfl
theorem Dcr50 : checkL env [] [Dcm49] 10000 [] Dcm50 = true := by kernel_rfl
theorem Dcr51 : checkL env [] [Dcm50] 10000 [] Dcm51 = true := by kernel_rfl
theorem Dcr52 : checkL env [] [Dcm51] 10000 [] Dcm52 = true := by kernel_rfl
theorem Dcr53 : checkL env [] [Dcm52] 10000 [] Dcm53 = true := by kernel_rfl
theorem Dcr54 : checkL env [] [Dcm53] 10000 [] Dcm54 = true := by kernel_rfl
end
end Go.Proofs.YtdnefddmghhgpaaGreatDoor
