import Derived.Test.YtdnefddmghhgpaaGreatDoorMaS2
set_option maxRecDepth 1000000
set_option maxHeartbeats 4000000
namespace Go.Proofs.YtdnefddmghhgpaaGreatDoor
open AM Go
noncomputable section
theorem Mar31 : checkL env [] [Mam30] 10000 [] Mam31 = true := by kernel_rfl
theorem Mar32 : checkL env [] [Mam31] 10000 [] Mam32 = true := by kernel_rfl
theorem Mar33 : checkL env [] [Mam32] 10000 [] Mam33 = true := by kernel_rfl
theorem Mar34 : checkL env [] [Mam33] 10000 [] Mam34 = true := by kernel_rfl
theorem Mar35 : checkL env [] [Mam34] 10000 [] Mam35 = true := by kernel_rfl
theorem Mar36 : checkL env [] [Mam35] 10000 [] Mam36 = true := by kernel_rfl
end
end Go.Proofs.YtdnefddmghhgpaaGreatDoor
