import Derived.Test.YtdnefddmghhgpaaGreatDoorMaS2
set_option maxRecDepth 1000000
set_option maxHeartbeats 4000000
namespace Go.Proofs.YtdnefddmghhgpaaGreatDoor
open AM Go
noncomputable section
theorem Mar6 : checkL env [] [Mam5] 10000 [] Mam6 = true := by kernel_rfl
theorem Mar7 : checkL env [] [Mam6] 10000 [] Mam7 = true := by kernel_rfl
theorem Mar8 : checkL env [] [Mam7] 10000 [] Mam8 = true := by kernel_rfl
theorem Mar9 : checkL env [] [Mam8] 10000 [] Mam9 = true := by kernel_rfl
theorem Mar10 : checkL env [] [Mam9] 10000 [] Mam10 = true := by kernel_rfl
theorem Mar11 : checkL env [] [Mam10] 10000 [] Mam11 = true := by kernel_rfl
end
end Go.Proofs.YtdnefddmghhgpaaGreatDoor
