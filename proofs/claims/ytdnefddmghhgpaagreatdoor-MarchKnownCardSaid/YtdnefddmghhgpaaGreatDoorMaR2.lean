import Derived.Test.YtdnefddmghhgpaaGreatDoorMaS2
set_option maxRecDepth 1000000
set_option maxHeartbeats 4000000
namespace Go.Proofs.YtdnefddmghhgpaaGreatDoor
open AM Go
noncomputable section
theorem Mar12 : checkL env [] [Mam11] 10000 [] Mam12 = true := by kernel_rfl
theorem Mar13 : checkL env [] [Mam12] 10000 [] Mam13 = true := by kernel_rfl
theorem Mar14 : checkL env [] [Mam13] 10000 [] Mam14 = true := by kernel_rfl
theorem Mar15 : checkL env [] [Mam14] 10000 [] Mam15 = true := by kernel_rfl
theorem Mar16 : checkK env [Mam0] [Mam15] 10000 [] Mam16 = true := by kernel_rfl
theorem Mar17 : checkK env [] [] 10000 [] Mam17 = true := by kernel_rfl
theorem Mar18 : checkK env [] [] 10000 [] Mam18 = true := by kernel_rfl
end
end Go.Proofs.YtdnefddmghhgpaaGreatDoor
