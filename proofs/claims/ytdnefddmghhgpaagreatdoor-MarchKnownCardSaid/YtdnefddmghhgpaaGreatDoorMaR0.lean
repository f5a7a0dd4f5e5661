import Derived.Test.YtdnefddmghhgpaaGreatDoorMaS2
set_option maxRecDepth 1000000
set_option maxHeartbeats 4000000
namespace Go.Proofs.YtdnefddmghhgpaaGreatDoor
open AM Go
noncomputable section
theorem Mar0 : checkK env [] [] 10000 [] Mam0 = true := by kernel_rfl
theorem Mar1 : checkL env [] [] 10000 [] Mam1 = true := by kernel_rfl
theorem Mar2 : checkL env [] [Mam1] 10000 [] Mam2 = true := by kernel_rfl
theorem Mar3 : checkL env [] [Mam2] 10000 [] Mam3 = true := by kernel_rfl
theorem Mar4 : checkL env [] [Mam3] 10000 [] Mam4 = true := by kernel_rfl
theorem Mar5 : checkL env [] [Mam4] 10000 [] Mam5 = true := by kernel_rfl
end
end Go.Proofs.YtdnefddmghhgpaaGreatDoor
