import Derived.Test.YtdnefddmghhgpaaGreatDoorMaS2
set_option maxRecDepth 1000000
set_option maxHeartbeats 4000000
namespace Go.Proofs.YtdnefddmghhgpaaGreatDoor
open AM Go
noncomputable section
theorem Mar37 : checkL env [] [Mam36] 10000 [] Mam37 = true := by kernel_rfl
theorem Mar38 : checkL env [] [Mam37] 10000 [] Mam38 = true := by kernel_rfl
theorem Mar39 : checkL env [] [Mam38] 10000 [] Mam39 = true := by kernel_rfl
theorem Mar40 : checkL env [] [Mam39] 10000 [] Mam40 = true := by kernel_rfl
theorem Mar41 : checkL env [] [Mam40] 10000 [] Mam41 = true := by kernel_rfl
theorem Mar42 : checkK env [Mam26] [Mam41] 10000 [] Mam42 = true := by kernel_rfl
end
end Go.Proofs.YtdnefddmghhgpaaGreatDoor
