import Derived.Test.YtdnefddmghhgpaaGreatDoorQuS0
set_option maxRecDepth 1000000
set_option maxHeartbeats 4000000
namespace Go.Proofs.YtdnefddmghhgpaaGreatDoor
open AM Go
noncomputable section
theorem Qur34 : checkL env [] [Qum33] 10000 [] Qum34 = true := by kernel_rfl
theorem Qur35 : checkL env [] [Qum34] 10000 [] Qum35 = true := by kernel_rfl
theorem Qur36 : checkL env [] [Qum35] 10000 [] Qum36 = true := by kernel_rfl
theorem Qur37 : checkL env [] [Qum36] 10000 [] Qum37 = true := by kernel_rfl
theorem Qur38 : checkL env [] [Qum37] 10000 [] Qum38 = true := by kernel_rfl
end
end Go.Proofs.YtdnefddmghhgpaaGreatDoor
