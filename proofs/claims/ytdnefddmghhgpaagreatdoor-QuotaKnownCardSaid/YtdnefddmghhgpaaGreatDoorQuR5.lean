import Derived.Test.YtdnefddmghhgpaaGreatDoorQuS0
set_option maxRecDepth 1000000
set_option maxHeartbeats 4000000
namespace Go.Proofs.YtdnefddmghhgpaaGreatDoor
open AM Go
noncomputable section
theorem Qur28 : checkK env [] [Qum27] 10000 [] Qum28 = true := by kernel_rfl
theorem Qur29 : checkK env [Qum28] [] 10000 [] Qum29 = true := by kernel_rfl
theorem Qur30 : checkK env [] [] 10000 [] Qum30 = true := by kernel_rfl
theorem Qur31 : checkK env [Qum30] [] 10000 [] Qum31 = true := by kernel_rfl
theorem Qur32 : checkL env [] [] 10000 [] Qum32 = true := by kernel_rfl
theorem Qur33 : checkL env [] [Qum32] 10000 [] Qum33 = true := by kernel_rfl
end
end Go.Proofs.YtdnefddmghhgpaaGreatDoor
