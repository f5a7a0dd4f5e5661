import Derived.Test.YtdnefddmghhgpaaGreatDoorQuS0
set_option maxRecDepth 1000000
set_option maxHeartbeats 4000000
namespace Go.Proofs.YtdnefddmghhgpaaGreatDoor
open AM Go
noncomputable section
theorem Qur23 : checkL env [] [Qum22] 10000 [] Qum23 = true := by kernel_rfl
theorem Qur24 : checkL env [] [Qum23] 10000 [] Qum24 = true := by kernel_rfl
theorem Qur25 : checkL env [] [Qum24] 10000 [] Qum25 = true := by kernel_rfl
theorem Qur26 : checkL env [] [Qum25] 10000 [] Qum26 = true := by kernel_rfl
theorem Qur27 : checkL env [] [Qum26] 10000 [] Qum27 = true := by kernel_rfl
end
end Go.Proofs.YtdnefddmghhgpaaGreatDoor
