import Derived.Test.YtdnefddmghhgpaaGreatDoorQuS0
set_option maxRecDepth 1000000
set_option maxHeartbeats 4000000
namespace Go.Proofs.YtdnefddmghhgpaaGreatDoor
open AM Go
noncomputable section
theorem Qur18 : checkL env [] [] 10000 [] Qum18 = true := by kernel_rfl
theorem Qur19 : checkL env [] [Qum18] 10000 [] Qum19 = true := by kernel_rfl
theorem Qur20 : checkL env [] [Qum19] 10000 [] Qum20 = true := by kernel_rfl
theorem Qur21 : checkL env [] [Qum20] 10000 [] Qum21 = true := by kernel_rfl
theorem Qur22 : checkL env [] [Qum21] 10000 [] Qum22 = true := by kernel_rfl
end
end Go.Proofs.YtdnefddmghhgpaaGreatDoor
