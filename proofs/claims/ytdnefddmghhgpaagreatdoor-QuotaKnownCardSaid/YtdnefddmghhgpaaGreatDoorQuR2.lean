import Derived.Test.YtdnefddmghhgpaaGreatDoorQuS0
set_option maxRecDepth 1000000
set_option maxHeartbeats 4000000
namespace Go.Proofs.YtdnefddmghhgpaaGreatDoor
open AM Go
noncomputable section
theorem Qur13 : checkL env [] [Qum12] 10000 [] Qum13 = true := by kernel_rfl
theorem Qur14 : checkL env [] [Qum13] 10000 [] Qum14 = true := by kernel_rfl
theorem Qur15 : checkL env [] [Qum14] 10000 [] Qum15 = true := by kernel_rfl
theorem Qur16 : checkL env [] [Qum15] 10000 [] Qum16 = true := by kernel_rfl
theorem Qur17 : checkK env [Qum10,Qum11] [Qum16] 10000 [] Qum17 = true := by kernel_rfl
end
end Go.Proofs.YtdnefddmghhgpaaGreatDoor
