import Derived.Test.YtdnefddmghhgpaaGreatDoorQuS0
set_option maxRecDepth 1000000
set_option maxHeartbeats 4000000
namespace Go.Proofs.YtdnefddmghhgpaaGreatDoor
open AM Go
noncomputable section
theorem Qur0 : checkK env [] [] 10000 [] Qum0 = true := by kernel_rfl
theorem Qur1 : checkK env [] [] 10000 [] Qum1 = true := by kernel_rfl
theorem Qur2 : checkL env [] [] 10000 [] Qum2 = true := by kernel_rfl
theorem Qur3 : checkL env [] [Qum2] 10000 [] Qum3 = true := by kernel_rfl
theorem Qur4 : checkL env [] [Qum3] 10000 [] Qum4 = true := by kernel_rfl
theorem Qur5 : checkL env [] [Qum4] 10000 [] Qum5 = true := by kernel_rfl
end
end Go.Proofs.YtdnefddmghhgpaaGreatDoor
