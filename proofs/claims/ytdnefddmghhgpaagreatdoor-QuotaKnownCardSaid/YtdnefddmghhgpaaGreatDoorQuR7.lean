import Derived.Test.YtdnefddmghhgpaaGreatDoorQuS0
set_option maxRecDepth 1000000
set_option maxHeartbeats 4000000
namespace Go.Proofs.YtdnefddmghhgpaaGreatDoor
open AM Go
noncomputable section
theorem Qur39 : checkL env [] [Qum38] 10000 [] Qum39 = true := by kernel_rfl
theorem Qur40 : checkL env [] [Qum39] 10000 [] Qum40 = true := by kernel_rfl
theorem Qur41 : checkL env [] [Qum40] 10000 [] Qum41 = true := by kernel_rfl
theorem Qur42 : checkK env [] [Qum41] 10000 [] Qum42 = true := by kernel_rfl
theorem Qur43 : checkK env [Qum42] [] 10000 [] Qum43 = true := by kernel_rfl
end
end Go.Proofs.YtdnefddmghhgpaaGreatDoor
