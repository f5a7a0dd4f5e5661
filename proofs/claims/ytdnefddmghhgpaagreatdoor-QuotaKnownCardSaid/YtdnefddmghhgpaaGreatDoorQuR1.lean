import Derived.Test.YtdnefddmghhgpaaGreatDoorQuS0
set_option maxRecDepth 1000000
set_option maxHeartbeats 4000000
namespace Go.Proofs.YtdnefddmghhgpaaGreatDoor
open AM Go
noncomputable section
theorem Qur6 : checkL env [] [Qum5] 10000 [] Qum6 = true := by kernel_rfl
theorem Qur7 : checkK env [Qum0,Qum1] [Qum6] 10000 [] Qum7 = true := by kernel_rfl
theorem Qur8 : checkK env [Qum7] [] 10000 [] Qum8 = true := by kernel_rfl
theorem Qur9 : checkK env [] [] 10000 [268,269,270,271] Qum9 = true := by kernel_rfl
theorem Qur10 : checkK env [] [] 10000 [] Qum10 = true := by kernel_rfl
theorem Qur11 : checkK env [] [] 10000 [] Qum11 = true := by kernel_rfl
theorem Qur12 : checkL env [] [] 10000 [] Qum12 = true := by kernel_rfl
end
end Go.Proofs.YtdnefddmghhgpaaGreatDoor
