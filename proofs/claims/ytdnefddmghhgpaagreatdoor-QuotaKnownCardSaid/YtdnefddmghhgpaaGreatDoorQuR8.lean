import Derived.Test.YtdnefddmghhgpaaGreatDoorQuS0
set_option maxRecDepth 1000000
set_option maxHeartbeats 4000000
namespace Go.Proofs.YtdnefddmghhgpaaGreatDoor
open AM Go
noncomputable section
theorem Qur44 : checkK env [Qum43] [] 10000 [] Qum44 = true := by kernel_rfl
theorem Qur45 : checkK env [] [] 10000 [] Qum45 = true := by kernel_rfl
theorem Qur46 : checkK env [Qum45] [] 10000 [] Qum46 = true := by kernel_rfl
theorem Qur47 : checkK env [Qum8,Qum9,Qum17,Qum29,Qum31,Qum44,Qum46] [] 10000 [] Qum47 = true := by kernel_rfl
end
end Go.Proofs.YtdnefddmghhgpaaGreatDoor
