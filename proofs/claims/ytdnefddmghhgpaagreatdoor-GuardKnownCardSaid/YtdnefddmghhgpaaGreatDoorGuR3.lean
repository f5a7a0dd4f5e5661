import Derived.Test.YtdnefddmghhgpaaGreatDoorGuS2
set_option maxRecDepth 1000000
set_option maxHeartbeats 4000000
namespace Go.Proofs.YtdnefddmghhgpaaGreatDoor
open AM Go
noncomputable section
theorem Gur22 : checkK env [] [Gum21] 10000 [] Gum22 = true := by kernel_rfl
theorem Gur23 : checkK env [] [] 10000 [] Gum23 = true := by kernel_rfl
theorem Gur24 : checkK env [] [] 10000 [] Gum24 = true := by kernel_rfl
theorem Gur25 : checkL env [] [] 10000 [] Gum25 = true := by kernel_rfl
theorem Gur26 : checkK env [] [Gum25] 10000 [] Gum26 = true := by kernel_rfl
theorem Gur27 : checkK env [] [] 10000 [] Gum27 = true := by kernel_rfl
theorem Gur28 : checkL env [] [] 10000 [] Gum28 = true := by kernel_rfl
theorem Gur29 : checkK env [] [Gum28] 10000 [] Gum29 = true := by kernel_rfl
theorem Gur30 : checkL env [] [] 10000 [] Gum30 = true := by kernel_rfl
end
end Go.Proofs.YtdnefddmghhgpaaGreatDoor
