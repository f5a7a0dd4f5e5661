import Derived.Test.YtdnefddmghhgpaaGreatDoorGuS2
set_option maxRecDepth 1000000
set_option maxHeartbeats 4000000
namespace Go.Proofs.YtdnefddmghhgpaaGreatDoor
open AM Go
noncomputable section
theorem Gur15 : checkK env [] [Gum14] 10000 [] Gum15 = true := by kernel_rfl
theorem Gur16 : checkK env [Gum11,Gum15] [] 10000 [] Gum16 = true := by kernel_rfl
theorem Gur17 : checkL env [] [] 10000 [] Gum17 = true := by kernel_rfl
theorem Gur18 : checkK env [] [Gum17] 10000 [] Gum18 = true := by kernel_rfl
theorem Gur19 : checkL env [] [] 10000 [] Gum19 = true := by kernel_rfl
theorem Gur20 : checkK env [] [Gum19] 10000 [] Gum20 = true := by kernel_rfl
theorem Gur21 : checkL env [] [] 10000 [] Gum21 = true := by kernel_rfl
end
end Go.Proofs.YtdnefddmghhgpaaGreatDoor
