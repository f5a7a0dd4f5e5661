import Derived.Test.YtdnefddmghhgpaaGreatDoorGuS2
set_option maxRecDepth 1000000
set_option maxHeartbeats 4000000
namespace Go.Proofs.YtdnefddmghhgpaaGreatDoor
open AM Go
noncomputable section
theorem Gur7 : checkL env [] [] 10000 [] Gum7 = true := by kernel_rfl
theorem Gur8 : checkK env [] [Gum7] 10000 [] Gum8 = true := by kernel_rfl
theorem Gur9 : checkK env [Gum6,Gum8] [] 10000 [] Gum9 = true := by kernel_rfl
theorem Gur10 : checkK env [] [] 10000 [] Gum10 = true := by kernel_rfl
theorem Gur11 : checkK env [Gum10] [] 10000 [] Gum11 = true := by kernel_rfl
theorem Gur12 : checkL env [] [] 10000 [] Gum12 = true := by kernel_rfl
theorem Gur13 : checkL env [] [Gum12] 10000 [] Gum13 = true := by kernel_rfl
theorem Gur14 : checkL env [] [Gum13] 10000 [] Gum14 = true := by kernel_rfl
end
end Go.Proofs.YtdnefddmghhgpaaGreatDoor
