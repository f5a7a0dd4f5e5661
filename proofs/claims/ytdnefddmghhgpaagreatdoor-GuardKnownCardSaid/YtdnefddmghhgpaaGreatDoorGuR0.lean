import Derived.Test.YtdnefddmghhgpaaGreatDoorGuS2
set_option maxRecDepth 1000000
set_option maxHeartbeats 4000000
namespace Go.Proofs.YtdnefddmghhgpaaGreatDoor
open AM Go
noncomputable section
theorem Gur0 : checkK env [] [] 10000 [] Gum0 = true := by kernel_rfl
theorem Gur1 : checkK env [Gum0] [] 10000 [] Gum1 = true := by kernel_rfl
theorem Gur2 : checkL env [] [] 10000 [] Gum2 = true := by kernel_rfl
theorem Gur3 : checkL env [] [Gum2] 10000 [] Gum3 = true := by kernel_rfl
theorem Gur4 : checkL env [] [Gum3] 10000 [] Gum4 = true := by kernel_rfl
theorem Gur5 : checkK env [] [Gum4] 10000 [] Gum5 = true := by kernel_rfl
theorem Gur6 : checkK env [Gum1,Gum5] [] 10000 [] Gum6 = true := by kernel_rfl
end
end Go.Proofs.YtdnefddmghhgpaaGreatDoor
