import Derived.Test.YtdnefddmghhgpaaGreatDoorGuS2
set_option maxRecDepth 1000000
set_option maxHeartbeats 4000000
namespace Go.Proofs.YtdnefddmghhgpaaGreatDoor
open AM Go
noncomputable section
theorem Gur134 : checkL env [] [Gum133] 10000 [] Gum134 = true := by kernel_rfl
theorem Gur135 : checkL env [] [Gum134] 10000 [] Gum135 = true := by kernel_rfl
theorem Gur136 : checkL env [] [Gum135] 10000 [] Gum136 = true := by kernel_rfl
theorem Gur137 : checkL env [] [Gum136] 10000 [] Gum137 = true := by kernel_rfl
theorem Gur138 : checkL env [] [Gum137] 10000 [] Gum138 = true := by kernel_rfl
theorem Gur139 : checkL env [] [Gum138] 10000 [] Gum139 = true := by kernel_rfl
end
end Go.Proofs.YtdnefddmghhgpaaGreatDoor
