import Derived.Test.YtdnefddmghhgpaaGreatDoorGuS2
set_option maxRecDepth 1000000
set_option maxHeartbeats 4000000
namespace Go.Proofs.YtdnefddmghhgpaaGreatDoor
open AM Go
noncomputable section
theorem Gur62 : checkL env [] [Gum61] 10000 [] Gum62 = true := by kernel_rfl
theorem Gur63 : checkL env [] [Gum62] 10000 [] Gum63 = true := by kernel_rfl
theorem Gur64 : checkL env [] [Gum63] 10000 [] Gum64 = true := by kernel_rfl
theorem Gur65 : checkL env [] [Gum64] 10000 [] Gum65 = true := by kernel_rfl
theorem Gur66 : checkL env [] [Gum65] 10000 [] Gum66 = true := by kernel_rfl
theorem Gur67 : checkL env [] [Gum66] 10000 [] Gum67 = true := by kernel_rfl
end
end Go.Proofs.YtdnefddmghhgpaaGreatDoor
