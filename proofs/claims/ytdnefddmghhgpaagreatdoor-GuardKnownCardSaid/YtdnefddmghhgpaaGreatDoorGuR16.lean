import Derived.Test.YtdnefddmghhgpaaGreatDoorGuS2
set_option maxRecDepth 1000000
set_option maxHeartbeats 4000000
namespace Go.Proofs.YtdnefddmghhgpaaGreatDoor
open AM Go
noncomputable section
theorem Gur104 : checkL env [] [Gum103] 10000 [] Gum104 = true := by kernel_rfl
theorem Gur105 : checkL env [] [Gum104] 10000 [] Gum105 = true := by kernel_rfl
theorem Gur106 : checkL env [] [Gum105] 10000 [] Gum106 = true := by kernel_rfl
theorem Gur107 : checkL env [] [Gum106] 10000 [] Gum107 = true := by kernel_rfl
theorem Gur108 : checkL env [] [Gum107] 10000 [] Gum108 = true := by kernel_rfl
theorem Gur109 : checkL env [] [Gum108] 10000 [] Gum109 = true := by kernel_rfl
end
end Go.Proofs.YtdnefddmghhgpaaGreatDoor
