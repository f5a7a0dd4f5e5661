import Derived.Test.YtdnefddmghhgpaaGreatDoorGuS2
set_option maxRecDepth 1000000
set_option maxHeartbeats 4000000
namespace Go.Proofs.YtdnefddmghhgpaaGreatDoor
open AM Go
noncomputable section
theorem Gur194 : checkL env [] [Gum193] 10000 [] Gum194 = true := by kernel_rfl
theorem Gur195 : checkL env [] [Gum194] 10000 [] Gum195 = true := by kernel_rfl
theorem Gur196 : checkL env [] [Gum195] 10000 [] Gum196 = true := by kernel_rfl
theorem Gur197 : checkL env [] [Gum196] 10000 [] Gum197 = true := by kernel_rfl
theorem Gur198 : checkL env [] [Gum197] 10000 [] Gum198 = true := by kernel_rfl
theorem Gur199 : checkL env [] [Gum198] 10000 [] Gum199 = true := by kernel_rfl
end
end Go.Proofs.YtdnefddmghhgpaaGreatDoor
