import Derived.Test.YtdnefddmghhgpaaGreatDoorGuS2
set_option maxRecDepth 1000000
set_option maxHeartbeats 4000000
namespace Go.Proofs.YtdnefddmghhgpaaGreatDoor
open AM Go
noncomputable section
theorem Gur158 : checkL env [] [Gum157] 10000 [] Gum158 = true := by kernel_rfl
theorem Gur159 : checkL env [] [Gum158] 10000 [] Gum159 = true := by kernel_rfl
theorem Gur160 : checkL env [] [Gum159] 10000 [] Gum160 = true := by kernel_rfl
theorem Gur161 : checkL env [] [Gum160] 10000 [] Gum161 = true := by kernel_rfl
theorem Gur162 : checkL env [] [Gum161] 10000 [] Gum162 = true := by kernel_rfl
theorem Gur163 : checkL env [] [Gum162] 10000 [] Gum163 = true := by kernel_rfl
end
end Go.Proofs.YtdnefddmghhgpaaGreatDoor
