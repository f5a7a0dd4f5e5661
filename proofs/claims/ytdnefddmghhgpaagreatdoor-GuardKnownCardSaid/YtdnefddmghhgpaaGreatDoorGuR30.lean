import Derived.Test.YtdnefddmghhgpaaGreatDoorGuS2
set_option maxRecDepth 1000000
set_option maxHeartbeats 4000000
namespace Go.Proofs.YtdnefddmghhgpaaGreatDoor
open AM Go
noncomputable section
theorem Gur188 : checkL env [] [Gum187] 10000 [] Gum188 = true := by kernel_rfl
theorem Gur189 : checkL env [] [Gum188] 10000 [] Gum189 = true := by kernel_rfl
theorem Gur190 : checkL env [] [Gum189] 10000 [] Gum190 = true := by kernel_rfl
theorem Gur191 : checkL env [] [Gum190] 10000 [] Gum191 = true := by kernel_rfl
theorem Gur192 : checkL env [] [Gum191] 10000 [] Gum192 = true := by kernel_rfl
theorem Gur193 : checkL env [] [Gum192] 10000 [] Gum193 = true := by kernel_rfl
end
end Go.Proofs.YtdnefddmghhgpaaGreatDoor
