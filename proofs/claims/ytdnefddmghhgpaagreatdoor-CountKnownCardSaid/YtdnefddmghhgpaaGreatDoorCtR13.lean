import Derived.Test.YtdnefddmghhgpaaGreatDoorCtS1
set_option maxRecDepth 1000000
set_option maxHeartbeats 4000000
namespace Go.Proofs.YtdnefddmghhgpaaGreatDoor
open AM Go
noncomputable section
theorem Ctr69 : checkL env [] [Ctm68] 10000 [] Ctm69 = true := by kernel_rfl
theorem Ctr70 : checkL env [] [Ctm69] 10000 [] Ctm70 = true := by kernel_rfl
theorem Ctr71 : checkL env [] [Ctm70] 10000 [] Ctm71 = true := by kernel_rfl
theorem Ctr72 : checkL env [] [Ctm71] 10000 [] Ctm72 = true := by kernel_rfl
theorem Ctr73 : checkL env [] [Ctm72] 10000 [] Ctm73 = true := by kernel_rfl
end
end Go.Proofs.YtdnefddmghhgpaaGreatDoor
