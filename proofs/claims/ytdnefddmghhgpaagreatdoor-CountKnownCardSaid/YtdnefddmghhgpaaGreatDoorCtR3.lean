import Derived.Test.YtdnefddmghhgpaaGreatDoorCtS1
set_option maxRecDepth 1000000
set_option maxHeartbeats 4000000
namespace Go.Proofs.YtdnefddmghhgpaaGreatDoor
open AM Go
noncomputable section
theorem Ctr15 : checkL env [] [Ctm14] 10000 [] Ctm15 = true := by kernel_rfl
theorem Ctr16 : checkL env [] [Ctm15] 10000 [] Ctm16 = true := by kernel_rfl
theorem Ctr17 : checkL env [] [Ctm16] 10000 [] Ctm17 = true := by kernel_rfl
theorem Ctr18 : checkL env [] [Ctm17] 10000 [] Ctm18 = true := by kernel_rfl
theorem Ctr19 : checkL env [] [Ctm18] 10000 [] Ctm19 = true := by kernel_rfl
end
end Go.Proofs.YtdnefddmghhgpaaGreatDoor
