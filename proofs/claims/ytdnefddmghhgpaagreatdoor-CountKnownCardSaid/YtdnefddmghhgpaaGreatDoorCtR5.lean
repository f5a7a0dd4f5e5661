import Derived.Test.YtdnefddmghhgpaaGreatDoorCtS1
set_option maxRecDepth 1000000
set_option maxHeartbeats 4000000
namespace Go.Proofs.YtdnefddmghhgpaaGreatDoor
open AM Go
noncomputable section
theorem Ctr25 : checkL env [] [] 10000 [] Ctm25 = true := by kernel_rfl
theorem Ctr26 : checkL env [] [Ctm25] 10000 [] Ctm26 = true := by kernel_rfl
theorem Ctr27 : checkL env [] [Ctm26] 10000 [] Ctm27 = true := by kernel_rfl
theorem Ctr28 : checkL env [] [Ctm27] 10000 [] Ctm28 = true := by kernel_rfl
theorem Ctr29 : checkL env [] [Ctm28] 10000 [] Ctm29 = true := by kernel_rfl
end
end Go.Proofs.YtdnefddmghhgpaaGreatDoor
