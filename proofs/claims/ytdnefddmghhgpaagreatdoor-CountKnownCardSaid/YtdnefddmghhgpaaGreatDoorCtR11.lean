import Derived.Test.YtdnefddmghhgpaaGreatDoorCtS1
set_option maxRecDepth 1000000
set_option maxHeartbeats 4000000
namespace Go.Proofs.YtdnefddmghhgpaaGreatDoor
open AM Go
noncomputable section
theorem Ctr59 : checkL env [] [Ctm58] 10000 [] Ctm59 = true := by kernel_rfl
theorem Ctr60 : checkL env [] [Ctm59] 10000 [] Ctm60 = true := by kernel_rfl
theorem Ctr61 : checkL env [] [Ctm60] 10000 [] Ctm61 = true := by kernel_rfl
theorem Ctr62 : checkL env [] [Ctm61] 10000 [] Ctm62 = true := by kernel_rfl
theorem Ctr63 : checkL env [] [Ctm62] 10000 [] Ctm63 = true := by kernel_rfl
end
end Go.Proofs.YtdnefddmghhgpaaGreatDoor
