import Derived.Test.YtdnefddmghhgpaaGreatDoorCtS1
set_option maxRecDepth 1000000
set_option maxHeartbeats 4000000
namespace Go.Proofs.YtdnefddmghhgpaaGreatDoor
open AM Go
noncomputable section
theorem Ctr35 : checkL env [] [Ctm34] 10000 [] Ctm35 = true := by kernel_rfl
theorem Ctr36 : checkL env [] [Ctm35] 10000 [] Ctm36 = true := by kernel_rfl
theorem Ctr37 : checkL env [] [Ctm36] 10000 [] Ctm37 = true := by kernel_rfl
theorem Ctr38 : checkL env [] [Ctm37] 10000 [] Ctm38 = true := by kernel_rfl
theorem Ctr39 : checkL env [] [Ctm38] 10000 [] Ctm39 = true := by kernel_rfl
end
end Go.Proofs.YtdnefddmghhgpaaGreatDoor
