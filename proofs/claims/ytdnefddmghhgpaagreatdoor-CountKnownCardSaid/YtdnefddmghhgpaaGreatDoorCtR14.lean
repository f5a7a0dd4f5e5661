import Derived.Test.YtdnefddmghhgpaaGreatDoorCtS1
set_option maxRecDepth 1000000
set_option maxHeartbeats 4000000
namespace Go.Proofs.YtdnefddmghhgpaaGreatDoor
open AM Go
noncomputable section
theorem Ctr74 : checkL env [] [Ctm73] 10000 [] Ctm74 = true := by kernel_rfl
theorem Ctr75 : checkL env [] [Ctm74] 10000 [] Ctm75 = true := by kernel_rfl
theorem Ctr76 : checkL env [] [Ctm75] 10000 [] Ctm76 = true := by kernel_rfl
theorem Ctr77 : checkL env [] [Ctm76] 10000 [] Ctm77 = true := by kernel_rfl
theorem Ctr78 : checkK env [] [Ctm77] 10000 [] Ctm78 = true := by kernel_rfl
end
end Go.Proofs.YtdnefddmghhgpaaGreatDoor
