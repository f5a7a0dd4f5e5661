import Derived.Test.YtdnefddmghhgpaaGreatDoorCtS1
set_option maxRecDepth 1000000
set_option maxHeartbeats 4000000
namespace Go.Proofs.YtdnefddmghhgpaaGreatDoor
open AM Go
noncomputable section
theorem Ctr64 : checkL env [] [Ctm63] 10000 [] Ctm64 = true := by kernel_rfl
theorem Ctr65 : checkL env [] [Ctm64] 10000 [] Ctm65 = true := by kernel_rfl
theorem Ctr66 : checkL env [] [Ctm65] 10000 [] Ctm66 = true := by kernel_rfl
theorem Ctr67 : checkL env [] [Ctm66] 10000 [] Ctm67 = true := by kernel_rfl
theorem Ctr68 : checkL env [] [Ctm67] 10000 [] Ctm68 = true := by kernel_rfl
end
end Go.Proofs.YtdnefddmghhgpaaGreatDoor
