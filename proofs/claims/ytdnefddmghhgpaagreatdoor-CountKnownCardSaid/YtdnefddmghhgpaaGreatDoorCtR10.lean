import Derived.Test.YtdnefddmghhgpaaGreatDoorCtS1
set_option maxRecDepth 1000000
set_option maxHeartbeats 4000000
namespace Go.Proofs.YtdnefddmghhgpaaGreatDoor
open AM Go
noncomputable section
theorem Ctr53 : checkL env [] [] 10000 [] Ctm53 = true := by kernel_rfl
theorem Ctr54 : checkK env [] [Ctm53] 10000 [] Ctm54 = true := by kernel_rfl
theorem Ctr55 : checkK env [] [] 10000 [] Ctm55 = true := by kernel_rfl
theorem Ctr56 : checkK env [Ctm55] [] 10000 [] Ctm56 = true := by kernel_rfl
theorem Ctr57 : checkL env [] [] 10000 [] Ctm57 = true := by kernel_rfl
theorem Ctr58 : checkL env [] [Ctm57] 10000 [] Ctm58 = true := by kernel_rfl
end
end Go.Proofs.YtdnefddmghhgpaaGreatDoor
