import Derived.Test.YtdnefddmghhgpaaGreatDoorCtS1
set_option maxRecDepth 1000000
set_option maxHeartbeats 4000000
namespace Go.Proofs.YtdnefddmghhgpaaGreatDoor
open AM Go
noncomputable section
theorem Ctr45 : checkL env [] [Ctm44] 10000 [] Ctm45 = true := by kernel_rfl
theorem Ctr46 : checkK env [Ctm24] [Ctm45] 10000 [] Ctm46 = true := by kernel_rfl
theorem Ctr47 : checkK env [Ctm46] [] 10000 [] Ctm47 = true := by kernel_rfl
theorem Ctr48 : checkK env [] [] 10000 [] Ctm48 = true := by kernel_rfl
theorem Ctr49 : checkK env [] [] 10000 [] Ctm49 = true := by kernel_rfl
theorem Ctr50 : checkK env [] [] 10000 [] Ctm50 = true := by kernel_rfl
theorem Ctr51 : checkK env [] [] 10000 [] Ctm51 = true := by kernel_rfl
theorem Ctr52 : checkK env [] [] 10000 [1219,1220,1221,1222,1223,1224] Ctm52 = true := by kernel_rfl
end
end Go.Proofs.YtdnefddmghhgpaaGreatDoor
