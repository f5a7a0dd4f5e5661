import Derived.Test.YtdnefddmghhgpaaGreatDoorDcS1
set_option maxRecDepth 1000000
set_option maxHeartbeats 4000000
namespace Go.Proofs.YtdnefddmghhgpaaGreatDoor
open AM Go
noncomputable section
theorem Dcr55 : checkL env [] [Dcm54] 10000 [] Dcm55 = true := by kernel_rfl
theorem Dcr56 : checkL env [] [Dcm55] 10000 [] Dcm56 = true := by kernel_rfl
theorem Dcr57 : checkK env [] [Dcm56] 10000 [] Dcm57 = true := by kernel_rfl
theorem Dcr58 : checkK env [] [] 10000 [] Dcm58 = true := by kernel_rfl
theorem Dcr59 : checkK env [Dcm58] [] 10000 [] Dcm59 = true := by kernel_rfl
theorem Dcr60 : checkK env [Dcm9,Dcm17,Dcm18,Dcm19,Dcm20,Dcm25,Dcm28,Dcm57,Dcm59] [Dcm27] 10000 [] Dcm60 = true := by kernel_rfl
end
end Go.Proofs.YtdnefddmghhgpaaGreatDoor
