import Derived.Test.YtdnefddmghhgpaaGreatDoorTrS1
set_option maxRecDepth 1000000
set_option maxHeartbeats 4000000
namespace Go.Proofs.YtdnefddmghhgpaaGreatDoor
open AM Go
noncomputable section
theorem Trr59 : checkK env [] [] 10000 [] Trm59 = true := by kernel_rfl
theorem Trr60 : checkK env [] [] 10000 [1438,1439,1440,1441,1442,1443] Trm60 = true := by kernel_rfl
theorem Trr61 : checkK env [] [] 10000 [1471,1472,1473,1474,1475,1476] Trm61 = true := by kernel_rfl
theorem Trr62 : checkK env [Trm60,Trm61] [] 10000 [] Trm62 = true := by kernel_rfl
theorem Trr63 : checkK env [] [] 10000 [1510,1511,1512,1513] Trm63 = true := by kernel_rfl
theorem Trr64 : checkK env [] [] 10000 [1520,1521,1522,1523] Trm64 = true := by kernel_rfl
theorem Trr65 : checkK env [] [] 10000 [] Trm65 = true := by kernel_rfl
theorem Trr66 : checkK env [Trm63,Trm64,Trm65] [] 10000 [] Trm66 = true := by kernel_rfl
theorem Trr67 : checkK env [Trm29,Trm53,Trm54,Trm55,Trm58,Trm59,Trm62,Trm66] [] 10000 [] Trm67 = true := by kernel_rfl
end
end Go.Proofs.YtdnefddmghhgpaaGreatDoor
