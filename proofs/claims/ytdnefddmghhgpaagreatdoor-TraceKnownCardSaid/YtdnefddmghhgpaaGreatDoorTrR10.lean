import Derived.Test.YtdnefddmghhgpaaGreatDoorTrS1
set_option maxRecDepth 1000000
set_option maxHeartbeats 4000000
namespace Go.Proofs.YtdnefddmghhgpaaGreatDoor
open AM Go
noncomputable section
theorem Trr52 : checkK env [Trm30] [Trm51] 10000 [] Trm52 = true := by kernel_rfl
theorem Trr53 : checkK env [Trm52] [] 10000 [] Trm53 = true := by kernel_rfl
theorem Trr54 : checkK env [] [] 10000 [] Trm54 = true := by kernel_rfl
theorem Trr55 : checkK env [] [] 10000 [] Trm55 = true := by kernel_rfl
theorem Trr56 : checkK env [] [] 10000 [1374,1375,1376,1377,1378,1379] Trm56 = true := by kernel_rfl
theorem Trr57 : checkK env [] [] 10000 [1386,1387,1388,1389,1390,1391] Trm57 = true := by kernel_rfl
theorem Trr58 : checkK env [Trm56,Trm57] [] 10000 [] Trm58 = true := by kernel_rfl
end
end Go.Proofs.YtdnefddmghhgpaaGreatDoor
