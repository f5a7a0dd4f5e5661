import Derived.Test.YtdnefddmghhgpaaGreatDoorMaS2
set_option maxRecDepth 1000000
set_option maxHeartbeats 4000000
namespace Go.Proofs.YtdnefddmghhgpaaGreatDoor
open AM Go
noncomputable section
theorem Mar43 : checkK env [] [] 10000 [] Mam43 = true := by kernel_rfl
theorem Mar44 : checkK env [] [] 10000 [] Mam44 = true := by kernel_rfl
theorem Mar45 : checkK env [] [] 10000 [] Mam45 = true := by kernel_rfl
theorem Mar46 : checkK env [] [] 10000 [1322] Mam46 = true := by kernel_rfl
theorem Mar47 : checkK env [Mam46] [] 10000 [] Mam47 = true := by kernel_rfl
theorem Mar48 : checkK env [] [] 10000 [] Mam48 = true := by kernel_rfl
theorem Mar49 : checkK env [] [] 10000 [1399] Mam49 = true := by kernel_rfl
theorem Mar50 : checkK env [Mam49] [] 10000 [1398] Mam50 = true := by kernel_rfl
end
end Go.Proofs.YtdnefddmghhgpaaGreatDoor
