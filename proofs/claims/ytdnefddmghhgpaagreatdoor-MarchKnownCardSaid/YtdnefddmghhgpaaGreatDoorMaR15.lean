import Derived.Test.YtdnefddmghhgpaaGreatDoorMaS2
set_option maxRecDepth 1000000
set_option maxHeartbeats 4000000
namespace Go.Proofs.YtdnefddmghhgpaaGreatDoor
open AM Go
noncomputable section
theorem Mar294 : checkK env [Mam172,Mam293] [] 10000 [] Mam294 = true := by kernel_rfl
theorem Mar295 : checkK env [] [] 10000 [] Mam295 = true := by kernel_rfl
theorem Mar296 : checkK env [] [] 10000 [] Mam296 = true := by kernel_rfl
theorem Mar297 : checkK env [Mam25,Mam42,Mam43,Mam44,Mam45,Mam47,Mam48,Mam50,Mam171,Mam294,Mam295,Mam296] [] 10000 [] Mam297 = true := by kernel_rfl
end
end Go.Proofs.YtdnefddmghhgpaaGreatDoor
