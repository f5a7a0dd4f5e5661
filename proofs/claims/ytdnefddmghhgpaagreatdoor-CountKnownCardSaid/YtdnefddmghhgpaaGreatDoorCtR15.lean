import Derived.Test.YtdnefddmghhgpaaGreatDoorCtS1
set_option maxRecDepth 1000000
set_option maxHeartbeats 4000000
namespace Go.Proofs.YtdnefddmghhgpaaGreatDoor
open AM Go
noncomputable section
theorem Ctr79 : checkK env [Ctm78] [] 10000 [] Ctm79 = true := by kernel_rfl
theorem Ctr80 : checkK env [] [] 10000 [] Ctm80 = true := by kernel_rfl
theorem Ctr81 : checkK env [Ctm80] [] 10000 [] Ctm81 = true := by kernel_rfl
theorem Ctr82 : checkK env [Ctm23,Ctm47,Ctm48,Ctm49,Ctm50,Ctm51,Ctm52,Ctm54,Ctm56,Ctm79,Ctm81] [] 10000 [] Ctm82 = true := by kernel_rfl
end
end Go.Proofs.YtdnefddmghhgpaaGreatDoor
