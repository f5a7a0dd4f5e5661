import Derived.Test.YtdnefddmghhgpaaGreatDoorCaS1
set_option maxRecDepth 1000000
set_option maxHeartbeats 4000000
namespace Go.Proofs.YtdnefddmghhgpaaGreatDoor
open AM Go
noncomputable section
theorem Car54 : checkL Caenv [] [Cam53] 10000 Cam54 = true := by kernel_rfl
theorem Car55 : checkM Caenv [] [Cam54] 10000 Cam55 = true := by kernel_rfl
theorem Car56 : checkM Caenv [] [] 10000 Cam56 = true := by kernel_rfl
theorem Car57 : checkM Caenv [Cam18,Cam19,Cam55,Cam56] [Cam36,Cam37] 10000 Cam57 = true := by kernel_rfl
end
end Go.Proofs.YtdnefddmghhgpaaGreatDoor
