import Derived.Test.YtdnefddmghhgpaaGreatDoorGuS2
set_option maxRecDepth 1000000
set_option maxHeartbeats 4000000
namespace Go.Proofs.YtdnefddmghhgpaaGreatDoor
open AM Go
noncomputable section
theorem Gur200 : checkL env [] [Gum199] 10000 [] Gum200 = true := by kernel_rfl
theorem Gur201 : checkK env [] [] 10000 [] Gum201 = true := by kernel_rfl
theorem Gur202 : checkK env [Gum23,Gum24,Gum26,Gum27,Gum29,Gum33,Gum201] [Gum200] 10000 [] Gum202 = true := by kernel_rfl
theorem Gur203 : checkK env [Gum9,Gum16,Gum18,Gum20,Gum22,Gum202] [] 10000 [] Gum203 = true := by kernel_rfl
end
end Go.Proofs.YtdnefddmghhgpaaGreatDoor
