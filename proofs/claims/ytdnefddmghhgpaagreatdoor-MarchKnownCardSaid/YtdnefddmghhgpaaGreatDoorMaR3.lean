import Derived.Test.YtdnefddmghhgpaaGreatDoorMaS2
set_option maxRecDepth 1000000
set_option maxHeartbeats 4000000
namespace Go.Proofs.YtdnefddmghhgpaaGreatDoor
open AM Go
noncomputable section
theorem Mar19 : checkK env [] [] 10000 [635] Mam19 = true := by kernel_rfl
theorem Mar20 : checkK env [Mam19] [] 10000 [] Mam20 = true := by kernel_rfl
theorem Mar21 : checkK env [] [] 10000 [664] Mam21 = true := by kernel_rfl
theorem Mar22 : checkK env [] [] 10000 [691] Mam22 = true := by kernel_rfl
theorem Mar23 : checkK env [Mam21,Mam22] [] 10000 [] Mam23 = true := by kernel_rfl
theorem Mar24 : checkK env [] [] 10000 [697,698,699,700] Mam24 = true := by kernel_rfl
theorem Mar25 : checkK env [Mam16,Mam17,Mam18,Mam20,Mam23,Mam24] [] 10000 [] Mam25 = true := by kernel_rfl
theorem Mar26 : checkK env [] [] 10000 [] Mam26 = true := by kernel_rfl
theorem Mar27 : checkL env [] [] 10000 [] Mam27 = true := by kernel_rfl
theorem Mar28 : checkL env [] [Mam27] 10000 [] Mam28 = true := by kernel_rfl
theorem Mar29 : checkL env [] [Mam28] 10000 [] Mam29 = true := by kernel_rfl
theorem Mar30 : checkL env [] [Mam29] 10000 [] Mam30 = true := by kernel_rfl
end
end Go.Proofs.YtdnefddmghhgpaaGreatDoor
