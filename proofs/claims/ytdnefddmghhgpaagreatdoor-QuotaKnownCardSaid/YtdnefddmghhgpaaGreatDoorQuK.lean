import Derived.Test.YtdnefddmghhgpaaGreatDoorQuR0
import Derived.Test.YtdnefddmghhgpaaGreatDoorQuR1
import Derived.Test.YtdnefddmghhgpaaGreatDoorQuR2
import Derived.Test.YtdnefddmghhgpaaGreatDoorQuR3
import Derived.Test.YtdnefddmghhgpaaGreatDoorQuR4
import Derived.Test.YtdnefddmghhgpaaGreatDoorQuR5
import Derived.Test.YtdnefddmghhgpaaGreatDoorQuR6
import Derived.Test.YtdnefddmghhgpaaGreatDoorQuR7
import Derived.Test.YtdnefddmghhgpaaGreatDoorQuR8
set_option maxRecDepth 1000000
set_option maxHeartbeats 4000000
namespace Go.Proofs.YtdnefddmghhgpaaGreatDoor
open AM Go
noncomputable section
theorem Quk0 : MemoOk Tryz.prog gsz Qum0 := known MemosOk.nil LoopsOk.nil (fn := c371) (by kernel_rfl) Qur0
theorem Quk1 : MemoOk Tryz.prog gsz Qum1 := known MemosOk.nil LoopsOk.nil (fn := c306) (by kernel_rfl) Qur1
theorem Quk2 : LoopOk Tryz.prog gsz Qum2 := knownL MemosOk.nil LoopsOk.nil Qur2
theorem Quk3 : LoopOk Tryz.prog gsz Qum3 := knownL MemosOk.nil (LoopsOk.cons Quk2 LoopsOk.nil) Qur3
theorem Quk4 : LoopOk Tryz.prog gsz Qum4 := knownL MemosOk.nil (LoopsOk.cons Quk3 LoopsOk.nil) Qur4
theorem Quk5 : LoopOk Tryz.prog gsz Qum5 := knownL MemosOk.nil (LoopsOk.cons Quk4 LoopsOk.nil) Qur5
theorem Quk6 : LoopOk Tryz.prog gsz Qum6 := knownL MemosOk.nil (LoopsOk.cons Quk5 LoopsOk.nil) Qur6
theorem Quk7 : MemoOk Tryz.prog gsz Qum7 := known (MemosOk.cons Quk0 (MemosOk.cons Quk1 MemosOk.nil)) (LoopsOk.cons Quk6 LoopsOk.nil) (fn := c307) (by kernel_rfl) Qur7
theorem Quk8 : MemoOk Tryz.prog gsz Qum8 := known (MemosOk.cons Quk7 MemosOk.nil) LoopsOk.nil (fn := c92) (by kernel_rfl) Qur8
theorem Quk9 : MemoOk Tryz.prog gsz Qum9 := known MemosOk.nil LoopsOk.nil (fn := c95) (by kernel_rfl) Qur9
theorem Quk10 : MemoOk Tryz.prog gsz Qum10 := known MemosOk.nil LoopsOk.nil (fn := c371) (by kernel_rfl) Qur10
theorem Quk11 : MemoOk Tryz.prog gsz Qum11 := known MemosOk.nil LoopsOk.nil (fn := c306) (by kernel_rfl) Qur11
theorem Quk12 : LoopOk Tryz.prog gsz Qum12 := knownL MemosOk.nil LoopsOk.nil Qur12
theorem Quk13 : LoopOk Tryz.prog gsz Qum13 := knownL MemosOk.nil (LoopsOk.cons Quk12 LoopsOk.nil) Qur13
theorem Quk14 : LoopOk Tryz.prog gsz Qum14 := knownL MemosOk.nil (LoopsOk.cons Quk13 LoopsOk.nil) Qur14
theorem Quk15 : LoopOk Tryz.prog gsz Qum15 := knownL MemosOk.nil (LoopsOk.cons Quk14 LoopsOk.nil) Qur15
theorem Quk16 : LoopOk Tryz.prog gsz Qum16 := knownL MemosOk.nil (LoopsOk.cons Quk15 LoopsOk.nil) Qur16
theorem Quk17 : MemoOk Tryz.prog gsz Qum17 := known (MemosOk.cons Quk10 (MemosOk.cons Quk11 MemosOk.nil)) (LoopsOk.cons Quk16 LoopsOk.nil) (fn := c307) (by kernel_rfl) Qur17
theorem Quk18 : LoopOk Tryz.prog gsz Qum18 := knownL MemosOk.nil LoopsOk.nil Qur18
theorem Quk19 : LoopOk Tryz.prog gsz Qum19 := knownL MemosOk.nil (LoopsOk.cons Quk18 LoopsOk.nil) Qur19
theorem Quk20 : LoopOk Tryz.prog gsz Qum20 := knownL MemosOk.nil (LoopsOk.cons Quk19 LoopsOk.nil) Qur20
theorem Quk21 : LoopOk Tryz.prog gsz Qum21 := knownL MemosOk.nil (LoopsOk.cons Quk20 LoopsOk.nil) Qur21
theorem Quk22 : LoopOk Tryz.prog gsz Qum22 := knownL MemosOk.nil (LoopsOk.cons Quk21 LoopsOk.nil) Qur22
theorem Quk23 : LoopOk Tryz.prog gsz Qum23 := knownL MemosOk.nil (LoopsOk.cons Quk22 LoopsOk.nil) Qur23
theorem Quk24 : LoopOk Tryz.prog gsz Qum24 := knownL MemosOk.nil (LoopsOk.cons Quk23 LoopsOk.nil) Qur24
theorem Quk25 : LoopOk Tryz.prog gsz Qum25 := knownL MemosOk.nil (LoopsOk.cons Quk24 LoopsOk.nil) Qur25
theorem Quk26 : LoopOk Tryz.prog gsz Qum26 := knownL MemosOk.nil (LoopsOk.cons Quk25 LoopsOk.nil) Qur26
theorem Quk27 : LoopOk Tryz.prog gsz Qum27 := knownL MemosOk.nil (LoopsOk.cons Quk26 LoopsOk.nil) Qur27
theorem Quk28 : MemoOk Tryz.prog gsz Qum28 := known MemosOk.nil (LoopsOk.cons Quk27 LoopsOk.nil) (fn := c367) (by kernel_rfl) Qur28
theorem Quk29 : MemoOk Tryz.prog gsz Qum29 := known (MemosOk.cons Quk28 MemosOk.nil) LoopsOk.nil (fn := c307) (by kernel_rfl) Qur29
theorem Quk30 : MemoOk Tryz.prog gsz Qum30 := known MemosOk.nil LoopsOk.nil (fn := c329) (by kernel_rfl) Qur30
theorem Quk31 : MemoOk Tryz.prog gsz Qum31 := known (MemosOk.cons Quk30 MemosOk.nil) LoopsOk.nil (fn := c197) (by kernel_rfl) Qur31
theorem Quk32 : LoopOk Tryz.prog gsz Qum32 := knownL MemosOk.nil LoopsOk.nil Qur32
theorem Quk33 : LoopOk Tryz.prog gsz Qum33 := knownL MemosOk.nil (LoopsOk.cons Quk32 LoopsOk.nil) Qur33
theorem Quk34 : LoopOk Tryz.prog gsz Qum34 := knownL MemosOk.nil (LoopsOk.cons Quk33 LoopsOk.nil) Qur34
theorem Quk35 : LoopOk Tryz.prog gsz Qum35 := knownL MemosOk.nil (LoopsOk.cons Quk34 LoopsOk.nil) Qur35
theorem Quk36 : LoopOk Tryz.prog gsz Qum36 := knownL MemosOk.nil (LoopsOk.cons Quk35 LoopsOk.nil) Qur36
theorem Quk37 : LoopOk Tryz.prog gsz Qum37 := knownL MemosOk.nil (LoopsOk.cons Quk36 LoopsOk.nil) Qur37
theorem Quk38 : LoopOk Tryz.prog gsz Qum38 := knownL MemosOk.nil (LoopsOk.cons Quk37 LoopsOk.nil) Qur38
theorem Quk39 : LoopOk Tryz.prog gsz Qum39 := knownL MemosOk.nil (LoopsOk.cons Quk38 LoopsOk.nil) Qur39
theorem Quk40 : LoopOk Tryz.prog gsz Qum40 := knownL MemosOk.nil (LoopsOk.cons Quk39 LoopsOk.nil) Qur40
theorem Quk41 : LoopOk Tryz.prog gsz Qum41 := knownL MemosOk.nil (LoopsOk.cons Quk40 LoopsOk.nil) Qur41
theorem Quk42 : MemoOk Tryz.prog gsz Qum42 := known MemosOk.nil (LoopsOk.cons Quk41 LoopsOk.nil) (fn := c367) (by kernel_rfl) Qur42
theorem Quk43 : MemoOk Tryz.prog gsz Qum43 := known (MemosOk.cons Quk42 MemosOk.nil) LoopsOk.nil (fn := c307) (by kernel_rfl) Qur43
theorem Quk44 : MemoOk Tryz.prog gsz Qum44 := known (MemosOk.cons Quk43 MemosOk.nil) LoopsOk.nil (fn := c100) (by kernel_rfl) Qur44
theorem Quk45 : MemoOk Tryz.prog gsz Qum45 := known MemosOk.nil LoopsOk.nil (fn := c329) (by kernel_rfl) Qur45
theorem Quk46 : MemoOk Tryz.prog gsz Qum46 := known (MemosOk.cons Quk45 MemosOk.nil) LoopsOk.nil (fn := c103) (by kernel_rfl) Qur46
theorem Quk47 : MemoOk Tryz.prog gsz Qum47 := known (MemosOk.cons Quk8 (MemosOk.cons Quk9 (MemosOk.cons Quk17 (MemosOk.cons Quk29 (MemosOk.cons Quk31 (MemosOk.cons Quk44 (MemosOk.cons Quk46 MemosOk.nil))))))) LoopsOk.nil (fn := c10) (by kernel_rfl) Qur47
end
end Go.Proofs.YtdnefddmghhgpaaGreatDoor
