import Derived.Test.YtdnefddmghhgpaaGreatDoorTrR0
import Derived.Test.YtdnefddmghhgpaaGreatDoorTrR1
import Derived.Test.YtdnefddmghhgpaaGreatDoorTrR2
import Derived.Test.YtdnefddmghhgpaaGreatDoorTrR3
import Derived.Test.YtdnefddmghhgpaaGreatDoorTrR4
import Derived.Test.YtdnefddmghhgpaaGreatDoorTrR5
import Derived.Test.YtdnefddmghhgpaaGreatDoorTrR6
import Derived.Test.YtdnefddmghhgpaaGreatDoorTrR7
import Derived.Test.YtdnefddmghhgpaaGreatDoorTrR8
import Derived.Test.YtdnefddmghhgpaaGreatDoorTrR9
import Derived.Test.YtdnefddmghhgpaaGreatDoorTrR10
import Derived.Test.YtdnefddmghhgpaaGreatDoorTrR11
import Derived.Test.YtdnefddmghhgpaaGreatDoorTrR12
set_option maxRecDepth 1000000
set_option maxHeartbeats 4000000
namespace Go.Proofs.YtdnefddmghhgpaaGreatDoor
open AM Go
noncomputable section
theorem Trk0 : MemoOk Tryz.prog Tryz.prog.globals.size Trm0 := known MemosOk.nil LoopsOk.nil (fn := c309) (by kernel_rfl) Trr0
theorem Trk1 : LoopOk Tryz.prog Tryz.prog.globals.size Trm1 := knownL MemosOk.nil LoopsOk.nil Trr1
theorem Trk2 : LoopOk Tryz.prog Tryz.prog.globals.size Trm2 := knownL MemosOk.nil (LoopsOk.cons Trk1 LoopsOk.nil) Trr2
theorem Trk3 : LoopOk Tryz.prog Tryz.prog.globals.size Trm3 := knownL MemosOk.nil (LoopsOk.cons Trk2 LoopsOk.nil) Trr3
theorem Trk4 : LoopOk Tryz.prog Tryz.prog.globals.size Trm4 := knownL MemosOk.nil (LoopsOk.cons Trk3 LoopsOk.nil) Trr4
theorem Trk5 : LoopOk Tryz.prog Tryz.prog.globals.size Trm5 := knownL MemosOk.nil (LoopsOk.cons Trk4 LoopsOk.nil) Trr5
theorem Trk6 : LoopOk Tryz.prog Tryz.prog.globals.size Trm6 := knownL MemosOk.nil (LoopsOk.cons Trk5 LoopsOk.nil) Trr6
theorem Trk7 : LoopOk Tryz.prog Tryz.prog.globals.size Trm7 := knownL MemosOk.nil (LoopsOk.cons Trk6 LoopsOk.nil) Trr7
theorem Trk8 : LoopOk Tryz.prog Tryz.prog.globals.size Trm8 := knownL MemosOk.nil (LoopsOk.cons Trk7 LoopsOk.nil) Trr8
theorem Trk9 : LoopOk Tryz.prog Tryz.prog.globals.size Trm9 := knownL MemosOk.nil (LoopsOk.cons Trk8 LoopsOk.nil) Trr9
theorem Trk10 : LoopOk Tryz.prog Tryz.prog.globals.size Trm10 := knownL MemosOk.nil (LoopsOk.cons Trk9 LoopsOk.nil) Trr10
theorem Trk11 : LoopOk Tryz.prog Tryz.prog.globals.size Trm11 := knownL MemosOk.nil (LoopsOk.cons Trk10 LoopsOk.nil) Trr11
theorem Trk12 : LoopOk Tryz.prog Tryz.prog.globals.size Trm12 := knownL MemosOk.nil (LoopsOk.cons Trk11 LoopsOk.nil) Trr12
theorem Trk13 : LoopOk Tryz.prog Tryz.prog.globals.size Trm13 := knownL MemosOk.nil (LoopsOk.cons Trk12 LoopsOk.nil) Trr13
theorem Trk14 : LoopOk Tryz.prog Tryz.prog.globals.size Trm14 := knownL MemosOk.nil (LoopsOk.cons Trk13 LoopsOk.nil) Trr14
theorem Trk15 : LoopOk Tryz.prog Tryz.prog.globals.size Trm15 := knownL MemosOk.nil (LoopsOk.cons Trk14 LoopsOk.nil) Trr15
theorem Trk16 : LoopOk Tryz.prog Tryz.prog.globals.size Trm16 := knownL MemosOk.nil (LoopsOk.cons Trk15 LoopsOk.nil) Trr16
theorem Trk17 : LoopOk Tryz.prog Tryz.prog.globals.size Trm17 := knownL MemosOk.nil (LoopsOk.cons Trk16 LoopsOk.nil) Trr17
theorem Trk18 : LoopOk Tryz.prog Tryz.prog.globals.size Trm18 := knownL MemosOk.nil (LoopsOk.cons Trk17 LoopsOk.nil) Trr18
theorem Trk19 : LoopOk Tryz.prog Tryz.prog.globals.size Trm19 := knownL MemosOk.nil (LoopsOk.cons Trk18 LoopsOk.nil) Trr19
theorem Trk20 : LoopOk Tryz.prog Tryz.prog.globals.size Trm20 := knownL MemosOk.nil (LoopsOk.cons Trk19 LoopsOk.nil) Trr20
theorem Trk21 : LoopOk Tryz.prog Tryz.prog.globals.size Trm21 := knownL MemosOk.nil (LoopsOk.cons Trk20 LoopsOk.nil) Trr21
theorem Trk22 : MemoOk Tryz.prog Tryz.prog.globals.size Trm22 := known (MemosOk.cons Trk0 MemosOk.nil) (LoopsOk.cons Trk21 LoopsOk.nil) (fn := c307) (by kernel_rfl) Trr22
theorem Trk23 : MemoOk Tryz.prog Tryz.prog.globals.size Trm23 := known MemosOk.nil LoopsOk.nil (fn := c162) (by kernel_rfl) Trr23
theorem Trk24 : MemoOk Tryz.prog Tryz.prog.globals.size Trm24 := known MemosOk.nil LoopsOk.nil (fn := c162) (by kernel_rfl) Trr24
theorem Trk25 : MemoOk Tryz.prog Tryz.prog.globals.size Trm25 := known MemosOk.nil LoopsOk.nil (fn := c79) (by kernel_rfl) Trr25
theorem Trk26 : MemoOk Tryz.prog Tryz.prog.globals.size Trm26 := known MemosOk.nil LoopsOk.nil (fn := c79) (by kernel_rfl) Trr26
theorem Trk27 : MemoOk Tryz.prog Tryz.prog.globals.size Trm27 := known (MemosOk.cons Trk25 (MemosOk.cons Trk26 MemosOk.nil)) LoopsOk.nil (fn := c75) (by kernel_rfl) Trr27
theorem Trk28 : MemoOk Tryz.prog Tryz.prog.globals.size Trm28 := known MemosOk.nil LoopsOk.nil (fn := c79) (by kernel_rfl) Trr28
theorem Trk29 : MemoOk Tryz.prog Tryz.prog.globals.size Trm29 := known (MemosOk.cons Trk22 (MemosOk.cons Trk23 (MemosOk.cons Trk24 (MemosOk.cons Trk27 (MemosOk.cons Trk28 MemosOk.nil))))) LoopsOk.nil (fn := c65) (by kernel_rfl) Trr29
theorem Trk30 : MemoOk Tryz.prog Tryz.prog.globals.size Trm30 := known MemosOk.nil LoopsOk.nil (fn := c309) (by kernel_rfl) Trr30
theorem Trk31 : LoopOk Tryz.prog Tryz.prog.globals.size Trm31 := knownL MemosOk.nil LoopsOk.nil Trr31
theorem Trk32 : LoopOk Tryz.prog Tryz.prog.globals.size Trm32 := knownL MemosOk.nil (LoopsOk.cons Trk31 LoopsOk.nil) Trr32
theorem Trk33 : LoopOk Tryz.prog Tryz.prog.globals.size Trm33 := knownL MemosOk.nil (LoopsOk.cons Trk32 LoopsOk.nil) Trr33
theorem Trk34 : LoopOk Tryz.prog Tryz.prog.globals.size Trm34 := knownL MemosOk.nil (LoopsOk.cons Trk33 LoopsOk.nil) Trr34
theorem Trk35 : LoopOk Tryz.prog Tryz.prog.globals.size Trm35 := knownL MemosOk.nil (LoopsOk.cons Trk34 LoopsOk.nil) Trr35
theorem Trk36 : LoopOk Tryz.prog Tryz.prog.globals.size Trm36 := knownL MemosOk.nil (LoopsOk.cons Trk35 LoopsOk.nil) Trr36
theorem Trk37 : LoopOk Tryz.prog Tryz.prog.globals.size Trm37 := knownL MemosOk.nil (LoopsOk.cons Trk36 LoopsOk.nil) Trr37
theorem Trk38 : LoopOk Tryz.prog Tryz.prog.globals.size Trm38 := knownL MemosOk.nil (LoopsOk.cons Trk37 LoopsOk.nil) Trr38
theorem Trk39 : LoopOk Tryz.prog Tryz.prog.globals.size Trm39 := knownL MemosOk.nil (LoopsOk.cons Trk38 LoopsOk.nil) Trr39
theorem Trk40 : LoopOk Tryz.prog Tryz.prog.globals.size Trm40 := knownL MemosOk.nil (LoopsOk.cons Trk39 LoopsOk.nil) Trr40
theorem Trk41 : LoopOk Tryz.prog Tryz.prog.globals.size Trm41 := knownL MemosOk.nil (LoopsOk.cons Trk40 LoopsOk.nil) Trr41
theorem Trk42 : LoopOk Tryz.prog Tryz.prog.globals.size Trm42 := knownL MemosOk.nil (LoopsOk.cons Trk41 LoopsOk.nil) Trr42
theorem Trk43 : LoopOk Tryz.prog Tryz.prog.globals.size Trm43 := knownL MemosOk.nil (LoopsOk.cons Trk42 LoopsOk.nil) Trr43
theorem Trk44 : LoopOk Tryz.prog Tryz.prog.globals.size Trm44 := knownL MemosOk.nil (LoopsOk.cons Trk43 LoopsOk.nil) Trr44
theorem Trk45 : LoopOk Tryz.prog Tryz.prog.globals.size Trm45 := knownL MemosOk.nil (LoopsOk.cons Trk44 LoopsOk.nil) Trr45
theorem Trk46 : LoopOk Tryz.prog Tryz.prog.globals.size Trm46 := knownL MemosOk.nil (LoopsOk.cons Trk45 LoopsOk.nil) Trr46
theorem Trk47 : LoopOk Tryz.prog Tryz.prog.globals.size Trm47 := knownL MemosOk.nil (LoopsOk.cons Trk46 LoopsOk.nil) Trr47
theorem Trk48 : LoopOk Tryz.prog Tryz.prog.globals.size Trm48 := knownL MemosOk.nil (LoopsOk.cons Trk47 LoopsOk.nil) Trr48
theorem Trk49 : LoopOk Tryz.prog Tryz.prog.globals.size Trm49 := knownL MemosOk.nil (LoopsOk.cons Trk48 LoopsOk.nil) Trr49
theorem Trk50 : LoopOk Tryz.prog Tryz.prog.globals.size Trm50 := knownL MemosOk.nil (LoopsOk.cons Trk49 LoopsOk.nil) Trr50
theorem Trk51 : LoopOk Tryz.prog Tryz.prog.globals.size Trm51 := knownL MemosOk.nil (LoopsOk.cons Trk50 LoopsOk.nil) Trr51
theorem Trk52 : MemoOk Tryz.prog Tryz.prog.globals.size Trm52 := known (MemosOk.cons Trk30 MemosOk.nil) (LoopsOk.cons Trk51 LoopsOk.nil) (fn := c307) (by kernel_rfl) Trr52
theorem Trk53 : MemoOk Tryz.prog Tryz.prog.globals.size Trm53 := known (MemosOk.cons Trk52 MemosOk.nil) LoopsOk.nil (fn := c66) (by kernel_rfl) Trr53
theorem Trk54 : MemoOk Tryz.prog Tryz.prog.globals.size Trm54 := known MemosOk.nil LoopsOk.nil (fn := c162) (by kernel_rfl) Trr54
theorem Trk55 : MemoOk Tryz.prog Tryz.prog.globals.size Trm55 := known MemosOk.nil LoopsOk.nil (fn := c162) (by kernel_rfl) Trr55
theorem Trk56 : MemoOk Tryz.prog Tryz.prog.globals.size Trm56 := known MemosOk.nil LoopsOk.nil (fn := c79) (by kernel_rfl) Trr56
theorem Trk57 : MemoOk Tryz.prog Tryz.prog.globals.size Trm57 := known MemosOk.nil LoopsOk.nil (fn := c79) (by kernel_rfl) Trr57
theorem Trk58 : MemoOk Tryz.prog Tryz.prog.globals.size Trm58 := known (MemosOk.cons Trk56 (MemosOk.cons Trk57 MemosOk.nil)) LoopsOk.nil (fn := c75) (by kernel_rfl) Trr58
theorem Trk59 : MemoOk Tryz.prog Tryz.prog.globals.size Trm59 := known MemosOk.nil LoopsOk.nil (fn := c162) (by kernel_rfl) Trr59
theorem Trk60 : MemoOk Tryz.prog Tryz.prog.globals.size Trm60 := known MemosOk.nil LoopsOk.nil (fn := c79) (by kernel_rfl) Trr60
theorem Trk61 : MemoOk Tryz.prog Tryz.prog.globals.size Trm61 := known MemosOk.nil LoopsOk.nil (fn := c79) (by kernel_rfl) Trr61
theorem Trk62 : MemoOk Tryz.prog Tryz.prog.globals.size Trm62 := known (MemosOk.cons Trk60 (MemosOk.cons Trk61 MemosOk.nil)) LoopsOk.nil (fn := c75) (by kernel_rfl) Trr62
theorem Trk63 : MemoOk Tryz.prog Tryz.prog.globals.size Trm63 := known MemosOk.nil LoopsOk.nil (fn := c79) (by kernel_rfl) Trr63
theorem Trk64 : MemoOk Tryz.prog Tryz.prog.globals.size Trm64 := known MemosOk.nil LoopsOk.nil (fn := c79) (by kernel_rfl) Trr64
theorem Trk65 : MemoOk Tryz.prog Tryz.prog.globals.size Trm65 := known MemosOk.nil LoopsOk.nil (fn := c275) (by kernel_rfl) Trr65
theorem Trk66 : MemoOk Tryz.prog Tryz.prog.globals.size Trm66 := known (MemosOk.cons Trk63 (MemosOk.cons Trk64 (MemosOk.cons Trk65 MemosOk.nil))) LoopsOk.nil (fn := c75) (by kernel_rfl) Trr66
theorem Trk67 : MemoOk Tryz.prog Tryz.prog.globals.size Trm67 := known (MemosOk.cons Trk29 (MemosOk.cons Trk53 (MemosOk.cons Trk54 (MemosOk.cons Trk55 (MemosOk.cons Trk58 (MemosOk.cons Trk59 (MemosOk.cons Trk62 (MemosOk.cons Trk66 MemosOk.nil)))))))) LoopsOk.nil (fn := c8) (by kernel_rfl) Trr67
end
end Go.Proofs.YtdnefddmghhgpaaGreatDoor
