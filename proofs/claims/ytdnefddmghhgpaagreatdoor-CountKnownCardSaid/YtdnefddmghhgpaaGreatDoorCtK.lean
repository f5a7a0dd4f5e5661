import Derived.Test.YtdnefddmghhgpaaGreatDoorCtR0
import Derived.Test.YtdnefddmghhgpaaGreatDoorCtR1
import Derived.Test.YtdnefddmghhgpaaGreatDoorCtR2
import Derived.Test.YtdnefddmghhgpaaGreatDoorCtR3
import Derived.Test.YtdnefddmghhgpaaGreatDoorCtR4
import Derived.Test.YtdnefddmghhgpaaGreatDoorCtR5
import Derived.Test.YtdnefddmghhgpaaGreatDoorCtR6
import Derived.Test.YtdnefddmghhgpaaGreatDoorCtR7
import Derived.Test.YtdnefddmghhgpaaGreatDoorCtR8
import Derived.Test.YtdnefddmghhgpaaGreatDoorCtR9
import Derived.Test.YtdnefddmghhgpaaGreatDoorCtR10
import Derived.Test.YtdnefddmghhgpaaGreatDoorCtR11
import Derived.Test.YtdnefddmghhgpaaGreatDoorCtR12
import Derived.Test.YtdnefddmghhgpaaGreatDoorCtR13
import Derived.Test.YtdnefddmghhgpaaGreatDoorCtR14
import Derived.Test.YtdnefddmghhgpaaGreatDoorCtR15
set_option maxRecDepth 1000000
set_option maxHeartbeats 4000000
namespace Go.Proofs.YtdnefddmghhgpaaGreatDoor
open AM Go
noncomputable section
theorem Ctk0 : MemoOk Tryz.prog gsz Ctm0 := known MemosOk.nil LoopsOk.nil (fn := c309) (by kernel_rfl) Ctr0
theorem Ctk1 : LoopOk Tryz.prog gsz Ctm1 := knownL MemosOk.nil LoopsOk.nil Ctr1
theorem Ctk2 : LoopOk Tryz.prog gsz Ctm2 := knownL MemosOk.nil (LoopsOk.cons Ctk1 LoopsOk.nil) Ctr2
theorem Ctk3 : LoopOk Tryz.prog gsz Ctm3 := knownL MemosOk.nil (LoopsOk.cons Ctk2 LoopsOk.nil) Ctr3
theorem Ctk4 : LoopOk Tryz.prog gsz Ctm4 := knownL MemosOk.nil (LoopsOk.cons Ctk3 LoopsOk.nil) Ctr4
theorem Ctk5 : LoopOk Tryz.prog gsz Ctm5 := knownL MemosOk.nil (LoopsOk.cons Ctk4 LoopsOk.nil) Ctr5
theorem Ctk6 : LoopOk Tryz.prog gsz Ctm6 := knownL MemosOk.nil (LoopsOk.cons Ctk5 LoopsOk.nil) Ctr6
theorem Ctk7 : LoopOk Tryz.prog gsz Ctm7 := knownL MemosOk.nil (LoopsOk.cons Ctk6 LoopsOk.nil) Ctr7
theorem Ctk8 : LoopOk Tryz.prog gsz Ctm8 := knownL MemosOk.nil (LoopsOk.cons Ctk7 LoopsOk.nil) Ctr8
theorem Ctk9 : LoopOk Tryz.prog gsz Ctm9 := knownL MemosOk.nil (LoopsOk.cons Ctk8 LoopsOk.nil) Ctr9
theorem Ctk10 : LoopOk Tryz.prog gsz Ctm10 := knownL MemosOk.nil (LoopsOk.cons Ctk9 LoopsOk.nil) Ctr10
theorem Ctk11 : LoopOk Tryz.prog gsz Ctm11 := knownL MemosOk.nil (LoopsOk.cons Ctk10 LoopsOk.nil) Ctr11
theorem Ctk12 : LoopOk Tryz.prog gsz Ctm12 := knownL MemosOk.nil (LoopsOk.cons Ctk11 LoopsOk.nil) Ctr12
theorem Ctk13 : LoopOk Tryz.prog gsz Ctm13 := knownL MemosOk.nil (LoopsOk.cons Ctk12 LoopsOk.nil) Ctr13
theorem Ctk14 : LoopOk Tryz.prog gsz Ctm14 := knownL MemosOk.nil (LoopsOk.cons Ctk13 LoopsOk.nil) Ctr14
theorem Ctk15 : LoopOk Tryz.prog gsz Ctm15 := knownL MemosOk.nil (LoopsOk.cons Ctk14 LoopsOk.nil) Ctr15
theorem Ctk16 : LoopOk Tryz.prog gsz Ctm16 := knownL MemosOk.nil (LoopsOk.cons Ctk15 LoopsOk.nil) Ctr16
theorem Ctk17 : LoopOk Tryz.prog gsz Ctm17 := knownL MemosOk.nil (LoopsOk.cons Ctk16 LoopsOk.nil) Ctr17
theorem Ctk18 : LoopOk Tryz.prog gsz Ctm18 := knownL MemosOk.nil (LoopsOk.cons Ctk17 LoopsOk.nil) Ctr18
theorem Ctk19 : LoopOk Tryz.prog gsz Ctm19 := knownL MemosOk.nil (LoopsOk.cons Ctk18 LoopsOk.nil) Ctr19
theorem Ctk20 : LoopOk Tryz.prog gsz Ctm20 := knownL MemosOk.nil (LoopsOk.cons Ctk19 LoopsOk.nil) Ctr20
theorem Ctk21 : LoopOk Tryz.prog gsz Ctm21 := knownL MemosOk.nil (LoopsOk.cons Ctk20 LoopsOk.nil) Ctr21
theorem Ctk22 : MemoOk Tryz.prog gsz Ctm22 := known (MemosOk.cons Ctk0 MemosOk.nil) (LoopsOk.cons Ctk21 LoopsOk.nil) (fn := c307) (by kernel_rfl) Ctr22
theorem Ctk23 : MemoOk Tryz.prog gsz Ctm23 := known (MemosOk.cons Ctk22 MemosOk.nil) LoopsOk.nil (fn := c80) (by kernel_rfl) Ctr23
theorem Ctk24 : MemoOk Tryz.prog gsz Ctm24 := known MemosOk.nil LoopsOk.nil (fn := c309) (by kernel_rfl) Ctr24
theorem Ctk25 : LoopOk Tryz.prog gsz Ctm25 := knownL MemosOk.nil LoopsOk.nil Ctr25
theorem Ctk26 : LoopOk Tryz.prog gsz Ctm26 := knownL MemosOk.nil (LoopsOk.cons Ctk25 LoopsOk.nil) Ctr26
theorem Ctk27 : LoopOk Tryz.prog gsz Ctm27 := knownL MemosOk.nil (LoopsOk.cons Ctk26 LoopsOk.nil) Ctr27
theorem Ctk28 : LoopOk Tryz.prog gsz Ctm28 := knownL MemosOk.nil (LoopsOk.cons Ctk27 LoopsOk.nil) Ctr28
theorem Ctk29 : LoopOk Tryz.prog gsz Ctm29 := knownL MemosOk.nil (LoopsOk.cons Ctk28 LoopsOk.nil) Ctr29
theorem Ctk30 : LoopOk Tryz.prog gsz Ctm30 := knownL MemosOk.nil (LoopsOk.cons Ctk29 LoopsOk.nil) Ctr30
theorem Ctk31 : LoopOk Tryz.prog gsz Ctm31 := knownL MemosOk.nil (LoopsOk.cons Ctk30 LoopsOk.nil) Ctr31
theorem Ctk32 : LoopOk Tryz.prog gsz Ctm32 := knownL MemosOk.nil (LoopsOk.cons Ctk31 LoopsOk.nil) Ctr32
theorem Ctk33 : LoopOk Tryz.prog gsz Ctm33 := knownL MemosOk.nil (LoopsOk.cons Ctk32 LoopsOk.nil) Ctr33
theorem Ctk34 : LoopOk Tryz.prog gsz Ctm34 := knownL MemosOk.nil (LoopsOk.cons Ctk33 LoopsOk.nil) Ctr34
theorem Ctk35 : LoopOk Tryz.prog gsz Ctm35 := knownL MemosOk.nil (LoopsOk.cons Ctk34 LoopsOk.nil) Ctr35
theorem Ctk36 : LoopOk Tryz.prog gsz Ctm36 := knownL MemosOk.nil (LoopsOk.cons Ctk35 LoopsOk.nil) Ctr36
theorem Ctk37 : LoopOk Tryz.prog gsz Ctm37 := knownL MemosOk.nil (LoopsOk.cons Ctk36 LoopsOk.nil) Ctr37
theorem Ctk38 : LoopOk Tryz.prog gsz Ctm38 := knownL MemosOk.nil (LoopsOk.cons Ctk37 LoopsOk.nil) Ctr38
theorem Ctk39 : LoopOk Tryz.prog gsz Ctm39 := knownL MemosOk.nil (LoopsOk.cons Ctk38 LoopsOk.nil) Ctr39
theorem Ctk40 : LoopOk Tryz.prog gsz Ctm40 := knownL MemosOk.nil (LoopsOk.cons Ctk39 LoopsOk.nil) Ctr40
theorem Ctk41 : LoopOk Tryz.prog gsz Ctm41 := knownL MemosOk.nil (LoopsOk.cons Ctk40 LoopsOk.nil) Ctr41
theorem Ctk42 : LoopOk Tryz.prog gsz Ctm42 := knownL MemosOk.nil (LoopsOk.cons Ctk41 LoopsOk.nil) Ctr42
theorem Ctk43 : LoopOk Tryz.prog gsz Ctm43 := knownL MemosOk.nil (LoopsOk.cons Ctk42 LoopsOk.nil) Ctr43
theorem Ctk44 : LoopOk Tryz.prog gsz Ctm44 := knownL MemosOk.nil (LoopsOk.cons Ctk43 LoopsOk.nil) Ctr44
theorem Ctk45 : LoopOk Tryz.prog gsz Ctm45 := knownL MemosOk.nil (LoopsOk.cons Ctk44 LoopsOk.nil) Ctr45
theorem Ctk46 : MemoOk Tryz.prog gsz Ctm46 := known (MemosOk.cons Ctk24 MemosOk.nil) (LoopsOk.cons Ctk45 LoopsOk.nil) (fn := c307) (by kernel_rfl) Ctr46
theorem Ctk47 : MemoOk Tryz.prog gsz Ctm47 := known (MemosOk.cons Ctk46 MemosOk.nil) LoopsOk.nil (fn := c82) (by kernel_rfl) Ctr47
theorem Ctk48 : MemoOk Tryz.prog gsz Ctm48 := known MemosOk.nil LoopsOk.nil (fn := c162) (by kernel_rfl) Ctr48
theorem Ctk49 : MemoOk Tryz.prog gsz Ctm49 := known MemosOk.nil LoopsOk.nil (fn := c162) (by kernel_rfl) Ctr49
theorem Ctk50 : MemoOk Tryz.prog gsz Ctm50 := known MemosOk.nil LoopsOk.nil (fn := c84) (by kernel_rfl) Ctr50
theorem Ctk51 : MemoOk Tryz.prog gsz Ctm51 := known MemosOk.nil LoopsOk.nil (fn := c84) (by kernel_rfl) Ctr51
theorem Ctk52 : MemoOk Tryz.prog gsz Ctm52 := known MemosOk.nil LoopsOk.nil (fn := c177) (by kernel_rfl) Ctr52
theorem Ctk53 : LoopOk Tryz.prog gsz Ctm53 := knownL MemosOk.nil LoopsOk.nil Ctr53
theorem Ctk54 : MemoOk Tryz.prog gsz Ctm54 := known MemosOk.nil (LoopsOk.cons Ctk53 LoopsOk.nil) (fn := c84) (by kernel_rfl) Ctr54
theorem Ctk55 : MemoOk Tryz.prog gsz Ctm55 := known MemosOk.nil LoopsOk.nil (fn := c275) (by kernel_rfl) Ctr55
theorem Ctk56 : MemoOk Tryz.prog gsz Ctm56 := known (MemosOk.cons Ctk55 MemosOk.nil) LoopsOk.nil (fn := c90) (by kernel_rfl) Ctr56
theorem Ctk57 : LoopOk Tryz.prog gsz Ctm57 := knownL MemosOk.nil LoopsOk.nil Ctr57
theorem Ctk58 : LoopOk Tryz.prog gsz Ctm58 := knownL MemosOk.nil (LoopsOk.cons Ctk57 LoopsOk.nil) Ctr58
theorem Ctk59 : LoopOk Tryz.prog gsz Ctm59 := knownL MemosOk.nil (LoopsOk.cons Ctk58 LoopsOk.nil) Ctr59
theorem Ctk60 : LoopOk Tryz.prog gsz Ctm60 := knownL MemosOk.nil (LoopsOk.cons Ctk59 LoopsOk.nil) Ctr60
theorem Ctk61 : LoopOk Tryz.prog gsz Ctm61 := knownL MemosOk.nil (LoopsOk.cons Ctk60 LoopsOk.nil) Ctr61
theorem Ctk62 : LoopOk Tryz.prog gsz Ctm62 := knownL MemosOk.nil (LoopsOk.cons Ctk61 LoopsOk.nil) Ctr62
theorem Ctk63 : LoopOk Tryz.prog gsz Ctm63 := knownL MemosOk.nil (LoopsOk.cons Ctk62 LoopsOk.nil) Ctr63
theorem Ctk64 : LoopOk Tryz.prog gsz Ctm64 := knownL MemosOk.nil (LoopsOk.cons Ctk63 LoopsOk.nil) Ctr64
theorem Ctk65 : LoopOk Tryz.prog gsz Ctm65 := knownL MemosOk.nil (LoopsOk.cons Ctk64 LoopsOk.nil) Ctr65
theorem Ctk66 : LoopOk Tryz.prog gsz Ctm66 := knownL MemosOk.nil (LoopsOk.cons Ctk65 LoopsOk.nil) Ctr66
theorem Ctk67 : LoopOk Tryz.prog gsz Ctm67 := knownL MemosOk.nil (LoopsOk.cons Ctk66 LoopsOk.nil) Ctr67
theorem Ctk68 : LoopOk Tryz.prog gsz Ctm68 := knownL MemosOk.nil (LoopsOk.cons Ctk67 LoopsOk.nil) Ctr68
theorem Ctk69 : LoopOk Tryz.prog gsz Ctm69 := knownL MemosOk.nil (LoopsOk.cons Ctk68 LoopsOk.nil) Ctr69
theorem Ctk70 : LoopOk Tryz.prog gsz Ctm70 := knownL MemosOk.nil (LoopsOk.cons Ctk69 LoopsOk.nil) Ctr70
theorem Ctk71 : LoopOk Tryz.prog gsz Ctm71 := knownL MemosOk.nil (LoopsOk.cons Ctk70 LoopsOk.nil) Ctr71
theorem Ctk72 : LoopOk Tryz.prog gsz Ctm72 := knownL MemosOk.nil (LoopsOk.cons Ctk71 LoopsOk.nil) Ctr72
theorem Ctk73 : LoopOk Tryz.prog gsz Ctm73 := knownL MemosOk.nil (LoopsOk.cons Ctk72 LoopsOk.nil) Ctr73
theorem Ctk74 : LoopOk Tryz.prog gsz Ctm74 := knownL MemosOk.nil (LoopsOk.cons Ctk73 LoopsOk.nil) Ctr74
theorem Ctk75 : LoopOk Tryz.prog gsz Ctm75 := knownL MemosOk.nil (LoopsOk.cons Ctk74 LoopsOk.nil) Ctr75
theorem Ctk76 : LoopOk Tryz.prog gsz Ctm76 := knownL MemosOk.nil (LoopsOk.cons Ctk75 LoopsOk.nil) Ctr76
theorem Ctk77 : LoopOk Tryz.prog gsz Ctm77 := knownL MemosOk.nil (LoopsOk.cons Ctk76 LoopsOk.nil) Ctr77
theorem Ctk78 : MemoOk Tryz.prog gsz Ctm78 := known MemosOk.nil (LoopsOk.cons Ctk77 LoopsOk.nil) (fn := c307) (by kernel_rfl) Ctr78
theorem Ctk79 : MemoOk Tryz.prog gsz Ctm79 := known (MemosOk.cons Ctk78 MemosOk.nil) LoopsOk.nil (fn := c82) (by kernel_rfl) Ctr79
theorem Ctk80 : MemoOk Tryz.prog gsz Ctm80 := known MemosOk.nil LoopsOk.nil (fn := c275) (by kernel_rfl) Ctr80
theorem Ctk81 : MemoOk Tryz.prog gsz Ctm81 := known (MemosOk.cons Ctk80 MemosOk.nil) LoopsOk.nil (fn := c85) (by kernel_rfl) Ctr81
theorem Ctk82 : MemoOk Tryz.prog gsz Ctm82 := known (MemosOk.cons Ctk23 (MemosOk.cons Ctk47 (MemosOk.cons Ctk48 (MemosOk.cons Ctk49 (MemosOk.cons Ctk50 (MemosOk.cons Ctk51 (MemosOk.cons Ctk52 (MemosOk.cons Ctk54 (MemosOk.cons Ctk56 (MemosOk.cons Ctk79 (MemosOk.cons Ctk81 MemosOk.nil))))))))))) LoopsOk.nil (fn := c9) (by kernel_rfl) Ctr82
end
end Go.Proofs.YtdnefddmghhgpaaGreatDoor
