import Derived.Test.YtdnefddmghhgpaaGreatDoorDcR0
import Derived.Test.YtdnefddmghhgpaaGreatDoorDcR1
import Derived.Test.YtdnefddmghhgpaaGreatDoorDcR2
import Derived.Test.YtdnefddmghhgpaaGreatDoorDcR3
import Derived.Test.YtdnefddmghhgpaaGreatDoorDcR4
import Derived.Test.YtdnefddmghhgpaaGreatDoorDcR5
import Derived.Test.YtdnefddmghhgpaaGreatDoorDcR6
import Derived.Test.YtdnefddmghhgpaaGreatDoorDcR7
import Derived.Test.YtdnefddmghhgpaaGreatDoorDcR8
set_option maxRecDepth 1000000
set_option maxHeartbeats 4000000
namespace Go.Proofs.YtdnefddmghhgpaaGreatDoor
open AM Go
noncomputable section
theorem Dck0 : MemoOk Tryz.prog Tryz.prog.globals.size Dcm0 := known MemosOk.nil LoopsOk.nil (fn := c309) (by kernel_rfl) Dcr0
theorem Dck1 : LoopOk Tryz.prog Tryz.prog.globals.size Dcm1 := knownL MemosOk.nil LoopsOk.nil Dcr1
theorem Dck2 : LoopOk Tryz.prog Tryz.prog.globals.size Dcm2 := knownL MemosOk.nil (LoopsOk.cons Dck1 LoopsOk.nil) Dcr2
theorem Dck3 : LoopOk Tryz.prog Tryz.prog.globals.size Dcm3 := knownL MemosOk.nil (LoopsOk.cons Dck2 LoopsOk.nil) Dcr3
theorem Dck4 : LoopOk Tryz.prog Tryz.prog.globals.size Dcm4 := knownL MemosOk.nil (LoopsOk.cons Dck3 LoopsOk.nil) Dcr4
theorem Dck5 : LoopOk Tryz.prog Tryz.prog.globals.size Dcm5 := knownL MemosOk.nil (LoopsOk.cons Dck4 LoopsOk.nil) Dcr5
theorem Dck6 : LoopOk Tryz.prog Tryz.prog.globals.size Dcm6 := knownL MemosOk.nil LoopsOk.nil Dcr6
theorem Dck7 : MemoOk Tryz.prog Tryz.prog.globals.size Dcm7 := known MemosOk.nil LoopsOk.nil (fn := c32) (by kernel_rfl) Dcr7
theorem Dck8 : MemoOk Tryz.prog Tryz.prog.globals.size Dcm8 := known MemosOk.nil LoopsOk.nil (fn := c127) (by kernel_rfl) Dcr8
theorem Dck9 : MemoOk Tryz.prog Tryz.prog.globals.size Dcm9 := known (MemosOk.cons Dck0 (MemosOk.cons Dck7 (MemosOk.cons Dck8 MemosOk.nil))) (LoopsOk.cons Dck5 (LoopsOk.cons Dck6 LoopsOk.nil)) (fn := c30) (by kernel_rfl) Dcr9
theorem Dck10 : MemoOk Tryz.prog Tryz.prog.globals.size Dcm10 := known MemosOk.nil LoopsOk.nil (fn := c309) (by kernel_rfl) Dcr10
theorem Dck11 : LoopOk Tryz.prog Tryz.prog.globals.size Dcm11 := knownL MemosOk.nil LoopsOk.nil Dcr11
theorem Dck12 : LoopOk Tryz.prog Tryz.prog.globals.size Dcm12 := knownL MemosOk.nil (LoopsOk.cons Dck11 LoopsOk.nil) Dcr12
theorem Dck13 : LoopOk Tryz.prog Tryz.prog.globals.size Dcm13 := knownL MemosOk.nil (LoopsOk.cons Dck12 LoopsOk.nil) Dcr13
theorem Dck14 : LoopOk Tryz.prog Tryz.prog.globals.size Dcm14 := knownL MemosOk.nil (LoopsOk.cons Dck13 LoopsOk.nil) Dcr14
theorem Dck15 : LoopOk Tryz.prog Tryz.prog.globals.size Dcm15 := knownL MemosOk.nil (LoopsOk.cons Dck14 LoopsOk.nil) Dcr15
theorem Dck16 : LoopOk Tryz.prog Tryz.prog.globals.size Dcm16 := knownL MemosOk.nil LoopsOk.nil Dcr16
theorem Dck17 : MemoOk Tryz.prog Tryz.prog.globals.size Dcm17 := known (MemosOk.cons Dck10 MemosOk.nil) (LoopsOk.cons Dck15 (LoopsOk.cons Dck16 LoopsOk.nil)) (fn := c31) (by kernel_rfl) Dcr17
theorem Dck18 : MemoOk Tryz.prog Tryz.prog.globals.size Dcm18 := known MemosOk.nil LoopsOk.nil (fn := c32) (by kernel_rfl) Dcr18
theorem Dck19 : MemoOk Tryz.prog Tryz.prog.globals.size Dcm19 := known MemosOk.nil LoopsOk.nil (fn := c32) (by kernel_rfl) Dcr19
theorem Dck20 : MemoOk Tryz.prog Tryz.prog.globals.size Dcm20 := known MemosOk.nil LoopsOk.nil (fn := c32) (by kernel_rfl) Dcr20
theorem Dck21 : LoopOk Tryz.prog Tryz.prog.globals.size Dcm21 := knownL MemosOk.nil LoopsOk.nil Dcr21
theorem Dck22 : LoopOk Tryz.prog Tryz.prog.globals.size Dcm22 := knownL MemosOk.nil (LoopsOk.cons Dck21 LoopsOk.nil) Dcr22
theorem Dck23 : MemoOk Tryz.prog Tryz.prog.globals.size Dcm23 := known MemosOk.nil (LoopsOk.cons Dck22 LoopsOk.nil) (fn := c307) (by kernel_rfl) Dcr23
theorem Dck24 : MemoOk Tryz.prog Tryz.prog.globals.size Dcm24 := known (MemosOk.cons Dck23 MemosOk.nil) LoopsOk.nil (fn := c130) (by kernel_rfl) Dcr24
theorem Dck25 : MemoOk Tryz.prog Tryz.prog.globals.size Dcm25 := known (MemosOk.cons Dck24 MemosOk.nil) LoopsOk.nil (fn := c32) (by kernel_rfl) Dcr25
theorem Dck26 : LoopOk Tryz.prog Tryz.prog.globals.size Dcm26 := knownL MemosOk.nil LoopsOk.nil Dcr26
theorem Dck27 : LoopOk Tryz.prog Tryz.prog.globals.size Dcm27 := knownL MemosOk.nil (LoopsOk.cons Dck26 LoopsOk.nil) Dcr27
theorem Dck28 : MemoOk Tryz.prog Tryz.prog.globals.size Dcm28 := known MemosOk.nil LoopsOk.nil (fn := c34) (by kernel_rfl) Dcr28
theorem Dck29 : LoopOk Tryz.prog Tryz.prog.globals.size Dcm29 := knownL MemosOk.nil LoopsOk.nil Dcr29
theorem Dck30 : LoopOk Tryz.prog Tryz.prog.globals.size Dcm30 := knownL MemosOk.nil (LoopsOk.cons Dck29 LoopsOk.nil) Dcr30
theorem Dck31 : LoopOk Tryz.prog Tryz.prog.globals.size Dcm31 := knownL MemosOk.nil (LoopsOk.cons Dck30 LoopsOk.nil) Dcr31
theorem Dck32 : LoopOk Tryz.prog Tryz.prog.globals.size Dcm32 := knownL MemosOk.nil (LoopsOk.cons Dck31 LoopsOk.nil) Dcr32
theorem Dck33 : LoopOk Tryz.prog Tryz.prog.globals.size Dcm33 := knownL MemosOk.nil (LoopsOk.cons Dck32 LoopsOk.nil) Dcr33
theorem Dck34 : LoopOk Tryz.prog Tryz.prog.globals.size Dcm34 := knownL MemosOk.nil (LoopsOk.cons Dck33 LoopsOk.nil) Dcr34
theorem Dck35 : LoopOk Tryz.prog Tryz.prog.globals.size Dcm35 := knownL MemosOk.nil (LoopsOk.cons Dck34 LoopsOk.nil) Dcr35
theorem Dck36 : LoopOk Tryz.prog Tryz.prog.globals.size Dcm36 := knownL MemosOk.nil (LoopsOk.cons Dck35 LoopsOk.nil) Dcr36
theorem Dck37 : LoopOk Tryz.prog Tryz.prog.globals.size Dcm37 := knownL MemosOk.nil (LoopsOk.cons Dck36 LoopsOk.nil) Dcr37
theorem Dck38 : LoopOk Tryz.prog Tryz.prog.globals.size Dcm38 := knownL MemosOk.nil (LoopsOk.cons Dck37 LoopsOk.nil) Dcr38
theorem Dck39 : LoopOk Tryz.prog Tryz.prog.globals.size Dcm39 := knownL MemosOk.nil (LoopsOk.cons Dck38 LoopsOk.nil) Dcr39
theorem Dck40 : LoopOk Tryz.prog Tryz.prog.globals.size Dcm40 := knownL MemosOk.nil (LoopsOk.cons Dck39 LoopsOk.nil) Dcr40
theorem Dck41 : LoopOk Tryz.prog Tryz.prog.globals.size Dcm41 := knownL MemosOk.nil (LoopsOk.cons Dck40 LoopsOk.nil) Dcr41
theorem Dck42 : LoopOk Tryz.prog Tryz.prog.globals.size Dcm42 := knownL MemosOk.nil (LoopsOk.cons Dck41 LoopsOk.nil) Dcr42
theorem Dck43 : LoopOk Tryz.prog Tryz.prog.globals.size Dcm43 := knownL MemosOk.nil (LoopsOk.cons Dck42 LoopsOk.nil) Dcr43
theorem Dck44 : LoopOk Tryz.prog Tryz.prog.globals.size Dcm44 := knownL MemosOk.nil (LoopsOk.cons Dck43 LoopsOk.nil) Dcr44
theorem Dck45 : LoopOk Tryz.prog Tryz.prog.globals.size Dcm45 := knownL MemosOk.nil (LoopsOk.cons Dck44 LoopsOk.nil) Dcr45
theorem Dck46 : LoopOk Tryz.prog Tryz.prog.globals.size Dcm46 := knownL MemosOk.nil (LoopsOk.cons Dck45 LoopsOk.nil) Dcr46
theorem Dck47 : LoopOk Tryz.prog Tryz.prog.globals.size Dcm47 := knownL MemosOk.nil (LoopsOk.cons Dck46 LoopsOk.nil) Dcr47
theorem Dck48 : LoopOk Tryz.prog Tryz.prog.globals.size Dcm48 := knownL MemosOk.nil (LoopsOk.cons Dck47 LoopsOk.nil) Dcr48
theorem Dck49 : LoopOk Tryz.prog Tryz.prog.globals.size Dcm49 := knownL MemosOk.nil (LoopsOk.cons Dck48 LoopsOk.nil) Dcr49
theorem Dck50 : LoopOk Tryz.prog Tryz.prog.globals.size Dcm50 := knownL MemosOk.nil (LoopsOk.cons Dck49 LoopsOk.nil) Dcr50
theorem Dck51 : LoopOk Tryz.prog Tryz.prog.globals.size Dcm51 := knownL MemosOk.nil (LoopsOk.cons Dck50 LoopsOk.nil) Dcr51
theorem Dck52 : LoopOk Tryz.prog Tryz.prog.globals.size Dcm52 := knownL MemosOk.nil (LoopsOk.cons Dck51 LoopsOk.nil) Dcr52
theorem Dck53 : LoopOk Tryz.prog Tryz.prog.globals.size Dcm53 := knownL MemosOk.nil (LoopsOk.cons Dck52 LoopsOk.nil) Dcr53
theorem Dck54 : LoopOk Tryz.prog Tryz.prog.globals.size Dcm54 := knownL MemosOk.nil (LoopsOk.cons Dck53 LoopsOk.nil) Dcr54
theorem Dck55 : LoopOk Tryz.prog Tryz.prog.globals.size Dcm55 := knownL MemosOk.nil (LoopsOk.cons Dck54 LoopsOk.nil) Dcr55
theorem Dck56 : LoopOk Tryz.prog Tryz.prog.globals.size Dcm56 := knownL MemosOk.nil (LoopsOk.cons Dck55 LoopsOk.nil) Dcr56
theorem Dck57 : MemoOk Tryz.prog Tryz.prog.globals.size Dcm57 := known MemosOk.nil (LoopsOk.cons Dck56 LoopsOk.nil) (fn := c129) (by kernel_rfl) Dcr57
theorem Dck58 : MemoOk Tryz.prog Tryz.prog.globals.size Dcm58 := known MemosOk.nil LoopsOk.nil (fn := c132) (by kernel_rfl) Dcr58
theorem Dck59 : MemoOk Tryz.prog Tryz.prog.globals.size Dcm59 := known (MemosOk.cons Dck58 MemosOk.nil) LoopsOk.nil (fn := c36) (by kernel_rfl) Dcr59
theorem Dck60 : MemoOk Tryz.prog Tryz.prog.globals.size Dcm60 := known (MemosOk.cons Dck9 (MemosOk.cons Dck17 (MemosOk.cons Dck18 (MemosOk.cons Dck19 (MemosOk.cons Dck20 (MemosOk.cons Dck25 (MemosOk.cons Dck28 (MemosOk.cons Dck57 (MemosOk.cons Dck59 MemosOk.nil))))))))) (LoopsOk.cons Dck27 LoopsOk.nil) (fn := c5) (by kernel_rfl) Dcr60
end
end Go.Proofs.YtdnefddmghhgpaaGreatDoor
