import Derived.Test.YtlgmpheammbacaaGreatDoorAwR0
import Derived.Test.YtlgmpheammbacaaGreatDoorAwR1
set_option maxRecDepth 1000000
set_option maxHeartbeats 4000000
namespace Go.Proofs.YtlgmpheammbacaaGreatDoor
open AM Go
noncomputable section
theorem Awk0 : LoopOk Tryz.prog Tryz.prog.globals.size Awm0 := knownL MemosOk.nil LoopsOk.nil Awr0
theorem Awk1 : LoopOk Tryz.prog Tryz.prog.globals.size Awm1 := knownL MemosOk.nil (LoopsOk.cons Awk0 LoopsOk.nil) Awr1
theorem Awk2 : LoopOk Tryz.prog Tryz.prog.globals.size Awm2 := knownL MemosOk.nil (LoopsOk.cons Awk1 LoopsOk.nil) Awr2
theorem Awk3 : LoopOk Tryz.prog Tryz.prog.globals.size Awm3 := knownL MemosOk.nil (LoopsOk.cons Awk2 LoopsOk.nil) Awr3
theorem Awk4 : LoopOk Tryz.prog Tryz.prog.globals.size Awm4 := knownL MemosOk.nil (LoopsOk.cons Awk3 LoopsOk.nil) Awr4
theorem Awk5 : LoopOk Tryz.prog Tryz.prog.globals.size Awm5 := knownL MemosOk.nil (LoopsOk.cons Awk4 LoopsOk.nil) Awr5
theorem Awk6 : LoopOk Tryz.prog Tryz.prog.globals.size Awm6 := knownL MemosOk.nil (LoopsOk.cons Awk5 LoopsOk.nil) Awr6
theorem Awk7 : LoopOk Tryz.prog Tryz.prog.globals.size Awm7 := knownL MemosOk.nil (LoopsOk.cons Awk6 LoopsOk.nil) Awr7
theorem Awk8 : LoopOk Tryz.prog Tryz.prog.globals.size Awm8 := knownL MemosOk.nil (LoopsOk.cons Awk7 LoopsOk.nil) Awr8
theorem Awk9 : LoopOk Tryz.prog Tryz.prog.globals.size Awm9 := knownL MemosOk.nil (LoopsOk.cons Awk8 LoopsOk.nil) Awr9
theorem Awk10 : LoopOk Tryz.prog Tryz.prog.globals.size Awm10 := knownL MemosOk.nil (LoopsOk.cons Awk9 LoopsOk.nil) Awr10
theorem Awk11 : LoopOk Tryz.prog Tryz.prog.globals.size Awm11 := knownL MemosOk.nil (LoopsOk.cons Awk10 LoopsOk.nil) Awr11
theorem Awk12 : LoopOk Tryz.prog Tryz.prog.globals.size Awm12 := knownL MemosOk.nil (LoopsOk.cons Awk11 LoopsOk.nil) Awr12
theorem Awk13 : LoopOk Tryz.prog Tryz.prog.globals.size Awm13 := knownL MemosOk.nil (LoopsOk.cons Awk12 LoopsOk.nil) Awr13
theorem Awk14 : LoopOk Tryz.prog Tryz.prog.globals.size Awm14 := knownL MemosOk.nil (LoopsOk.cons Awk13 LoopsOk.nil) Awr14
theorem Awk15 : MemoOk Tryz.prog Tryz.prog.globals.size Awm15 := known MemosOk.nil (LoopsOk.cons Awk14 LoopsOk.nil) (fn := c203) (by kernel_rfl) Awr15
theorem Awk16 : MemoOk Tryz.prog Tryz.prog.globals.size Awm16 := known (MemosOk.cons Awk15 MemosOk.nil) LoopsOk.nil (fn := c23) (by kernel_rfl) Awr16
end
end Go.Proofs.YtlgmpheammbacaaGreatDoor
