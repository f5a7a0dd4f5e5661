import Derived.Test.YtdnefddmghhgpaaGreatDoorArS0
set_option maxRecDepth 1000000
set_option maxHeartbeats 4000000
namespace Go.Proofs.YtdnefddmghhgpaaGreatDoor
open AM Go
theorem Arr0 : checkM env [] 10000 Arm0 = true := by kernel_rfl
theorem Ark0 : MemoOk Tryz.prog Tryz.prog.globals.size Arm0 := known MemosOk.nil (fn := c371) (by kernel_rfl) Arr0
theorem Arr1 : checkM env [] 10000 Arm1 = true := by kernel_rfl
theorem Ark1 : MemoOk Tryz.prog Tryz.prog.globals.size Arm1 := known MemosOk.nil (fn := c306) (by kernel_rfl) Arr1
theorem Arr2 : checkM env [] 10000 Arm2 = true := by kernel_rfl
theorem Ark2 : MemoOk Tryz.prog Tryz.prog.globals.size Arm2 := known MemosOk.nil (fn := c367) (by kernel_rfl) Arr2
theorem Arr3 : checkM env [Arm0,Arm1,Arm2] 10000 Arm3 = true := by kernel_rfl
theorem Ark3 : MemoOk Tryz.prog Tryz.prog.globals.size Arm3 := known (MemosOk.cons Ark0 (MemosOk.cons Ark1 (MemosOk.cons Ark2 MemosOk.nil))) (fn := c307) (by kernel_rfl) Arr3
theorem Arr4 : checkM env [Arm3] 10000 Arm4 = true := by kernel_rfl
theorem Ark4 : MemoOk Tryz.prog Tryz.prog.globals.size Arm4 := known (MemosOk.cons Ark3 MemosOk.nil) (fn := c11) (by kernel_rfl) Arr4
theorem Arr5 : checkM env [] 10000 Arm5 = true := by kernel_rfl
theorem Ark5 : MemoOk Tryz.prog Tryz.prog.globals.size Arm5 := known MemosOk.nil (fn := c371) (by kernel_rfl) Arr5
theorem Arr6 : checkM env [] 10000 Arm6 = true := by kernel_rfl
theorem Ark6 : MemoOk Tryz.prog Tryz.prog.globals.size Arm6 := known MemosOk.nil (fn := c306) (by kernel_rfl) Arr6
theorem Arr7 : checkM env [] 10000 Arm7 = true := by kernel_rfl
theorem Ark7 : MemoOk Tryz.prog Tryz.prog.globals.size Arm7 := known MemosOk.nil (fn := c367) (by kernel_rfl) Arr7
theorem Arr8 : checkM env [Arm5,Arm6,Arm7] 10000 Arm8 = true := by kernel_rfl
theorem Ark8 : MemoOk Tryz.prog Tryz.prog.globals.size Arm8 := known (MemosOk.cons Ark5 (MemosOk.cons Ark6 (MemosOk.cons Ark7 MemosOk.nil))) (fn := c307) (by kernel_rfl) Arr8
theorem Arr9 : checkM env [] 10000 Arm9 = true := by kernel_rfl
theorem Ark9 : MemoOk Tryz.prog Tryz.prog.globals.size Arm9 := known MemosOk.nil (fn := c14) (by kernel_rfl) Arr9
theorem Arr10 : checkM env [] 10000 Arm10 = true := by kernel_rfl
theorem Ark10 : MemoOk Tryz.prog Tryz.prog.globals.size Arm10 := known MemosOk.nil (fn := c14) (by kernel_rfl) Arr10
theorem Arr11 : checkM env [] 10000 Arm11 = true := by kernel_rfl
theorem Ark11 : MemoOk Tryz.prog Tryz.prog.globals.size Arm11 := known MemosOk.nil (fn := c367) (by kernel_rfl) Arr11
theorem Arr12 : checkM env [Arm11] 10000 Arm12 = true := by kernel_rfl
theorem Ark12 : MemoOk Tryz.prog Tryz.prog.globals.size Arm12 := known (MemosOk.cons Ark11 MemosOk.nil) (fn := c307) (by kernel_rfl) Arr12
theorem Arr13 : checkM env [] 10000 Arm13 = true := by kernel_rfl
theorem Ark13 : MemoOk Tryz.prog Tryz.prog.globals.size Arm13 := known MemosOk.nil (fn := c329) (by kernel_rfl) Arr13
theorem Arr14 : checkM env [Arm13] 10000 Arm14 = true := by kernel_rfl
theorem Ark14 : MemoOk Tryz.prog Tryz.prog.globals.size Arm14 := known (MemosOk.cons Ark13 MemosOk.nil) (fn := c110) (by kernel_rfl) Arr14
theorem Arr15 : checkM env [] 10000 Arm15 = true := by kernel_rfl
theorem Ark15 : MemoOk Tryz.prog Tryz.prog.globals.size Arm15 := known MemosOk.nil (fn := c14) (by kernel_rfl) Arr15
theorem Arr16 : checkM env [] 10000 Arm16 = true := by kernel_rfl
theorem Ark16 : MemoOk Tryz.prog Tryz.prog.globals.size Arm16 := known MemosOk.nil (fn := c329) (by kernel_rfl) Arr16
theorem Arr17 : checkM env [Arm16] 10000 Arm17 = true := by kernel_rfl
theorem Ark17 : MemoOk Tryz.prog Tryz.prog.globals.size Arm17 := known (MemosOk.cons Ark16 MemosOk.nil) (fn := c110) (by kernel_rfl) Arr17
theorem Arr18 : checkM env [Arm4,Arm8,Arm9,Arm10,Arm12,Arm14,Arm15,Arm17] 10000 Arm18 = true := by kernel_rfl
theorem Ark18 : MemoOk Tryz.prog Tryz.prog.globals.size Arm18 := known (MemosOk.cons Ark4 (MemosOk.cons Ark8 (MemosOk.cons Ark9 (MemosOk.cons Ark10 (MemosOk.cons Ark12 (MemosOk.cons Ark14 (MemosOk.cons Ark15 (MemosOk.cons Ark17 MemosOk.nil)))))))) (fn := c3) (by kernel_rfl) Arr18
end Go.Proofs.YtdnefddmghhgpaaGreatDoor
