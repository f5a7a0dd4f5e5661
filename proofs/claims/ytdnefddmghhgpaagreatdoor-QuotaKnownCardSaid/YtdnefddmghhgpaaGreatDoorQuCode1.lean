import Derived.Test.YtdnefddmghhgpaaGreatDoorQuCode0
set_option maxRecDepth 1000000
set_option maxHeartbeats 4000000
set_option linter.unusedVariables false
namespace Go.Proofs.YtdnefddmghhgpaaGreatDoor
open AM Go
noncomputable section
-- sort.choosePivot_func
def c350 : AFunc := ⟨[.tmp 6,.tmp 7],(.seq (.region [⟨(some 3),.box 2 (.tmp 0),none⟩,⟨(some 6),.mv (.const (.int .i64 0)),none⟩,⟨(some 7),.mv (.const (.int .i64 0)),none⟩])
 (.seq (.region [⟨(some 13),.mv (.tmp 2),none⟩,⟨(some 14),.mv (.tmp 1),none⟩,⟨(some 15),.bin .sub (.tmp 13) (.tmp 14),none⟩,⟨(some 8),.mv (.tmp 15),none⟩])
 (.seq (.region [⟨(some 9),.alloc [(.int .i64 0)],none⟩])
 (.seq (.region [⟨(some 16),.mv (.tmp 1),none⟩,⟨(some 17),.mv (.tmp 8),none⟩,⟨(some 18),.bin .quo (.tmp 17) (.const (.int .i64 4)),none⟩,⟨(some 19),.bin .mul (.tmp 18) (.const (.int .i64 1)),none⟩,⟨(some 20),.bin .add (.tmp 16) (.tmp 19),none⟩,⟨(some 10),.mv (.tmp 20),none⟩])
 (.seq (.region [⟨(some 21),.mv (.tmp 1),none⟩,⟨(some 22),.mv (.tmp 8),none⟩,⟨(some 23),.bin .quo (.tmp 22) (.const (.int .i64 4)),none⟩,⟨(some 24),.bin .mul (.tmp 23) (.const (.int .i64 2)),none⟩,⟨(some 25),.bin .add (.tmp 21) (.tmp 24),none⟩,⟨(some 11),.mv (.tmp 25),none⟩])
 (.seq (.region [⟨(some 26),.mv (.tmp 1),none⟩,⟨(some 27),.mv (.tmp 8),none⟩,⟨(some 28),.bin .quo (.tmp 27) (.const (.int .i64 4)),none⟩,⟨(some 29),.bin .mul (.tmp 28) (.const (.int .i64 3)),none⟩,⟨(some 30),.bin .add (.tmp 26) (.tmp 29),none⟩,⟨(some 12),.mv (.tmp 30),none⟩])
 (.seq (.seq (.region [⟨(some 31),.mv (.tmp 8),none⟩,⟨(some 32),.bin .geq (.tmp 31) (.const (.int .i64 8)),none⟩])
 (.cond (.tmp 32) (.seq (.seq (.region [⟨(some 33),.mv (.tmp 8),none⟩,⟨(some 34),.bin .geq (.tmp 33) (.const (.int .i64 50)),none⟩])
 (.cond (.tmp 34) (.seq (.region [⟨(some 35),.load true 2 (.tmp 3),none⟩,⟨(some 36),.mv (.tmp 10),none⟩,⟨(some 37),.call 386 [(.tmp 35),(.tmp 36),(.tmp 9)],none⟩,⟨(some 10),.mv (.tmp 37),none⟩])
 (.seq (.region [⟨(some 38),.load true 2 (.tmp 3),none⟩,⟨(some 39),.mv (.tmp 11),none⟩,⟨(some 40),.call 386 [(.tmp 38),(.tmp 39),(.tmp 9)],none⟩,⟨(some 11),.mv (.tmp 40),none⟩])
 (.region [⟨(some 41),.load true 2 (.tmp 3),none⟩,⟨(some 42),.mv (.tmp 12),none⟩,⟨(some 43),.call 386 [(.tmp 41),(.tmp 42),(.tmp 9)],none⟩,⟨(some 12),.mv (.tmp 43),none⟩]))) .skip))
 (.region [⟨(some 44),.load true 2 (.tmp 3),none⟩,⟨(some 45),.mv (.tmp 10),none⟩,⟨(some 46),.mv (.tmp 11),none⟩,⟨(some 47),.mv (.tmp 12),none⟩,⟨(some 48),.call 387 [(.tmp 44),(.tmp 45),(.tmp 46),(.tmp 47),(.tmp 9)],none⟩,⟨(some 11),.mv (.tmp 48),none⟩])) .skip))
 (.seq (.region [⟨(some 49),.load false 1 (.tmp 9),none⟩])
 (.block 0 (.seq (.region [⟨(some 52),.bin .eql (.tmp 49) (.const (.int .i64 0)),none⟩,⟨(some 51),.mv (.tmp 52),none⟩])
 (.cond (.tmp 51) (.seq (.region [⟨(some 53),.mv (.tmp 11),none⟩,⟨(some 6),.mv (.tmp 53),none⟩,⟨(some 7),.mv (.const (.int .i64 1)),none⟩])
 .ret) (.seq (.region [⟨(some 55),.bin .eql (.tmp 49) (.const (.int .i64 12)),none⟩,⟨(some 54),.mv (.tmp 55),none⟩])
 (.cond (.tmp 54) (.seq (.region [⟨(some 56),.mv (.tmp 11),none⟩,⟨(some 6),.mv (.tmp 56),none⟩,⟨(some 7),.mv (.const (.int .i64 2)),none⟩])
 .ret) (.seq (.region [⟨(some 50),.mv (.tmp 11),none⟩,⟨(some 6),.mv (.tmp 50),none⟩,⟨(some 7),.mv (.const (.int .i64 0)),none⟩])
 .ret))))))))))))))⟩
theorem k350 : compFn Tryz.prog Tryz.f350 = some c350 := by kernel_rfl
-- sort.reverseRange_func
def c351 : AFunc := ⟨[],(.seq (.region [⟨(some 3),.box 2 (.tmp 0),none⟩])
 (.seq (.region [⟨(some 8),.mv (.tmp 1),none⟩,⟨(some 6),.mv (.tmp 8),none⟩])
 (.seq (.region [⟨(some 9),.mv (.tmp 2),none⟩,⟨(some 10),.bin .sub (.tmp 9) (.const (.int .i64 1)),none⟩,⟨(some 7),.mv (.tmp 10),none⟩])
 (.block 0 (.loop (.seq (.seq (.region [⟨(some 11),.mv (.tmp 6),none⟩,⟨(some 12),.mv (.tmp 7),none⟩,⟨(some 13),.bin .lss (.tmp 11) (.tmp 12),none⟩])
 (.cond (.tmp 13) .skip (.exit 0)))
 (.block 1 (.seq (.region [⟨(some 14),.faddr 1 (.tmp 3),none⟩,⟨(some 15),.load false 1 (.tmp 14),none⟩,⟨(some 16),.mv (.tmp 6),none⟩,⟨(some 17),.mv (.tmp 7),none⟩,⟨(some 18),.callv (.tmp 15) [(.tmp 16),(.tmp 17)],none⟩])
 (.seq (.region [⟨(some 19),.mv (.tmp 6),none⟩,⟨(some 20),.bin .add (.tmp 19) (.const (.int .i64 1)),none⟩,⟨(some 6),.mv (.tmp 20),none⟩])
 (.region [⟨(some 21),.mv (.tmp 7),none⟩,⟨(some 22),.bin .sub (.tmp 21) (.const (.int .i64 1)),none⟩,⟨(some 7),.mv (.tmp 22),none⟩]))))))))))⟩
theorem k351 : compFn Tryz.prog Tryz.f351 = some c351 := by kernel_rfl
-- sort.partialInsertionSort_func
def c352 : AFunc := ⟨[.tmp 6],(.seq (.region [⟨(some 3),.box 2 (.tmp 0),none⟩,⟨(some 6),.mv (.const (.bool false)),none⟩])
 (.seq (.region [⟨(some 11),.mv (.tmp 1),none⟩,⟨(some 12),.bin .add (.tmp 11) (.const (.int .i64 1)),none⟩,⟨(some 7),.mv (.tmp 12),none⟩])
 (.seq (.seq (.region [⟨(some 8),.mv (.const (.int .i64 0)),none⟩])
 (.block 0 (.loop (.seq (.seq (.region [⟨(some 13),.mv (.tmp 8),none⟩,⟨(some 14),.bin .lss (.tmp 13) (.const (.int .i64 5)),none⟩])
 (.cond (.tmp 14) .skip (.exit 0)))
 (.seq (.block 1 (.seq (.block 2 (.loop (.seq (.seq (.region [⟨(some 17),.mv (.tmp 7),none⟩,⟨(some 18),.mv (.tmp 2),none⟩,⟨(some 19),.bin .lss (.tmp 17) (.tmp 18),none⟩,⟨(some 20),.mv (.tmp 19),none⟩,⟨(some 21),.faddr 0 (.tmp 3),some (20,true)⟩,⟨(some 22),.load false 1 (.tmp 21),some (20,true)⟩,⟨(some 23),.mv (.tmp 7),some (20,true)⟩,⟨(some 24),.mv (.tmp 7),some (20,true)⟩,⟨(some 25),.bin .sub (.tmp 24) (.const (.int .i64 1)),some (20,true)⟩,⟨(some 26),.callv (.tmp 22) [(.tmp 23),(.tmp 25)],some (20,true)⟩,⟨(some 27),.not (.tmp 26),some (20,true)⟩,⟨(some 28),.pick (.tmp 20) (.tmp 27) (.const (.bool false)),none⟩])
 (.cond (.tmp 28) .skip (.exit 2)))
 (.block 3 (.region [⟨(some 29),.mv (.tmp 7),none⟩,⟨(some 30),.bin .add (.tmp 29) (.const (.int .i64 1)),none⟩,⟨(some 7),.mv (.tmp 30),none⟩])))))
 (.seq (.seq (.region [⟨(some 31),.mv (.tmp 7),none⟩,⟨(some 32),.mv (.tmp 2),none⟩,⟨(some 33),.bin .eql (.tmp 31) (.tmp 32),none⟩])
 (.cond (.tmp 33) (.seq (.region [⟨(some 6),.mv (.const (.bool true)),none⟩])
 .ret) .skip))
 (.seq (.seq (.region [⟨(some 34),.mv (.tmp 2),none⟩,⟨(some 35),.mv (.tmp 1),none⟩,⟨(some 36),.bin .sub (.tmp 34) (.tmp 35),none⟩,⟨(some 37),.bin .lss (.tmp 36) (.const (.int .i64 50)),none⟩])
 (.cond (.tmp 37) (.seq (.region [⟨(some 6),.mv (.const (.bool false)),none⟩])
 .ret) .skip))
 (.seq (.region [⟨(some 38),.faddr 1 (.tmp 3),none⟩,⟨(some 39),.load false 1 (.tmp 38),none⟩,⟨(some 40),.mv (.tmp 7),none⟩,⟨(some 41),.mv (.tmp 7),none⟩,⟨(some 42),.bin .sub (.tmp 41) (.const (.int .i64 1)),none⟩,⟨(some 43),.callv (.tmp 39) [(.tmp 40),(.tmp 42)],none⟩])
 (.seq (.seq (.region [⟨(some 44),.mv (.tmp 7),none⟩,⟨(some 45),.mv (.tmp 1),none⟩,⟨(some 46),.bin .sub (.tmp 44) (.tmp 45),none⟩,⟨(some 47),.bin .geq (.tmp 46) (.const (.int .i64 2)),none⟩])
 (.cond (.tmp 47) (.seq (.region [⟨(some 48),.mv (.tmp 7),none⟩,⟨(some 49),.bin .sub (.tmp 48) (.const (.int .i64 1)),none⟩,⟨(some 9),.mv (.tmp 49),none⟩])
 (.block 4 (.loop (.seq (.seq (.region [⟨(some 50),.mv (.tmp 9),none⟩,⟨(some 51),.bin .geq (.tmp 50) (.const (.int .i64 1)),none⟩])
 (.cond (.tmp 51) .skip (.exit 4)))
 (.seq (.block 5 (.seq (.seq (.region [⟨(some 54),.faddr 0 (.tmp 3),none⟩,⟨(some 55),.load false 1 (.tmp 54),none⟩,⟨(some 56),.mv (.tmp 9),none⟩,⟨(some 57),.mv (.tmp 9),none⟩,⟨(some 58),.bin .sub (.tmp 57) (.const (.int .i64 1)),none⟩,⟨(some 59),.callv (.tmp 55) [(.tmp 56),(.tmp 58)],none⟩,⟨(some 60),.not (.tmp 59),none⟩])
 (.cond (.tmp 60) (.exit 4) .skip))
 (.region [⟨(some 61),.faddr 1 (.tmp 3),none⟩,⟨(some 62),.load false 1 (.tmp 61),none⟩,⟨(some 63),.mv (.tmp 9),none⟩,⟨(some 64),.mv (.tmp 9),none⟩,⟨(some 65),.bin .sub (.tmp 64) (.const (.int .i64 1)),none⟩,⟨(some 66),.callv (.tmp 62) [(.tmp 63),(.tmp 65)],none⟩])))
 (.region [⟨(some 52),.mv (.tmp 9),none⟩,⟨(some 53),.bin .sub (.tmp 52) (.const (.int .i64 1)),none⟩,⟨(some 9),.mv (.tmp 53),none⟩])))))) .skip))
 (.seq (.region [⟨(some 67),.mv (.tmp 2),none⟩,⟨(some 68),.mv (.tmp 7),none⟩,⟨(some 69),.bin .sub (.tmp 67) (.tmp 68),none⟩,⟨(some 70),.bin .geq (.tmp 69) (.const (.int .i64 2)),none⟩])
 (.cond (.tmp 70) (.seq (.region [⟨(some 71),.mv (.tmp 7),none⟩,⟨(some 72),.bin .add (.tmp 71) (.const (.int .i64 1)),none⟩,⟨(some 10),.mv (.tmp 72),none⟩])
 (.block 6 (.loop (.seq (.seq (.region [⟨(some 73),.mv (.tmp 10),none⟩,⟨(some 74),.mv (.tmp 2),none⟩,⟨(some 75),.bin .lss (.tmp 73) (.tmp 74),none⟩])
 (.cond (.tmp 75) .skip (.exit 6)))
 (.seq (.block 7 (.seq (.seq (.region [⟨(some 78),.faddr 0 (.tmp 3),none⟩,⟨(some 79),.load false 1 (.tmp 78),none⟩,⟨(some 80),.mv (.tmp 10),none⟩,⟨(some 81),.mv (.tmp 10),none⟩,⟨(some 82),.bin .sub (.tmp 81) (.const (.int .i64 1)),none⟩,⟨(some 83),.callv (.tmp 79) [(.tmp 80),(.tmp 82)],none⟩,⟨(some 84),.not (.tmp 83),none⟩])
 (.cond (.tmp 84) (.exit 6) .skip))
 (.region [⟨(some 85),.faddr 1 (.tmp 3),none⟩,⟨(some 86),.load false 1 (.tmp 85),none⟩,⟨(some 87),.mv (.tmp 10),none⟩,⟨(some 88),.mv (.tmp 10),none⟩,⟨(some 89),.bin .sub (.tmp 88) (.const (.int .i64 1)),none⟩,⟨(some 90),.callv (.tmp 86) [(.tmp 87),(.tmp 89)],none⟩])))
 (.region [⟨(some 76),.mv (.tmp 10),none⟩,⟨(some 77),.bin .add (.tmp 76) (.const (.int .i64 1)),none⟩,⟨(some 10),.mv (.tmp 77),none⟩])))))) .skip))))))))
 (.region [⟨(some 15),.mv (.tmp 8),none⟩,⟨(some 16),.bin .add (.tmp 15) (.const (.int .i64 1)),none⟩,⟨(some 8),.mv (.tmp 16),none⟩]))))))
 (.seq (.region [⟨(some 6),.mv (.const (.bool false)),none⟩])
 .ret))))⟩
theorem k352 : compFn Tryz.prog Tryz.f352 = some c352 := by kernel_rfl
-- sort.partitionEqual_func
def c353 : AFunc := ⟨[.tmp 8],(.seq (.region [⟨(some 4),.box 2 (.tmp 0),none⟩,⟨(some 8),.mv (.const (.int .i64 0)),none⟩])
 (.seq (.region [⟨(some 11),.faddr 1 (.tmp 4),none⟩,⟨(some 12),.load false 1 (.tmp 11),none⟩,⟨(some 13),.mv (.tmp 1),none⟩,⟨(some 14),.mv (.tmp 3),none⟩,⟨(some 15),.callv (.tmp 12) [(.tmp 13),(.tmp 14)],none⟩])
 (.seq (.region [⟨(some 16),.mv (.tmp 1),none⟩,⟨(some 17),.bin .add (.tmp 16) (.const (.int .i64 1)),none⟩,⟨(some 18),.mv (.tmp 2),none⟩,⟨(some 19),.bin .sub (.tmp 18) (.const (.int .i64 1)),none⟩,⟨(some 9),.mv (.tmp 17),none⟩,⟨(some 10),.mv (.tmp 19),none⟩])
 (.seq (.block 0 (.loop (.block 1 (.seq (.block 2 (.loop (.seq (.seq (.region [⟨(some 20),.mv (.tmp 9),none⟩,⟨(some 21),.mv (.tmp 10),none⟩,⟨(some 22),.bin .leq (.tmp 20) (.tmp 21),none⟩,⟨(some 23),.mv (.tmp 22),none⟩,⟨(some 24),.faddr 0 (.tmp 4),some (23,true)⟩,⟨(some 25),.load false 1 (.tmp 24),some (23,true)⟩,⟨(some 26),.mv (.tmp 1),some (23,true)⟩,⟨(some 27),.mv (.tmp 9),some (23,true)⟩,⟨(some 28),.callv (.tmp 25) [(.tmp 26),(.tmp 27)],some (23,true)⟩,⟨(some 29),.not (.tmp 28),some (23,true)⟩,⟨(some 30),.pick (.tmp 23) (.tmp 29) (.const (.bool false)),none⟩])
 (.cond (.tmp 30) .skip (.exit 2)))
 (.block 3 (.region [⟨(some 31),.mv (.tmp 9),none⟩,⟨(some 32),.bin .add (.tmp 31) (.const (.int .i64 1)),none⟩,⟨(some 9),.mv (.tmp 32),none⟩])))))
 (.seq (.block 4 (.loop (.seq (.seq (.region [⟨(some 33),.mv (.tmp 9),none⟩,⟨(some 34),.mv (.tmp 10),none⟩,⟨(some 35),.bin .leq (.tmp 33) (.tmp 34),none⟩,⟨(some 36),.mv (.tmp 35),none⟩,⟨(some 37),.faddr 0 (.tmp 4),some (36,true)⟩,⟨(some 38),.load false 1 (.tmp 37),some (36,true)⟩,⟨(some 39),.mv (.tmp 1),some (36,true)⟩,⟨(some 40),.mv (.tmp 10),some (36,true)⟩,⟨(some 41),.callv (.tmp 38) [(.tmp 39),(.tmp 40)],some (36,true)⟩,⟨(some 42),.pick (.tmp 36) (.tmp 41) (.const (.bool false)),none⟩])
 (.cond (.tmp 42) .skip (.exit 4)))
 (.block 5 (.region [⟨(some 43),.mv (.tmp 10),none⟩,⟨(some 44),.bin .sub (.tmp 43) (.const (.int .i64 1)),none⟩,⟨(some 10),.mv (.tmp 44),none⟩])))))
 (.seq (.seq (.region [⟨(some 45),.mv (.tmp 9),none⟩,⟨(some 46),.mv (.tmp 10),none⟩,⟨(some 47),.bin .gtr (.tmp 45) (.tmp 46),none⟩])
 (.cond (.tmp 47) (.exit 0) .skip))
 (.seq (.region [⟨(some 48),.faddr 1 (.tmp 4),none⟩,⟨(some 49),.load false 1 (.tmp 48),none⟩,⟨(some 50),.mv (.tmp 9),none⟩,⟨(some 51),.mv (.tmp 10),none⟩,⟨(some 52),.callv (.tmp 49) [(.tmp 50),(.tmp 51)],none⟩])
 (.seq (.region [⟨(some 53),.mv (.tmp 9),none⟩,⟨(some 54),.bin .add (.tmp 53) (.const (.int .i64 1)),none⟩,⟨(some 9),.mv (.tmp 54),none⟩])
 (.region [⟨(some 55),.mv (.tmp 10),none⟩,⟨(some 56),.bin .sub (.tmp 55) (.const (.int .i64 1)),none⟩,⟨(some 10),.mv (.tmp 56),none⟩])))))))))
 (.seq (.region [⟨(some 57),.mv (.tmp 9),none⟩,⟨(some 8),.mv (.tmp 57),none⟩])
 .ret)))))⟩
theorem k353 : compFn Tryz.prog Tryz.f353 = some c353 := by kernel_rfl
-- sort.partition_func
def c354 : AFunc := ⟨[.tmp 8,.tmp 9],(.seq (.region [⟨(some 4),.box 2 (.tmp 0),none⟩,⟨(some 8),.mv (.const (.int .i64 0)),none⟩,⟨(some 9),.mv (.const (.bool false)),none⟩])
 (.seq (.region [⟨(some 12),.faddr 1 (.tmp 4),none⟩,⟨(some 13),.load false 1 (.tmp 12),none⟩,⟨(some 14),.mv (.tmp 1),none⟩,⟨(some 15),.mv (.tmp 3),none⟩,⟨(some 16),.callv (.tmp 13) [(.tmp 14),(.tmp 15)],none⟩])
 (.seq (.region [⟨(some 17),.mv (.tmp 1),none⟩,⟨(some 18),.bin .add (.tmp 17) (.const (.int .i64 1)),none⟩,⟨(some 19),.mv (.tmp 2),none⟩,⟨(some 20),.bin .sub (.tmp 19) (.const (.int .i64 1)),none⟩,⟨(some 10),.mv (.tmp 18),none⟩,⟨(some 11),.mv (.tmp 20),none⟩])
 (.seq (.block 0 (.loop (.seq (.seq (.region [⟨(some 21),.mv (.tmp 10),none⟩,⟨(some 22),.mv (.tmp 11),none⟩,⟨(some 23),.bin .leq (.tmp 21) (.tmp 22),none⟩,⟨(some 24),.mv (.tmp 23),none⟩,⟨(some 25),.faddr 0 (.tmp 4),some (24,true)⟩,⟨(some 26),.load false 1 (.tmp 25),some (24,true)⟩,⟨(some 27),.mv (.tmp 10),some (24,true)⟩,⟨(some 28),.mv (.tmp 1),some (24,true)⟩,⟨(some 29),.callv (.tmp 26) [(.tmp 27),(.tmp 28)],some (24,true)⟩,⟨(some 30),.pick (.tmp 24) (.tmp 29) (.const (.bool false)),none⟩])
 (.cond (.tmp 30) .skip (.exit 0)))
 (.block 1 (.region [⟨(some 31),.mv (.tmp 10),none⟩,⟨(some 32),.bin .add (.tmp 31) (.const (.int .i64 1)),none⟩,⟨(some 10),.mv (.tmp 32),none⟩])))))
 (.seq (.block 2 (.loop (.seq (.seq (.region [⟨(some 33),.mv (.tmp 10),none⟩,⟨(some 34),.mv (.tmp 11),none⟩,⟨(some 35),.bin .leq (.tmp 33) (.tmp 34),none⟩,⟨(some 36),.mv (.tmp 35),none⟩,⟨(some 37),.faddr 0 (.tmp 4),some (36,true)⟩,⟨(some 38),.load false 1 (.tmp 37),some (36,true)⟩,⟨(some 39),.mv (.tmp 11),some (36,true)⟩,⟨(some 40),.mv (.tmp 1),some (36,true)⟩,⟨(some 41),.callv (.tmp 38) [(.tmp 39),(.tmp 40)],some (36,true)⟩,⟨(some 42),.not (.tmp 41),some (36,true)⟩,⟨(some 43),.pick (.tmp 36) (.tmp 42) (.const (.bool false)),none⟩])
 (.cond (.tmp 43) .skip (.exit 2)))
 (.block 3 (.region [⟨(some 44),.mv (.tmp 11),none⟩,⟨(some 45),.bin .sub (.tmp 44) (.const (.int .i64 1)),none⟩,⟨(some 11),.mv (.tmp 45),none⟩])))))
 (.seq (.seq (.region [⟨(some 46),.mv (.tmp 10),none⟩,⟨(some 47),.mv (.tmp 11),none⟩,⟨(some 48),.bin .gtr (.tmp 46) (.tmp 47),none⟩])
 (.cond (.tmp 48) (.seq (.region [⟨(some 49),.faddr 1 (.tmp 4),none⟩,⟨(some 50),.load false 1 (.tmp 49),none⟩,⟨(some 51),.mv (.tmp 11),none⟩,⟨(some 52),.mv (.tmp 1),none⟩,⟨(some 53),.callv (.tmp 50) [(.tmp 51),(.tmp 52)],none⟩])
 (.seq (.region [⟨(some 54),.mv (.tmp 11),none⟩,⟨(some 8),.mv (.tmp 54),none⟩,⟨(some 9),.mv (.const (.bool true)),none⟩])
 .ret)) .skip))
 (.seq (.region [⟨(some 55),.faddr 1 (.tmp 4),none⟩,⟨(some 56),.load false 1 (.tmp 55),none⟩,⟨(some 57),.mv (.tmp 10),none⟩,⟨(some 58),.mv (.tmp 11),none⟩,⟨(some 59),.callv (.tmp 56) [(.tmp 57),(.tmp 58)],none⟩])
 (.seq (.region [⟨(some 60),.mv (.tmp 10),none⟩,⟨(some 61),.bin .add (.tmp 60) (.const (.int .i64 1)),none⟩,⟨(some 10),.mv (.tmp 61),none⟩])
 (.seq (.region [⟨(some 62),.mv (.tmp 11),none⟩,⟨(some 63),.bin .sub (.tmp 62) (.const (.int .i64 1)),none⟩,⟨(some 11),.mv (.tmp 63),none⟩])
 (.seq (.block 4 (.loop (.block 5 (.seq (.block 6 (.loop (.seq (.seq (.region [⟨(some 64),.mv (.tmp 10),none⟩,⟨(some 65),.mv (.tmp 11),none⟩,⟨(some 66),.bin .leq (.tmp 64) (.tmp 65),none⟩,⟨(some 67),.mv (.tmp 66),none⟩,⟨(some 68),.faddr 0 (.tmp 4),some (67,true)⟩,⟨(some 69),.load false 1 (.tmp 68),some (67,true)⟩,⟨(some 70),.mv (.tmp 10),some (67,true)⟩,⟨(some 71),.mv (.tmp 1),some (67,true)⟩,⟨(some 72),.callv (.tmp 69) [(.tmp 70),(.tmp 71)],some (67,true)⟩,⟨(some 73),.pick (.tmp 67) (.tmp 72) (.const (.bool false)),none⟩])
 (.cond (.tmp 73) .skip (.exit 6)))
 (.block 7 (.region [⟨(some 74),.mv (.tmp 10),none⟩,⟨(some 75),.bin .add (.tmp 74) (.const (.int .i64 1)),none⟩,⟨(some 10),.mv (.tmp 75),none⟩])))))
 (.seq (.block 8 (.loop (.seq (.seq (.region [⟨(some 76),.mv (.tmp 10),none⟩,⟨(some 77),.mv (.tmp 11),none⟩,⟨(some 78),.bin .leq (.tmp 76) (.tmp 77),none⟩,⟨(some 79),.mv (.tmp 78),none⟩,⟨(some 80),.faddr 0 (.tmp 4),some (79,true)⟩,⟨(some 81),.load false 1 (.tmp 80),some (79,true)⟩,⟨(some 82),.mv (.tmp 11),some (79,true)⟩,⟨(some 83),.mv (.tmp 1),some (79,true)⟩,⟨(some 84),.callv (.tmp 81) [(.tmp 82),(.tmp 83)],some (79,true)⟩,⟨(some 85),.not (.tmp 84),some (79,true)⟩,⟨(some 86),.pick (.tmp 79) (.tmp 85) (.const (.bool false)),none⟩])
 (.cond (.tmp 86) .skip (.exit 8)))
 (.block 9 (.region [⟨(some 87),.mv (.tmp 11),none⟩,⟨(some 88),.bin .sub (.tmp 87) (.const (.int .i64 1)),none⟩,⟨(some 11),.mv (.tmp 88),none⟩])))))
 (.seq (.seq (.region [⟨(some 89),.mv (.tmp 10),none⟩,⟨(some 90),.mv (.tmp 11),none⟩,⟨(some 91),.bin .gtr (.tmp 89) (.tmp 90),none⟩])
 (.cond (.tmp 91) (.exit 4) .skip))
 (.seq (.region [⟨(some 92),.faddr 1 (.tmp 4),none⟩,⟨(some 93),.load false 1 (.tmp 92),none⟩,⟨(some 94),.mv (.tmp 10),none⟩,⟨(some 95),.mv (.tmp 11),none⟩,⟨(some 96),.callv (.tmp 93) [(.tmp 94),(.tmp 95)],none⟩])
 (.seq (.region [⟨(some 97),.mv (.tmp 10),none⟩,⟨(some 98),.bin .add (.tmp 97) (.const (.int .i64 1)),none⟩,⟨(some 10),.mv (.tmp 98),none⟩])
 (.region [⟨(some 99),.mv (.tmp 11),none⟩,⟨(some 100),.bin .sub (.tmp 99) (.const (.int .i64 1)),none⟩,⟨(some 11),.mv (.tmp 100),none⟩])))))))))
 (.seq (.region [⟨(some 101),.faddr 1 (.tmp 4),none⟩,⟨(some 102),.load false 1 (.tmp 101),none⟩,⟨(some 103),.mv (.tmp 11),none⟩,⟨(some 104),.mv (.tmp 1),none⟩,⟨(some 105),.callv (.tmp 102) [(.tmp 103),(.tmp 104)],none⟩])
 (.seq (.region [⟨(some 106),.mv (.tmp 11),none⟩,⟨(some 8),.mv (.tmp 106),none⟩,⟨(some 9),.mv (.const (.bool false)),none⟩])
 .ret))))))))))))⟩
theorem k354 : compFn Tryz.prog Tryz.f354 = some c354 := by kernel_rfl
-- slices.insertionSortOrdered[int]
def c355 : AFunc := ⟨[],(.seq (.region [⟨(some 8),.mv (.tmp 1),none⟩,⟨(some 9),.bin .add (.tmp 8) (.const (.int .i64 1)),none⟩,⟨(some 6),.mv (.tmp 9),none⟩])
 (.block 0 (.loop (.seq (.seq (.region [⟨(some 10),.mv (.tmp 6),none⟩,⟨(some 11),.mv (.tmp 2),none⟩,⟨(some 12),.bin .lss (.tmp 10) (.tmp 11),none⟩])
 (.cond (.tmp 12) .skip (.exit 0)))
 (.seq (.block 1 (.seq (.region [⟨(some 15),.mv (.tmp 6),none⟩,⟨(some 7),.mv (.tmp 15),none⟩])
 (.block 2 (.loop (.seq (.seq (.draw [⟨⟨(some 16),.mv (.tmp 7),none⟩,0,0⟩,⟨⟨(some 17),.mv (.tmp 1),none⟩,0,0⟩,⟨⟨(some 18),.bin .gtr (.tmp 16) (.tmp 17),none⟩,0,0⟩,⟨⟨(some 19),.mv (.tmp 18),none⟩,0,0⟩,⟨⟨(some 20),.mv (.tmp 0),some (19,true)⟩,0,0⟩,⟨⟨(some 21),.mv (.tmp 7),some (19,true)⟩,0,0⟩,⟨⟨(some 22),.iaddrS 1 (.tmp 20) (.tmp 21),some (19,true)⟩,0,0⟩,⟨⟨(some 23),.load false 1 (.tmp 22),some (19,true)⟩,0,0⟩,⟨⟨(some 24),.mv (.tmp 0),some (19,true)⟩,0,0⟩,⟨⟨(some 25),.mv (.tmp 7),some (19,true)⟩,0,0⟩,⟨⟨(some 26),.bin .sub (.tmp 25) (.const (.int .i64 1)),some (19,true)⟩,0,0⟩,⟨⟨(some 27),.iaddrS 1 (.tmp 24) (.tmp 26),some (19,true)⟩,0,0⟩,⟨⟨(some 28),.load false 1 (.tmp 27),some (19,true)⟩,0,0⟩,⟨⟨(some 29),.call 361 [(.tmp 23),(.tmp 28)],some (19,true)⟩,0,1⟩,⟨⟨(some 30),.pick (.tmp 19) (.tmp 29) (.const (.bool false)),none⟩,1,1⟩])
 (.cond (.tmp 30) .skip (.exit 2)))
 (.seq (.block 3 (.draw [⟨⟨(some 33),.mv (.tmp 0),none⟩,0,0⟩,⟨⟨(some 34),.mv (.tmp 7),none⟩,0,0⟩,⟨⟨(some 35),.mv (.tmp 0),none⟩,0,1⟩,⟨⟨(some 36),.mv (.tmp 7),none⟩,0,1⟩,⟨⟨(some 37),.bin .sub (.tmp 36) (.const (.int .i64 1)),none⟩,0,1⟩,⟨⟨(some 38),.mv (.tmp 0),none⟩,0,0⟩,⟨⟨(some 39),.mv (.tmp 7),none⟩,0,0⟩,⟨⟨(some 40),.bin .sub (.tmp 39) (.const (.int .i64 1)),none⟩,0,0⟩,⟨⟨(some 41),.iaddrS 1 (.tmp 38) (.tmp 40),none⟩,0,0⟩,⟨⟨(some 42),.load false 1 (.tmp 41),none⟩,0,0⟩,⟨⟨(some 43),.mv (.tmp 0),none⟩,0,0⟩,⟨⟨(some 44),.mv (.tmp 7),none⟩,0,0⟩,⟨⟨(some 45),.iaddrS 1 (.tmp 43) (.tmp 44),none⟩,0,0⟩,⟨⟨(some 46),.load false 1 (.tmp 45),none⟩,0,0⟩,⟨⟨(some 47),.iaddrS 1 (.tmp 33) (.tmp 34),none⟩,0,0⟩,⟨⟨none,.store 1 (.tmp 47) (.tmp 42),none⟩,0,1⟩,⟨⟨(some 48),.iaddrS 1 (.tmp 35) (.tmp 37),none⟩,1,1⟩,⟨⟨none,.store 1 (.tmp 48) (.tmp 46),none⟩,1,2⟩]))
 (.region [⟨(some 31),.mv (.tmp 7),none⟩,⟨(some 32),.bin .sub (.tmp 31) (.const (.int .i64 1)),none⟩,⟨(some 7),.mv (.tmp 32),none⟩])))))))
 (.region [⟨(some 13),.mv (.tmp 6),none⟩,⟨(some 14),.bin .add (.tmp 13) (.const (.int .i64 1)),none⟩,⟨(some 6),.mv (.tmp 14),none⟩]))))))⟩
theorem k355 : compFn Tryz.prog Tryz.f355 = some c355 := by kernel_rfl
-- slices.heapSortOrdered[int]
def c356 : AFunc := ⟨[],(.seq (.region [⟨(some 11),.mv (.tmp 1),none⟩,⟨(some 6),.mv (.tmp 11),none⟩])
 (.seq (.region [⟨(some 7),.mv (.const (.int .i64 0)),none⟩])
 (.seq (.region [⟨(some 12),.mv (.tmp 2),none⟩,⟨(some 13),.mv (.tmp 1),none⟩,⟨(some 14),.bin .sub (.tmp 12) (.tmp 13),none⟩,⟨(some 8),.mv (.tmp 14),none⟩])
 (.seq (.seq (.region [⟨(some 15),.mv (.tmp 8),none⟩,⟨(some 16),.bin .sub (.tmp 15) (.const (.int .i64 1)),none⟩,⟨(some 17),.bin .quo (.tmp 16) (.const (.int .i64 2)),none⟩,⟨(some 9),.mv (.tmp 17),none⟩])
 (.block 0 (.loop (.seq (.seq (.region [⟨(some 18),.mv (.tmp 9),none⟩,⟨(some 19),.bin .geq (.tmp 18) (.const (.int .i64 0)),none⟩])
 (.cond (.tmp 19) .skip (.exit 0)))
 (.seq (.block 1 (.region [⟨(some 22),.mv (.tmp 0),none⟩,⟨(some 23),.mv (.tmp 9),none⟩,⟨(some 24),.mv (.tmp 8),none⟩,⟨(some 25),.mv (.tmp 6),none⟩,⟨(some 26),.call 388 [(.tmp 22),(.tmp 23),(.tmp 24),(.tmp 25)],none⟩]))
 (.region [⟨(some 20),.mv (.tmp 9),none⟩,⟨(some 21),.bin .sub (.tmp 20) (.const (.int .i64 1)),none⟩,⟨(some 9),.mv (.tmp 21),none⟩]))))))
 (.seq (.region [⟨(some 27),.mv (.tmp 8),none⟩,⟨(some 28),.bin .sub (.tmp 27) (.const (.int .i64 1)),none⟩,⟨(some 10),.mv (.tmp 28),none⟩])
 (.block 2 (.loop (.seq (.seq (.region [⟨(some 29),.mv (.tmp 10),none⟩,⟨(some 30),.bin .geq (.tmp 29) (.const (.int .i64 0)),none⟩])
 (.cond (.tmp 30) .skip (.exit 2)))
 (.seq (.block 3 (.seq (.draw [⟨⟨(some 33),.mv (.tmp 0),none⟩,0,0⟩,⟨⟨(some 34),.mv (.tmp 6),none⟩,0,0⟩,⟨⟨(some 35),.mv (.tmp 0),none⟩,0,1⟩,⟨⟨(some 36),.mv (.tmp 6),none⟩,0,1⟩,⟨⟨(some 37),.mv (.tmp 10),none⟩,0,1⟩,⟨⟨(some 38),.bin .add (.tmp 36) (.tmp 37),none⟩,0,1⟩,⟨⟨(some 39),.mv (.tmp 0),none⟩,0,0⟩,⟨⟨(some 40),.mv (.tmp 6),none⟩,0,0⟩,⟨⟨(some 41),.mv (.tmp 10),none⟩,0,0⟩,⟨⟨(some 42),.bin .add (.tmp 40) (.tmp 41),none⟩,0,0⟩,⟨⟨(some 43),.iaddrS 1 (.tmp 39) (.tmp 42),none⟩,0,0⟩,⟨⟨(some 44),.load false 1 (.tmp 43),none⟩,0,0⟩,⟨⟨(some 45),.mv (.tmp 0),none⟩,0,0⟩,⟨⟨(some 46),.mv (.tmp 6),none⟩,0,0⟩,⟨⟨(some 47),.iaddrS 1 (.tmp 45) (.tmp 46),none⟩,0,0⟩,⟨⟨(some 48),.load false 1 (.tmp 47),none⟩,0,0⟩,⟨⟨(some 49),.iaddrS 1 (.tmp 33) (.tmp 34),none⟩,0,0⟩,⟨⟨none,.store 1 (.tmp 49) (.tmp 44),none⟩,0,1⟩,⟨⟨(some 50),.iaddrS 1 (.tmp 35) (.tmp 38),none⟩,1,1⟩,⟨⟨none,.store 1 (.tmp 50) (.tmp 48),none⟩,1,2⟩])
 (.region [⟨(some 51),.mv (.tmp 0),none⟩,⟨(some 52),.mv (.tmp 7),none⟩,⟨(some 53),.mv (.tmp 10),none⟩,⟨(some 54),.mv (.tmp 6),none⟩,⟨(some 55),.call 388 [(.tmp 51),(.tmp 52),(.tmp 53),(.tmp 54)],none⟩])))
 (.region [⟨(some 31),.mv (.tmp 10),none⟩,⟨(some 32),.bin .sub (.tmp 31) (.const (.int .i64 1)),none⟩,⟨(some 10),.mv (.tmp 32),none⟩]))))))))))⟩
theorem k356 : compFn Tryz.prog Tryz.f356 = some c356 := by kernel_rfl
-- slices.breakPatternsOrdered[int]
def c357 : AFunc := ⟨[],(.seq (.region [⟨(some 11),.mv (.tmp 2),none⟩,⟨(some 12),.mv (.tmp 1),none⟩,⟨(some 13),.bin .sub (.tmp 11) (.tmp 12),none⟩,⟨(some 6),.mv (.tmp 13),none⟩])
 (.seq (.region [⟨(some 14),.mv (.tmp 6),none⟩,⟨(some 15),.bin .geq (.tmp 14) (.const (.int .i64 8)),none⟩])
 (.cond (.tmp 15) (.seq (.region [⟨(some 16),.mv (.tmp 6),none⟩,⟨(some 17),.conv .u64 (.tmp 16),none⟩,⟨(some 7),.alloc [(.int .u64 0)],none⟩,⟨none,.store 1 (.tmp 7) (.tmp 17),none⟩])
 (.seq (.region [⟨(some 18),.mv (.tmp 6),none⟩,⟨(some 19),.call 334 [(.tmp 18)],none⟩,⟨(some 8),.mv (.tmp 19),none⟩])
 (.seq (.region [⟨(some 20),.mv (.tmp 1),none⟩,⟨(some 21),.mv (.tmp 6),none⟩,⟨(some 22),.bin .quo (.tmp 21) (.const (.int .i64 4)),none⟩,⟨(some 23),.bin .mul (.tmp 22) (.const (.int .i64 2)),none⟩,⟨(some 24),.bin .add (.tmp 20) (.tmp 23),none⟩,⟨(some 25),.bin .sub (.tmp 24) (.const (.int .i64 1)),none⟩,⟨(some 9),.mv (.tmp 25),none⟩])
 (.block 0 (.loop (.seq (.seq (.region [⟨(some 26),.mv (.tmp 9),none⟩,⟨(some 27),.mv (.tmp 1),none⟩,⟨(some 28),.mv (.tmp 6),none⟩,⟨(some 29),.bin .quo (.tmp 28) (.const (.int .i64 4)),none⟩,⟨(some 30),.bin .mul (.tmp 29) (.const (.int .i64 2)),none⟩,⟨(some 31),.bin .add (.tmp 27) (.tmp 30),none⟩,⟨(some 32),.bin .add (.tmp 31) (.const (.int .i64 1)),none⟩,⟨(some 33),.bin .leq (.tmp 26) (.tmp 32),none⟩])
 (.cond (.tmp 33) .skip (.exit 0)))
 (.seq (.block 1 (.seq (.region [⟨(some 36),.call 335 [(.tmp 7)],none⟩,⟨(some 37),.mv (.tmp 8),none⟩,⟨(some 38),.bin .sub (.tmp 37) (.const (.int .u64 1)),none⟩,⟨(some 39),.bin .and (.tmp 36) (.tmp 38),none⟩,⟨(some 40),.conv .i64 (.tmp 39),none⟩,⟨(some 10),.mv (.tmp 40),none⟩])
 (.seq (.seq (.region [⟨(some 41),.mv (.tmp 10),none⟩,⟨(some 42),.mv (.tmp 6),none⟩,⟨(some 43),.bin .geq (.tmp 41) (.tmp 42),none⟩])
 (.cond (.tmp 43) (.region [⟨(some 44),.mv (.tmp 10),none⟩,⟨(some 45),.mv (.tmp 6),none⟩,⟨(some 46),.bin .sub (.tmp 44) (.tmp 45),none⟩,⟨(some 10),.mv (.tmp 46),none⟩]) .skip))
 (.draw [⟨⟨(some 47),.mv (.tmp 0),none⟩,0,0⟩,⟨⟨(some 48),.mv (.tmp 9),none⟩,0,0⟩,⟨⟨(some 49),.mv (.tmp 0),none⟩,0,1⟩,⟨⟨(some 50),.mv (.tmp 1),none⟩,0,1⟩,⟨⟨(some 51),.mv (.tmp 10),none⟩,0,1⟩,⟨⟨(some 52),.bin .add (.tmp 50) (.tmp 51),none⟩,0,1⟩,⟨⟨(some 53),.mv (.tmp 0),none⟩,0,0⟩,⟨⟨(some 54),.mv (.tmp 1),none⟩,0,0⟩,⟨⟨(some 55),.mv (.tmp 10),none⟩,0,0⟩,⟨⟨(some 56),.bin .add (.tmp 54) (.tmp 55),none⟩,0,0⟩,⟨⟨(some 57),.iaddrS 1 (.tmp 53) (.tmp 56),none⟩,0,0⟩,⟨⟨(some 58),.load false 1 (.tmp 57),none⟩,0,0⟩,⟨⟨(some 59),.mv (.tmp 0),none⟩,0,0⟩,⟨⟨(some 60),.mv (.tmp 9),none⟩,0,0⟩,⟨⟨(some 61),.iaddrS 1 (.tmp 59) (.tmp 60),none⟩,0,0⟩,⟨⟨(some 62),.load false 1 (.tmp 61),none⟩,0,0⟩,⟨⟨(some 63),.iaddrS 1 (.tmp 47) (.tmp 48),none⟩,0,0⟩,⟨⟨none,.store 1 (.tmp 63) (.tmp 58),none⟩,0,1⟩,⟨⟨(some 64),.iaddrS 1 (.tmp 49) (.tmp 52),none⟩,1,1⟩,⟨⟨none,.store 1 (.tmp 64) (.tmp 62),none⟩,1,2⟩]))))
 (.region [⟨(some 34),.mv (.tmp 9),none⟩,⟨(some 35),.bin .add (.tmp 34) (.const (.int .i64 1)),none⟩,⟨(some 9),.mv (.tmp 35),none⟩])))))))) .skip)))⟩
theorem k357 : compFn Tryz.prog Tryz.f357 = some c357 := by kernel_rfl
-- slices.choosePivotOrdered[int]
def c358 : AFunc := ⟨[.tmp 6,.tmp 7],(.seq (.region [⟨(some 6),.mv (.const (.int .i64 0)),none⟩,⟨(some 7),.mv (.const (.int .i64 0)),none⟩])
 (.seq (.region [⟨(some 13),.mv (.tmp 2),none⟩,⟨(some 14),.mv (.tmp 1),none⟩,⟨(some 15),.bin .sub (.tmp 13) (.tmp 14),none⟩,⟨(some 8),.mv (.tmp 15),none⟩])
 (.seq (.region [⟨(some 9),.alloc [(.int .i64 0)],none⟩])
 (.seq (.region [⟨(some 16),.mv (.tmp 1),none⟩,⟨(some 17),.mv (.tmp 8),none⟩,⟨(some 18),.bin .quo (.tmp 17) (.const (.int .i64 4)),none⟩,⟨(some 19),.bin .mul (.tmp 18) (.const (.int .i64 1)),none⟩,⟨(some 20),.bin .add (.tmp 16) (.tmp 19),none⟩,⟨(some 10),.mv (.tmp 20),none⟩])
 (.seq (.region [⟨(some 21),.mv (.tmp 1),none⟩,⟨(some 22),.mv (.tmp 8),none⟩,⟨(some 23),.bin .quo (.tmp 22) (.const (.int .i64 4)),none⟩,⟨(some 24),.bin .mul (.tmp 23) (.const (.int .i64 2)),none⟩,⟨(some 25),.bin .add (.tmp 21) (.tmp 24),none⟩,⟨(some 11),.mv (.tmp 25),none⟩])
 (.seq (.region [⟨(some 26),.mv (.tmp 1),none⟩,⟨(some 27),.mv (.tmp 8),none⟩,⟨(some 28),.bin .quo (.tmp 27) (.const (.int .i64 4)),none⟩,⟨(some 29),.bin .mul (.tmp 28) (.const (.int .i64 3)),none⟩,⟨(some 30),.bin .add (.tmp 26) (.tmp 29),none⟩,⟨(some 12),.mv (.tmp 30),none⟩])
 (.seq (.seq (.region [⟨(some 31),.mv (.tmp 8),none⟩,⟨(some 32),.bin .geq (.tmp 31) (.const (.int .i64 8)),none⟩])
 (.cond (.tmp 32) (.seq (.seq (.region [⟨(some 33),.mv (.tmp 8),none⟩,⟨(some 34),.bin .geq (.tmp 33) (.const (.int .i64 50)),none⟩])
 (.cond (.tmp 34) (.seq (.region [⟨(some 35),.mv (.tmp 0),none⟩,⟨(some 36),.mv (.tmp 10),none⟩,⟨(some 37),.call 389 [(.tmp 35),(.tmp 36),(.tmp 9)],none⟩,⟨(some 10),.mv (.tmp 37),none⟩])
 (.seq (.region [⟨(some 38),.mv (.tmp 0),none⟩,⟨(some 39),.mv (.tmp 11),none⟩,⟨(some 40),.call 389 [(.tmp 38),(.tmp 39),(.tmp 9)],none⟩,⟨(some 11),.mv (.tmp 40),none⟩])
 (.region [⟨(some 41),.mv (.tmp 0),none⟩,⟨(some 42),.mv (.tmp 12),none⟩,⟨(some 43),.call 389 [(.tmp 41),(.tmp 42),(.tmp 9)],none⟩,⟨(some 12),.mv (.tmp 43),none⟩]))) .skip))
 (.region [⟨(some 44),.mv (.tmp 0),none⟩,⟨(some 45),.mv (.tmp 10),none⟩,⟨(some 46),.mv (.tmp 11),none⟩,⟨(some 47),.mv (.tmp 12),none⟩,⟨(some 48),.call 390 [(.tmp 44),(.tmp 45),(.tmp 46),(.tmp 47),(.tmp 9)],none⟩,⟨(some 11),.mv (.tmp 48),none⟩])) .skip))
 (.seq (.region [⟨(some 49),.load false 1 (.tmp 9),none⟩])
 (.block 0 (.seq (.region [⟨(some 52),.bin .eql (.tmp 49) (.const (.int .i64 0)),none⟩,⟨(some 51),.mv (.tmp 52),none⟩])
 (.cond (.tmp 51) (.seq (.region [⟨(some 53),.mv (.tmp 11),none⟩,⟨(some 6),.mv (.tmp 53),none⟩,⟨(some 7),.mv (.const (.int .i64 1)),none⟩])
 .ret) (.seq (.region [⟨(some 55),.bin .eql (.tmp 49) (.const (.int .i64 12)),none⟩,⟨(some 54),.mv (.tmp 55),none⟩])
 (.cond (.tmp 54) (.seq (.region [⟨(some 56),.mv (.tmp 11),none⟩,⟨(some 6),.mv (.tmp 56),none⟩,⟨(some 7),.mv (.const (.int .i64 2)),none⟩])
 .ret) (.seq (.region [⟨(some 50),.mv (.tmp 11),none⟩,⟨(some 6),.mv (.tmp 50),none⟩,⟨(some 7),.mv (.const (.int .i64 0)),none⟩])
 .ret))))))))))))))⟩
theorem k358 : compFn Tryz.prog Tryz.f358 = some c358 := by kernel_rfl
-- slices.reverseRangeOrdered[int]
def c359 : AFunc := ⟨[],(.seq (.region [⟨(some 8),.mv (.tmp 1),none⟩,⟨(some 6),.mv (.tmp 8),none⟩])
 (.seq (.region [⟨(some 9),.mv (.tmp 2),none⟩,⟨(some 10),.bin .sub (.tmp 9) (.const (.int .i64 1)),none⟩,⟨(some 7),.mv (.tmp 10),none⟩])
 (.block 0 (.loop (.seq (.seq (.region [⟨(some 11),.mv (.tmp 6),none⟩,⟨(some 12),.mv (.tmp 7),none⟩,⟨(some 13),.bin .lss (.tmp 11) (.tmp 12),none⟩])
 (.cond (.tmp 13) .skip (.exit 0)))
 (.block 1 (.seq (.draw [⟨⟨(some 14),.mv (.tmp 0),none⟩,0,0⟩,⟨⟨(some 15),.mv (.tmp 6),none⟩,0,0⟩,⟨⟨(some 16),.mv (.tmp 0),none⟩,0,1⟩,⟨⟨(some 17),.mv (.tmp 7),none⟩,0,1⟩,⟨⟨(some 18),.mv (.tmp 0),none⟩,0,0⟩,⟨⟨(some 19),.mv (.tmp 7),none⟩,0,0⟩,⟨⟨(some 20),.iaddrS 1 (.tmp 18) (.tmp 19),none⟩,0,0⟩,⟨⟨(some 21),.load false 1 (.tmp 20),none⟩,0,0⟩,⟨⟨(some 22),.mv (.tmp 0),none⟩,0,0⟩,⟨⟨(some 23),.mv (.tmp 6),none⟩,0,0⟩,⟨⟨(some 24),.iaddrS 1 (.tmp 22) (.tmp 23),none⟩,0,0⟩,⟨⟨(some 25),.load false 1 (.tmp 24),none⟩,0,0⟩,⟨⟨(some 26),.iaddrS 1 (.tmp 14) (.tmp 15),none⟩,0,0⟩,⟨⟨none,.store 1 (.tmp 26) (.tmp 21),none⟩,0,1⟩,⟨⟨(some 27),.iaddrS 1 (.tmp 16) (.tmp 17),none⟩,1,1⟩,⟨⟨none,.store 1 (.tmp 27) (.tmp 25),none⟩,1,2⟩])
 (.seq (.region [⟨(some 28),.mv (.tmp 6),none⟩,⟨(some 29),.bin .add (.tmp 28) (.const (.int .i64 1)),none⟩,⟨(some 6),.mv (.tmp 29),none⟩])
 (.region [⟨(some 30),.mv (.tmp 7),none⟩,⟨(some 31),.bin .sub (.tmp 30) (.const (.int .i64 1)),none⟩,⟨(some 7),.mv (.tmp 31),none⟩])))))))))⟩
theorem k359 : compFn Tryz.prog Tryz.f359 = some c359 := by kernel_rfl
-- slices.partialInsertionSortOrdered[int]
def c360 : AFunc := ⟨[.tmp 6],(.seq (.region [⟨(some 6),.mv (.const (.bool false)),none⟩])
 (.seq (.region [⟨(some 11),.mv (.tmp 1),none⟩,⟨(some 12),.bin .add (.tmp 11) (.const (.int .i64 1)),none⟩,⟨(some 7),.mv (.tmp 12),none⟩])
 (.seq (.seq (.region [⟨(some 8),.mv (.const (.int .i64 0)),none⟩])
 (.block 0 (.loop (.seq (.seq (.region [⟨(some 13),.mv (.tmp 8),none⟩,⟨(some 14),.bin .lss (.tmp 13) (.const (.int .i64 5)),none⟩])
 (.cond (.tmp 14) .skip (.exit 0)))
 (.seq (.block 1 (.seq (.block 2 (.loop (.seq (.seq (.draw [⟨⟨(some 17),.mv (.tmp 7),none⟩,0,0⟩,⟨⟨(some 18),.mv (.tmp 2),none⟩,0,0⟩,⟨⟨(some 19),.bin .lss (.tmp 17) (.tmp 18),none⟩,0,0⟩,⟨⟨(some 20),.mv (.tmp 19),none⟩,0,0⟩,⟨⟨(some 21),.mv (.tmp 0),some (20,true)⟩,0,0⟩,⟨⟨(some 22),.mv (.tmp 7),some (20,true)⟩,0,0⟩,⟨⟨(some 23),.iaddrS 1 (.tmp 21) (.tmp 22),some (20,true)⟩,0,0⟩,⟨⟨(some 24),.load false 1 (.tmp 23),some (20,true)⟩,0,0⟩,⟨⟨(some 25),.mv (.tmp 0),some (20,true)⟩,0,0⟩,⟨⟨(some 26),.mv (.tmp 7),some (20,true)⟩,0,0⟩,⟨⟨(some 27),.bin .sub (.tmp 26) (.const (.int .i64 1)),some (20,true)⟩,0,0⟩,⟨⟨(some 28),.iaddrS 1 (.tmp 25) (.tmp 27),some (20,true)⟩,0,0⟩,⟨⟨(some 29),.load false 1 (.tmp 28),some (20,true)⟩,0,0⟩,⟨⟨(some 30),.call 361 [(.tmp 24),(.tmp 29)],some (20,true)⟩,0,1⟩,⟨⟨(some 31),.not (.tmp 30),some (20,true)⟩,1,1⟩,⟨⟨(some 32),.pick (.tmp 20) (.tmp 31) (.const (.bool false)),none⟩,1,1⟩])
 (.cond (.tmp 32) .skip (.exit 2)))
 (.block 3 (.region [⟨(some 33),.mv (.tmp 7),none⟩,⟨(some 34),.bin .add (.tmp 33) (.const (.int .i64 1)),none⟩,⟨(some 7),.mv (.tmp 34),none⟩])))))
 (.seq (.seq (.region [⟨(some 35),.mv (.tmp 7),none⟩,⟨(some 36),.mv (.tmp 2),none⟩,⟨(some 37),.bin .eql (.tmp 35) (.tmp 36),none⟩])
 (.cond (.tmp 37) (.seq (.region [⟨(some 6),.mv (.const (.bool true)),none⟩])
 .ret) .skip))
 (.seq (.seq (.region [⟨(some 38),.mv (.tmp 2),none⟩,⟨(some 39),.mv (.tmp 1),none⟩,⟨(some 40),.bin .sub (.tmp 38) (.tmp 39),none⟩,⟨(some 41),.bin .lss (.tmp 40) (.const (.int .i64 50)),none⟩])
 (.cond (.tmp 41) (.seq (.region [⟨(some 6),.mv (.const (.bool false)),none⟩])
 .ret) .skip))
 (.seq (.draw [⟨⟨(some 42),.mv (.tmp 0),none⟩,0,0⟩,⟨⟨(some 43),.mv (.tmp 7),none⟩,0,0⟩,⟨⟨(some 44),.mv (.tmp 0),none⟩,0,1⟩,⟨⟨(some 45),.mv (.tmp 7),none⟩,0,1⟩,⟨⟨(some 46),.bin .sub (.tmp 45) (.const (.int .i64 1)),none⟩,0,1⟩,⟨⟨(some 47),.mv (.tmp 0),none⟩,0,0⟩,⟨⟨(some 48),.mv (.tmp 7),none⟩,0,0⟩,⟨⟨(some 49),.bin .sub (.tmp 48) (.const (.int .i64 1)),none⟩,0,0⟩,⟨⟨(some 50),.iaddrS 1 (.tmp 47) (.tmp 49),none⟩,0,0⟩,⟨⟨(some 51),.load false 1 (.tmp 50),none⟩,0,0⟩,⟨⟨(some 52),.mv (.tmp 0),none⟩,0,0⟩,⟨⟨(some 53),.mv (.tmp 7),none⟩,0,0⟩,⟨⟨(some 54),.iaddrS 1 (.tmp 52) (.tmp 53),none⟩,0,0⟩,⟨⟨(some 55),.load false 1 (.tmp 54),none⟩,0,0⟩,⟨⟨(some 56),.iaddrS 1 (.tmp 42) (.tmp 43),none⟩,0,0⟩,⟨⟨none,.store 1 (.tmp 56) (.tmp 51),none⟩,0,1⟩,⟨⟨(some 57),.iaddrS 1 (.tmp 44) (.tmp 46),none⟩,1,1⟩,⟨⟨none,.store 1 (.tmp 57) (.tmp 55),none⟩,1,2⟩])
 (.seq (.seq (.region [⟨(some 58),.mv (.tmp 7),none⟩,⟨(some 59),.mv (.tmp 1),none⟩,⟨(some 60),.bin .sub (.tmp 58) (.tmp 59),none⟩,⟨(some 61),.bin .geq (.tmp 60) (.const (.int .i64 2)),none⟩])
 (.cond (.tmp 61) (.seq (.region [⟨(some 62),.mv (.tmp 7),none⟩,⟨(some 63),.bin .sub (.tmp 62) (.const (.int .i64 1)),none⟩,⟨(some 9),.mv (.tmp 63),none⟩])
 (.block 4 (.loop (.seq (.seq (.region [⟨(some 64),.mv (.tmp 9),none⟩,⟨(some 65),.bin .geq (.tmp 64) (.const (.int .i64 1)),none⟩])
 (.cond (.tmp 65) .skip (.exit 4)))
 (.seq (.block 5 (.seq (.seq (.draw [⟨⟨(some 68),.mv (.tmp 0),none⟩,0,0⟩,⟨⟨(some 69),.mv (.tmp 9),none⟩,0,0⟩,⟨⟨(some 70),.iaddrS 1 (.tmp 68) (.tmp 69),none⟩,0,0⟩,⟨⟨(some 71),.load false 1 (.tmp 70),none⟩,0,0⟩,⟨⟨(some 72),.mv (.tmp 0),none⟩,0,0⟩,⟨⟨(some 73),.mv (.tmp 9),none⟩,0,0⟩,⟨⟨(some 74),.bin .sub (.tmp 73) (.const (.int .i64 1)),none⟩,0,0⟩,⟨⟨(some 75),.iaddrS 1 (.tmp 72) (.tmp 74),none⟩,0,0⟩,⟨⟨(some 76),.load false 1 (.tmp 75),none⟩,0,0⟩,⟨⟨(some 77),.call 361 [(.tmp 71),(.tmp 76)],none⟩,0,1⟩,⟨⟨(some 78),.not (.tmp 77),none⟩,1,1⟩])
 (.cond (.tmp 78) (.exit 4) .skip))
 (.draw [⟨⟨(some 79),.mv (.tmp 0),none⟩,0,0⟩,⟨⟨(some 80),.mv (.tmp 9),none⟩,0,0⟩,⟨⟨(some 81),.mv (.tmp 0),none⟩,0,1⟩,⟨⟨(some 82),.mv (.tmp 9),none⟩,0,1⟩,⟨⟨(some 83),.bin .sub (.tmp 82) (.const (.int .i64 1)),none⟩,0,1⟩,⟨⟨(some 84),.mv (.tmp 0),none⟩,0,0⟩,⟨⟨(some 85),.mv (.tmp 9),none⟩,0,0⟩,⟨⟨(some 86),.bin .sub (.tmp 85) (.const (.int .i64 1)),none⟩,0,0⟩,⟨⟨(some 87),.iaddrS 1 (.tmp 84) (.tmp 86),none⟩,0,0⟩,⟨⟨(some 88),.load false 1 (.tmp 87),none⟩,0,0⟩,⟨⟨(some 89),.mv (.tmp 0),none⟩,0,0⟩,⟨⟨(some 90),.mv (.tmp 9),none⟩,0,0⟩,⟨⟨(some 91),.iaddrS 1 (.tmp 89) (.tmp 90),none⟩,0,0⟩,⟨⟨(some 92),.load false 1 (.tmp 91),none⟩,0,0⟩,⟨⟨(some 93),.iaddrS 1 (.tmp 79) (.tmp 80),none⟩,0,0⟩,⟨⟨none,.store 1 (.tmp 93) (.tmp 88),none⟩,0,1⟩,⟨⟨(some 94),.iaddrS 1 (.tmp 81) (.tmp 83),none⟩,1,1⟩,⟨⟨none,.store 1 (.tmp 94) (.tmp 92),none⟩,1,2⟩])))
 (.region [⟨(some 66),.mv (.tmp 9),none⟩,⟨(some 67),.bin .sub (.tmp 66) (.const (.int .i64 1)),none⟩,⟨(some 9),.mv (.tmp 67),none⟩])))))) .skip))
 (.seq (.region [⟨(some 95),.mv (.tmp 2),none⟩,⟨(some 96),.mv (.tmp 7),none⟩,⟨(some 97),.bin .sub (.tmp 95) (.tmp 96),none⟩,⟨(some 98),.bin .geq (.tmp 97) (.const (.int .i64 2)),none⟩])
 (.cond (.tmp 98) (.seq (.region [⟨(some 99),.mv (.tmp 7),none⟩,⟨(some 100),.bin .add (.tmp 99) (.const (.int .i64 1)),none⟩,⟨(some 10),.mv (.tmp 100),none⟩])
 (.block 6 (.loop (.seq (.seq (.region [⟨(some 101),.mv (.tmp 10),none⟩,⟨(some 102),.mv (.tmp 2),none⟩,⟨(some 103),.bin .lss (.tmp 101) (.tmp 102),none⟩])
 (.cond (.tmp 103) .skip (.exit 6)))
 (.seq (.block 7 (.seq (.seq (.draw [⟨⟨(some 106),.mv (.tmp 0),none⟩,0,0⟩,⟨⟨(some 107),.mv (.tmp 10),none⟩,0,0⟩,⟨⟨(some 108),.iaddrS 1 (.tmp 106) (.tmp 107),none⟩,0,0⟩,⟨⟨(some 109),.load false 1 (.tmp 108),none⟩,0,0⟩,⟨⟨(some 110),.mv (.tmp 0),none⟩,0,0⟩,⟨⟨(some 111),.mv (.tmp 10),none⟩,0,0⟩,⟨⟨(some 112),.bin .sub (.tmp 111) (.const (.int .i64 1)),none⟩,0,0⟩,⟨⟨(some 113),.iaddrS 1 (.tmp 110) (.tmp 112),none⟩,0,0⟩,⟨⟨(some 114),.load false 1 (.tmp 113),none⟩,0,0⟩,⟨⟨(some 115),.call 361 [(.tmp 109),(.tmp 114)],none⟩,0,1⟩,⟨⟨(some 116),.not (.tmp 115),none⟩,1,1⟩])
 (.cond (.tmp 116) (.exit 6) .skip))
 (.draw [⟨⟨(some 117),.mv (.tmp 0),none⟩,0,0⟩,⟨⟨(some 118),.mv (.tmp 10),none⟩,0,0⟩,⟨⟨(some 119),.mv (.tmp 0),none⟩,0,1⟩,⟨⟨(some 120),.mv (.tmp 10),none⟩,0,1⟩,⟨⟨(some 121),.bin .sub (.tmp 120) (.const (.int .i64 1)),none⟩,0,1⟩,⟨⟨(some 122),.mv (.tmp 0),none⟩,0,0⟩,⟨⟨(some 123),.mv (.tmp 10),none⟩,0,0⟩,⟨⟨(some 124),.bin .sub (.tmp 123) (.const (.int .i64 1)),none⟩,0,0⟩,⟨⟨(some 125),.iaddrS 1 (.tmp 122) (.tmp 124),none⟩,0,0⟩,⟨⟨(some 126),.load false 1 (.tmp 125),none⟩,0,0⟩,⟨⟨(some 127),.mv (.tmp 0),none⟩,0,0⟩,⟨⟨(some 128),.mv (.tmp 10),none⟩,0,0⟩,⟨⟨(some 129),.iaddrS 1 (.tmp 127) (.tmp 128),none⟩,0,0⟩,⟨⟨(some 130),.load false 1 (.tmp 129),none⟩,0,0⟩,⟨⟨(some 131),.iaddrS 1 (.tmp 117) (.tmp 118),none⟩,0,0⟩,⟨⟨none,.store 1 (.tmp 131) (.tmp 126),none⟩,0,1⟩,⟨⟨(some 132),.iaddrS 1 (.tmp 119) (.tmp 121),none⟩,1,1⟩,⟨⟨none,.store 1 (.tmp 132) (.tmp 130),none⟩,1,2⟩])))
 (.region [⟨(some 104),.mv (.tmp 10),none⟩,⟨(some 105),.bin .add (.tmp 104) (.const (.int .i64 1)),none⟩,⟨(some 10),.mv (.tmp 105),none⟩])))))) .skip))))))))
 (.region [⟨(some 15),.mv (.tmp 8),none⟩,⟨(some 16),.bin .add (.tmp 15) (.const (.int .i64 1)),none⟩,⟨(some 8),.mv (.tmp 16),none⟩]))))))
 (.seq (.region [⟨(some 6),.mv (.const (.bool false)),none⟩])
 .ret))))⟩
theorem k360 : compFn Tryz.prog Tryz.f360 = some c360 := by kernel_rfl
-- cmp.Less[int]
def c361 : AFunc := ⟨[.tmp 4],(.seq (.region [⟨(some 4),.mv (.const (.bool false)),none⟩])
 (.seq (.region [⟨(some 5),.mv (.tmp 0),none⟩,⟨(some 6),.call 391 [(.tmp 5)],none⟩,⟨(some 7),.mv (.tmp 6),none⟩,⟨(some 8),.mv (.tmp 1),some (7,true)⟩,⟨(some 9),.call 391 [(.tmp 8)],some (7,true)⟩,⟨(some 10),.not (.tmp 9),some (7,true)⟩,⟨(some 11),.pick (.tmp 7) (.tmp 10) (.const (.bool false)),none⟩,⟨(some 12),.mv (.tmp 11),none⟩,⟨(some 13),.mv (.tmp 0),some (12,false)⟩,⟨(some 14),.mv (.tmp 1),some (12,false)⟩,⟨(some 15),.bin .lss (.tmp 13) (.tmp 14),some (12,false)⟩,⟨(some 16),.pick (.tmp 12) (.const (.bool true)) (.tmp 15),none⟩,⟨(some 4),.mv (.tmp 16),none⟩])
 .ret))⟩
theorem k361 : compFn Tryz.prog Tryz.f361 = some c361 := by kernel_rfl
-- slices.partitionEqualOrdered[int]
def c362 : AFunc := ⟨[.tmp 8],(.seq (.region [⟨(some 8),.mv (.const (.int .i64 0)),none⟩])
 (.seq (.draw [⟨⟨(some 11),.mv (.tmp 0),none⟩,0,0⟩,⟨⟨(some 12),.mv (.tmp 1),none⟩,0,0⟩,⟨⟨(some 13),.mv (.tmp 0),none⟩,0,1⟩,⟨⟨(some 14),.mv (.tmp 3),none⟩,0,1⟩,⟨⟨(some 15),.mv (.tmp 0),none⟩,0,0⟩,⟨⟨(some 16),.mv (.tmp 3),none⟩,0,0⟩,⟨⟨(some 17),.iaddrS 1 (.tmp 15) (.tmp 16),none⟩,0,0⟩,⟨⟨(some 18),.load false 1 (.tmp 17),none⟩,0,0⟩,⟨⟨(some 19),.mv (.tmp 0),none⟩,0,0⟩,⟨⟨(some 20),.mv (.tmp 1),none⟩,0,0⟩,⟨⟨(some 21),.iaddrS 1 (.tmp 19) (.tmp 20),none⟩,0,0⟩,⟨⟨(some 22),.load false 1 (.tmp 21),none⟩,0,0⟩,⟨⟨(some 23),.iaddrS 1 (.tmp 11) (.tmp 12),none⟩,0,0⟩,⟨⟨none,.store 1 (.tmp 23) (.tmp 18),none⟩,0,1⟩,⟨⟨(some 24),.iaddrS 1 (.tmp 13) (.tmp 14),none⟩,1,1⟩,⟨⟨none,.store 1 (.tmp 24) (.tmp 22),none⟩,1,2⟩])
 (.seq (.region [⟨(some 25),.mv (.tmp 1),none⟩,⟨(some 26),.bin .add (.tmp 25) (.const (.int .i64 1)),none⟩,⟨(some 27),.mv (.tmp 2),none⟩,⟨(some 28),.bin .sub (.tmp 27) (.const (.int .i64 1)),none⟩,⟨(some 9),.mv (.tmp 26),none⟩,⟨(some 10),.mv (.tmp 28),none⟩])
 (.seq (.block 0 (.loop (.block 1 (.seq (.block 2 (.loop (.seq (.seq (.draw [⟨⟨(some 29),.mv (.tmp 9),none⟩,0,0⟩,⟨⟨(some 30),.mv (.tmp 10),none⟩,0,0⟩,⟨⟨(some 31),.bin .leq (.tmp 29) (.tmp 30),none⟩,0,0⟩,⟨⟨(some 32),.mv (.tmp 31),none⟩,0,0⟩,⟨⟨(some 33),.mv (.tmp 0),some (32,true)⟩,0,0⟩,⟨⟨(some 34),.mv (.tmp 1),some (32,true)⟩,0,0⟩,⟨⟨(some 35),.iaddrS 1 (.tmp 33) (.tmp 34),some (32,true)⟩,0,0⟩,⟨⟨(some 36),.load false 1 (.tmp 35),some (32,true)⟩,0,0⟩,⟨⟨(some 37),.mv (.tmp 0),some (32,true)⟩,0,0⟩,⟨⟨(some 38),.mv (.tmp 9),some (32,true)⟩,0,0⟩,⟨⟨(some 39),.iaddrS 1 (.tmp 37) (.tmp 38),some (32,true)⟩,0,0⟩,⟨⟨(some 40),.load false 1 (.tmp 39),some (32,true)⟩,0,0⟩,⟨⟨(some 41),.call 361 [(.tmp 36),(.tmp 40)],some (32,true)⟩,0,1⟩,⟨⟨(some 42),.not (.tmp 41),some (32,true)⟩,1,1⟩,⟨⟨(some 43),.pick (.tmp 32) (.tmp 42) (.const (.bool false)),none⟩,1,1⟩])
 (.cond (.tmp 43) .skip (.exit 2)))
 (.block 3 (.region [⟨(some 44),.mv (.tmp 9),none⟩,⟨(some 45),.bin .add (.tmp 44) (.const (.int .i64 1)),none⟩,⟨(some 9),.mv (.tmp 45),none⟩])))))
 (.seq (.block 4 (.loop (.seq (.seq (.draw [⟨⟨(some 46),.mv (.tmp 9),none⟩,0,0⟩,⟨⟨(some 47),.mv (.tmp 10),none⟩,0,0⟩,⟨⟨(some 48),.bin .leq (.tmp 46) (.tmp 47),none⟩,0,0⟩,⟨⟨(some 49),.mv (.tmp 48),none⟩,0,0⟩,⟨⟨(some 50),.mv (.tmp 0),some (49,true)⟩,0,0⟩,⟨⟨(some 51),.mv (.tmp 1),some (49,true)⟩,0,0⟩,⟨⟨(some 52),.iaddrS 1 (.tmp 50) (.tmp 51),some (49,true)⟩,0,0⟩,⟨⟨(some 53),.load false 1 (.tmp 52),some (49,true)⟩,0,0⟩,⟨⟨(some 54),.mv (.tmp 0),some (49,true)⟩,0,0⟩,⟨⟨(some 55),.mv (.tmp 10),some (49,true)⟩,0,0⟩,⟨⟨(some 56),.iaddrS 1 (.tmp 54) (.tmp 55),some (49,true)⟩,0,0⟩,⟨⟨(some 57),.load false 1 (.tmp 56),some (49,true)⟩,0,0⟩,⟨⟨(some 58),.call 361 [(.tmp 53),(.tmp 57)],some (49,true)⟩,0,1⟩,⟨⟨(some 59),.pick (.tmp 49) (.tmp 58) (.const (.bool false)),none⟩,1,1⟩])
 (.cond (.tmp 59) .skip (.exit 4)))
 (.block 5 (.region [⟨(some 60),.mv (.tmp 10),none⟩,⟨(some 61),.bin .sub (.tmp 60) (.const (.int .i64 1)),none⟩,⟨(some 10),.mv (.tmp 61),none⟩])))))
 (.seq (.seq (.region [⟨(some 62),.mv (.tmp 9),none⟩,⟨(some 63),.mv (.tmp 10),none⟩,⟨(some 64),.bin .gtr (.tmp 62) (.tmp 63),none⟩])
 (.cond (.tmp 64) (.exit 0) .skip))
 (.seq (.draw [⟨⟨(some 65),.mv (.tmp 0),none⟩,0,0⟩,⟨⟨(some 66),.mv (.tmp 9),none⟩,0,0⟩,⟨⟨(some 67),.mv (.tmp 0),none⟩,0,1⟩,⟨⟨(some 68),.mv (.tmp 10),none⟩,0,1⟩,⟨⟨(some 69),.mv (.tmp 0),none⟩,0,0⟩,⟨⟨(some 70),.mv (.tmp 10),none⟩,0,0⟩,⟨⟨(some 71),.iaddrS 1 (.tmp 69) (.tmp 70),none⟩,0,0⟩,⟨⟨(some 72),.load false 1 (.tmp 71),none⟩,0,0⟩,⟨⟨(some 73),.mv (.tmp 0),none⟩,0,0⟩,⟨⟨(some 74),.mv (.tmp 9),none⟩,0,0⟩,⟨⟨(some 75),.iaddrS 1 (.tmp 73) (.tmp 74),none⟩,0,0⟩,⟨⟨(some 76),.load false 1 (.tmp 75),none⟩,0,0⟩,⟨⟨(some 77),.iaddrS 1 (.tmp 65) (.tmp 66),none⟩,0,0⟩,⟨⟨none,.store 1 (.tmp 77) (.tmp 72),none⟩,0,1⟩,⟨⟨(some 78),.iaddrS 1 (.tmp 67) (.tmp 68),none⟩,1,1⟩,⟨⟨none,.store 1 (.tmp 78) (.tmp 76),none⟩,1,2⟩])
 (.seq (.region [⟨(some 79),.mv (.tmp 9),none⟩,⟨(some 80),.bin .add (.tmp 79) (.const (.int .i64 1)),none⟩,⟨(some 9),.mv (.tmp 80),none⟩])
 (.region [⟨(some 81),.mv (.tmp 10),none⟩,⟨(some 82),.bin .sub (.tmp 81) (.const (.int .i64 1)),none⟩,⟨(some 10),.mv (.tmp 82),none⟩])))))))))
 (.seq (.region [⟨(some 83),.mv (.tmp 9),none⟩,⟨(some 8),.mv (.tmp 83),none⟩])
 .ret)))))⟩
theorem k362 : compFn Tryz.prog Tryz.f362 = some c362 := by kernel_rfl
-- slices.partitionOrdered[int]
def c363 : AFunc := ⟨[.tmp 8,.tmp 9],(.seq (.region [⟨(some 8),.mv (.const (.int .i64 0)),none⟩,⟨(some 9),.mv (.const (.bool false)),none⟩])
 (.seq (.draw [⟨⟨(some 12),.mv (.tmp 0),none⟩,0,0⟩,⟨⟨(some 13),.mv (.tmp 1),none⟩,0,0⟩,⟨⟨(some 14),.mv (.tmp 0),none⟩,0,1⟩,⟨⟨(some 15),.mv (.tmp 3),none⟩,0,1⟩,⟨⟨(some 16),.mv (.tmp 0),none⟩,0,0⟩,⟨⟨(some 17),.mv (.tmp 3),none⟩,0,0⟩,⟨⟨(some 18),.iaddrS 1 (.tmp 16) (.tmp 17),none⟩,0,0⟩,⟨⟨(some 19),.load false 1 (.tmp 18),none⟩,0,0⟩,⟨⟨(some 20),.mv (.tmp 0),none⟩,0,0⟩,⟨⟨(some 21),.mv (.tmp 1),none⟩,0,0⟩,⟨⟨(some 22),.iaddrS 1 (.tmp 20) (.tmp 21),none⟩,0,0⟩,⟨⟨(some 23),.load false 1 (.tmp 22),none⟩,0,0⟩,⟨⟨(some 24),.iaddrS 1 (.tmp 12) (.tmp 13),none⟩,0,0⟩,⟨⟨none,.store 1 (.tmp 24) (.tmp 19),none⟩,0,1⟩,⟨⟨(some 25),.iaddrS 1 (.tmp 14) (.tmp 15),none⟩,1,1⟩,⟨⟨none,.store 1 (.tmp 25) (.tmp 23),none⟩,1,2⟩])
 (.seq (.region [⟨(some 26),.mv (.tmp 1),none⟩,⟨(some 27),.bin .add (.tmp 26) (.const (.int .i64 1)),none⟩,⟨(some 28),.mv (.tmp 2),none⟩,⟨(some 29),.bin .sub (.tmp 28) (.const (.int .i64 1)),none⟩,⟨(some 10),.mv (.tmp 27),none⟩,⟨(some 11),.mv (.tmp 29),none⟩])
 (.seq (.block 0 (.loop (.seq (.seq (.draw [⟨⟨(some 30),.mv (.tmp 10),none⟩,0,0⟩,⟨⟨(some 31),.mv (.tmp 11),none⟩,0,0⟩,⟨⟨(some 32),.bin .leq (.tmp 30) (.tmp 31),none⟩,0,0⟩,⟨⟨(some 33),.mv (.tmp 32),none⟩,0,0⟩,⟨⟨(some 34),.mv (.tmp 0),some (33,true)⟩,0,0⟩,⟨⟨(some 35),.mv (.tmp 10),some (33,true)⟩,0,0⟩,⟨⟨(some 36),.iaddrS 1 (.tmp 34) (.tmp 35),some (33,true)⟩,0,0⟩,⟨⟨(some 37),.load false 1 (.tmp 36),some (33,true)⟩,0,0⟩,⟨⟨(some 38),.mv (.tmp 0),some (33,true)⟩,0,0⟩,⟨⟨(some 39),.mv (.tmp 1),some (33,true)⟩,0,0⟩,⟨⟨(some 40),.iaddrS 1 (.tmp 38) (.tmp 39),some (33,true)⟩,0,0⟩,⟨⟨(some 41),.load false 1 (.tmp 40),some (33,true)⟩,0,0⟩,⟨⟨(some 42),.call 361 [(.tmp 37),(.tmp 41)],some (33,true)⟩,0,1⟩,⟨⟨(some 43),.pick (.tmp 33) (.tmp 42) (.const (.bool false)),none⟩,1,1⟩])
 (.cond (.tmp 43) .skip (.exit 0)))
 (.block 1 (.region [⟨(some 44),.mv (.tmp 10),none⟩,⟨(some 45),.bin .add (.tmp 44) (.const (.int .i64 1)),none⟩,⟨(some 10),.mv (.tmp 45),none⟩])))))
 (.seq (.block 2 (.loop (.seq (.seq (.draw [⟨⟨(some 46),.mv (.tmp 10),none⟩,0,0⟩,⟨⟨(some 47),.mv (.tmp 11),none⟩,0,0⟩,⟨⟨(some 48),.bin .leq (.tmp 46) (.tmp 47),none⟩,0,0⟩,⟨⟨(some 49),.mv (.tmp 48),none⟩,0,0⟩,⟨⟨(some 50),.mv (.tmp 0),some (49,true)⟩,0,0⟩,⟨⟨(some 51),.mv (.tmp 11),some (49,true)⟩,0,0⟩,⟨⟨(some 52),.iaddrS 1 (.tmp 50) (.tmp 51),some (49,true)⟩,0,0⟩,⟨⟨(some 53),.load false 1 (.tmp 52),some (49,true)⟩,0,0⟩,⟨⟨(some 54),.mv (.tmp 0),some (49,true)⟩,0,0⟩,⟨⟨(some 55),.mv (.tmp 1),some (49,true)⟩,0,0⟩,⟨⟨(some 56),.iaddrS 1 (.tmp 54) (.tmp 55),some (49,true)⟩,0,0⟩,⟨⟨(some 57),.load false 1 (.tmp 56),some (49,true)⟩,0,0⟩,⟨⟨(some 58),.call 361 [(.tmp 53),(.tmp 57)],some (49,true)⟩,0,1⟩,⟨⟨(some 59),.not (.tmp 58),some (49,true)⟩,1,1⟩,⟨⟨(some 60),.pick (.tmp 49) (.tmp 59) (.const (.bool false)),none⟩,1,1⟩])
 (.cond (.tmp 60) .skip (.exit 2)))
 (.block 3 (.region [⟨(some 61),.mv (.tmp 11),none⟩,⟨(some 62),.bin .sub (.tmp 61) (.const (.int .i64 1)),none⟩,⟨(some 11),.mv (.tmp 62),none⟩])))))
 (.seq (.seq (.region [⟨(some 63),.mv (.tmp 10),none⟩,⟨(some 64),.mv (.tmp 11),none⟩,⟨(some 65),.bin .gtr (.tmp 63) (.tmp 64),none⟩])
 (.cond (.tmp 65) (.seq (.draw [⟨⟨(some 66),.mv (.tmp 0),none⟩,0,0⟩,⟨⟨(some 67),.mv (.tmp 11),none⟩,0,0⟩,⟨⟨(some 68),.mv (.tmp 0),none⟩,0,1⟩,⟨⟨(some 69),.mv (.tmp 1),none⟩,0,1⟩,⟨⟨(some 70),.mv (.tmp 0),none⟩,0,0⟩,⟨⟨(some 71),.mv (.tmp 1),none⟩,0,0⟩,⟨⟨(some 72),.iaddrS 1 (.tmp 70) (.tmp 71),none⟩,0,0⟩,⟨⟨(some 73),.load false 1 (.tmp 72),none⟩,0,0⟩,⟨⟨(some 74),.mv (.tmp 0),none⟩,0,0⟩,⟨⟨(some 75),.mv (.tmp 11),none⟩,0,0⟩,⟨⟨(some 76),.iaddrS 1 (.tmp 74) (.tmp 75),none⟩,0,0⟩,⟨⟨(some 77),.load false 1 (.tmp 76),none⟩,0,0⟩,⟨⟨(some 78),.iaddrS 1 (.tmp 66) (.tmp 67),none⟩,0,0⟩,⟨⟨none,.store 1 (.tmp 78) (.tmp 73),none⟩,0,1⟩,⟨⟨(some 79),.iaddrS 1 (.tmp 68) (.tmp 69),none⟩,1,1⟩,⟨⟨none,.store 1 (.tmp 79) (.tmp 77),none⟩,1,2⟩])
 (.seq (.region [⟨(some 80),.mv (.tmp 11),none⟩,⟨(some 8),.mv (.tmp 80),none⟩,⟨(some 9),.mv (.const (.bool true)),none⟩])
 .ret)) .skip))
 (.seq (.draw [⟨⟨(some 81),.mv (.tmp 0),none⟩,0,0⟩,⟨⟨(some 82),.mv (.tmp 10),none⟩,0,0⟩,⟨⟨(some 83),.mv (.tmp 0),none⟩,0,1⟩,⟨⟨(some 84),.mv (.tmp 11),none⟩,0,1⟩,⟨⟨(some 85),.mv (.tmp 0),none⟩,0,0⟩,⟨⟨(some 86),.mv (.tmp 11),none⟩,0,0⟩,⟨⟨(some 87),.iaddrS 1 (.tmp 85) (.tmp 86),none⟩,0,0⟩,⟨⟨(some 88),.load false 1 (.tmp 87),none⟩,0,0⟩,⟨⟨(some 89),.mv (.tmp 0),none⟩,0,0⟩,⟨⟨(some 90),.mv (.tmp 10),none⟩,0,0⟩,⟨⟨(some 91),.iaddrS 1 (.tmp 89) (.tmp 90),none⟩,0,0⟩,⟨⟨(some 92),.load false 1 (.tmp 91),none⟩,0,0⟩,⟨⟨(some 93),.iaddrS 1 (.tmp 81) (.tmp 82),none⟩,0,0⟩,⟨⟨none,.store 1 (.tmp 93) (.tmp 88),none⟩,0,1⟩,⟨⟨(some 94),.iaddrS 1 (.tmp 83) (.tmp 84),none⟩,1,1⟩,⟨⟨none,.store 1 (.tmp 94) (.tmp 92),none⟩,1,2⟩])
 (.seq (.region [⟨(some 95),.mv (.tmp 10),none⟩,⟨(some 96),.bin .add (.tmp 95) (.const (.int .i64 1)),none⟩,⟨(some 10),.mv (.tmp 96),none⟩])
 (.seq (.region [⟨(some 97),.mv (.tmp 11),none⟩,⟨(some 98),.bin .sub (.tmp 97) (.const (.int .i64 1)),none⟩,⟨(some 11),.mv (.tmp 98),none⟩])
 (.seq (.block 4 (.loop (.block 5 (.seq (.block 6 (.loop (.seq (.seq (.draw [⟨⟨(some 99),.mv (.tmp 10),none⟩,0,0⟩,⟨⟨(some 100),.mv (.tmp 11),none⟩,0,0⟩,⟨⟨(some 101),.bin .leq (.tmp 99) (.tmp 100),none⟩,0,0⟩,⟨⟨(some 102),.mv (.tmp 101),none⟩,0,0⟩,⟨⟨(some 103),.mv (.tmp 0),some (102,true)⟩,0,0⟩,⟨⟨(some 104),.mv (.tmp 10),some (102,true)⟩,0,0⟩,⟨⟨(some 105),.iaddrS 1 (.tmp 103) (.tmp 104),some (102,true)⟩,0,0⟩,⟨⟨(some 106),.load false 1 (.tmp 105),some (102,true)⟩,0,0⟩,⟨⟨(some 107),.mv (.tmp 0),some (102,true)⟩,0,0⟩,⟨⟨(some 108),.mv (.tmp 1),some (102,true)⟩,0,0⟩,⟨⟨(some 109),.iaddrS 1 (.tmp 107) (.tmp 108),some (102,true)⟩,0,0⟩,⟨⟨(some 110),.load false 1 (.tmp 109),some (102,true)⟩,0,0⟩,⟨⟨(some 111),.call 361 [(.tmp 106),(.tmp 110)],some (102,true)⟩,0,1⟩,⟨⟨(some 112),.pick (.tmp 102) (.tmp 111) (.const (.bool false)),none⟩,1,1⟩])
 (.cond (.tmp 112) .skip (.exit 6)))
 (.block 7 (.region [⟨(some 113),.mv (.tmp 10),none⟩,⟨(some 114),.bin .add (.tmp 113) (.const (.int .i64 1)),none⟩,⟨(some 10),.mv (.tmp 114),none⟩])))))
 (.seq (.block 8 (.loop (.seq (.seq (.draw [⟨⟨(some 115),.mv (.tmp 10),none⟩,0,0⟩,⟨⟨(some 116),.mv (.tmp 11),none⟩,0,0⟩,⟨⟨(some 117),.bin .leq (.tmp 115) (.tmp 116),none⟩,0,0⟩,⟨⟨(some 118),.mv (.tmp 117),none⟩,0,0⟩,⟨⟨(some 119),.mv (.tmp 0),some (118,true)⟩,0,0⟩,⟨⟨(some 120),.mv (.tmp 11),some (118,true)⟩,0,0⟩,⟨⟨(some 121),.iaddrS 1 (.tmp 119) (.tmp 120),some (118,true)⟩,0,0⟩,⟨⟨(some 122),.load false 1 (.tmp 121),some (118,true)⟩,0,0⟩,⟨⟨(some 123),.mv (.tmp 0),some (118,true)⟩,0,0⟩,⟨⟨(some 124),.mv (.tmp 1),some (118,true)⟩,0,0⟩,⟨⟨(some 125),.iaddrS 1 (.tmp 123) (.tmp 124),some (118,true)⟩,0,0⟩,⟨⟨(some 126),.load false 1 (.tmp 125),some (118,true)⟩,0,0⟩,⟨⟨(some 127),.call 361 [(.tmp 122),(.tmp 126)],some (118,true)⟩,0,1⟩,⟨⟨(some 128),.not (.tmp 127),some (118,true)⟩,1,1⟩,⟨⟨(some 129),.pick (.tmp 118) (.tmp 128) (.const (.bool false)),none⟩,1,1⟩])
 (.cond (.tmp 129) .skip (.exit 8)))
 (.block 9 (.region [⟨(some 130),.mv (.tmp 11),none⟩,⟨(some 131),.bin .sub (.tmp 130) (.const (.int .i64 1)),none⟩,⟨(some 11),.mv (.tmp 131),none⟩])))))
 (.seq (.seq (.region [⟨(some 132),.mv (.tmp 10),none⟩,⟨(some 133),.mv (.tmp 11),none⟩,⟨(some 134),.bin .gtr (.tmp 132) (.tmp 133),none⟩])
 (.cond (.tmp 134) (.exit 4) .skip))
 (.seq (.draw [⟨⟨(some 135),.mv (.tmp 0),none⟩,0,0⟩,⟨⟨(some 136),.mv (.tmp 10),none⟩,0,0⟩,⟨⟨(some 137),.mv (.tmp 0),none⟩,0,1⟩,⟨⟨(some 138),.mv (.tmp 11),none⟩,0,1⟩,⟨⟨(some 139),.mv (.tmp 0),none⟩,0,0⟩,⟨⟨(some 140),.mv (.tmp 11),none⟩,0,0⟩,⟨⟨(some 141),.iaddrS 1 (.tmp 139) (.tmp 140),none⟩,0,0⟩,⟨⟨(some 142),.load false 1 (.tmp 141),none⟩,0,0⟩,⟨⟨(some 143),.mv (.tmp 0),none⟩,0,0⟩,⟨⟨(some 144),.mv (.tmp 10),none⟩,0,0⟩,⟨⟨(some 145),.iaddrS 1 (.tmp 143) (.tmp 144),none⟩,0,0⟩,⟨⟨(some 146),.load false 1 (.tmp 145),none⟩,0,0⟩,⟨⟨(some 147),.iaddrS 1 (.tmp 135) (.tmp 136),none⟩,0,0⟩,⟨⟨none,.store 1 (.tmp 147) (.tmp 142),none⟩,0,1⟩,⟨⟨(some 148),.iaddrS 1 (.tmp 137) (.tmp 138),none⟩,1,1⟩,⟨⟨none,.store 1 (.tmp 148) (.tmp 146),none⟩,1,2⟩])
 (.seq (.region [⟨(some 149),.mv (.tmp 10),none⟩,⟨(some 150),.bin .add (.tmp 149) (.const (.int .i64 1)),none⟩,⟨(some 10),.mv (.tmp 150),none⟩])
 (.region [⟨(some 151),.mv (.tmp 11),none⟩,⟨(some 152),.bin .sub (.tmp 151) (.const (.int .i64 1)),none⟩,⟨(some 11),.mv (.tmp 152),none⟩])))))))))
 (.seq (.draw [⟨⟨(some 153),.mv (.tmp 0),none⟩,0,0⟩,⟨⟨(some 154),.mv (.tmp 11),none⟩,0,0⟩,⟨⟨(some 155),.mv (.tmp 0),none⟩,0,1⟩,⟨⟨(some 156),.mv (.tmp 1),none⟩,0,1⟩,⟨⟨(some 157),.mv (.tmp 0),none⟩,0,0⟩,⟨⟨(some 158),.mv (.tmp 1),none⟩,0,0⟩,⟨⟨(some 159),.iaddrS 1 (.tmp 157) (.tmp 158),none⟩,0,0⟩,⟨⟨(some 160),.load false 1 (.tmp 159),none⟩,0,0⟩,⟨⟨(some 161),.mv (.tmp 0),none⟩,0,0⟩,⟨⟨(some 162),.mv (.tmp 11),none⟩,0,0⟩,⟨⟨(some 163),.iaddrS 1 (.tmp 161) (.tmp 162),none⟩,0,0⟩,⟨⟨(some 164),.load false 1 (.tmp 163),none⟩,0,0⟩,⟨⟨(some 165),.iaddrS 1 (.tmp 153) (.tmp 154),none⟩,0,0⟩,⟨⟨none,.store 1 (.tmp 165) (.tmp 160),none⟩,0,1⟩,⟨⟨(some 166),.iaddrS 1 (.tmp 155) (.tmp 156),none⟩,1,1⟩,⟨⟨none,.store 1 (.tmp 166) (.tmp 164),none⟩,1,2⟩])
 (.seq (.region [⟨(some 167),.mv (.tmp 11),none⟩,⟨(some 8),.mv (.tmp 167),none⟩,⟨(some 9),.mv (.const (.bool false)),none⟩])
 .ret))))))))))))⟩
theorem k363 : compFn Tryz.prog Tryz.f363 = some c363 := by kernel_rfl
-- (*croft/buddy.Buddy).page
def c364 : AFunc := ⟨[.tmp 4,.tmp 5],(.seq (.region [⟨(some 4),.mv (.const (.int .i64 0)),none⟩,⟨(some 5),.mv (.const (.bool false)),none⟩])
 (.seq (.seq (.draw [⟨⟨(some 6),.mv (.tmp 1),none⟩,0,0⟩,⟨⟨(some 7),.mv (.tmp 0),none⟩,0,0⟩,⟨⟨(some 8),.nilCheck (.tmp 7),none⟩,0,0⟩,⟨⟨(some 9),.faddr 0 (.tmp 8),none⟩,0,0⟩,⟨⟨(some 10),.faddr 0 (.tmp 9),none⟩,0,0⟩,⟨⟨(some 11),.load false 1 (.tmp 10),none⟩,0,0⟩,⟨⟨(some 12),.bin .lss (.tmp 6) (.tmp 11),none⟩,0,0⟩,⟨⟨(some 13),.mv (.tmp 12),none⟩,0,0⟩,⟨⟨(some 14),.mv (.tmp 1),some (13,false)⟩,0,0⟩,⟨⟨(some 15),.bin .rem (.tmp 14) (.const (.int .u64 4096)),some (13,false)⟩,0,0⟩,⟨⟨(some 16),.bin .neq (.tmp 15) (.const (.int .u64 0)),some (13,false)⟩,0,0⟩,⟨⟨(some 17),.pick (.tmp 13) (.const (.bool true)) (.tmp 16),none⟩,0,0⟩,⟨⟨(some 18),.mv (.tmp 17),none⟩,0,0⟩,⟨⟨(some 19),.mv (.tmp 1),some (18,false)⟩,0,1⟩,⟨⟨(some 20),.mv (.tmp 0),some (18,false)⟩,0,1⟩,⟨⟨(some 21),.nilCheck (.tmp 20),some (18,false)⟩,0,1⟩,⟨⟨(some 22),.faddr 0 (.tmp 21),some (18,false)⟩,0,1⟩,⟨⟨(some 23),.faddr 0 (.tmp 22),some (18,false)⟩,0,1⟩,⟨⟨(some 24),.load false 1 (.tmp 23),some (18,false)⟩,0,1⟩,⟨⟨(some 25),.bin .sub (.tmp 19) (.tmp 24),some (18,false)⟩,0,1⟩,⟨⟨(some 26),.bin .quo (.tmp 25) (.const (.int .u64 4096)),some (18,false)⟩,0,1⟩,⟨⟨(some 27),.mv (.tmp 0),some (18,false)⟩,0,0⟩,⟨⟨(some 28),.nilCheck (.tmp 27),some (18,false)⟩,0,0⟩,⟨⟨(some 29),.faddr 4 (.tmp 28),some (18,false)⟩,0,0⟩,⟨⟨(some 30),.load false 1 (.tmp 29),some (18,false)⟩,0,0⟩,⟨⟨(some 31),.call 117 [(.tmp 30)],some (18,false)⟩,0,1⟩,⟨⟨(some 32),.conv .u64 (.tmp 31),some (18,false)⟩,1,1⟩,⟨⟨(some 33),.bin .geq (.tmp 26) (.tmp 32),some (18,false)⟩,1,1⟩,⟨⟨(some 34),.pick (.tmp 18) (.const (.bool true)) (.tmp 33),none⟩,1,1⟩])
 (.cond (.tmp 34) (.seq (.region [⟨(some 4),.mv (.const (.int .i64 0)),none⟩,⟨(some 5),.mv (.const (.bool false)),none⟩])
 .ret) .skip))
 (.seq (.region [⟨(some 35),.mv (.tmp 1),none⟩,⟨(some 36),.mv (.tmp 0),none⟩,⟨(some 37),.nilCheck (.tmp 36),none⟩,⟨(some 38),.faddr 0 (.tmp 37),none⟩,⟨(some 39),.faddr 0 (.tmp 38),none⟩,⟨(some 40),.load false 1 (.tmp 39),none⟩,⟨(some 41),.bin .sub (.tmp 35) (.tmp 40),none⟩,⟨(some 42),.bin .quo (.tmp 41) (.const (.int .u64 4096)),none⟩,⟨(some 43),.conv .i64 (.tmp 42),none⟩,⟨(some 4),.mv (.tmp 43),none⟩,⟨(some 5),.mv (.const (.bool true)),none⟩])
 .ret)))⟩
theorem k364 : compFn Tryz.prog Tryz.f364 = some c364 := by kernel_rfl
-- (*croft/buddy.Buddy).enter
def c365 : AFunc := ⟨[],(.seq (.region [⟨(some 6),.mv (.tmp 0),none⟩,⟨(some 7),.nilCheck (.tmp 6),none⟩,⟨(some 8),.faddr 4 (.tmp 7),none⟩,⟨(some 9),.load false 1 (.tmp 8),none⟩,⟨(some 10),.mv (.tmp 1),none⟩,⟨(some 11),.mv (.tmp 2),none⟩,⟨(some 12),.call 326 [(.tmp 9),(.tmp 10),(.tmp 11),(.const (.int .i64 0))],none⟩])
 (.draw [⟨⟨(some 13),.mv (.tmp 0),none⟩,0,1⟩,⟨⟨(some 14),.nilCheck (.tmp 13),none⟩,0,1⟩,⟨⟨(some 15),.faddr 5 (.tmp 14),none⟩,0,1⟩,⟨⟨(some 16),.load false 1 (.tmp 15),none⟩,0,1⟩,⟨⟨(some 17),.mv (.tmp 2),none⟩,0,1⟩,⟨⟨(some 18),.iaddrS 1 (.tmp 16) (.tmp 17),none⟩,0,1⟩,⟨⟨(some 19),.load false 1 (.tmp 18),none⟩,0,1⟩,⟨⟨(some 20),.mv (.tmp 0),none⟩,0,0⟩,⟨⟨(some 21),.mv (.tmp 1),none⟩,0,0⟩,⟨⟨(some 22),.call 380 [(.tmp 20),(.tmp 21)],none⟩,0,1⟩,⟨⟨(some 23),.call 392 [(.tmp 19),(.tmp 22)],none⟩,1,2⟩]))⟩
theorem k365 : compFn Tryz.prog Tryz.f365 = some c365 := by kernel_rfl
-- (*croft/buddy.Buddy).turn
def c366 : AFunc := ⟨[.tmp 6],(.seq (.region [⟨(some 6),.mv (.const (.bool false)),none⟩])
 (.seq (.seq (.region [⟨(some 9),.mv (.tmp 2),none⟩,⟨(some 10),.mv (.tmp 0),none⟩,⟨(some 11),.nilCheck (.tmp 10),none⟩,⟨(some 12),.faddr 0 (.tmp 11),none⟩,⟨(some 13),.faddr 2 (.tmp 12),none⟩,⟨(some 14),.load false 1 (.tmp 13),none⟩,⟨(some 15),.bin .eql (.tmp 9) (.tmp 14),none⟩])
 (.cond (.tmp 15) (.seq (.region [⟨(some 6),.mv (.const (.bool true)),none⟩])
 .ret) .skip))
 (.seq (.region [⟨(some 17),.mv (.tmp 0),none⟩,⟨(some 18),.nilCheck (.tmp 17),none⟩,⟨(some 19),.faddr 4 (.tmp 18),none⟩,⟨(some 20),.load false 1 (.tmp 19),none⟩,⟨(some 21),.mv (.tmp 2),none⟩,⟨(some 22),.mv (.tmp 1),none⟩,⟨(some 23),.call 393 [(.tmp 20),(.tmp 21),(.tmp 22)],none⟩,⟨(some 16),.mv (.tmp 23),none⟩,⟨(some 24),.extract (.tmp 16) 0,none⟩,⟨(some 25),.extract (.tmp 16) 1,none⟩,⟨(some 7),.mv (.tmp 24),none⟩,⟨(some 8),.mv (.tmp 25),none⟩])
 (.seq (.region [⟨(some 26),.mv (.tmp 7),none⟩,⟨(some 6),.mv (.tmp 26),none⟩])
 .ret))))⟩
theorem k366 : compFn Tryz.prog Tryz.f366 = some c366 := by kernel_rfl
-- (*croft/slab.Slab).born
def c367 : AFunc := ⟨[.tmp 6],(.seq (.region [⟨(some 6),.mv (.const (.int .i64 0)),none⟩])
 (.seq (.draw [⟨⟨(some 13),.mv (.tmp 0),none⟩,0,0⟩,⟨⟨(some 14),.nilCheck (.tmp 13),none⟩,0,0⟩,⟨⟨(some 15),.faddr 0 (.tmp 14),none⟩,0,0⟩,⟨⟨(some 16),.load false 1 (.tmp 15),none⟩,0,0⟩,⟨⟨(some 17),.nilCheck (.tmp 16),none⟩,0,0⟩,⟨⟨(some 18),.faddr 0 (.tmp 17),none⟩,0,0⟩,⟨⟨(some 19),.call 116 [(.tmp 18)],none⟩,0,1⟩,⟨⟨(some 20),.mv (.tmp 0),none⟩,0,1⟩,⟨⟨(some 21),.nilCheck (.tmp 20),none⟩,0,1⟩,⟨⟨(some 22),.faddr 0 (.tmp 21),none⟩,0,1⟩,⟨⟨(some 23),.load false 1 (.tmp 22),none⟩,0,1⟩,⟨⟨(some 24),.nilCheck (.tmp 23),none⟩,0,1⟩,⟨⟨(some 25),.faddr 0 (.tmp 24),none⟩,0,1⟩,⟨⟨(some 26),.call 113 [(.tmp 25)],none⟩,1,2⟩,⟨⟨(some 7),.mv (.tmp 19),none⟩,2,2⟩,⟨⟨(some 8),.mv (.tmp 26),none⟩,2,2⟩])
 (.seq (.region [⟨(some 27),.mv (.tmp 1),none⟩,⟨(some 28),.mv (.tmp 0),none⟩,⟨(some 29),.call 324 [(.tmp 28)],none⟩,⟨(some 30),.bin .sub (.tmp 27) (.tmp 29),none⟩,⟨(some 31),.bin .quo (.tmp 30) (.const (.int .u64 4096)),none⟩,⟨(some 32),.conv .i64 (.tmp 31),none⟩,⟨(some 9),.mv (.tmp 32),none⟩])
 (.seq (.region [⟨(some 33),.mv (.tmp 7),none⟩,⟨(some 34),.mv (.tmp 9),none⟩,⟨(some 35),.mv (.tmp 2),none⟩,⟨(some 36),.call 394 [(.tmp 33),(.tmp 34),(.tmp 35)],none⟩])
 (.seq (.region [⟨(some 37),.mv (.tmp 2),none⟩,⟨(some 38),.iaddrA 8 1 (.glob 1) (.tmp 37),none⟩,⟨(some 39),.load false 1 (.tmp 38),none⟩,⟨(some 40),.bin .quo (.const (.int .u64 4096)) (.tmp 39),none⟩,⟨(some 10),.mv (.tmp 40),none⟩])
 (.seq (.seq (.region [⟨(some 41),.mv (.tmp 10),none⟩,⟨(some 42),.mv (.const (.int .u64 0)),none⟩])
 (.block 0 (.loop (.seq (.region [⟨(some 43),.bin .lss (.tmp 42) (.tmp 41),none⟩])
 (.seq (.cond (.tmp 43) .skip (.exit 0))
 (.seq (.block 1 (.seq (.region [⟨(some 44),.mv (.tmp 42),none⟩,⟨(some 11),.mv (.tmp 44),none⟩])
 (.seq (.region [⟨(some 45),.mv (.tmp 1),none⟩,⟨(some 46),.mv (.tmp 11),none⟩,⟨(some 47),.bin .add (.tmp 46) (.const (.int .u64 1)),none⟩,⟨(some 48),.mv (.tmp 2),none⟩,⟨(some 49),.iaddrA 8 1 (.glob 1) (.tmp 48),none⟩,⟨(some 50),.load false 1 (.tmp 49),none⟩,⟨(some 51),.bin .mul (.tmp 47) (.tmp 50),none⟩,⟨(some 52),.bin .add (.tmp 45) (.tmp 51),none⟩,⟨(some 12),.mv (.tmp 52),none⟩])
 (.seq (.seq (.region [⟨(some 53),.mv (.tmp 11),none⟩,⟨(some 54),.bin .add (.tmp 53) (.const (.int .u64 1)),none⟩,⟨(some 55),.mv (.tmp 10),none⟩,⟨(some 56),.bin .eql (.tmp 54) (.tmp 55),none⟩])
 (.cond (.tmp 56) (.region [⟨(some 12),.mv (.const (.int .u64 0)),none⟩]) .skip))
 (.region [⟨(some 57),.mv (.tmp 8),none⟩,⟨(some 58),.mv (.tmp 1),none⟩,⟨(some 59),.mv (.tmp 11),none⟩,⟨(some 60),.mv (.tmp 2),none⟩,⟨(some 61),.iaddrA 8 1 (.glob 1) (.tmp 60),none⟩,⟨(some 62),.load false 1 (.tmp 61),none⟩,⟨(some 63),.bin .mul (.tmp 59) (.tmp 62),none⟩,⟨(some 64),.bin .add (.tmp 58) (.tmp 63),none⟩,⟨(some 65),.mv (.tmp 12),none⟩,⟨(some 66),.call 238 [(.tmp 57),(.tmp 64),(.tmp 65)],none⟩])))))
 (.region [⟨(some 67),.bin .add (.tmp 42) (.const (.int .u64 1)),none⟩,⟨(some 42),.mv (.tmp 67),none⟩])))))))
 (.seq (.region [⟨(some 68),.mv (.tmp 7),none⟩,⟨(some 69),.mv (.tmp 9),none⟩,⟨(some 70),.call 328 [(.tmp 68),(.tmp 69),(.const (.int .i64 0))],none⟩])
 (.seq (.region [⟨(some 71),.mv (.tmp 0),none⟩,⟨(some 72),.mv (.tmp 9),none⟩,⟨(some 73),.mv (.tmp 2),none⟩,⟨(some 74),.call 327 [(.tmp 71),(.tmp 72),(.tmp 73)],none⟩])
 (.seq (.region [⟨(some 75),.mv (.tmp 9),none⟩,⟨(some 6),.mv (.tmp 75),none⟩])
 .ret)))))))))⟩
theorem k367 : compFn Tryz.prog Tryz.f367 = some c367 := by kernel_rfl
-- (*croft/buddy.Buddy).Take
def c368 : AFunc := ⟨[.tmp 4,.tmp 5],(.seq (.region [⟨(some 4),.mv (.const (.int .u64 0)),none⟩,⟨(some 5),.mv (.const (.int .i64 0)),none⟩])
 (.seq (.seq (.region [⟨(some 11),.mv (.tmp 1),none⟩,⟨(some 12),.bin .lss (.tmp 11) (.const (.int .i64 0)),none⟩,⟨(some 13),.mv (.tmp 12),none⟩,⟨(some 14),.mv (.tmp 1),some (13,false)⟩,⟨(some 15),.mv (.tmp 0),some (13,false)⟩,⟨(some 16),.nilCheck (.tmp 15),some (13,false)⟩,⟨(some 17),.faddr 0 (.tmp 16),some (13,false)⟩,⟨(some 18),.faddr 2 (.tmp 17),some (13,false)⟩,⟨(some 19),.load false 1 (.tmp 18),some (13,false)⟩,⟨(some 20),.bin .gtr (.tmp 14) (.tmp 19),some (13,false)⟩,⟨(some 21),.pick (.tmp 13) (.const (.bool true)) (.tmp 20),none⟩])
 (.cond (.tmp 21) (.seq (.region [⟨(some 4),.mv (.const (.int .u64 0)),none⟩,⟨(some 5),.mv (.const (.int .i64 1)),none⟩])
 .ret) .skip))
 (.seq (.seq (.region [⟨(some 22),.mv (.tmp 1),none⟩,⟨(some 6),.mv (.tmp 22),none⟩])
 (.block 0 (.loop (.seq (.seq (.region [⟨(some 23),.mv (.tmp 6),none⟩,⟨(some 24),.mv (.tmp 0),none⟩,⟨(some 25),.nilCheck (.tmp 24),none⟩,⟨(some 26),.faddr 0 (.tmp 25),none⟩,⟨(some 27),.faddr 2 (.tmp 26),none⟩,⟨(some 28),.load false 1 (.tmp 27),none⟩,⟨(some 29),.bin .leq (.tmp 23) (.tmp 28),none⟩])
 (.cond (.tmp 29) .skip (.exit 0)))
 (.seq (.block 1 (.seq (.region [⟨(some 33),.mv (.tmp 0),none⟩,⟨(some 34),.nilCheck (.tmp 33),none⟩,⟨(some 35),.faddr 5 (.tmp 34),none⟩,⟨(some 36),.load false 1 (.tmp 35),none⟩,⟨(some 37),.mv (.tmp 6),none⟩,⟨(some 38),.iaddrS 1 (.tmp 36) (.tmp 37),none⟩,⟨(some 39),.load false 1 (.tmp 38),none⟩,⟨(some 40),.call 395 [(.tmp 39)],none⟩,⟨(some 32),.mv (.tmp 40),none⟩,⟨(some 41),.extract (.tmp 32) 0,none⟩,⟨(some 42),.extract (.tmp 32) 1,none⟩,⟨(some 7),.mv (.tmp 41),none⟩,⟨(some 8),.mv (.tmp 42),none⟩])
 (.seq (.seq (.region [⟨(some 43),.mv (.tmp 8),none⟩,⟨(some 44),.bin .eql (.tmp 43) (.const (.int .i64 9)),none⟩])
 (.cond (.tmp 44) (.exit 1) .skip))
 (.seq (.region [⟨(some 46),.mv (.tmp 0),none⟩,⟨(some 47),.mv (.tmp 7),none⟩,⟨(some 48),.call 364 [(.tmp 46),(.tmp 47)],none⟩,⟨(some 45),.mv (.tmp 48),none⟩,⟨(some 49),.extract (.tmp 45) 0,none⟩,⟨(some 50),.extract (.tmp 45) 1,none⟩,⟨(some 9),.mv (.tmp 49),none⟩,⟨(some 10),.mv (.tmp 50),none⟩])
 (.seq (.seq (.region [⟨(some 51),.mv (.tmp 8),none⟩,⟨(some 52),.bin .neq (.tmp 51) (.const (.int .i64 0)),none⟩,⟨(some 53),.mv (.tmp 52),none⟩,⟨(some 54),.mv (.tmp 10),some (53,false)⟩,⟨(some 55),.not (.tmp 54),some (53,false)⟩,⟨(some 56),.pick (.tmp 53) (.const (.bool true)) (.tmp 55),none⟩])
 (.cond (.tmp 56) (.seq (.region [⟨(some 4),.mv (.const (.int .u64 0)),none⟩,⟨(some 5),.mv (.const (.int .i64 8)),none⟩])
 .ret) .skip))
 (.seq (.region [⟨(some 57),.mv (.tmp 0),none⟩,⟨(some 58),.mv (.tmp 9),none⟩,⟨(some 59),.mv (.tmp 6),none⟩,⟨(some 60),.call 366 [(.tmp 57),(.tmp 58),(.tmp 59)],none⟩])
 (.seq (.region [⟨(some 61),.mv (.tmp 0),none⟩,⟨(some 62),.mv (.tmp 9),none⟩,⟨(some 63),.mv (.tmp 6),none⟩,⟨(some 64),.mv (.tmp 1),none⟩,⟨(some 65),.call 306 [(.tmp 61),(.tmp 62),(.tmp 63),(.tmp 64)],none⟩])
 (.seq (.region [⟨(some 66),.mv (.tmp 7),none⟩,⟨(some 4),.mv (.tmp 66),none⟩,⟨(some 5),.mv (.const (.int .i64 0)),none⟩])
 .ret))))))))
 (.region [⟨(some 30),.mv (.tmp 6),none⟩,⟨(some 31),.bin .add (.tmp 30) (.const (.int .i64 1)),none⟩,⟨(some 6),.mv (.tmp 31),none⟩]))))))
 (.seq (.region [⟨(some 4),.mv (.const (.int .u64 0)),none⟩,⟨(some 5),.mv (.const (.int .i64 2)),none⟩])
 .ret))))⟩
theorem k368 : compFn Tryz.prog Tryz.f368 = some c368 := by kernel_rfl
-- (*croft/mem.Space).Commit
def c369 : AFunc := ⟨[.tmp 4,.tmp 5],(.seq (.region [⟨(some 4),.mv (.const (.int .u64 0)),none⟩,⟨(some 5),.mv (.const (.int .i64 0)),none⟩])
 (.seq (.seq (.draw [⟨⟨(some 7),.mv (.tmp 1),none⟩,0,0⟩,⟨⟨(some 8),.mv (.tmp 7),none⟩,0,0⟩,⟨⟨(some 9),.mv (.tmp 0),some (8,false)⟩,0,0⟩,⟨⟨(some 10),.nilCheck (.tmp 9),some (8,false)⟩,0,0⟩,⟨⟨(some 11),.faddr 4 (.tmp 10),some (8,false)⟩,0,0⟩,⟨⟨(some 12),.load false 1 (.tmp 11),some (8,false)⟩,0,0⟩,⟨⟨(some 13),.lenS (.tmp 12),some (8,false)⟩,0,0⟩,⟨⟨(some 14),.mv (.tmp 0),some (8,false)⟩,0,0⟩,⟨⟨(some 15),.nilCheck (.tmp 14),some (8,false)⟩,0,0⟩,⟨⟨(some 16),.faddr 0 (.tmp 15),some (8,false)⟩,0,0⟩,⟨⟨(some 17),.faddr 1 (.tmp 16),some (8,false)⟩,0,0⟩,⟨⟨(some 18),.load false 1 (.tmp 17),some (8,false)⟩,0,0⟩,⟨⟨(some 19),.bin .eql (.tmp 13) (.tmp 18),some (8,false)⟩,0,0⟩,⟨⟨(some 20),.pick (.tmp 8) (.const (.bool true)) (.tmp 19),none⟩,0,0⟩])
 (.cond (.tmp 20) (.seq (.region [⟨(some 4),.mv (.const (.int .u64 0)),none⟩,⟨(some 5),.mv (.const (.int .i64 2)),none⟩])
 .ret) .skip))
 (.seq (.region [⟨(some 21),.mv (.tmp 0),none⟩,⟨(some 22),.call 114 [(.tmp 21)],none⟩,⟨(some 6),.mv (.tmp 22),none⟩])
 (.seq (.draw [⟨⟨(some 23),.mv (.tmp 0),none⟩,0,3⟩,⟨⟨(some 24),.mv (.tmp 0),none⟩,0,2⟩,⟨⟨(some 25),.nilCheck (.tmp 24),none⟩,0,2⟩,⟨⟨(some 26),.faddr 4 (.tmp 25),none⟩,0,2⟩,⟨⟨(some 27),.load false 1 (.tmp 26),none⟩,0,2⟩,⟨⟨(some 28),.mv (.tmp 0),none⟩,0,0⟩,⟨⟨(some 29),.nilCheck (.tmp 28),none⟩,0,0⟩,⟨⟨(some 30),.faddr 3 (.tmp 29),none⟩,0,0⟩,⟨⟨(some 31),.load false 1 (.tmp 30),none⟩,0,0⟩,⟨⟨(some 32),.makeSlice 1 1 [(.int .u8 0)] (.tmp 31) (.tmp 31),none⟩,0,1⟩,⟨⟨(some 33),.mkSlice 1 1 [(.slice none 0 0)] [(0,1,(.tmp 32))],none⟩,1,2⟩,⟨⟨(some 34),.appendC 1 24 (.tmp 27) (.tmp 33),none⟩,2,3⟩,⟨⟨(some 35),.nilCheck (.tmp 23),none⟩,3,3⟩,⟨⟨(some 36),.faddr 4 (.tmp 35),none⟩,3,3⟩,⟨⟨none,.store 1 (.tmp 36) (.tmp 34),none⟩,3,4⟩])
 (.seq (.region [⟨(some 37),.mv (.tmp 6),none⟩,⟨(some 4),.mv (.tmp 37),none⟩,⟨(some 5),.mv (.const (.int .i64 0)),none⟩])
 .ret)))))⟩
theorem k369 : compFn Tryz.prog Tryz.f369 = some c369 := by kernel_rfl
-- (*croft/pagemap.Map).Grow
def c370 : AFunc := ⟨[],(.seq (.region [⟨(some 3),.mv (.tmp 0),none⟩,⟨(some 4),.nilCheck (.tmp 3),none⟩,⟨(some 5),.faddr 1 (.tmp 4),none⟩,⟨(some 6),.load false 1 (.tmp 5),none⟩,⟨(some 7),.lenS (.tmp 6),none⟩,⟨(some 2),.mv (.tmp 7),none⟩])
 (.seq (.seq (.region [⟨(some 8),.mv (.tmp 2),none⟩,⟨(some 9),.mv (.tmp 0),none⟩,⟨(some 10),.call 396 [(.tmp 9)],none⟩,⟨(some 11),.bin .add (.tmp 8) (.tmp 10),none⟩,⟨(some 12),.bin .gtr (.tmp 11) (.const (.int .i64 1024)),none⟩])
 (.cond (.tmp 12) .ret .skip))
 (.seq (.draw [⟨⟨(some 13),.mv (.tmp 0),none⟩,0,2⟩,⟨⟨(some 14),.mv (.tmp 0),none⟩,0,1⟩,⟨⟨(some 15),.nilCheck (.tmp 14),none⟩,0,1⟩,⟨⟨(some 16),.faddr 1 (.tmp 15),none⟩,0,1⟩,⟨⟨(some 17),.load false 1 (.tmp 16),none⟩,0,1⟩,⟨⟨(some 18),.mv (.tmp 0),none⟩,0,0⟩,⟨⟨(some 19),.call 396 [(.tmp 18)],none⟩,0,1⟩,⟨⟨(some 20),.appendZ 11 88 [(.int .i64 0),(.int .i64 0),(.int .i64 0),(.int .i64 0),(.int .i64 0),(.int .i64 0),(.int .i64 0),(.int .u64 0),(.int .u64 0),(.int .u64 0),(.int .u64 0)] (.tmp 17) (.tmp 19),none⟩,1,2⟩,⟨⟨(some 21),.nilCheck (.tmp 13),none⟩,2,2⟩,⟨⟨(some 22),.faddr 1 (.tmp 21),none⟩,2,2⟩,⟨⟨none,.store 1 (.tmp 22) (.tmp 20),none⟩,2,3⟩])
 (.seq (.region [⟨(some 23),.mv (.tmp 0),none⟩,⟨(some 24),.call 397 [(.tmp 23)],none⟩])
 (.region [⟨(some 25),.mv (.tmp 0),none⟩,⟨(some 26),.mv (.tmp 2),none⟩,⟨(some 27),.mv (.tmp 0),none⟩,⟨(some 28),.nilCheck (.tmp 27),none⟩,⟨(some 29),.faddr 0 (.tmp 28),none⟩,⟨(some 30),.load false 1 (.tmp 29),none⟩,⟨(some 31),.call 326 [(.tmp 25),(.tmp 26),(.tmp 30),(.const (.int .i64 2))],none⟩])))))⟩
theorem k370 : compFn Tryz.prog Tryz.f370 = some c370 := by kernel_rfl
-- (*croft/buddy.Buddy).Feed
def c371 : AFunc := ⟨[.tmp 2],(.seq (.region [⟨(some 2),.mv (.const (.int .i64 0)),none⟩])
 (.seq (.region [⟨(some 7),.mv (.tmp 0),none⟩,⟨(some 8),.call 398 [(.tmp 7)],none⟩,⟨(some 6),.mv (.tmp 8),none⟩,⟨(some 9),.extract (.tmp 6) 0,none⟩,⟨(some 10),.extract (.tmp 6) 1,none⟩,⟨(some 3),.mv (.tmp 9),none⟩,⟨(some 4),.mv (.tmp 10),none⟩])
 (.seq (.seq (.region [⟨(some 11),.mv (.tmp 4),none⟩,⟨(some 12),.not (.tmp 11),none⟩])
 (.cond (.tmp 12) (.seq (.region [⟨(some 2),.mv (.const (.int .i64 9)),none⟩])
 .ret) .skip))
 (.seq (.draw [⟨⟨(some 13),.mv (.tmp 0),none⟩,0,1⟩,⟨⟨(some 14),.mv (.tmp 0),none⟩,0,0⟩,⟨⟨(some 15),.mv (.tmp 3),none⟩,0,0⟩,⟨⟨(some 16),.call 380 [(.tmp 14),(.tmp 15)],none⟩,0,1⟩,⟨⟨(some 17),.mv (.tmp 0),none⟩,0,1⟩,⟨⟨(some 18),.nilCheck (.tmp 17),none⟩,0,1⟩,⟨⟨(some 19),.faddr 0 (.tmp 18),none⟩,0,1⟩,⟨⟨(some 20),.faddr 2 (.tmp 19),none⟩,0,1⟩,⟨⟨(some 21),.load false 1 (.tmp 20),none⟩,0,1⟩,⟨⟨(some 22),.call 329 [(.tmp 13),(.tmp 16),(.tmp 21)],none⟩,1,2⟩,⟨⟨(some 5),.mv (.tmp 22),none⟩,2,2⟩])
 (.seq (.region [⟨(some 23),.mv (.tmp 5),none⟩,⟨(some 24),.bin .eql (.tmp 23) (.const (.int .i64 1)),none⟩])
 (.cond (.tmp 24) (.seq (.region [⟨(some 2),.mv (.const (.int .i64 9)),none⟩])
 .ret) (.seq (.region [⟨(some 25),.mv (.tmp 5),none⟩,⟨(some 2),.mv (.tmp 25),none⟩])
 .ret)))))))⟩
theorem k371 : compFn Tryz.prog Tryz.f371 = some c371 := by kernel_rfl
-- croft/bits.fit
def c372 : AFunc := ⟨[.tmp 2,.tmp 3],(.seq (.region [⟨(some 2),.mv (.const (.int .i64 0)),none⟩,⟨(some 3),.mv (.const (.int .i64 0)),none⟩])
 (.seq (.region [⟨(some 4),.mv (.tmp 0),none⟩,⟨(some 5),.maxmin false [(.tmp 4),(.const (.int .i64 1048576))],none⟩,⟨(some 6),.maxmin true [(.const (.int .i64 0)),(.tmp 5)],none⟩,⟨(some 0),.mv (.tmp 6),none⟩])
 (.seq (.region [⟨(some 7),.mv (.tmp 0),none⟩,⟨(some 8),.mv (.tmp 0),none⟩,⟨(some 9),.bin .add (.tmp 8) (.const (.int .i64 63)),none⟩,⟨(some 10),.bin .quo (.tmp 9) (.const (.int .i64 64)),none⟩,⟨(some 2),.mv (.tmp 7),none⟩,⟨(some 3),.mv (.tmp 10),none⟩])
 .ret)))⟩
theorem k372 : compFn Tryz.prog Tryz.f372 = some c372 := by kernel_rfl
-- (*croft/bits.Set).cut
def c373 : AFunc := ⟨[],(.seq (.region [⟨(some 2),.mv (.tmp 0),none⟩,⟨(some 3),.nilCheck (.tmp 2),none⟩,⟨(some 4),.faddr 0 (.tmp 3),none⟩,⟨(some 5),.load false 1 (.tmp 4),none⟩,⟨(some 6),.bin .rem (.tmp 5) (.const (.int .i64 64)),none⟩,⟨(some 7),.bin .neq (.tmp 6) (.const (.int .i64 0)),none⟩])
 (.cond (.tmp 7) (.draw [⟨⟨(some 8),.mv (.tmp 0),none⟩,0,0⟩,⟨⟨(some 9),.nilCheck (.tmp 8),none⟩,0,0⟩,⟨⟨(some 10),.faddr 1 (.tmp 9),none⟩,0,0⟩,⟨⟨(some 11),.load false 1 (.tmp 10),none⟩,0,0⟩,⟨⟨(some 12),.mv (.tmp 0),none⟩,0,0⟩,⟨⟨(some 13),.nilCheck (.tmp 12),none⟩,0,0⟩,⟨⟨(some 14),.faddr 1 (.tmp 13),none⟩,0,0⟩,⟨⟨(some 15),.load false 1 (.tmp 14),none⟩,0,0⟩,⟨⟨(some 16),.lenS (.tmp 15),none⟩,0,0⟩,⟨⟨(some 17),.bin .sub (.tmp 16) (.const (.int .i64 1)),none⟩,0,0⟩,⟨⟨(some 18),.iaddrS 1 (.tmp 11) (.tmp 17),none⟩,0,0⟩,⟨⟨(some 19),.load false 1 (.tmp 18),none⟩,0,0⟩,⟨⟨(some 20),.mv (.tmp 0),none⟩,0,0⟩,⟨⟨(some 21),.nilCheck (.tmp 20),none⟩,0,0⟩,⟨⟨(some 22),.faddr 0 (.tmp 21),none⟩,0,0⟩,⟨⟨(some 23),.load false 1 (.tmp 22),none⟩,0,0⟩,⟨⟨(some 24),.bin .rem (.tmp 23) (.const (.int .i64 64)),none⟩,0,0⟩,⟨⟨(some 25),.bin .shl (.const (.int .u64 1)) (.tmp 24),none⟩,0,0⟩,⟨⟨(some 26),.bin .sub (.tmp 25) (.const (.int .u64 1)),none⟩,0,0⟩,⟨⟨(some 27),.bin .and (.tmp 19) (.tmp 26),none⟩,0,0⟩,⟨⟨(some 28),.iaddrS 1 (.tmp 11) (.tmp 17),none⟩,0,0⟩,⟨⟨none,.store 1 (.tmp 28) (.tmp 27),none⟩,0,1⟩]) .skip))⟩
theorem k373 : compFn Tryz.prog Tryz.f373 = some c373 := by kernel_rfl
-- (*croft/pagemap.Map).slab
def c374 : AFunc := ⟨[.tmp 4,.tmp 5],(.seq (.region [⟨(some 4),.mv (.const (.ptr none)),none⟩,⟨(some 5),.mv (.const (.bool false)),none⟩])
 (.seq (.seq (.region [⟨(some 9),.mv (.tmp 0),none⟩,⟨(some 10),.mv (.tmp 1),none⟩,⟨(some 11),.call 118 [(.tmp 9),(.tmp 10)],none⟩,⟨(some 8),.mv (.tmp 11),none⟩,⟨(some 12),.extract (.tmp 8) 0,none⟩,⟨(some 13),.extract (.tmp 8) 1,none⟩,⟨(some 6),.alloc [(.int .i64 0),(.int .i64 0),(.int .i64 0),(.int .i64 0),(.int .i64 0),(.int .i64 0),(.int .i64 0),(.int .u64 0),(.int .u64 0),(.int .u64 0),(.int .u64 0)],none⟩,⟨none,.store 11 (.tmp 6) (.tmp 12),none⟩,⟨(some 7),.mv (.tmp 13),none⟩])
 (.seq (.region [⟨(some 14),.mv (.tmp 7),none⟩,⟨(some 15),.not (.tmp 14),none⟩,⟨(some 16),.mv (.tmp 15),none⟩,⟨(some 17),.faddr 0 (.tmp 6),some (16,false)⟩,⟨(some 18),.load false 1 (.tmp 17),some (16,false)⟩,⟨(some 19),.bin .neq (.tmp 18) (.const (.int .i64 4)),some (16,false)⟩,⟨(some 20),.pick (.tmp 16) (.const (.bool true)) (.tmp 19),none⟩])
 (.cond (.tmp 20) (.seq (.region [⟨(some 4),.mv (.const (.ptr none)),none⟩,⟨(some 5),.mv (.const (.bool false)),none⟩])
 .ret) .skip)))
 (.seq (.region [⟨(some 21),.mv (.tmp 0),none⟩,⟨(some 22),.nilCheck (.tmp 21),none⟩,⟨(some 23),.faddr 1 (.tmp 22),none⟩,⟨(some 24),.load false 1 (.tmp 23),none⟩,⟨(some 25),.mv (.tmp 1),none⟩,⟨(some 26),.iaddrS 11 (.tmp 24) (.tmp 25),none⟩,⟨(some 4),.mv (.tmp 26),none⟩,⟨(some 5),.mv (.const (.bool true)),none⟩])
 .ret)))⟩
theorem k374 : compFn Tryz.prog Tryz.f374 = some c374 := by kernel_rfl
-- croft/pagemap.within
def c375 : AFunc := ⟨[.tmp 6],(.seq (.region [⟨(some 6),.mv (.const (.bool false)),none⟩])
 (.seq (.region [⟨(some 7),.mv (.tmp 0),none⟩,⟨(some 8),.mv (.tmp 1),none⟩,⟨(some 9),.bin .geq (.tmp 7) (.tmp 8),none⟩,⟨(some 10),.mv (.tmp 9),none⟩,⟨(some 11),.mv (.tmp 0),some (10,true)⟩,⟨(some 12),.mv (.tmp 2),some (10,true)⟩,⟨(some 13),.bin .leq (.tmp 11) (.tmp 12),some (10,true)⟩,⟨(some 14),.pick (.tmp 10) (.tmp 13) (.const (.bool false)),none⟩,⟨(some 6),.mv (.tmp 14),none⟩])
 .ret))⟩
theorem k375 : compFn Tryz.prog Tryz.f375 = some c375 := by kernel_rfl
-- croft/pagemap.cells
def c376 : AFunc := ⟨[.tmp 2],(.seq (.region [⟨(some 2),.mv (.const (.int .i64 0)),none⟩])
 (.seq (.region [⟨(some 3),.mv (.tmp 0),none⟩,⟨(some 4),.nilCheck (.tmp 3),none⟩,⟨(some 5),.faddr 2 (.tmp 4),none⟩,⟨(some 6),.load false 1 (.tmp 5),none⟩,⟨(some 7),.bin .shr (.const (.int .i64 256)) (.tmp 6),none⟩,⟨(some 2),.mv (.tmp 7),none⟩])
 .ret))⟩
theorem k376 : compFn Tryz.prog Tryz.f376 = some c376 := by kernel_rfl
-- (*croft/pagemap.Map).Chain
def c377 : AFunc := ⟨[.tmp 8],(.seq (.region [⟨(some 8),.mv (.const (.int .i64 0)),none⟩])
 (.seq (.region [⟨(some 12),.mv (.tmp 0),none⟩,⟨(some 13),.mv (.tmp 1),none⟩,⟨(some 14),.call 374 [(.tmp 12),(.tmp 13)],none⟩,⟨(some 11),.mv (.tmp 14),none⟩,⟨(some 15),.extract (.tmp 11) 0,none⟩,⟨(some 16),.extract (.tmp 11) 1,none⟩,⟨(some 9),.mv (.tmp 15),none⟩,⟨(some 10),.mv (.tmp 16),none⟩])
 (.seq (.seq (.region [⟨(some 17),.mv (.tmp 10),none⟩,⟨(some 18),.not (.tmp 17),none⟩,⟨(some 19),.mv (.tmp 18),none⟩,⟨(some 20),.mv (.tmp 2),some (19,false)⟩,⟨(some 21),.mv (.tmp 0),some (19,false)⟩,⟨(some 22),.nilCheck (.tmp 21),some (19,false)⟩,⟨(some 23),.faddr 1 (.tmp 22),some (19,false)⟩,⟨(some 24),.load false 1 (.tmp 23),some (19,false)⟩,⟨(some 25),.lenS (.tmp 24),some (19,false)⟩,⟨(some 26),.bin .sub (.tmp 25) (.const (.int .i64 1)),some (19,false)⟩,⟨(some 27),.call 375 [(.tmp 20),(.const (.int .i64 (-1))),(.tmp 26)],some (19,false)⟩,⟨(some 28),.not (.tmp 27),some (19,false)⟩,⟨(some 29),.pick (.tmp 19) (.const (.bool true)) (.tmp 28),none⟩,⟨(some 30),.mv (.tmp 29),none⟩,⟨(some 31),.mv (.tmp 3),some (30,false)⟩,⟨(some 32),.mv (.tmp 0),some (30,false)⟩,⟨(some 33),.nilCheck (.tmp 32),some (30,false)⟩,⟨(some 34),.faddr 1 (.tmp 33),some (30,false)⟩,⟨(some 35),.load false 1 (.tmp 34),some (30,false)⟩,⟨(some 36),.lenS (.tmp 35),some (30,false)⟩,⟨(some 37),.bin .sub (.tmp 36) (.const (.int .i64 1)),some (30,false)⟩,⟨(some 38),.call 375 [(.tmp 31),(.const (.int .i64 (-1))),(.tmp 37)],some (30,false)⟩,⟨(some 39),.not (.tmp 38),some (30,false)⟩,⟨(some 40),.pick (.tmp 30) (.const (.bool true)) (.tmp 39),none⟩])
 (.cond (.tmp 40) (.seq (.region [⟨(some 8),.mv (.const (.int .i64 1)),none⟩])
 .ret) .skip))
 (.seq (.region [⟨(some 41),.mv (.tmp 9),none⟩,⟨(some 42),.mv (.tmp 9),none⟩,⟨(some 43),.mv (.tmp 2),none⟩,⟨(some 44),.mv (.tmp 3),none⟩,⟨(some 45),.nilCheck (.tmp 41),none⟩,⟨(some 46),.faddr 4 (.tmp 45),none⟩,⟨none,.store 1 (.tmp 46) (.tmp 43),none⟩,⟨(some 47),.nilCheck (.tmp 42),none⟩,⟨(some 48),.faddr 5 (.tmp 47),none⟩,⟨none,.store 1 (.tmp 48) (.tmp 44),none⟩])
 (.seq (.region [⟨(some 8),.mv (.const (.int .i64 0)),none⟩])
 .ret)))))⟩
theorem k377 : compFn Tryz.prog Tryz.f377 = some c377 := by kernel_rfl
-- croft/pagemap.plain
def c378 : AFunc := ⟨[.cell 4 true 11],(.seq (.region [⟨(some 4),.alloc [(.int .i64 0),(.int .i64 0),(.int .i64 0),(.int .i64 0),(.int .i64 0),(.int .i64 0),(.int .i64 0),(.int .u64 0),(.int .u64 0),(.int .u64 0),(.int .u64 0)],none⟩])
 (.seq (.region [⟨(some 5),.mv (.tmp 0),none⟩,⟨(some 6),.mv (.tmp 1),none⟩,⟨(some 7),.build [(.int .i64 0),(.int .i64 0),(.int .i64 0),(.int .i64 0),(.int .i64 0),(.int .i64 0),(.int .i64 0),(.int .u64 0),(.int .u64 0),(.int .u64 0),(.int .u64 0)] [(0,1,(.tmp 5)),(1,1,(.tmp 6)),(4,1,(.const (.int .i64 (-1)))),(5,1,(.const (.int .i64 (-1)))),(6,1,(.const (.int .i64 (-1))))],none⟩,⟨none,.store 11 (.tmp 4) (.tmp 7),none⟩])
 .ret))⟩
theorem k378 : compFn Tryz.prog Tryz.f378 = some c378 := by kernel_rfl
-- (*croft/links.List).Remove
def c379 : AFunc := ⟨[.tmp 4],(.seq (.region [⟨(some 4),.mv (.const (.int .i64 0)),none⟩])
 (.seq (.region [⟨(some 9),.mv (.tmp 0),none⟩,⟨(some 10),.mv (.tmp 1),none⟩,⟨(some 11),.call 399 [(.tmp 9),(.tmp 10)],none⟩,⟨(some 8),.mv (.tmp 11),none⟩,⟨(some 12),.extract (.tmp 8) 0,none⟩,⟨(some 13),.extract (.tmp 8) 1,none⟩,⟨(some 14),.extract (.tmp 8) 2,none⟩,⟨(some 5),.mv (.tmp 12),none⟩,⟨(some 6),.mv (.tmp 13),none⟩,⟨(some 7),.mv (.tmp 14),none⟩])
 (.seq (.seq (.region [⟨(some 15),.mv (.tmp 7),none⟩,⟨(some 16),.not (.tmp 15),none⟩])
 (.cond (.tmp 16) (.seq (.region [⟨(some 4),.mv (.const (.int .i64 4)),none⟩])
 .ret) .skip))
 (.seq (.seq (.region [⟨(some 17),.mv (.tmp 0),none⟩,⟨(some 18),.mv (.tmp 1),none⟩,⟨(some 19),.mv (.tmp 5),none⟩,⟨(some 20),.mv (.tmp 6),none⟩,⟨(some 21),.call 400 [(.tmp 17),(.tmp 18),(.tmp 19),(.tmp 20)],none⟩,⟨(some 22),.not (.tmp 21),none⟩])
 (.cond (.tmp 22) (.seq (.region [⟨(some 4),.mv (.const (.int .i64 8)),none⟩])
 .ret) .skip))
 (.seq (.seq (.region [⟨(some 23),.mv (.tmp 6),none⟩,⟨(some 24),.bin .eql (.tmp 23) (.const (.int .u64 0)),none⟩])
 (.cond (.tmp 24) (.region [⟨(some 25),.mv (.tmp 0),none⟩,⟨(some 26),.mv (.tmp 5),none⟩,⟨(some 27),.nilCheck (.tmp 25),none⟩,⟨(some 28),.faddr 1 (.tmp 27),none⟩,⟨none,.store 1 (.tmp 28) (.tmp 26),none⟩]) (.region [⟨(some 29),.mv (.tmp 0),none⟩,⟨(some 30),.nilCheck (.tmp 29),none⟩,⟨(some 31),.faddr 0 (.tmp 30),none⟩,⟨(some 32),.load false 1 (.tmp 31),none⟩,⟨(some 33),.mv (.tmp 6),none⟩,⟨(some 34),.mv (.tmp 5),none⟩,⟨(some 35),.call 238 [(.tmp 32),(.tmp 33),(.tmp 34)],none⟩])))
 (.seq (.seq (.region [⟨(some 36),.mv (.tmp 5),none⟩,⟨(some 37),.bin .neq (.tmp 36) (.const (.int .u64 0)),none⟩])
 (.cond (.tmp 37) (.region [⟨(some 38),.mv (.tmp 0),none⟩,⟨(some 39),.nilCheck (.tmp 38),none⟩,⟨(some 40),.faddr 0 (.tmp 39),none⟩,⟨(some 41),.load false 1 (.tmp 40),none⟩,⟨(some 42),.mv (.tmp 5),none⟩,⟨(some 43),.bin .add (.tmp 42) (.const (.int .u64 8)),none⟩,⟨(some 44),.mv (.tmp 6),none⟩,⟨(some 45),.call 238 [(.tmp 41),(.tmp 43),(.tmp 44)],none⟩]) .skip))
 (.seq (.region [⟨(some 4),.mv (.const (.int .i64 0)),none⟩])
 .ret)))))))⟩
theorem k379 : compFn Tryz.prog Tryz.f379 = some c379 := by kernel_rfl
-- (*croft/buddy.Buddy).address
def c380 : AFunc := ⟨[.tmp 4],(.seq (.region [⟨(some 4),.mv (.const (.int .u64 0)),none⟩])
 (.seq (.region [⟨(some 5),.mv (.tmp 0),none⟩,⟨(some 6),.nilCheck (.tmp 5),none⟩,⟨(some 7),.faddr 0 (.tmp 6),none⟩,⟨(some 8),.faddr 0 (.tmp 7),none⟩,⟨(some 9),.load false 1 (.tmp 8),none⟩,⟨(some 10),.mv (.tmp 1),none⟩,⟨(some 11),.conv .u64 (.tmp 10),none⟩,⟨(some 12),.bin .mul (.const (.int .u64 4096)) (.tmp 11),none⟩,⟨(some 13),.bin .add (.tmp 9) (.tmp 12),none⟩,⟨(some 4),.mv (.tmp 13),none⟩])
 .ret))⟩
theorem k380 : compFn Tryz.prog Tryz.f380 = some c380 := by kernel_rfl
-- sort.siftDown_func
def c383 : AFunc := ⟨[],(.seq (.region [⟨(some 4),.box 2 (.tmp 0),none⟩])
 (.seq (.region [⟨(some 10),.mv (.tmp 1),none⟩,⟨(some 8),.mv (.tmp 10),none⟩])
 (.block 0 (.loop (.block 1 (.seq (.region [⟨(some 11),.mv (.tmp 8),none⟩,⟨(some 12),.bin .mul (.const (.int .i64 2)) (.tmp 11),none⟩,⟨(some 13),.bin .add (.tmp 12) (.const (.int .i64 1)),none⟩,⟨(some 9),.mv (.tmp 13),none⟩])
 (.seq (.seq (.region [⟨(some 14),.mv (.tmp 9),none⟩,⟨(some 15),.mv (.tmp 2),none⟩,⟨(some 16),.bin .geq (.tmp 14) (.tmp 15),none⟩])
 (.cond (.tmp 16) (.exit 0) .skip))
 (.seq (.seq (.region [⟨(some 17),.mv (.tmp 9),none⟩,⟨(some 18),.bin .add (.tmp 17) (.const (.int .i64 1)),none⟩,⟨(some 19),.mv (.tmp 2),none⟩,⟨(some 20),.bin .lss (.tmp 18) (.tmp 19),none⟩,⟨(some 21),.mv (.tmp 20),none⟩,⟨(some 22),.faddr 0 (.tmp 4),some (21,true)⟩,⟨(some 23),.load false 1 (.tmp 22),some (21,true)⟩,⟨(some 24),.mv (.tmp 3),some (21,true)⟩,⟨(some 25),.mv (.tmp 9),some (21,true)⟩,⟨(some 26),.bin .add (.tmp 24) (.tmp 25),some (21,true)⟩,⟨(some 27),.mv (.tmp 3),some (21,true)⟩,⟨(some 28),.mv (.tmp 9),some (21,true)⟩,⟨(some 29),.bin .add (.tmp 27) (.tmp 28),some (21,true)⟩,⟨(some 30),.bin .add (.tmp 29) (.const (.int .i64 1)),some (21,true)⟩,⟨(some 31),.callv (.tmp 23) [(.tmp 26),(.tmp 30)],some (21,true)⟩,⟨(some 32),.pick (.tmp 21) (.tmp 31) (.const (.bool false)),none⟩])
 (.cond (.tmp 32) (.region [⟨(some 33),.mv (.tmp 9),none⟩,⟨(some 34),.bin .add (.tmp 33) (.const (.int .i64 1)),none⟩,⟨(some 9),.mv (.tmp 34),none⟩]) .skip))
 (.seq (.seq (.region [⟨(some 35),.faddr 0 (.tmp 4),none⟩,⟨(some 36),.load false 1 (.tmp 35),none⟩,⟨(some 37),.mv (.tmp 3),none⟩,⟨(some 38),.mv (.tmp 8),none⟩,⟨(some 39),.bin .add (.tmp 37) (.tmp 38),none⟩,⟨(some 40),.mv (.tmp 3),none⟩,⟨(some 41),.mv (.tmp 9),none⟩,⟨(some 42),.bin .add (.tmp 40) (.tmp 41),none⟩,⟨(some 43),.callv (.tmp 36) [(.tmp 39),(.tmp 42)],none⟩,⟨(some 44),.not (.tmp 43),none⟩])
 (.cond (.tmp 44) .ret .skip))
 (.seq (.region [⟨(some 45),.faddr 1 (.tmp 4),none⟩,⟨(some 46),.load false 1 (.tmp 45),none⟩,⟨(some 47),.mv (.tmp 3),none⟩,⟨(some 48),.mv (.tmp 8),none⟩,⟨(some 49),.bin .add (.tmp 47) (.tmp 48),none⟩,⟨(some 50),.mv (.tmp 3),none⟩,⟨(some 51),.mv (.tmp 9),none⟩,⟨(some 52),.bin .add (.tmp 50) (.tmp 51),none⟩,⟨(some 53),.callv (.tmp 46) [(.tmp 49),(.tmp 52)],none⟩])
 (.region [⟨(some 54),.mv (.tmp 9),none⟩,⟨(some 8),.mv (.tmp 54),none⟩])))))))))))⟩
theorem k383 : compFn Tryz.prog Tryz.f383 = some c383 := by kernel_rfl
-- sort.nextPowerOfTwo
def c384 : AFunc := ⟨[.tmp 2],(.seq (.region [⟨(some 2),.mv (.const (.int .u64 0)),none⟩])
 (.seq (.region [⟨(some 4),.mv (.tmp 0),none⟩,⟨(some 5),.conv .u64 (.tmp 4),none⟩,⟨(some 6),.call 242 [(.tmp 5)],none⟩,⟨(some 7),.conv .u64 (.tmp 6),none⟩,⟨(some 3),.mv (.tmp 7),none⟩])
 (.seq (.region [⟨(some 8),.mv (.tmp 3),none⟩,⟨(some 9),.bin .shl (.const (.int .u64 1)) (.tmp 8),none⟩,⟨(some 2),.mv (.tmp 9),none⟩])
 .ret)))⟩
theorem k384 : compFn Tryz.prog Tryz.f384 = some c384 := by kernel_rfl
-- (*sort.xorshift).Next
def c385 : AFunc := ⟨[.tmp 2],(.seq (.region [⟨(some 2),.mv (.const (.int .u64 0)),none⟩])
 (.seq (.draw [⟨⟨(some 3),.mv (.tmp 0),none⟩,0,0⟩,⟨⟨(some 4),.nilCheck (.tmp 3),none⟩,0,0⟩,⟨⟨(some 5),.load false 1 (.tmp 4),none⟩,0,0⟩,⟨⟨(some 6),.mv (.tmp 0),none⟩,0,0⟩,⟨⟨(some 7),.nilCheck (.tmp 6),none⟩,0,0⟩,⟨⟨(some 8),.load false 1 (.tmp 7),none⟩,0,0⟩,⟨⟨(some 9),.bin .shl (.tmp 8) (.const (.int .u64 13)),none⟩,0,0⟩,⟨⟨(some 10),.bin .xor (.tmp 5) (.tmp 9),none⟩,0,0⟩,⟨⟨(some 11),.nilCheck (.tmp 3),none⟩,0,0⟩,⟨⟨none,.store 1 (.tmp 11) (.tmp 10),none⟩,0,1⟩])
 (.seq (.draw [⟨⟨(some 12),.mv (.tmp 0),none⟩,0,0⟩,⟨⟨(some 13),.nilCheck (.tmp 12),none⟩,0,0⟩,⟨⟨(some 14),.load false 1 (.tmp 13),none⟩,0,0⟩,⟨⟨(some 15),.mv (.tmp 0),none⟩,0,0⟩,⟨⟨(some 16),.nilCheck (.tmp 15),none⟩,0,0⟩,⟨⟨(some 17),.load false 1 (.tmp 16),none⟩,0,0⟩,⟨⟨(some 18),.bin .shr (.tmp 17) (.const (.int .u64 7)),none⟩,0,0⟩,⟨⟨(some 19),.bin .xor (.tmp 14) (.tmp 18),none⟩,0,0⟩,⟨⟨(some 20),.nilCheck (.tmp 12),none⟩,0,0⟩,⟨⟨none,.store 1 (.tmp 20) (.tmp 19),none⟩,0,1⟩])
 (.seq (.draw [⟨⟨(some 21),.mv (.tmp 0),none⟩,0,0⟩,⟨⟨(some 22),.nilCheck (.tmp 21),none⟩,0,0⟩,⟨⟨(some 23),.load false 1 (.tmp 22),none⟩,0,0⟩,⟨⟨(some 24),.mv (.tmp 0),none⟩,0,0⟩,⟨⟨(some 25),.nilCheck (.tmp 24),none⟩,0,0⟩,⟨⟨(some 26),.load false 1 (.tmp 25),none⟩,0,0⟩,⟨⟨(some 27),.bin .shl (.tmp 26) (.const (.int .u64 17)),none⟩,0,0⟩,⟨⟨(some 28),.bin .xor (.tmp 23) (.tmp 27),none⟩,0,0⟩,⟨⟨(some 29),.nilCheck (.tmp 21),none⟩,0,0⟩,⟨⟨none,.store 1 (.tmp 29) (.tmp 28),none⟩,0,1⟩])
 (.seq (.region [⟨(some 30),.mv (.tmp 0),none⟩,⟨(some 31),.nilCheck (.tmp 30),none⟩,⟨(some 32),.load false 1 (.tmp 31),none⟩,⟨(some 2),.mv (.tmp 32),none⟩])
 .ret)))))⟩
theorem k385 : compFn Tryz.prog Tryz.f385 = some c385 := by kernel_rfl
-- sort.medianAdjacent_func
def c386 : AFunc := ⟨[.tmp 6],(.seq (.region [⟨(some 3),.box 2 (.tmp 0),none⟩,⟨(some 6),.mv (.const (.int .i64 0)),none⟩])
 (.seq (.region [⟨(some 7),.load true 2 (.tmp 3),none⟩,⟨(some 8),.mv (.tmp 1),none⟩,⟨(some 9),.bin .sub (.tmp 8) (.const (.int .i64 1)),none⟩,⟨(some 10),.mv (.tmp 1),none⟩,⟨(some 11),.mv (.tmp 1),none⟩,⟨(some 12),.bin .add (.tmp 11) (.const (.int .i64 1)),none⟩,⟨(some 13),.mv (.tmp 2),none⟩,⟨(some 14),.call 387 [(.tmp 7),(.tmp 9),(.tmp 10),(.tmp 12),(.tmp 13)],none⟩,⟨(some 6),.mv (.tmp 14),none⟩])
 .ret))⟩
theorem k386 : compFn Tryz.prog Tryz.f386 = some c386 := by kernel_rfl
-- sort.median_func
def c387 : AFunc := ⟨[.tmp 10],(.seq (.region [⟨(some 5),.box 2 (.tmp 0),none⟩,⟨(some 10),.mv (.const (.int .i64 0)),none⟩])
 (.seq (.region [⟨(some 12),.load true 2 (.tmp 5),none⟩,⟨(some 13),.mv (.tmp 1),none⟩,⟨(some 14),.mv (.tmp 2),none⟩,⟨(some 15),.mv (.tmp 4),none⟩,⟨(some 16),.call 402 [(.tmp 12),(.tmp 13),(.tmp 14),(.tmp 15)],none⟩,⟨(some 11),.mv (.tmp 16),none⟩,⟨(some 17),.extract (.tmp 11) 0,none⟩,⟨(some 18),.extract (.tmp 11) 1,none⟩,⟨(some 1),.mv (.tmp 17),none⟩,⟨(some 2),.mv (.tmp 18),none⟩])
 (.seq (.region [⟨(some 20),.load true 2 (.tmp 5),none⟩,⟨(some 21),.mv (.tmp 2),none⟩,⟨(some 22),.mv (.tmp 3),none⟩,⟨(some 23),.mv (.tmp 4),none⟩,⟨(some 24),.call 402 [(.tmp 20),(.tmp 21),(.tmp 22),(.tmp 23)],none⟩,⟨(some 19),.mv (.tmp 24),none⟩,⟨(some 25),.extract (.tmp 19) 0,none⟩,⟨(some 26),.extract (.tmp 19) 1,none⟩,⟨(some 2),.mv (.tmp 25),none⟩,⟨(some 3),.mv (.tmp 26),none⟩])
 (.seq (.region [⟨(some 28),.load true 2 (.tmp 5),none⟩,⟨(some 29),.mv (.tmp 1),none⟩,⟨(some 30),.mv (.tmp 2),none⟩,⟨(some 31),.mv (.tmp 4),none⟩,⟨(some 32),.call 402 [(.tmp 28),(.tmp 29),(.tmp 30),(.tmp 31)],none⟩,⟨(some 27),.mv (.tmp 32),none⟩,⟨(some 33),.extract (.tmp 27) 0,none⟩,⟨(some 34),.extract (.tmp 27) 1,none⟩,⟨(some 1),.mv (.tmp 33),none⟩,⟨(some 2),.mv (.tmp 34),none⟩])
 (.seq (.region [⟨(some 35),.mv (.tmp 2),none⟩,⟨(some 10),.mv (.tmp 35),none⟩])
 .ret)))))⟩
theorem k387 : compFn Tryz.prog Tryz.f387 = some c387 := by kernel_rfl
-- slices.siftDownOrdered[int]
def c388 : AFunc := ⟨[],(.seq (.region [⟨(some 10),.mv (.tmp 1),none⟩,⟨(some 8),.mv (.tmp 10),none⟩])
 (.block 0 (.loop (.block 1 (.seq (.region [⟨(some 11),.mv (.tmp 8),none⟩,⟨(some 12),.bin .mul (.const (.int .i64 2)) (.tmp 11),none⟩,⟨(some 13),.bin .add (.tmp 12) (.const (.int .i64 1)),none⟩,⟨(some 9),.mv (.tmp 13),none⟩])
 (.seq (.seq (.region [⟨(some 14),.mv (.tmp 9),none⟩,⟨(some 15),.mv (.tmp 2),none⟩,⟨(some 16),.bin .geq (.tmp 14) (.tmp 15),none⟩])
 (.cond (.tmp 16) (.exit 0) .skip))
 (.seq (.seq (.draw [⟨⟨(some 17),.mv (.tmp 9),none⟩,0,0⟩,⟨⟨(some 18),.bin .add (.tmp 17) (.const (.int .i64 1)),none⟩,0,0⟩,⟨⟨(some 19),.mv (.tmp 2),none⟩,0,0⟩,⟨⟨(some 20),.bin .lss (.tmp 18) (.tmp 19),none⟩,0,0⟩,⟨⟨(some 21),.mv (.tmp 20),none⟩,0,0⟩,⟨⟨(some 22),.mv (.tmp 0),some (21,true)⟩,0,0⟩,⟨⟨(some 23),.mv (.tmp 3),some (21,true)⟩,0,0⟩,⟨⟨(some 24),.mv (.tmp 9),some (21,true)⟩,0,0⟩,⟨⟨(some 25),.bin .add (.tmp 23) (.tmp 24),some (21,true)⟩,0,0⟩,⟨⟨(some 26),.iaddrS 1 (.tmp 22) (.tmp 25),some (21,true)⟩,0,0⟩,⟨⟨(some 27),.load false 1 (.tmp 26),some (21,true)⟩,0,0⟩,⟨⟨(some 28),.mv (.tmp 0),some (21,true)⟩,0,0⟩,⟨⟨(some 29),.mv (.tmp 3),some (21,true)⟩,0,0⟩,⟨⟨(some 30),.mv (.tmp 9),some (21,true)⟩,0,0⟩,⟨⟨(some 31),.bin .add (.tmp 29) (.tmp 30),some (21,true)⟩,0,0⟩,⟨⟨(some 32),.bin .add (.tmp 31) (.const (.int .i64 1)),some (21,true)⟩,0,0⟩,⟨⟨(some 33),.iaddrS 1 (.tmp 28) (.tmp 32),some (21,true)⟩,0,0⟩,⟨⟨(some 34),.load false 1 (.tmp 33),some (21,true)⟩,0,0⟩,⟨⟨(some 35),.call 361 [(.tmp 27),(.tmp 34)],some (21,true)⟩,0,1⟩,⟨⟨(some 36),.pick (.tmp 21) (.tmp 35) (.const (.bool false)),none⟩,1,1⟩])
 (.cond (.tmp 36) (.region [⟨(some 37),.mv (.tmp 9),none⟩,⟨(some 38),.bin .add (.tmp 37) (.const (.int .i64 1)),none⟩,⟨(some 9),.mv (.tmp 38),none⟩]) .skip))
 (.seq (.seq (.draw [⟨⟨(some 39),.mv (.tmp 0),none⟩,0,0⟩,⟨⟨(some 40),.mv (.tmp 3),none⟩,0,0⟩,⟨⟨(some 41),.mv (.tmp 8),none⟩,0,0⟩,⟨⟨(some 42),.bin .add (.tmp 40) (.tmp 41),none⟩,0,0⟩,⟨⟨(some 43),.iaddrS 1 (.tmp 39) (.tmp 42),none⟩,0,0⟩,⟨⟨(some 44),.load false 1 (.tmp 43),none⟩,0,0⟩,⟨⟨(some 45),.mv (.tmp 0),none⟩,0,0⟩,⟨⟨(some 46),.mv (.tmp 3),none⟩,0,0⟩,⟨⟨(some 47),.mv (.tmp 9),none⟩,0,0⟩,⟨⟨(some 48),.bin .add (.tmp 46) (.tmp 47),none⟩,0,0⟩,⟨⟨(some 49),.iaddrS 1 (.tmp 45) (.tmp 48),none⟩,0,0⟩,⟨⟨(some 50),.load false 1 (.tmp 49),none⟩,0,0⟩,⟨⟨(some 51),.call 361 [(.tmp 44),(.tmp 50)],none⟩,0,1⟩,⟨⟨(some 52),.not (.tmp 51),none⟩,1,1⟩])
 (.cond (.tmp 52) .ret .skip))
 (.seq (.draw [⟨⟨(some 53),.mv (.tmp 0),none⟩,0,0⟩,⟨⟨(some 54),.mv (.tmp 3),none⟩,0,0⟩,⟨⟨(some 55),.mv (.tmp 8),none⟩,0,0⟩,⟨⟨(some 56),.bin .add (.tmp 54) (.tmp 55),none⟩,0,0⟩,⟨⟨(some 57),.mv (.tmp 0),none⟩,0,1⟩,⟨⟨(some 58),.mv (.tmp 3),none⟩,0,1⟩,⟨⟨(some 59),.mv (.tmp 9),none⟩,0,1⟩,⟨⟨(some 60),.bin .add (.tmp 58) (.tmp 59),none⟩,0,1⟩,⟨⟨(some 61),.mv (.tmp 0),none⟩,0,0⟩,⟨⟨(some 62),.mv (.tmp 3),none⟩,0,0⟩,⟨⟨(some 63),.mv (.tmp 9),none⟩,0,0⟩,⟨⟨(some 64),.bin .add (.tmp 62) (.tmp 63),none⟩,0,0⟩,⟨⟨(some 65),.iaddrS 1 (.tmp 61) (.tmp 64),none⟩,0,0⟩,⟨⟨(some 66),.load false 1 (.tmp 65),none⟩,0,0⟩,⟨⟨(some 67),.mv (.tmp 0),none⟩,0,0⟩,⟨⟨(some 68),.mv (.tmp 3),none⟩,0,0⟩,⟨⟨(some 69),.mv (.tmp 8),none⟩,0,0⟩,⟨⟨(some 70),.bin .add (.tmp 68) (.tmp 69),none⟩,0,0⟩,⟨⟨(some 71),.iaddrS 1 (.tmp 67) (.tmp 70),none⟩,0,0⟩,⟨⟨(some 72),.load false 1 (.tmp 71),none⟩,0,0⟩,⟨⟨(some 73),.iaddrS 1 (.tmp 53) (.tmp 56),none⟩,0,0⟩,⟨⟨none,.store 1 (.tmp 73) (.tmp 66),none⟩,0,1⟩,⟨⟨(some 74),.iaddrS 1 (.tmp 57) (.tmp 60),none⟩,1,1⟩,⟨⟨none,.store 1 (.tmp 74) (.tmp 72),none⟩,1,2⟩])
 (.region [⟨(some 75),.mv (.tmp 9),none⟩,⟨(some 8),.mv (.tmp 75),none⟩]))))))))))⟩
theorem k388 : compFn Tryz.prog Tryz.f388 = some c388 := by kernel_rfl
-- slices.medianAdjacentOrdered[int]
def c389 : AFunc := ⟨[.tmp 6],(.seq (.region [⟨(some 6),.mv (.const (.int .i64 0)),none⟩])
 (.seq (.region [⟨(some 7),.mv (.tmp 0),none⟩,⟨(some 8),.mv (.tmp 1),none⟩,⟨(some 9),.bin .sub (.tmp 8) (.const (.int .i64 1)),none⟩,⟨(some 10),.mv (.tmp 1),none⟩,⟨(some 11),.mv (.tmp 1),none⟩,⟨(some 12),.bin .add (.tmp 11) (.const (.int .i64 1)),none⟩,⟨(some 13),.mv (.tmp 2),none⟩,⟨(some 14),.call 390 [(.tmp 7),(.tmp 9),(.tmp 10),(.tmp 12),(.tmp 13)],none⟩,⟨(some 6),.mv (.tmp 14),none⟩])
 .ret))⟩
theorem k389 : compFn Tryz.prog Tryz.f389 = some c389 := by kernel_rfl
-- slices.medianOrdered[int]
def c390 : AFunc := ⟨[.tmp 10],(.seq (.region [⟨(some 10),.mv (.const (.int .i64 0)),none⟩])
 (.seq (.region [⟨(some 12),.mv (.tmp 0),none⟩,⟨(some 13),.mv (.tmp 1),none⟩,⟨(some 14),.mv (.tmp 2),none⟩,⟨(some 15),.mv (.tmp 4),none⟩,⟨(some 16),.call 403 [(.tmp 12),(.tmp 13),(.tmp 14),(.tmp 15)],none⟩,⟨(some 11),.mv (.tmp 16),none⟩,⟨(some 17),.extract (.tmp 11) 0,none⟩,⟨(some 18),.extract (.tmp 11) 1,none⟩,⟨(some 1),.mv (.tmp 17),none⟩,⟨(some 2),.mv (.tmp 18),none⟩])
 (.seq (.region [⟨(some 20),.mv (.tmp 0),none⟩,⟨(some 21),.mv (.tmp 2),none⟩,⟨(some 22),.mv (.tmp 3),none⟩,⟨(some 23),.mv (.tmp 4),none⟩,⟨(some 24),.call 403 [(.tmp 20),(.tmp 21),(.tmp 22),(.tmp 23)],none⟩,⟨(some 19),.mv (.tmp 24),none⟩,⟨(some 25),.extract (.tmp 19) 0,none⟩,⟨(some 26),.extract (.tmp 19) 1,none⟩,⟨(some 2),.mv (.tmp 25),none⟩,⟨(some 3),.mv (.tmp 26),none⟩])
 (.seq (.region [⟨(some 28),.mv (.tmp 0),none⟩,⟨(some 29),.mv (.tmp 1),none⟩,⟨(some 30),.mv (.tmp 2),none⟩,⟨(some 31),.mv (.tmp 4),none⟩,⟨(some 32),.call 403 [(.tmp 28),(.tmp 29),(.tmp 30),(.tmp 31)],none⟩,⟨(some 27),.mv (.tmp 32),none⟩,⟨(some 33),.extract (.tmp 27) 0,none⟩,⟨(some 34),.extract (.tmp 27) 1,none⟩,⟨(some 1),.mv (.tmp 33),none⟩,⟨(some 2),.mv (.tmp 34),none⟩])
 (.seq (.region [⟨(some 35),.mv (.tmp 2),none⟩,⟨(some 10),.mv (.tmp 35),none⟩])
 .ret)))))⟩
theorem k390 : compFn Tryz.prog Tryz.f390 = some c390 := by kernel_rfl
-- cmp.isNaN[int]
def c391 : AFunc := ⟨[.tmp 2],(.seq (.region [⟨(some 2),.mv (.const (.bool false)),none⟩])
 (.seq (.region [⟨(some 3),.mv (.tmp 0),none⟩,⟨(some 4),.mv (.tmp 0),none⟩,⟨(some 5),.bin .neq (.tmp 3) (.tmp 4),none⟩,⟨(some 2),.mv (.tmp 5),none⟩])
 .ret))⟩
theorem k391 : compFn Tryz.prog Tryz.f391 = some c391 := by kernel_rfl
-- (*croft/links.List).Push
def c392 : AFunc := ⟨[.tmp 4],(.seq (.region [⟨(some 4),.mv (.const (.int .i64 0)),none⟩])
 (.seq (.seq (.region [⟨(some 13),.mv (.tmp 0),none⟩,⟨(some 14),.mv (.tmp 1),none⟩,⟨(some 15),.call 399 [(.tmp 13),(.tmp 14)],none⟩,⟨(some 12),.mv (.tmp 15),none⟩,⟨(some 16),.extract (.tmp 12) 0,none⟩,⟨(some 17),.extract (.tmp 12) 1,none⟩,⟨(some 18),.extract (.tmp 12) 2,none⟩,⟨(some 5),.mv (.tmp 16),none⟩,⟨(some 6),.mv (.tmp 17),none⟩,⟨(some 7),.mv (.tmp 18),none⟩])
 (.seq (.region [⟨(some 19),.mv (.tmp 7),none⟩,⟨(some 20),.not (.tmp 19),none⟩])
 (.cond (.tmp 20) (.seq (.region [⟨(some 4),.mv (.const (.int .i64 4)),none⟩])
 .ret) .skip)))
 (.seq (.seq (.region [⟨(some 21),.mv (.tmp 0),none⟩,⟨(some 22),.nilCheck (.tmp 21),none⟩,⟨(some 23),.faddr 1 (.tmp 22),none⟩,⟨(some 24),.load false 1 (.tmp 23),none⟩,⟨(some 8),.mv (.tmp 24),none⟩])
 (.seq (.region [⟨(some 25),.mv (.tmp 8),none⟩,⟨(some 26),.bin .neq (.tmp 25) (.const (.int .u64 0)),none⟩])
 (.cond (.tmp 26) (.seq (.region [⟨(some 28),.mv (.tmp 0),none⟩,⟨(some 29),.mv (.tmp 8),none⟩,⟨(some 30),.call 399 [(.tmp 28),(.tmp 29)],none⟩,⟨(some 27),.mv (.tmp 30),none⟩,⟨(some 31),.extract (.tmp 27) 0,none⟩,⟨(some 32),.extract (.tmp 27) 1,none⟩,⟨(some 33),.extract (.tmp 27) 2,none⟩,⟨(some 9),.mv (.tmp 31),none⟩,⟨(some 10),.mv (.tmp 32),none⟩,⟨(some 11),.mv (.tmp 33),none⟩])
 (.seq (.region [⟨(some 34),.mv (.tmp 11),none⟩,⟨(some 35),.not (.tmp 34),none⟩,⟨(some 36),.mv (.tmp 35),none⟩,⟨(some 37),.mv (.tmp 10),some (36,false)⟩,⟨(some 38),.bin .neq (.tmp 37) (.const (.int .u64 0)),some (36,false)⟩,⟨(some 39),.pick (.tmp 36) (.const (.bool true)) (.tmp 38),none⟩])
 (.cond (.tmp 39) (.seq (.region [⟨(some 4),.mv (.const (.int .i64 8)),none⟩])
 .ret) .skip))) .skip)))
 (.seq (.draw [⟨⟨(some 40),.mv (.tmp 0),none⟩,0,0⟩,⟨⟨(some 41),.nilCheck (.tmp 40),none⟩,0,0⟩,⟨⟨(some 42),.faddr 0 (.tmp 41),none⟩,0,0⟩,⟨⟨(some 43),.load false 1 (.tmp 42),none⟩,0,0⟩,⟨⟨(some 44),.mv (.tmp 1),none⟩,0,0⟩,⟨⟨(some 45),.mv (.tmp 0),none⟩,0,0⟩,⟨⟨(some 46),.nilCheck (.tmp 45),none⟩,0,0⟩,⟨⟨(some 47),.faddr 1 (.tmp 46),none⟩,0,0⟩,⟨⟨(some 48),.load false 1 (.tmp 47),none⟩,0,0⟩,⟨⟨(some 49),.call 238 [(.tmp 43),(.tmp 44),(.tmp 48)],none⟩,0,1⟩])
 (.seq (.region [⟨(some 50),.mv (.tmp 0),none⟩,⟨(some 51),.nilCheck (.tmp 50),none⟩,⟨(some 52),.faddr 0 (.tmp 51),none⟩,⟨(some 53),.load false 1 (.tmp 52),none⟩,⟨(some 54),.mv (.tmp 1),none⟩,⟨(some 55),.bin .add (.tmp 54) (.const (.int .u64 8)),none⟩,⟨(some 56),.call 238 [(.tmp 53),(.tmp 55),(.const (.int .u64 0))],none⟩])
 (.seq (.seq (.region [⟨(some 57),.mv (.tmp 0),none⟩,⟨(some 58),.nilCheck (.tmp 57),none⟩,⟨(some 59),.faddr 1 (.tmp 58),none⟩,⟨(some 60),.load false 1 (.tmp 59),none⟩,⟨(some 61),.bin .neq (.tmp 60) (.const (.int .u64 0)),none⟩])
 (.cond (.tmp 61) (.draw [⟨⟨(some 62),.mv (.tmp 0),none⟩,0,0⟩,⟨⟨(some 63),.nilCheck (.tmp 62),none⟩,0,0⟩,⟨⟨(some 64),.faddr 0 (.tmp 63),none⟩,0,0⟩,⟨⟨(some 65),.load false 1 (.tmp 64),none⟩,0,0⟩,⟨⟨(some 66),.mv (.tmp 0),none⟩,0,0⟩,⟨⟨(some 67),.nilCheck (.tmp 66),none⟩,0,0⟩,⟨⟨(some 68),.faddr 1 (.tmp 67),none⟩,0,0⟩,⟨⟨(some 69),.load false 1 (.tmp 68),none⟩,0,0⟩,⟨⟨(some 70),.bin .add (.tmp 69) (.const (.int .u64 8)),none⟩,0,0⟩,⟨⟨(some 71),.mv (.tmp 1),none⟩,0,0⟩,⟨⟨(some 72),.call 238 [(.tmp 65),(.tmp 70),(.tmp 71)],none⟩,0,1⟩]) .skip))
 (.seq (.region [⟨(some 73),.mv (.tmp 0),none⟩,⟨(some 74),.mv (.tmp 1),none⟩,⟨(some 75),.nilCheck (.tmp 73),none⟩,⟨(some 76),.faddr 1 (.tmp 75),none⟩,⟨none,.store 1 (.tmp 76) (.tmp 74),none⟩])
 (.seq (.region [⟨(some 4),.mv (.const (.int .i64 0)),none⟩])
 .ret))))))))⟩
theorem k392 : compFn Tryz.prog Tryz.f392 = some c392 := by kernel_rfl
-- (*croft/pagemap.Map).Flip
def c393 : AFunc := ⟨[.tmp 6,.tmp 7],(.seq (.region [⟨(some 6),.mv (.const (.bool false)),none⟩,⟨(some 7),.mv (.const (.int .i64 0)),none⟩])
 (.seq (.seq (.region [⟨(some 11),.mv (.tmp 0),none⟩,⟨(some 12),.mv (.tmp 2),none⟩,⟨(some 13),.call 118 [(.tmp 11),(.tmp 12)],none⟩,⟨(some 10),.mv (.tmp 13),none⟩,⟨(some 14),.extract (.tmp 10) 0,none⟩,⟨(some 15),.extract (.tmp 10) 1,none⟩,⟨(some 8),.alloc [(.int .i64 0),(.int .i64 0),(.int .i64 0),(.int .i64 0),(.int .i64 0),(.int .i64 0),(.int .i64 0),(.int .u64 0),(.int .u64 0),(.int .u64 0),(.int .u64 0)],none⟩,⟨none,.store 11 (.tmp 8) (.tmp 14),none⟩,⟨(some 9),.mv (.tmp 15),none⟩])
 (.seq (.region [⟨(some 16),.mv (.tmp 9),none⟩,⟨(some 17),.not (.tmp 16),none⟩,⟨(some 18),.mv (.tmp 17),none⟩,⟨(some 19),.mv (.tmp 1),some (18,false)⟩,⟨(some 20),.mv (.tmp 0),some (18,false)⟩,⟨(some 21),.nilCheck (.tmp 20),some (18,false)⟩,⟨(some 22),.faddr 0 (.tmp 21),some (18,false)⟩,⟨(some 23),.load false 1 (.tmp 22),some (18,false)⟩,⟨(some 24),.bin .sub (.tmp 23) (.const (.int .i64 1)),some (18,false)⟩,⟨(some 25),.call 375 [(.tmp 19),(.const (.int .i64 0)),(.tmp 24)],some (18,false)⟩,⟨(some 26),.not (.tmp 25),some (18,false)⟩,⟨(some 27),.pick (.tmp 18) (.const (.bool true)) (.tmp 26),none⟩])
 (.cond (.tmp 27) (.seq (.region [⟨(some 6),.mv (.const (.bool false)),none⟩,⟨(some 7),.mv (.const (.int .i64 1)),none⟩])
 .ret) .skip)))
 (.seq (.draw [⟨⟨(some 28),.mv (.tmp 0),none⟩,0,0⟩,⟨⟨(some 29),.nilCheck (.tmp 28),none⟩,0,0⟩,⟨⟨(some 30),.faddr 2 (.tmp 29),none⟩,0,0⟩,⟨⟨(some 31),.load false 1 (.tmp 30),none⟩,0,0⟩,⟨⟨(some 32),.mv (.tmp 1),none⟩,0,0⟩,⟨⟨(some 33),.iaddrS 1 (.tmp 31) (.tmp 32),none⟩,0,0⟩,⟨⟨(some 34),.load false 1 (.tmp 33),none⟩,0,0⟩,⟨⟨(some 35),.mv (.tmp 2),none⟩,0,0⟩,⟨⟨(some 36),.mv (.tmp 1),none⟩,0,0⟩,⟨⟨(some 37),.bin .add (.tmp 36) (.const (.int .i64 1)),none⟩,0,0⟩,⟨⟨(some 38),.bin .shr (.tmp 35) (.tmp 37),none⟩,0,0⟩,⟨⟨(some 39),.call 404 [(.tmp 34),(.tmp 38)],none⟩,0,1⟩])
 (.seq (.region [⟨(some 40),.mv (.tmp 0),none⟩,⟨(some 41),.mv (.tmp 1),none⟩,⟨(some 42),.mv (.tmp 2),none⟩,⟨(some 43),.call 405 [(.tmp 40),(.tmp 41),(.tmp 42)],none⟩,⟨(some 6),.mv (.tmp 43),none⟩,⟨(some 7),.mv (.const (.int .i64 0)),none⟩])
 .ret))))⟩
theorem k393 : compFn Tryz.prog Tryz.f393 = some c393 := by kernel_rfl
-- (*croft/pagemap.Map).Slab
def c394 : AFunc := ⟨[.tmp 6],(.seq (.region [⟨(some 6),.mv (.const (.int .i64 0)),none⟩])
 (.seq (.seq (.region [⟨(some 10),.mv (.tmp 0),none⟩,⟨(some 11),.mv (.tmp 1),none⟩,⟨(some 12),.call 118 [(.tmp 10),(.tmp 11)],none⟩,⟨(some 9),.mv (.tmp 12),none⟩,⟨(some 13),.extract (.tmp 9) 0,none⟩,⟨(some 14),.extract (.tmp 9) 1,none⟩,⟨(some 7),.alloc [(.int .i64 0),(.int .i64 0),(.int .i64 0),(.int .i64 0),(.int .i64 0),(.int .i64 0),(.int .i64 0),(.int .u64 0),(.int .u64 0),(.int .u64 0),(.int .u64 0)],none⟩,⟨none,.store 11 (.tmp 7) (.tmp 13),none⟩,⟨(some 8),.mv (.tmp 14),none⟩])
 (.seq (.region [⟨(some 15),.mv (.tmp 8),none⟩,⟨(some 16),.not (.tmp 15),none⟩,⟨(some 17),.mv (.tmp 16),none⟩,⟨(some 18),.mv (.tmp 2),some (17,false)⟩,⟨(some 19),.call 375 [(.tmp 18),(.const (.int .i64 0)),(.const (.int .i64 7))],some (17,false)⟩,⟨(some 20),.not (.tmp 19),some (17,false)⟩,⟨(some 21),.pick (.tmp 17) (.const (.bool true)) (.tmp 20),none⟩])
 (.cond (.tmp 21) (.seq (.region [⟨(some 6),.mv (.const (.int .i64 1)),none⟩])
 .ret) .skip)))
 (.seq (.draw [⟨⟨(some 22),.mv (.tmp 0),none⟩,0,1⟩,⟨⟨(some 23),.nilCheck (.tmp 22),none⟩,0,1⟩,⟨⟨(some 24),.faddr 1 (.tmp 23),none⟩,0,1⟩,⟨⟨(some 25),.load false 1 (.tmp 24),none⟩,0,1⟩,⟨⟨(some 26),.mv (.tmp 1),none⟩,0,1⟩,⟨⟨(some 27),.call 378 [(.const (.int .i64 4)),(.const (.int .i64 0))],none⟩,0,1⟩,⟨⟨(some 28),.iaddrS 11 (.tmp 25) (.tmp 26),none⟩,1,1⟩,⟨⟨none,.store 11 (.tmp 28) (.tmp 27),none⟩,1,2⟩])
 (.seq (.region [⟨(some 29),.mv (.tmp 0),none⟩,⟨(some 30),.nilCheck (.tmp 29),none⟩,⟨(some 31),.faddr 1 (.tmp 30),none⟩,⟨(some 32),.load false 1 (.tmp 31),none⟩,⟨(some 33),.mv (.tmp 1),none⟩,⟨(some 34),.mv (.tmp 2),none⟩,⟨(some 35),.iaddrS 11 (.tmp 32) (.tmp 33),none⟩,⟨(some 36),.faddr 2 (.tmp 35),none⟩,⟨none,.store 1 (.tmp 36) (.tmp 34),none⟩])
 (.seq (.region [⟨(some 6),.mv (.const (.int .i64 0)),none⟩])
 .ret)))))⟩
theorem k394 : compFn Tryz.prog Tryz.f394 = some c394 := by kernel_rfl
-- (*croft/links.List).Pop
def c395 : AFunc := ⟨[.tmp 2,.tmp 3],(.seq (.region [⟨(some 2),.mv (.const (.int .u64 0)),none⟩,⟨(some 3),.mv (.const (.int .i64 0)),none⟩])
 (.seq (.region [⟨(some 6),.mv (.tmp 0),none⟩,⟨(some 7),.nilCheck (.tmp 6),none⟩,⟨(some 8),.faddr 1 (.tmp 7),none⟩,⟨(some 9),.load false 1 (.tmp 8),none⟩,⟨(some 4),.mv (.tmp 9),none⟩])
 (.seq (.seq (.region [⟨(some 10),.mv (.tmp 4),none⟩,⟨(some 11),.bin .eql (.tmp 10) (.const (.int .u64 0)),none⟩])
 (.cond (.tmp 11) (.seq (.region [⟨(some 2),.mv (.const (.int .u64 0)),none⟩,⟨(some 3),.mv (.const (.int .i64 9)),none⟩])
 .ret) .skip))
 (.seq (.seq (.region [⟨(some 12),.mv (.tmp 0),none⟩,⟨(some 13),.mv (.tmp 4),none⟩,⟨(some 14),.call 379 [(.tmp 12),(.tmp 13)],none⟩,⟨(some 5),.mv (.tmp 14),none⟩])
 (.seq (.region [⟨(some 15),.mv (.tmp 5),none⟩,⟨(some 16),.bin .neq (.tmp 15) (.const (.int .i64 0)),none⟩])
 (.cond (.tmp 16) (.seq (.region [⟨(some 17),.mv (.tmp 5),none⟩,⟨(some 2),.mv (.const (.int .u64 0)),none⟩,⟨(some 3),.mv (.tmp 17),none⟩])
 .ret) .skip)))
 (.seq (.region [⟨(some 18),.mv (.tmp 4),none⟩,⟨(some 2),.mv (.tmp 18),none⟩,⟨(some 3),.mv (.const (.int .i64 0)),none⟩])
 .ret)))))⟩
theorem k395 : compFn Tryz.prog Tryz.f395 = some c395 := by kernel_rfl
-- (*croft/pagemap.Map).size
def c396 : AFunc := ⟨[.tmp 2],(.seq (.region [⟨(some 2),.mv (.const (.int .i64 0)),none⟩])
 (.seq (.region [⟨(some 3),.mv (.tmp 0),none⟩,⟨(some 4),.nilCheck (.tmp 3),none⟩,⟨(some 5),.faddr 0 (.tmp 4),none⟩,⟨(some 6),.load false 1 (.tmp 5),none⟩,⟨(some 7),.bin .shl (.const (.int .i64 1)) (.tmp 6),none⟩,⟨(some 2),.mv (.tmp 7),none⟩])
 .ret))⟩
theorem k396 : compFn Tryz.prog Tryz.f396 = some c396 := by kernel_rfl
-- (*croft/pagemap.Map).paired
def c397 : AFunc := ⟨[],(.seq (.region [⟨(some 4),.mv (.tmp 0),none⟩,⟨(some 5),.nilCheck (.tmp 4),none⟩,⟨(some 6),.faddr 2 (.tmp 5),none⟩,⟨(some 7),.load false 1 (.tmp 6),none⟩,⟨(some 8),.lenS (.tmp 7),none⟩,⟨(some 9),.mv (.const (.int .i64 0)),none⟩])
 (.block 0 (.loop (.seq (.region [⟨(some 10),.bin .lss (.tmp 9) (.tmp 8),none⟩])
 (.seq (.cond (.tmp 10) .skip (.exit 0))
 (.seq (.block 1 (.seq (.region [⟨(some 11),.mv (.tmp 9),none⟩,⟨(some 12),.iaddrS 1 (.tmp 7) (.tmp 9),none⟩,⟨(some 13),.load false 1 (.tmp 12),none⟩,⟨(some 2),.mv (.tmp 11),none⟩,⟨(some 3),.mv (.tmp 13),none⟩])
 (.region [⟨(some 14),.mv (.tmp 3),none⟩,⟨(some 15),.mv (.tmp 0),none⟩,⟨(some 16),.nilCheck (.tmp 15),none⟩,⟨(some 17),.faddr 1 (.tmp 16),none⟩,⟨(some 18),.load false 1 (.tmp 17),none⟩,⟨(some 19),.lenS (.tmp 18),none⟩,⟨(some 20),.mv (.tmp 2),none⟩,⟨(some 21),.bin .add (.tmp 20) (.const (.int .i64 1)),none⟩,⟨(some 22),.bin .shr (.tmp 19) (.tmp 21),none⟩,⟨(some 23),.call 406 [(.tmp 14),(.tmp 22)],none⟩])))
 (.region [⟨(some 24),.bin .add (.tmp 9) (.const (.int .i64 1)),none⟩,⟨(some 9),.mv (.tmp 24),none⟩])))))))⟩
theorem k397 : compFn Tryz.prog Tryz.f397 = some c397 := by kernel_rfl
-- (*croft/buddy.Buddy).top
def c398 : AFunc := ⟨[.tmp 2,.tmp 3],(.seq (.region [⟨(some 2),.mv (.const (.int .i64 0)),none⟩,⟨(some 3),.mv (.const (.bool false)),none⟩])
 (.seq (.draw [⟨⟨(some 5),.mv (.tmp 0),none⟩,0,0⟩,⟨⟨(some 6),.nilCheck (.tmp 5),none⟩,0,0⟩,⟨⟨(some 7),.faddr 3 (.tmp 6),none⟩,0,0⟩,⟨⟨(some 8),.load false 1 (.tmp 7),none⟩,0,0⟩,⟨⟨(some 9),.call 407 [(.tmp 8)],none⟩,0,1⟩,⟨⟨(some 10),.mv (.tmp 0),none⟩,0,1⟩,⟨⟨(some 11),.nilCheck (.tmp 10),none⟩,0,1⟩,⟨⟨(some 12),.faddr 0 (.tmp 11),none⟩,0,1⟩,⟨⟨(some 13),.faddr 2 (.tmp 12),none⟩,0,1⟩,⟨⟨(some 14),.load false 1 (.tmp 13),none⟩,0,1⟩,⟨⟨(some 15),.bin .shl (.tmp 9) (.tmp 14),none⟩,1,1⟩,⟨⟨(some 4),.mv (.tmp 15),none⟩,1,1⟩])
 (.seq (.draw [⟨⟨(some 16),.mv (.tmp 4),none⟩,0,1⟩,⟨⟨(some 17),.mv (.tmp 0),none⟩,0,1⟩,⟨⟨(some 18),.nilCheck (.tmp 17),none⟩,0,1⟩,⟨⟨(some 19),.faddr 0 (.tmp 18),none⟩,0,1⟩,⟨⟨(some 20),.faddr 2 (.tmp 19),none⟩,0,1⟩,⟨⟨(some 21),.load false 1 (.tmp 20),none⟩,0,1⟩,⟨⟨(some 22),.bin .shl (.const (.int .i64 1)) (.tmp 21),none⟩,0,1⟩,⟨⟨(some 23),.bin .sub (.tmp 16) (.tmp 22),none⟩,0,1⟩,⟨⟨(some 24),.mv (.tmp 4),none⟩,0,0⟩,⟨⟨(some 25),.bin .gtr (.tmp 24) (.const (.int .i64 0)),none⟩,0,0⟩,⟨⟨(some 26),.mv (.tmp 25),none⟩,0,0⟩,⟨⟨(some 27),.mv (.tmp 0),some (26,true)⟩,0,0⟩,⟨⟨(some 28),.nilCheck (.tmp 27),some (26,true)⟩,0,0⟩,⟨⟨(some 29),.faddr 4 (.tmp 28),some (26,true)⟩,0,0⟩,⟨⟨(some 30),.load false 1 (.tmp 29),some (26,true)⟩,0,0⟩,⟨⟨(some 31),.call 117 [(.tmp 30)],some (26,true)⟩,0,1⟩,⟨⟨(some 32),.mv (.tmp 4),some (26,true)⟩,0,1⟩,⟨⟨(some 33),.bin .eql (.tmp 31) (.tmp 32),some (26,true)⟩,1,1⟩,⟨⟨(some 34),.pick (.tmp 26) (.tmp 33) (.const (.bool false)),none⟩,1,1⟩,⟨⟨(some 2),.mv (.tmp 23),none⟩,1,1⟩,⟨⟨(some 3),.mv (.tmp 34),none⟩,1,1⟩])
 .ret)))⟩
theorem k398 : compFn Tryz.prog Tryz.f398 = some c398 := by kernel_rfl
-- (*croft/links.List).links
def c399 : AFunc := ⟨[.tmp 4,.tmp 5,.tmp 6],(.seq (.region [⟨(some 4),.mv (.const (.int .u64 0)),none⟩,⟨(some 5),.mv (.const (.int .u64 0)),none⟩,⟨(some 6),.mv (.const (.bool false)),none⟩])
 (.seq (.region [⟨(some 10),.mv (.tmp 0),none⟩,⟨(some 11),.nilCheck (.tmp 10),none⟩,⟨(some 12),.faddr 0 (.tmp 11),none⟩,⟨(some 13),.load false 1 (.tmp 12),none⟩,⟨(some 14),.mv (.tmp 1),none⟩,⟨(some 15),.call 243 [(.tmp 13),(.tmp 14)],none⟩,⟨(some 9),.mv (.tmp 15),none⟩,⟨(some 16),.extract (.tmp 9) 0,none⟩,⟨(some 17),.extract (.tmp 9) 1,none⟩,⟨(some 4),.mv (.tmp 16),none⟩,⟨(some 7),.mv (.tmp 17),none⟩])
 (.seq (.seq (.region [⟨(some 18),.mv (.tmp 7),none⟩,⟨(some 19),.bin .neq (.tmp 18) (.const (.int .i64 0)),none⟩])
 (.cond (.tmp 19) (.seq (.region [⟨(some 4),.mv (.const (.int .u64 0)),none⟩,⟨(some 5),.mv (.const (.int .u64 0)),none⟩,⟨(some 6),.mv (.const (.bool false)),none⟩])
 .ret) .skip))
 (.seq (.region [⟨(some 21),.mv (.tmp 0),none⟩,⟨(some 22),.nilCheck (.tmp 21),none⟩,⟨(some 23),.faddr 0 (.tmp 22),none⟩,⟨(some 24),.load false 1 (.tmp 23),none⟩,⟨(some 25),.mv (.tmp 1),none⟩,⟨(some 26),.bin .add (.tmp 25) (.const (.int .u64 8)),none⟩,⟨(some 27),.call 243 [(.tmp 24),(.tmp 26)],none⟩,⟨(some 20),.mv (.tmp 27),none⟩,⟨(some 28),.extract (.tmp 20) 0,none⟩,⟨(some 29),.extract (.tmp 20) 1,none⟩,⟨(some 5),.mv (.tmp 28),none⟩,⟨(some 8),.mv (.tmp 29),none⟩])
 (.seq (.region [⟨(some 30),.mv (.tmp 4),none⟩,⟨(some 31),.mv (.tmp 5),none⟩,⟨(some 32),.mv (.tmp 8),none⟩,⟨(some 33),.bin .eql (.tmp 32) (.const (.int .i64 0)),none⟩,⟨(some 34),.mv (.tmp 33),none⟩,⟨(some 35),.mv (.tmp 1),some (34,true)⟩,⟨(some 36),.bin .add (.tmp 35) (.const (.int .u64 8)),some (34,true)⟩,⟨(some 37),.mv (.tmp 1),some (34,true)⟩,⟨(some 38),.bin .gtr (.tmp 36) (.tmp 37),some (34,true)⟩,⟨(some 39),.pick (.tmp 34) (.tmp 38) (.const (.bool false)),none⟩,⟨(some 4),.mv (.tmp 30),none⟩,⟨(some 5),.mv (.tmp 31),none⟩,⟨(some 6),.mv (.tmp 39),none⟩])
 .ret)))))⟩
theorem k399 : compFn Tryz.prog Tryz.f399 = some c399 := by kernel_rfl
-- (*croft/links.List).sound
def c400 : AFunc := ⟨[.tmp 8],(.seq (.region [⟨(some 8),.mv (.const (.bool false)),none⟩])
 (.seq (.seq (.region [⟨(some 15),.mv (.tmp 3),none⟩,⟨(some 16),.bin .eql (.tmp 15) (.const (.int .u64 0)),none⟩,⟨(some 17),.mv (.tmp 1),none⟩,⟨(some 18),.mv (.tmp 0),none⟩,⟨(some 19),.nilCheck (.tmp 18),none⟩,⟨(some 20),.faddr 1 (.tmp 19),none⟩,⟨(some 21),.load false 1 (.tmp 20),none⟩,⟨(some 22),.bin .eql (.tmp 17) (.tmp 21),none⟩,⟨(some 23),.eq1 true .bool (.tmp 16) (.tmp 22),none⟩])
 (.cond (.tmp 23) (.seq (.region [⟨(some 8),.mv (.const (.bool false)),none⟩])
 .ret) .skip))
 (.seq (.seq (.region [⟨(some 24),.mv (.tmp 3),none⟩,⟨(some 25),.bin .neq (.tmp 24) (.const (.int .u64 0)),none⟩])
 (.cond (.tmp 25) (.seq (.region [⟨(some 27),.mv (.tmp 0),none⟩,⟨(some 28),.mv (.tmp 3),none⟩,⟨(some 29),.call 399 [(.tmp 27),(.tmp 28)],none⟩,⟨(some 26),.mv (.tmp 29),none⟩,⟨(some 30),.extract (.tmp 26) 0,none⟩,⟨(some 31),.extract (.tmp 26) 1,none⟩,⟨(some 32),.extract (.tmp 26) 2,none⟩,⟨(some 9),.mv (.tmp 30),none⟩,⟨(some 10),.mv (.tmp 31),none⟩,⟨(some 11),.mv (.tmp 32),none⟩])
 (.seq (.region [⟨(some 33),.mv (.tmp 11),none⟩,⟨(some 34),.not (.tmp 33),none⟩,⟨(some 35),.mv (.tmp 34),none⟩,⟨(some 36),.mv (.tmp 9),some (35,false)⟩,⟨(some 37),.mv (.tmp 1),some (35,false)⟩,⟨(some 38),.bin .neq (.tmp 36) (.tmp 37),some (35,false)⟩,⟨(some 39),.pick (.tmp 35) (.const (.bool true)) (.tmp 38),none⟩])
 (.cond (.tmp 39) (.seq (.region [⟨(some 8),.mv (.const (.bool false)),none⟩])
 .ret) .skip))) .skip))
 (.seq (.seq (.region [⟨(some 40),.mv (.tmp 2),none⟩,⟨(some 41),.bin .neq (.tmp 40) (.const (.int .u64 0)),none⟩])
 (.cond (.tmp 41) (.seq (.region [⟨(some 43),.mv (.tmp 0),none⟩,⟨(some 44),.mv (.tmp 2),none⟩,⟨(some 45),.call 399 [(.tmp 43),(.tmp 44)],none⟩,⟨(some 42),.mv (.tmp 45),none⟩,⟨(some 46),.extract (.tmp 42) 0,none⟩,⟨(some 47),.extract (.tmp 42) 1,none⟩,⟨(some 48),.extract (.tmp 42) 2,none⟩,⟨(some 12),.mv (.tmp 46),none⟩,⟨(some 13),.mv (.tmp 47),none⟩,⟨(some 14),.mv (.tmp 48),none⟩])
 (.seq (.region [⟨(some 49),.mv (.tmp 14),none⟩,⟨(some 50),.not (.tmp 49),none⟩,⟨(some 51),.mv (.tmp 50),none⟩,⟨(some 52),.mv (.tmp 13),some (51,false)⟩,⟨(some 53),.mv (.tmp 1),some (51,false)⟩,⟨(some 54),.bin .neq (.tmp 52) (.tmp 53),some (51,false)⟩,⟨(some 55),.pick (.tmp 51) (.const (.bool true)) (.tmp 54),none⟩])
 (.cond (.tmp 55) (.seq (.region [⟨(some 8),.mv (.const (.bool false)),none⟩])
 .ret) .skip))) .skip))
 (.seq (.region [⟨(some 8),.mv (.const (.bool true)),none⟩])
 .ret)))))⟩
theorem k400 : compFn Tryz.prog Tryz.f400 = some c400 := by kernel_rfl
-- sort.order2_func
def c402 : AFunc := ⟨[.tmp 8,.tmp 9],(.seq (.region [⟨(some 4),.box 2 (.tmp 0),none⟩,⟨(some 8),.mv (.const (.int .i64 0)),none⟩,⟨(some 9),.mv (.const (.int .i64 0)),none⟩])
 (.seq (.seq (.region [⟨(some 10),.faddr 0 (.tmp 4),none⟩,⟨(some 11),.load false 1 (.tmp 10),none⟩,⟨(some 12),.mv (.tmp 2),none⟩,⟨(some 13),.mv (.tmp 1),none⟩,⟨(some 14),.callv (.tmp 11) [(.tmp 12),(.tmp 13)],none⟩])
 (.cond (.tmp 14) (.seq (.region [⟨(some 15),.mv (.tmp 3),none⟩,⟨(some 16),.nilCheck (.tmp 15),none⟩,⟨(some 17),.load false 1 (.tmp 16),none⟩,⟨(some 18),.bin .add (.tmp 17) (.const (.int .i64 1)),none⟩,⟨(some 19),.nilCheck (.tmp 15),none⟩,⟨none,.store 1 (.tmp 19) (.tmp 18),none⟩])
 (.seq (.region [⟨(some 20),.mv (.tmp 2),none⟩,⟨(some 21),.mv (.tmp 1),none⟩,⟨(some 8),.mv (.tmp 20),none⟩,⟨(some 9),.mv (.tmp 21),none⟩])
 .ret)) .skip))
 (.seq (.region [⟨(some 22),.mv (.tmp 1),none⟩,⟨(some 23),.mv (.tmp 2),none⟩,⟨(some 8),.mv (.tmp 22),none⟩,⟨(some 9),.mv (.tmp 23),none⟩])
 .ret)))⟩
theorem k402 : compFn Tryz.prog Tryz.f402 = some c402 := by kernel_rfl
-- slices.order2Ordered[int]
def c403 : AFunc := ⟨[.tmp 8,.tmp 9],(.seq (.region [⟨(some 8),.mv (.const (.int .i64 0)),none⟩,⟨(some 9),.mv (.const (.int .i64 0)),none⟩])
 (.seq (.seq (.draw [⟨⟨(some 10),.mv (.tmp 0),none⟩,0,0⟩,⟨⟨(some 11),.mv (.tmp 2),none⟩,0,0⟩,⟨⟨(some 12),.iaddrS 1 (.tmp 10) (.tmp 11),none⟩,0,0⟩,⟨⟨(some 13),.load false 1 (.tmp 12),none⟩,0,0⟩,⟨⟨(some 14),.mv (.tmp 0),none⟩,0,0⟩,⟨⟨(some 15),.mv (.tmp 1),none⟩,0,0⟩,⟨⟨(some 16),.iaddrS 1 (.tmp 14) (.tmp 15),none⟩,0,0⟩,⟨⟨(some 17),.load false 1 (.tmp 16),none⟩,0,0⟩,⟨⟨(some 18),.call 361 [(.tmp 13),(.tmp 17)],none⟩,0,1⟩])
 (.cond (.tmp 18) (.seq (.region [⟨(some 19),.mv (.tmp 3),none⟩,⟨(some 20),.nilCheck (.tmp 19),none⟩,⟨(some 21),.load false 1 (.tmp 20),none⟩,⟨(some 22),.bin .add (.tmp 21) (.const (.int .i64 1)),none⟩,⟨(some 23),.nilCheck (.tmp 19),none⟩,⟨none,.store 1 (.tmp 23) (.tmp 22),none⟩])
 (.seq (.region [⟨(some 24),.mv (.tmp 2),none⟩,⟨(some 25),.mv (.tmp 1),none⟩,⟨(some 8),.mv (.tmp 24),none⟩,⟨(some 9),.mv (.tmp 25),none⟩])
 .ret)) .skip))
 (.seq (.region [⟨(some 26),.mv (.tmp 1),none⟩,⟨(some 27),.mv (.tmp 2),none⟩,⟨(some 8),.mv (.tmp 26),none⟩,⟨(some 9),.mv (.tmp 27),none⟩])
 .ret)))⟩
theorem k403 : compFn Tryz.prog Tryz.f403 = some c403 := by kernel_rfl
-- (*croft/bits.Set).Flip
def c404 : AFunc := ⟨[.tmp 4],(.seq (.region [⟨(some 4),.mv (.const (.bool false)),none⟩])
 (.seq (.seq (.region [⟨(some 5),.mv (.tmp 0),none⟩,⟨(some 6),.mv (.tmp 1),none⟩,⟨(some 7),.call 408 [(.tmp 5),(.tmp 6)],none⟩,⟨(some 8),.not (.tmp 7),none⟩])
 (.cond (.tmp 8) (.seq (.region [⟨(some 4),.mv (.const (.bool false)),none⟩])
 .ret) .skip))
 (.seq (.draw [⟨⟨(some 9),.mv (.tmp 0),none⟩,0,0⟩,⟨⟨(some 10),.nilCheck (.tmp 9),none⟩,0,0⟩,⟨⟨(some 11),.faddr 1 (.tmp 10),none⟩,0,0⟩,⟨⟨(some 12),.load false 1 (.tmp 11),none⟩,0,0⟩,⟨⟨(some 13),.mv (.tmp 1),none⟩,0,0⟩,⟨⟨(some 14),.bin .quo (.tmp 13) (.const (.int .i64 64)),none⟩,0,0⟩,⟨⟨(some 15),.iaddrS 1 (.tmp 12) (.tmp 14),none⟩,0,0⟩,⟨⟨(some 16),.load false 1 (.tmp 15),none⟩,0,0⟩,⟨⟨(some 17),.mv (.tmp 1),none⟩,0,0⟩,⟨⟨(some 18),.bin .rem (.tmp 17) (.const (.int .i64 64)),none⟩,0,0⟩,⟨⟨(some 19),.bin .shl (.const (.int .u64 1)) (.tmp 18),none⟩,0,0⟩,⟨⟨(some 20),.bin .xor (.tmp 16) (.tmp 19),none⟩,0,0⟩,⟨⟨(some 21),.iaddrS 1 (.tmp 12) (.tmp 14),none⟩,0,0⟩,⟨⟨none,.store 1 (.tmp 21) (.tmp 20),none⟩,0,1⟩])
 (.seq (.region [⟨(some 4),.mv (.const (.bool true)),none⟩])
 .ret))))⟩
theorem k404 : compFn Tryz.prog Tryz.f404 = some c404 := by kernel_rfl
-- (*croft/pagemap.Map).Pair
def c405 : AFunc := ⟨[.tmp 6],(.seq (.region [⟨(some 6),.mv (.const (.bool false)),none⟩])
 (.seq (.seq (.region [⟨(some 10),.mv (.tmp 0),none⟩,⟨(some 11),.mv (.tmp 2),none⟩,⟨(some 12),.call 118 [(.tmp 10),(.tmp 11)],none⟩,⟨(some 9),.mv (.tmp 12),none⟩,⟨(some 13),.extract (.tmp 9) 0,none⟩,⟨(some 14),.extract (.tmp 9) 1,none⟩,⟨(some 7),.alloc [(.int .i64 0),(.int .i64 0),(.int .i64 0),(.int .i64 0),(.int .i64 0),(.int .i64 0),(.int .i64 0),(.int .u64 0),(.int .u64 0),(.int .u64 0),(.int .u64 0)],none⟩,⟨none,.store 11 (.tmp 7) (.tmp 13),none⟩,⟨(some 8),.mv (.tmp 14),none⟩])
 (.seq (.region [⟨(some 15),.mv (.tmp 8),none⟩,⟨(some 16),.not (.tmp 15),none⟩,⟨(some 17),.mv (.tmp 16),none⟩,⟨(some 18),.mv (.tmp 1),some (17,false)⟩,⟨(some 19),.mv (.tmp 0),some (17,false)⟩,⟨(some 20),.nilCheck (.tmp 19),some (17,false)⟩,⟨(some 21),.faddr 0 (.tmp 20),some (17,false)⟩,⟨(some 22),.load false 1 (.tmp 21),some (17,false)⟩,⟨(some 23),.bin .sub (.tmp 22) (.const (.int .i64 1)),some (17,false)⟩,⟨(some 24),.call 375 [(.tmp 18),(.const (.int .i64 0)),(.tmp 23)],some (17,false)⟩,⟨(some 25),.not (.tmp 24),some (17,false)⟩,⟨(some 26),.pick (.tmp 17) (.const (.bool true)) (.tmp 25),none⟩])
 (.cond (.tmp 26) (.seq (.region [⟨(some 6),.mv (.const (.bool false)),none⟩])
 .ret) .skip)))
 (.seq (.draw [⟨⟨(some 27),.mv (.tmp 0),none⟩,0,0⟩,⟨⟨(some 28),.nilCheck (.tmp 27),none⟩,0,0⟩,⟨⟨(some 29),.faddr 2 (.tmp 28),none⟩,0,0⟩,⟨⟨(some 30),.load false 1 (.tmp 29),none⟩,0,0⟩,⟨⟨(some 31),.mv (.tmp 1),none⟩,0,0⟩,⟨⟨(some 32),.iaddrS 1 (.tmp 30) (.tmp 31),none⟩,0,0⟩,⟨⟨(some 33),.load false 1 (.tmp 32),none⟩,0,0⟩,⟨⟨(some 34),.mv (.tmp 2),none⟩,0,0⟩,⟨⟨(some 35),.mv (.tmp 1),none⟩,0,0⟩,⟨⟨(some 36),.bin .add (.tmp 35) (.const (.int .i64 1)),none⟩,0,0⟩,⟨⟨(some 37),.bin .shr (.tmp 34) (.tmp 36),none⟩,0,0⟩,⟨⟨(some 38),.call 409 [(.tmp 33),(.tmp 37)],none⟩,0,1⟩,⟨⟨(some 6),.mv (.tmp 38),none⟩,1,1⟩])
 .ret)))⟩
theorem k405 : compFn Tryz.prog Tryz.f405 = some c405 := by kernel_rfl
-- (*croft/bits.Set).Resize
def c406 : AFunc := ⟨[],(.region [⟨(some 4),.mv (.tmp 0),none⟩,⟨(some 5),.mv (.tmp 0),none⟩,⟨(some 6),.nilCheck (.tmp 5),none⟩,⟨(some 7),.faddr 1 (.tmp 6),none⟩,⟨(some 8),.load false 1 (.tmp 7),none⟩,⟨(some 9),.mv (.tmp 1),none⟩,⟨(some 10),.call 311 [(.tmp 8),(.tmp 9)],none⟩,⟨(some 11),.nilCheck (.tmp 10),none⟩,⟨(some 12),.load true 2 (.tmp 11),none⟩,⟨(some 13),.nilCheck (.tmp 4),none⟩,⟨none,.store 2 (.tmp 13) (.tmp 12),none⟩])⟩
theorem k406 : compFn Tryz.prog Tryz.f406 = some c406 := by kernel_rfl
-- (*croft/mem.Space).Regions
def c407 : AFunc := ⟨[.tmp 2],(.seq (.region [⟨(some 2),.mv (.const (.int .i64 0)),none⟩])
 (.seq (.region [⟨(some 3),.mv (.tmp 0),none⟩,⟨(some 4),.nilCheck (.tmp 3),none⟩,⟨(some 5),.faddr 4 (.tmp 4),none⟩,⟨(some 6),.load false 1 (.tmp 5),none⟩,⟨(some 7),.lenS (.tmp 6),none⟩,⟨(some 2),.mv (.tmp 7),none⟩])
 .ret))⟩
theorem k407 : compFn Tryz.prog Tryz.f407 = some c407 := by kernel_rfl
-- (*croft/bits.Set).has
def c408 : AFunc := ⟨[.tmp 4],(.seq (.region [⟨(some 4),.mv (.const (.bool false)),none⟩])
 (.seq (.region [⟨(some 5),.mv (.tmp 1),none⟩,⟨(some 6),.bin .geq (.tmp 5) (.const (.int .i64 0)),none⟩,⟨(some 7),.mv (.tmp 6),none⟩,⟨(some 8),.mv (.tmp 1),some (7,true)⟩,⟨(some 9),.mv (.tmp 0),some (7,true)⟩,⟨(some 10),.nilCheck (.tmp 9),some (7,true)⟩,⟨(some 11),.faddr 0 (.tmp 10),some (7,true)⟩,⟨(some 12),.load false 1 (.tmp 11),some (7,true)⟩,⟨(some 13),.bin .lss (.tmp 8) (.tmp 12),some (7,true)⟩,⟨(some 14),.pick (.tmp 7) (.tmp 13) (.const (.bool false)),none⟩,⟨(some 4),.mv (.tmp 14),none⟩])
 .ret))⟩
theorem k408 : compFn Tryz.prog Tryz.f408 = some c408 := by kernel_rfl
-- (*croft/bits.Set).Get
def c409 : AFunc := ⟨[.tmp 4],(.seq (.region [⟨(some 4),.mv (.const (.bool false)),none⟩])
 (.seq (.region [⟨(some 5),.mv (.tmp 0),none⟩,⟨(some 6),.mv (.tmp 1),none⟩,⟨(some 7),.call 408 [(.tmp 5),(.tmp 6)],none⟩,⟨(some 8),.mv (.tmp 7),none⟩,⟨(some 9),.mv (.tmp 0),some (8,true)⟩,⟨(some 10),.nilCheck (.tmp 9),some (8,true)⟩,⟨(some 11),.faddr 1 (.tmp 10),some (8,true)⟩,⟨(some 12),.load false 1 (.tmp 11),some (8,true)⟩,⟨(some 13),.mv (.tmp 1),some (8,true)⟩,⟨(some 14),.bin .quo (.tmp 13) (.const (.int .i64 64)),some (8,true)⟩,⟨(some 15),.iaddrS 1 (.tmp 12) (.tmp 14),some (8,true)⟩,⟨(some 16),.load false 1 (.tmp 15),some (8,true)⟩,⟨(some 17),.mv (.tmp 1),some (8,true)⟩,⟨(some 18),.bin .rem (.tmp 17) (.const (.int .i64 64)),some (8,true)⟩,⟨(some 19),.bin .shr (.tmp 16) (.tmp 18),some (8,true)⟩,⟨(some 20),.bin .and (.tmp 19) (.const (.int .u64 1)),some (8,true)⟩,⟨(some 21),.bin .eql (.tmp 20) (.const (.int .u64 1)),some (8,true)⟩,⟨(some 22),.pick (.tmp 8) (.tmp 21) (.const (.bool false)),none⟩,⟨(some 4),.mv (.tmp 22),none⟩])
 .ret))⟩
theorem k409 : compFn Tryz.prog Tryz.f409 = some c409 := by kernel_rfl
end
end Go.Proofs.YtdnefddmghhgpaaGreatDoor
