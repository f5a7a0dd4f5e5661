import Derived.Test.YtdnefddmghhgpaaGreatDoorEnv
set_option maxRecDepth 1000000
set_option maxHeartbeats 4000000
set_option linter.unusedVariables false
namespace Go.Proofs.YtdnefddmghhgpaaGreatDoor
open AM Go
noncomputable section
-- croft/croftlaw13.CacheKnown
def c4 : AFunc := ⟨[.tmp 0],(.seq (.region [⟨(some 0),.mv (.const (.bool false)),none⟩])
 (.seq (.seq (.region [⟨(some 9),.call 22 [],none⟩,⟨(some 10),.not (.tmp 9),none⟩])
 (.cond (.tmp 10) (.seq (.region [⟨(some 0),.mv (.const (.bool false)),none⟩])
 .ret) .skip))
 (.seq (.region [⟨(some 11),.call 23 [],none⟩,⟨(some 1),.mv (.tmp 11),none⟩])
 (.seq (.region [⟨(some 12),.mv (.tmp 1),none⟩,⟨(some 13),.call 24 [(.tmp 12),(.const (.int .i64 0)),(.const (.int .u64 1)),(.const (.bool false))],none⟩])
 (.seq (.region [⟨(some 14),.mv (.tmp 1),none⟩,⟨(some 15),.call 24 [(.tmp 14),(.const (.int .i64 1)),(.const (.int .u64 1)),(.const (.bool false))],none⟩])
 (.seq (.region [⟨(some 17),.mv (.tmp 1),none⟩,⟨(some 18),.call 24 [(.tmp 17),(.const (.int .i64 2)),(.const (.int .u64 1)),(.const (.bool false))],none⟩,⟨(some 16),.mv (.tmp 18),none⟩,⟨(some 19),.extract (.tmp 16) 0,none⟩,⟨(some 20),.extract (.tmp 16) 1,none⟩,⟨(some 2),.mv (.tmp 19),none⟩,⟨(some 3),.mv (.tmp 20),none⟩])
 (.seq (.seq (.region [⟨(some 21),.mv (.tmp 3),none⟩,⟨(some 22),.bin .neq (.tmp 21) (.const (.int .i64 1)),none⟩,⟨(some 23),.mv (.tmp 22),none⟩,⟨(some 24),.mv (.tmp 1),some (23,false)⟩,⟨(some 25),.call 25 [(.tmp 24),(.const (.int .i64 0)),(.const (.int .u64 65536))],some (23,false)⟩,⟨(some 26),.bin .neq (.tmp 25) (.const (.int .i64 0)),some (23,false)⟩,⟨(some 27),.pick (.tmp 23) (.const (.bool true)) (.tmp 26),none⟩])
 (.cond (.tmp 27) (.seq (.region [⟨(some 0),.mv (.const (.bool false)),none⟩])
 .ret) .skip))
 (.seq (.region [⟨(some 28),.mv (.tmp 1),none⟩,⟨(some 29),.call 26 [(.tmp 28),(.const (.int .i64 0))],none⟩,⟨(some 4),.mv (.tmp 29),none⟩])
 (.seq (.seq (.region [⟨(some 30),.mv (.tmp 4),none⟩,⟨(some 31),.lenS (.tmp 30),none⟩,⟨(some 32),.bin .neq (.tmp 31) (.const (.int .i64 8)),none⟩,⟨(some 33),.mv (.tmp 32),none⟩,⟨(some 34),.mv (.tmp 4),some (33,false)⟩,⟨(some 35),.iaddrS 1 (.tmp 34) (.const (.int .i64 0)),some (33,false)⟩,⟨(some 36),.load false 1 (.tmp 35),some (33,false)⟩,⟨(some 37),.bin .neq (.tmp 36) (.const (.int .i64 1)),some (33,false)⟩,⟨(some 38),.pick (.tmp 33) (.const (.bool true)) (.tmp 37),none⟩,⟨(some 39),.mv (.tmp 38),none⟩,⟨(some 40),.mv (.tmp 4),some (39,false)⟩,⟨(some 41),.iaddrS 1 (.tmp 40) (.const (.int .i64 1)),some (39,false)⟩,⟨(some 42),.load false 1 (.tmp 41),some (39,false)⟩,⟨(some 43),.bin .neq (.tmp 42) (.const (.int .i64 0)),some (39,false)⟩,⟨(some 44),.pick (.tmp 39) (.const (.bool true)) (.tmp 43),none⟩,⟨(some 45),.mv (.tmp 44),none⟩,⟨(some 46),.mv (.tmp 1),some (45,false)⟩,⟨(some 47),.call 26 [(.tmp 46),(.const (.int .i64 2))],some (45,false)⟩,⟨(some 48),.lenS (.tmp 47),some (45,false)⟩,⟨(some 49),.bin .neq (.tmp 48) (.const (.int .i64 0)),some (45,false)⟩,⟨(some 50),.pick (.tmp 45) (.const (.bool true)) (.tmp 49),none⟩])
 (.cond (.tmp 50) (.seq (.region [⟨(some 0),.mv (.const (.bool false)),none⟩])
 .ret) .skip))
 (.seq (.region [⟨(some 52),.mv (.tmp 1),none⟩,⟨(some 53),.call 27 [(.tmp 52),(.const (.int .u64 65536)),(.const (.int .u64 1))],none⟩,⟨(some 51),.mv (.tmp 53),none⟩,⟨(some 54),.extract (.tmp 51) 0,none⟩,⟨(some 55),.extract (.tmp 51) 1,none⟩,⟨(some 3),.mv (.tmp 55),none⟩])
 (.seq (.seq (.region [⟨(some 56),.mv (.tmp 3),none⟩,⟨(some 57),.bin .neq (.tmp 56) (.const (.int .i64 4)),none⟩,⟨(some 58),.mv (.tmp 57),none⟩,⟨(some 59),.mv (.tmp 1),some (58,false)⟩,⟨(some 60),.call 25 [(.tmp 59),(.const (.int .i64 1)),(.const (.int .u64 65536))],some (58,false)⟩,⟨(some 61),.bin .neq (.tmp 60) (.const (.int .i64 1)),some (58,false)⟩,⟨(some 62),.pick (.tmp 58) (.const (.bool true)) (.tmp 61),none⟩])
 (.cond (.tmp 62) (.seq (.region [⟨(some 0),.mv (.const (.bool false)),none⟩])
 .ret) .skip))
 (.seq (.region [⟨(some 64),.mv (.tmp 1),none⟩,⟨(some 65),.call 24 [(.tmp 64),(.const (.int .i64 1)),(.const (.int .u64 1)),(.const (.bool false))],none⟩,⟨(some 63),.mv (.tmp 65),none⟩,⟨(some 66),.extract (.tmp 63) 0,none⟩,⟨(some 67),.extract (.tmp 63) 1,none⟩,⟨(some 5),.mv (.tmp 66),none⟩,⟨(some 6),.mv (.tmp 67),none⟩])
 (.seq (.region [⟨(some 69),.mv (.tmp 1),none⟩,⟨(some 70),.call 24 [(.tmp 69),(.const (.int .i64 0)),(.const (.int .u64 1)),(.const (.bool false))],none⟩,⟨(some 68),.mv (.tmp 70),none⟩,⟨(some 71),.extract (.tmp 68) 0,none⟩,⟨(some 72),.extract (.tmp 68) 1,none⟩,⟨(some 7),.mv (.tmp 71),none⟩,⟨(some 8),.mv (.tmp 72),none⟩])
 (.seq (.seq (.region [⟨(some 73),.mv (.tmp 5),none⟩,⟨(some 74),.bin .neq (.tmp 73) (.const (.int .u64 65568)),none⟩,⟨(some 75),.mv (.tmp 74),none⟩,⟨(some 76),.mv (.tmp 7),some (75,false)⟩,⟨(some 77),.bin .neq (.tmp 76) (.const (.int .u64 65536)),some (75,false)⟩,⟨(some 78),.pick (.tmp 75) (.const (.bool true)) (.tmp 77),none⟩,⟨(some 79),.mv (.tmp 78),none⟩,⟨(some 80),.mv (.tmp 1),some (79,false)⟩,⟨(some 81),.call 25 [(.tmp 80),(.const (.int .i64 1)),(.const (.int .u64 65552))],some (79,false)⟩,⟨(some 82),.bin .neq (.tmp 81) (.const (.int .i64 0)),some (79,false)⟩,⟨(some 83),.pick (.tmp 79) (.const (.bool true)) (.tmp 82),none⟩,⟨(some 84),.mv (.tmp 83),none⟩,⟨(some 85),.mv (.tmp 1),some (84,false)⟩,⟨(some 86),.call 25 [(.tmp 85),(.const (.int .i64 1)),(.const (.int .u64 65568))],some (84,false)⟩,⟨(some 87),.bin .neq (.tmp 86) (.const (.int .i64 0)),some (84,false)⟩,⟨(some 88),.pick (.tmp 84) (.const (.bool true)) (.tmp 87),none⟩,⟨(some 89),.mv (.tmp 88),none⟩,⟨(some 90),.mv (.tmp 1),some (89,false)⟩,⟨(some 91),.call 25 [(.tmp 90),(.const (.int .i64 0)),(.const (.int .u64 65536))],some (89,false)⟩,⟨(some 92),.bin .neq (.tmp 91) (.const (.int .i64 0)),some (89,false)⟩,⟨(some 93),.pick (.tmp 89) (.const (.bool true)) (.tmp 92),none⟩])
 (.cond (.tmp 93) (.seq (.region [⟨(some 0),.mv (.const (.bool false)),none⟩])
 .ret) .skip))
 (.seq (.seq (.region [⟨(some 94),.mv (.tmp 1),none⟩,⟨(some 95),.call 28 [(.tmp 94)],none⟩,⟨(some 96),.build [(.int .u64 0),(.int .u64 0),(.int .i64 0),(.int .i64 0)] [(0,1,(.const (.int .u64 8192))),(1,1,(.const (.int .u64 0))),(2,1,(.const (.int .i64 0))),(3,1,(.const (.int .i64 2)))],none⟩,⟨(some 97),.eqs true [true,true,true,true] (.tmp 95) (.tmp 96),none⟩])
 (.cond (.tmp 97) (.seq (.region [⟨(some 0),.mv (.const (.bool false)),none⟩])
 .ret) .skip))
 (.seq (.region [⟨(some 99),.mv (.tmp 1),none⟩,⟨(some 100),.call 24 [(.tmp 99),(.const (.int .i64 0)),(.const (.int .u64 1)),(.const (.bool false))],none⟩,⟨(some 98),.mv (.tmp 100),none⟩,⟨(some 101),.extract (.tmp 98) 0,none⟩,⟨(some 102),.extract (.tmp 98) 1,none⟩,⟨(some 5),.mv (.tmp 101),none⟩])
 (.seq (.region [⟨(some 103),.mv (.tmp 1),none⟩,⟨(some 104),.mv (.tmp 5),none⟩,⟨(some 105),.call 25 [(.tmp 103),(.const (.int .i64 0)),(.tmp 104)],none⟩])
 (.seq (.region [⟨(some 107),.mv (.tmp 1),none⟩,⟨(some 108),.call 29 [(.tmp 107),(.const (.int .i64 1)),(.const (.int .u64 8192)),(.const (.int .u64 1)),(.const (.bool true))],none⟩,⟨(some 106),.mv (.tmp 108),none⟩,⟨(some 109),.extract (.tmp 106) 0,none⟩,⟨(some 110),.extract (.tmp 106) 1,none⟩,⟨(some 7),.mv (.tmp 109),none⟩,⟨(some 3),.mv (.tmp 110),none⟩])
 (.seq (.region [⟨(some 111),.mv (.tmp 5),none⟩,⟨(some 112),.bin .eql (.tmp 111) (.const (.int .u64 65536)),none⟩,⟨(some 113),.mv (.tmp 112),none⟩,⟨(some 114),.mv (.tmp 7),some (113,true)⟩,⟨(some 115),.bin .eql (.tmp 114) (.const (.int .u64 65536)),some (113,true)⟩,⟨(some 116),.pick (.tmp 113) (.tmp 115) (.const (.bool false)),none⟩,⟨(some 117),.mv (.tmp 116),none⟩,⟨(some 118),.mv (.tmp 3),some (117,true)⟩,⟨(some 119),.bin .eql (.tmp 118) (.const (.int .i64 0)),some (117,true)⟩,⟨(some 120),.pick (.tmp 117) (.tmp 119) (.const (.bool false)),none⟩,⟨(some 0),.mv (.tmp 120),none⟩])
 .ret)))))))))))))))))))⟩
theorem k4 : compFn Tryz.prog Tryz.f4 = some c4 := by kernel_rfl
-- croft/croftlaw13.awake
def c22 : AFunc := ⟨[.tmp 0],(.seq (.region [⟨(some 0),.mv (.const (.bool false)),none⟩])
 (.seq (.region [⟨(some 6),.call 23 [],none⟩,⟨(some 1),.mv (.tmp 6),none⟩])
 (.seq (.seq (.region [⟨(some 7),.mv (.tmp 1),none⟩,⟨(some 8),.eq1 false .ptr (.tmp 7) (.const (.ptr none)),none⟩])
 (.cond (.tmp 8) (.seq (.region [⟨(some 0),.mv (.const (.bool false)),none⟩])
 .ret) .skip))
 (.seq (.region [⟨(some 10),.mv (.tmp 1),none⟩,⟨(some 11),.call 24 [(.tmp 10),(.const (.int .i64 0)),(.const (.int .u64 1)),(.const (.bool false))],none⟩,⟨(some 9),.mv (.tmp 11),none⟩,⟨(some 12),.extract (.tmp 9) 0,none⟩,⟨(some 13),.extract (.tmp 9) 1,none⟩,⟨(some 2),.mv (.tmp 12),none⟩,⟨(some 3),.mv (.tmp 13),none⟩])
 (.seq (.region [⟨(some 15),.mv (.tmp 1),none⟩,⟨(some 16),.call 24 [(.tmp 15),(.const (.int .i64 1)),(.const (.int .u64 1)),(.const (.bool false))],none⟩,⟨(some 14),.mv (.tmp 16),none⟩,⟨(some 17),.extract (.tmp 14) 0,none⟩,⟨(some 18),.extract (.tmp 14) 1,none⟩,⟨(some 4),.mv (.tmp 17),none⟩,⟨(some 5),.mv (.tmp 18),none⟩])
 (.seq (.seq (.region [⟨(some 19),.mv (.tmp 2),none⟩,⟨(some 20),.bin .neq (.tmp 19) (.const (.int .u64 65536)),none⟩,⟨(some 21),.mv (.tmp 20),none⟩,⟨(some 22),.mv (.tmp 3),some (21,false)⟩,⟨(some 23),.bin .neq (.tmp 22) (.const (.int .i64 0)),some (21,false)⟩,⟨(some 24),.pick (.tmp 21) (.const (.bool true)) (.tmp 23),none⟩,⟨(some 25),.mv (.tmp 24),none⟩,⟨(some 26),.mv (.tmp 4),some (25,false)⟩,⟨(some 27),.bin .neq (.tmp 26) (.const (.int .u64 65552)),some (25,false)⟩,⟨(some 28),.pick (.tmp 25) (.const (.bool true)) (.tmp 27),none⟩,⟨(some 29),.mv (.tmp 28),none⟩,⟨(some 30),.mv (.tmp 5),some (29,false)⟩,⟨(some 31),.bin .neq (.tmp 30) (.const (.int .i64 0)),some (29,false)⟩,⟨(some 32),.pick (.tmp 29) (.const (.bool true)) (.tmp 31),none⟩,⟨(some 33),.mv (.tmp 32),none⟩,⟨(some 34),.mv (.tmp 1),some (33,false)⟩,⟨(some 35),.mv (.tmp 2),some (33,false)⟩,⟨(some 36),.call 25 [(.tmp 34),(.const (.int .i64 0)),(.tmp 35)],some (33,false)⟩,⟨(some 37),.bin .neq (.tmp 36) (.const (.int .i64 0)),some (33,false)⟩,⟨(some 38),.pick (.tmp 33) (.const (.bool true)) (.tmp 37),none⟩,⟨(some 39),.mv (.tmp 38),none⟩,⟨(some 40),.mv (.tmp 1),some (39,false)⟩,⟨(some 41),.call 119 [(.tmp 40)],some (39,false)⟩,⟨(some 42),.lenS (.tmp 41),some (39,false)⟩,⟨(some 43),.bin .neq (.tmp 42) (.const (.int .i64 1)),some (39,false)⟩,⟨(some 44),.pick (.tmp 39) (.const (.bool true)) (.tmp 43),none⟩])
 (.cond (.tmp 44) (.seq (.region [⟨(some 0),.mv (.const (.bool false)),none⟩])
 .ret) .skip))
 (.seq (.region [⟨(some 46),.mv (.tmp 1),none⟩,⟨(some 47),.mv (.tmp 2),none⟩,⟨(some 48),.call 120 [(.tmp 46),(.tmp 47)],none⟩,⟨(some 45),.mv (.tmp 48),none⟩,⟨(some 49),.extract (.tmp 45) 0,none⟩,⟨(some 50),.extract (.tmp 45) 1,none⟩,⟨(some 3),.mv (.tmp 50),none⟩])
 (.seq (.region [⟨(some 52),.mv (.tmp 1),none⟩,⟨(some 53),.call 24 [(.tmp 52),(.const (.int .i64 1)),(.const (.int .u64 1)),(.const (.bool false))],none⟩,⟨(some 51),.mv (.tmp 53),none⟩,⟨(some 54),.extract (.tmp 51) 0,none⟩,⟨(some 55),.extract (.tmp 51) 1,none⟩,⟨(some 2),.mv (.tmp 54),none⟩,⟨(some 5),.mv (.tmp 55),none⟩])
 (.seq (.region [⟨(some 56),.mv (.tmp 3),none⟩,⟨(some 57),.bin .eql (.tmp 56) (.const (.int .i64 1)),none⟩,⟨(some 58),.mv (.tmp 57),none⟩,⟨(some 59),.mv (.tmp 5),some (58,true)⟩,⟨(some 60),.bin .eql (.tmp 59) (.const (.int .i64 0)),some (58,true)⟩,⟨(some 61),.pick (.tmp 58) (.tmp 60) (.const (.bool false)),none⟩,⟨(some 62),.mv (.tmp 61),none⟩,⟨(some 63),.mv (.tmp 2),some (62,true)⟩,⟨(some 64),.bin .eql (.tmp 63) (.const (.int .u64 65568)),some (62,true)⟩,⟨(some 65),.pick (.tmp 62) (.tmp 64) (.const (.bool false)),none⟩,⟨(some 0),.mv (.tmp 65),none⟩])
 .ret)))))))))⟩
theorem k22 : compFn Tryz.prog Tryz.f22 = some c22 := by kernel_rfl
-- croft/croftlaw13.shared
def c23 : AFunc := ⟨[.tmp 0],(.seq (.region [⟨(some 0),.mv (.const (.ptr none)),none⟩])
 (.seq (.region [⟨(some 4),.build [(.int .u64 0),(.int .i64 0),(.int .i64 0)] [(0,1,(.const (.int .u64 65536))),(1,1,(.const (.int .i64 2))),(2,1,(.const (.int .i64 1)))],none⟩,⟨(some 5),.call 121 [(.tmp 4),(.const (.int .i64 2)),(.const (.int .i64 1))],none⟩,⟨(some 3),.mv (.tmp 5),none⟩,⟨(some 6),.extract (.tmp 3) 0,none⟩,⟨(some 7),.extract (.tmp 3) 1,none⟩,⟨(some 1),.mv (.tmp 6),none⟩,⟨(some 2),.mv (.tmp 7),none⟩])
 (.seq (.seq (.region [⟨(some 8),.mv (.tmp 2),none⟩,⟨(some 9),.bin .neq (.tmp 8) (.const (.int .i64 0)),none⟩])
 (.cond (.tmp 9) (.seq (.region [⟨(some 0),.mv (.const (.ptr none)),none⟩])
 .ret) .skip))
 (.seq (.region [⟨(some 10),.mv (.tmp 1),none⟩,⟨(some 0),.mv (.tmp 10),none⟩])
 .ret))))⟩
theorem k23 : compFn Tryz.prog Tryz.f23 = some c23 := by kernel_rfl
-- (*croft/cache.Shared).Malloc
def c24 : AFunc := ⟨[.tmp 8,.tmp 9],(.seq (.region [⟨(some 8),.mv (.const (.int .u64 0)),none⟩,⟨(some 9),.mv (.const (.int .i64 0)),none⟩])
 (.seq (.region [⟨(some 10),.mv (.tmp 0),none⟩,⟨(some 11),.mv (.tmp 1),none⟩,⟨(some 12),.mv (.tmp 2),none⟩,⟨(some 13),.mv (.tmp 3),none⟩,⟨(some 14),.call 29 [(.tmp 10),(.tmp 11),(.const (.int .u64 1)),(.tmp 12),(.tmp 13)],none⟩,⟨(some 15),.extract (.tmp 14) 0,none⟩,⟨(some 16),.extract (.tmp 14) 1,none⟩,⟨(some 8),.mv (.tmp 15),none⟩,⟨(some 9),.mv (.tmp 16),none⟩])
 .ret))⟩
theorem k24 : compFn Tryz.prog Tryz.f24 = some c24 := by kernel_rfl
-- (*croft/cache.Shared).Free
def c25 : AFunc := ⟨[.tmp 6],(.seq (.region [⟨(some 6),.mv (.const (.int .i64 0)),none⟩])
 (.seq (.region [⟨(some 7),.mv (.tmp 0),none⟩,⟨(some 8),.nilCheck (.tmp 7),none⟩,⟨(some 9),.faddr 0 (.tmp 8),none⟩,⟨(some 10),.call 111 [(.tmp 9)],none⟩])
 (.seq (.region [⟨(some 11),.mv (.tmp 0),none⟩,⟨(some 12),.nilCheck (.tmp 11),none⟩,⟨(some 13),.faddr 0 (.tmp 12),none⟩,⟨none,.defer 112 [(.tmp 13)],none⟩])
 (.seq (.region [⟨(some 14),.mv (.tmp 0),none⟩,⟨(some 15),.mv (.tmp 1),none⟩,⟨(some 16),.mv (.tmp 2),none⟩,⟨(some 17),.call 122 [(.tmp 14),(.tmp 15),(.tmp 16)],none⟩,⟨(some 6),.mv (.tmp 17),none⟩])
 .ret))))⟩
theorem k25 : compFn Tryz.prog Tryz.f25 = some c25 := by kernel_rfl
-- (*croft/cache.Shared).Kept
def c26 : AFunc := ⟨[.tmp 4],(.seq (.region [⟨(some 4),.mv (.const (.slice none 0 0)),none⟩])
 (.seq (.region [⟨(some 8),.mv (.tmp 0),none⟩,⟨(some 9),.nilCheck (.tmp 8),none⟩,⟨(some 10),.faddr 0 (.tmp 9),none⟩,⟨(some 11),.call 111 [(.tmp 10)],none⟩])
 (.seq (.region [⟨(some 12),.mv (.tmp 0),none⟩,⟨(some 13),.nilCheck (.tmp 12),none⟩,⟨(some 14),.faddr 0 (.tmp 13),none⟩,⟨none,.defer 112 [(.tmp 14)],none⟩])
 (.seq (.seq (.region [⟨(some 15),.mv (.tmp 0),none⟩,⟨(some 16),.mv (.tmp 1),none⟩,⟨(some 17),.call 123 [(.tmp 15),(.tmp 16)],none⟩,⟨(some 18),.not (.tmp 17),none⟩])
 (.cond (.tmp 18) (.seq (.region [⟨(some 4),.mv (.const (.slice none 0 0)),none⟩])
 .ret) .skip))
 (.seq (.region [⟨(some 5),.mv (.const (.slice none 0 0)),none⟩])
 (.seq (.seq (.region [⟨(some 19),.mv (.tmp 0),none⟩,⟨(some 20),.nilCheck (.tmp 19),none⟩,⟨(some 21),.faddr 4 (.tmp 20),none⟩,⟨(some 22),.load false 1 (.tmp 21),none⟩,⟨(some 23),.mv (.tmp 1),none⟩,⟨(some 24),.iaddrS 8 (.tmp 22) (.tmp 23),none⟩,⟨(some 25),.load true 8 (.tmp 24),none⟩,⟨(some 26),.mv (.const (.int .i64 0)),none⟩])
 (.block 0 (.loop (.seq (.region [⟨(some 27),.bin .lss (.tmp 26) (.const (.int .i64 8)),none⟩])
 (.seq (.cond (.tmp 27) .skip (.exit 0))
 (.seq (.block 1 (.seq (.region [⟨(some 28),.indexA 8 1 false (.tmp 25) (.tmp 26),none⟩,⟨(some 7),.mv (.tmp 28),none⟩])
 (.region [⟨(some 29),.mv (.tmp 5),none⟩,⟨(some 30),.mv (.tmp 7),none⟩,⟨(some 31),.lenS (.tmp 30),none⟩,⟨(some 32),.mkSlice 1 1 [(.int .i64 0)] [(0,1,(.tmp 31))],none⟩,⟨(some 33),.append 1 8 (.tmp 29) (.tmp 32),none⟩,⟨(some 5),.mv (.tmp 33),none⟩])))
 (.region [⟨(some 34),.bin .add (.tmp 26) (.const (.int .i64 1)),none⟩,⟨(some 26),.mv (.tmp 34),none⟩])))))))
 (.seq (.region [⟨(some 35),.mv (.tmp 5),none⟩,⟨(some 4),.mv (.tmp 35),none⟩])
 .ret)))))))⟩
theorem k26 : compFn Tryz.prog Tryz.f26 = some c26 := by kernel_rfl
-- (*croft/cache.Shared).Read
def c27 : AFunc := ⟨[.tmp 6,.tmp 7],(.seq (.region [⟨(some 6),.mv (.const (.slice none 0 0)),none⟩,⟨(some 7),.mv (.const (.int .i64 0)),none⟩])
 (.seq (.region [⟨(some 8),.mv (.tmp 0),none⟩,⟨(some 9),.nilCheck (.tmp 8),none⟩,⟨(some 10),.faddr 0 (.tmp 9),none⟩,⟨(some 11),.call 111 [(.tmp 10)],none⟩])
 (.seq (.region [⟨(some 12),.mv (.tmp 0),none⟩,⟨(some 13),.nilCheck (.tmp 12),none⟩,⟨(some 14),.faddr 0 (.tmp 13),none⟩,⟨none,.defer 112 [(.tmp 14)],none⟩])
 (.seq (.seq (.region [⟨(some 15),.mv (.tmp 2),none⟩,⟨(some 16),.bin .gtr (.tmp 15) (.const (.int .u64 0)),none⟩,⟨(some 17),.mv (.tmp 16),none⟩,⟨(some 18),.mv (.tmp 0),some (17,true)⟩,⟨(some 19),.mv (.tmp 1),some (17,true)⟩,⟨(some 20),.call 124 [(.tmp 18),(.tmp 19)],some (17,true)⟩,⟨(some 21),.pick (.tmp 17) (.tmp 20) (.const (.bool false)),none⟩])
 (.cond (.tmp 21) (.seq (.region [⟨(some 6),.mv (.const (.slice none 0 0)),none⟩,⟨(some 7),.mv (.const (.int .i64 4)),none⟩])
 .ret) .skip))
 (.seq (.region [⟨(some 22),.mv (.tmp 0),none⟩,⟨(some 23),.nilCheck (.tmp 22),none⟩,⟨(some 24),.faddr 2 (.tmp 23),none⟩,⟨(some 25),.load false 1 (.tmp 24),none⟩,⟨(some 26),.mv (.tmp 1),none⟩,⟨(some 27),.mv (.tmp 2),none⟩,⟨(some 28),.call 44 [(.tmp 25),(.tmp 26),(.tmp 27)],none⟩,⟨(some 29),.extract (.tmp 28) 0,none⟩,⟨(some 30),.extract (.tmp 28) 1,none⟩,⟨(some 6),.mv (.tmp 29),none⟩,⟨(some 7),.mv (.tmp 30),none⟩])
 .ret)))))⟩
theorem k27 : compFn Tryz.prog Tryz.f27 = some c27 := by kernel_rfl
-- (*croft/cache.Shared).Stats
def c28 : AFunc := ⟨[.cell 2 true 4],(.seq (.region [⟨(some 2),.alloc [(.int .u64 0),(.int .u64 0),(.int .i64 0),(.int .i64 0)],none⟩])
 (.seq (.region [⟨(some 3),.mv (.tmp 0),none⟩,⟨(some 4),.nilCheck (.tmp 3),none⟩,⟨(some 5),.faddr 0 (.tmp 4),none⟩,⟨(some 6),.call 111 [(.tmp 5)],none⟩])
 (.seq (.region [⟨(some 7),.mv (.tmp 0),none⟩,⟨(some 8),.nilCheck (.tmp 7),none⟩,⟨(some 9),.faddr 0 (.tmp 8),none⟩,⟨none,.defer 112 [(.tmp 9)],none⟩])
 (.seq (.region [⟨(some 10),.mv (.tmp 0),none⟩,⟨(some 11),.call 125 [(.tmp 10)],none⟩])
 (.seq (.region [⟨(some 12),.mv (.tmp 0),none⟩,⟨(some 13),.nilCheck (.tmp 12),none⟩,⟨(some 14),.faddr 2 (.tmp 13),none⟩,⟨(some 15),.load false 1 (.tmp 14),none⟩,⟨(some 16),.call 21 [(.tmp 15)],none⟩,⟨none,.store 4 (.tmp 2) (.tmp 16),none⟩])
 .ret)))))⟩
theorem k28 : compFn Tryz.prog Tryz.f28 = some c28 := by kernel_rfl
-- (*croft/cache.Shared).AlignedAlloc
def c29 : AFunc := ⟨[.tmp 10,.tmp 11],(.seq (.region [⟨(some 10),.mv (.const (.int .u64 0)),none⟩,⟨(some 11),.mv (.const (.int .i64 0)),none⟩])
 (.seq (.region [⟨(some 15),.mv (.tmp 0),none⟩,⟨(some 16),.nilCheck (.tmp 15),none⟩,⟨(some 17),.faddr 0 (.tmp 16),none⟩,⟨(some 18),.call 111 [(.tmp 17)],none⟩])
 (.seq (.region [⟨(some 19),.mv (.tmp 0),none⟩,⟨(some 20),.nilCheck (.tmp 19),none⟩,⟨(some 21),.faddr 0 (.tmp 20),none⟩,⟨none,.defer 112 [(.tmp 21)],none⟩])
 (.seq (.region [⟨(some 23),.mv (.tmp 0),none⟩,⟨(some 24),.mv (.tmp 1),none⟩,⟨(some 25),.mv (.tmp 2),none⟩,⟨(some 26),.mv (.tmp 3),none⟩,⟨(some 27),.mv (.tmp 4),none⟩,⟨(some 28),.call 126 [(.tmp 23),(.tmp 24),(.tmp 25),(.tmp 26),(.tmp 27)],none⟩,⟨(some 22),.mv (.tmp 28),none⟩,⟨(some 29),.extract (.tmp 22) 0,none⟩,⟨(some 30),.extract (.tmp 22) 1,none⟩,⟨(some 31),.extract (.tmp 22) 2,none⟩,⟨(some 12),.mv (.tmp 29),none⟩,⟨(some 13),.mv (.tmp 30),none⟩,⟨(some 14),.mv (.tmp 31),none⟩])
 (.seq (.region [⟨(some 32),.mv (.tmp 12),none⟩,⟨(some 33),.mv (.tmp 14),none⟩,⟨(some 10),.mv (.tmp 32),none⟩,⟨(some 11),.mv (.tmp 33),none⟩])
 .ret)))))⟩
theorem k29 : compFn Tryz.prog Tryz.f29 = some c29 := by kernel_rfl
-- (*croft/malloc.Heap).Live
def c37 : AFunc := ⟨[.tmp 2],(.seq (.region [⟨(some 2),.mv (.const (.slice none 0 0)),none⟩])
 (.seq (.region [⟨(some 3),.mv (.tmp 0),none⟩,⟨(some 4),.nilCheck (.tmp 3),none⟩,⟨(some 5),.faddr 0 (.tmp 4),none⟩,⟨(some 6),.call 111 [(.tmp 5)],none⟩])
 (.seq (.region [⟨(some 7),.mv (.tmp 0),none⟩,⟨(some 8),.nilCheck (.tmp 7),none⟩,⟨(some 9),.faddr 0 (.tmp 8),none⟩,⟨none,.defer 112 [(.tmp 9)],none⟩])
 (.seq (.region [⟨(some 10),.mv (.tmp 0),none⟩,⟨(some 11),.call 115 [(.tmp 10)],none⟩,⟨(some 2),.mv (.tmp 11),none⟩])
 .ret))))⟩
theorem k37 : compFn Tryz.prog Tryz.f37 = some c37 := by kernel_rfl
-- (*croft/malloc.Heap).Read
def c44 : AFunc := ⟨[.tmp 6,.tmp 7],(.seq (.region [⟨(some 6),.mv (.const (.slice none 0 0)),none⟩,⟨(some 7),.mv (.const (.int .i64 0)),none⟩])
 (.seq (.region [⟨(some 8),.mv (.tmp 0),none⟩,⟨(some 9),.nilCheck (.tmp 8),none⟩,⟨(some 10),.faddr 0 (.tmp 9),none⟩,⟨(some 11),.call 111 [(.tmp 10)],none⟩])
 (.seq (.region [⟨(some 12),.mv (.tmp 0),none⟩,⟨(some 13),.nilCheck (.tmp 12),none⟩,⟨(some 14),.faddr 0 (.tmp 13),none⟩,⟨none,.defer 112 [(.tmp 14)],none⟩])
 (.seq (.seq (.region [⟨(some 15),.mv (.tmp 2),none⟩,⟨(some 16),.bin .eql (.tmp 15) (.const (.int .u64 0)),none⟩])
 (.cond (.tmp 16) (.seq (.region [⟨(some 6),.mv (.const (.slice none 0 0)),none⟩,⟨(some 7),.mv (.const (.int .i64 0)),none⟩])
 .ret) .skip))
 (.seq (.seq (.region [⟨(some 17),.mv (.tmp 0),none⟩,⟨(some 18),.mv (.tmp 1),none⟩,⟨(some 19),.mv (.tmp 2),none⟩,⟨(some 20),.call 148 [(.tmp 17),(.tmp 18),(.tmp 19)],none⟩,⟨(some 21),.not (.tmp 20),none⟩])
 (.cond (.tmp 21) (.seq (.region [⟨(some 6),.mv (.const (.slice none 0 0)),none⟩,⟨(some 7),.mv (.const (.int .i64 4)),none⟩])
 .ret) .skip))
 (.seq (.region [⟨(some 22),.mv (.tmp 0),none⟩,⟨(some 23),.nilCheck (.tmp 22),none⟩,⟨(some 24),.faddr 5 (.tmp 23),none⟩,⟨(some 25),.load false 1 (.tmp 24),none⟩,⟨(some 26),.nilCheck (.tmp 25),none⟩,⟨(some 27),.faddr 0 (.tmp 26),none⟩,⟨(some 28),.call 113 [(.tmp 27)],none⟩,⟨(some 29),.mv (.tmp 1),none⟩,⟨(some 30),.mv (.tmp 2),none⟩,⟨(some 31),.call 149 [(.tmp 28),(.tmp 29),(.tmp 30)],none⟩,⟨(some 32),.extract (.tmp 31) 0,none⟩,⟨(some 33),.extract (.tmp 31) 1,none⟩,⟨(some 6),.mv (.tmp 32),none⟩,⟨(some 7),.mv (.tmp 33),none⟩])
 .ret))))))⟩
theorem k44 : compFn Tryz.prog Tryz.f44 = some c44 := by kernel_rfl
-- (*croft/cache.Shared).Live
def c119 : AFunc := ⟨[.tmp 2],(.seq (.region [⟨(some 2),.mv (.const (.slice none 0 0)),none⟩])
 (.seq (.region [⟨(some 8),.mv (.tmp 0),none⟩,⟨(some 9),.nilCheck (.tmp 8),none⟩,⟨(some 10),.faddr 0 (.tmp 9),none⟩,⟨(some 11),.call 111 [(.tmp 10)],none⟩])
 (.seq (.region [⟨(some 12),.mv (.tmp 0),none⟩,⟨(some 13),.nilCheck (.tmp 12),none⟩,⟨(some 14),.faddr 0 (.tmp 13),none⟩,⟨none,.defer 112 [(.tmp 14)],none⟩])
 (.seq (.region [⟨(some 3),.mv (.const (.slice none 0 0)),none⟩])
 (.seq (.seq (.region [⟨(some 15),.mv (.tmp 0),none⟩,⟨(some 16),.nilCheck (.tmp 15),none⟩,⟨(some 17),.faddr 2 (.tmp 16),none⟩,⟨(some 18),.load false 1 (.tmp 17),none⟩,⟨(some 19),.call 37 [(.tmp 18)],none⟩,⟨(some 20),.lenS (.tmp 19),none⟩,⟨(some 21),.mv (.const (.int .i64 0)),none⟩])
 (.block 0 (.loop (.seq (.region [⟨(some 22),.bin .lss (.tmp 21) (.tmp 20),none⟩])
 (.seq (.cond (.tmp 22) .skip (.exit 0))
 (.seq (.block 1 (.seq (.region [⟨(some 23),.iaddrS 2 (.tmp 19) (.tmp 21),none⟩,⟨(some 24),.load true 2 (.tmp 23),none⟩,⟨(some 5),.alloc [(.int .u64 0),(.int .u64 0)],none⟩,⟨none,.store 2 (.tmp 5) (.tmp 24),none⟩])
 (.seq (.draw [⟨⟨(some 26),.mv (.tmp 0),none⟩,0,0⟩,⟨⟨(some 27),.nilCheck (.tmp 26),none⟩,0,0⟩,⟨⟨(some 28),.faddr 5 (.tmp 27),none⟩,0,0⟩,⟨⟨(some 29),.load false 1 (.tmp 28),none⟩,0,0⟩,⟨⟨(some 30),.faddr 0 (.tmp 5),none⟩,0,0⟩,⟨⟨(some 31),.load false 1 (.tmp 30),none⟩,0,0⟩,⟨⟨(some 32),.lookup .int (.int .i64 0) true (.tmp 29) (.tmp 31),none⟩,0,0⟩,⟨⟨(some 25),.mv (.tmp 32),none⟩,0,0⟩,⟨⟨(some 33),.extract (.tmp 25) 0,none⟩,0,0⟩,⟨⟨(some 34),.extract (.tmp 25) 1,none⟩,0,0⟩,⟨⟨(some 6),.mv (.tmp 33),none⟩,0,0⟩,⟨⟨(some 7),.mv (.tmp 34),none⟩,0,0⟩])
 (.seq (.region [⟨(some 35),.mv (.tmp 7),none⟩,⟨(some 36),.not (.tmp 35),none⟩])
 (.cond (.tmp 36) (.region [⟨(some 37),.mv (.tmp 3),none⟩,⟨(some 38),.load true 2 (.tmp 5),none⟩,⟨(some 39),.mkSlice 1 2 [(.int .u64 0),(.int .u64 0)] [(0,2,(.tmp 38))],none⟩,⟨(some 40),.append 2 16 (.tmp 37) (.tmp 39),none⟩,⟨(some 3),.mv (.tmp 40),none⟩]) .skip)))))
 (.region [⟨(some 41),.bin .add (.tmp 21) (.const (.int .i64 1)),none⟩,⟨(some 21),.mv (.tmp 41),none⟩])))))))
 (.seq (.region [⟨(some 42),.mv (.tmp 3),none⟩,⟨(some 2),.mv (.tmp 42),none⟩])
 .ret))))))⟩
theorem k119 : compFn Tryz.prog Tryz.f119 = some c119 := by kernel_rfl
-- (*croft/cache.Shared).UsableSize
def c120 : AFunc := ⟨[.tmp 4,.tmp 5],(.seq (.region [⟨(some 4),.mv (.const (.int .u64 0)),none⟩,⟨(some 5),.mv (.const (.int .i64 0)),none⟩])
 (.seq (.region [⟨(some 6),.mv (.tmp 0),none⟩,⟨(some 7),.nilCheck (.tmp 6),none⟩,⟨(some 8),.faddr 0 (.tmp 7),none⟩,⟨(some 9),.call 111 [(.tmp 8)],none⟩])
 (.seq (.region [⟨(some 10),.mv (.tmp 0),none⟩,⟨(some 11),.nilCheck (.tmp 10),none⟩,⟨(some 12),.faddr 0 (.tmp 11),none⟩,⟨none,.defer 112 [(.tmp 12)],none⟩])
 (.seq (.region [⟨(some 13),.mv (.tmp 0),none⟩,⟨(some 14),.mv (.tmp 1),none⟩,⟨(some 15),.call 207 [(.tmp 13),(.tmp 14)],none⟩,⟨(some 16),.extract (.tmp 15) 0,none⟩,⟨(some 17),.extract (.tmp 15) 1,none⟩,⟨(some 4),.mv (.tmp 16),none⟩,⟨(some 5),.mv (.tmp 17),none⟩])
 .ret))))⟩
theorem k120 : compFn Tryz.prog Tryz.f120 = some c120 := by kernel_rfl
-- croft/cache.New
def c121 : AFunc := ⟨[.tmp 6,.tmp 7],(.seq (.region [⟨(some 3),.box 3 (.tmp 0),none⟩,⟨(some 6),.mv (.const (.ptr none)),none⟩,⟨(some 7),.mv (.const (.int .i64 0)),none⟩])
 (.seq (.seq (.region [⟨(some 10),.mv (.tmp 1),none⟩,⟨(some 11),.bin .lss (.tmp 10) (.const (.int .i64 1)),none⟩,⟨(some 12),.mv (.tmp 11),none⟩,⟨(some 13),.mv (.tmp 1),some (12,false)⟩,⟨(some 14),.bin .gtr (.tmp 13) (.const (.int .i64 16)),some (12,false)⟩,⟨(some 15),.pick (.tmp 12) (.const (.bool true)) (.tmp 14),none⟩,⟨(some 16),.mv (.tmp 15),none⟩,⟨(some 17),.mv (.tmp 2),some (16,false)⟩,⟨(some 18),.bin .lss (.tmp 17) (.const (.int .i64 0)),some (16,false)⟩,⟨(some 19),.pick (.tmp 16) (.const (.bool true)) (.tmp 18),none⟩,⟨(some 20),.mv (.tmp 19),none⟩,⟨(some 21),.mv (.tmp 2),some (20,false)⟩,⟨(some 22),.bin .gtr (.tmp 21) (.const (.int .i64 64)),some (20,false)⟩,⟨(some 23),.pick (.tmp 20) (.const (.bool true)) (.tmp 22),none⟩])
 (.cond (.tmp 23) (.seq (.region [⟨(some 6),.mv (.const (.ptr none)),none⟩,⟨(some 7),.mv (.const (.int .i64 1)),none⟩])
 .ret) .skip))
 (.seq (.region [⟨(some 25),.load true 3 (.tmp 3),none⟩,⟨(some 26),.call 12 [(.tmp 25)],none⟩,⟨(some 24),.mv (.tmp 26),none⟩,⟨(some 27),.extract (.tmp 24) 0,none⟩,⟨(some 28),.extract (.tmp 24) 1,none⟩,⟨(some 8),.mv (.tmp 27),none⟩,⟨(some 9),.mv (.tmp 28),none⟩])
 (.seq (.seq (.region [⟨(some 29),.mv (.tmp 9),none⟩,⟨(some 30),.bin .neq (.tmp 29) (.const (.int .i64 0)),none⟩])
 (.cond (.tmp 30) (.seq (.region [⟨(some 31),.mv (.tmp 9),none⟩,⟨(some 6),.mv (.const (.ptr none)),none⟩,⟨(some 7),.mv (.tmp 31),none⟩])
 .ret) .skip))
 (.seq (.region [⟨(some 32),.mv (.tmp 8),none⟩,⟨(some 33),.mv (.tmp 2),none⟩,⟨(some 34),.mv (.tmp 1),none⟩,⟨(some 35),.makeSlice 8 192 [(.slice none 0 0),(.slice none 0 0),(.slice none 0 0),(.slice none 0 0),(.slice none 0 0),(.slice none 0 0),(.slice none 0 0),(.slice none 0 0)] (.tmp 34) (.tmp 34),none⟩,⟨(some 36),.makeMap,none⟩,⟨(some 37),.build [(.int .i32 0),(.int .u32 0),(.ptr none),(.int .i64 0),(.slice none 0 0),(.map none)] [(2,1,(.tmp 32)),(3,1,(.tmp 33)),(4,1,(.tmp 35)),(5,1,(.tmp 36))],none⟩,⟨(some 38),.box 6 (.tmp 37),none⟩,⟨(some 6),.mv (.tmp 38),none⟩,⟨(some 7),.mv (.const (.int .i64 0)),none⟩])
 .ret)))))⟩
theorem k121 : compFn Tryz.prog Tryz.f121 = some c121 := by kernel_rfl
-- (*croft/cache.Shared).free
def c122 : AFunc := ⟨[.tmp 6],(.seq (.region [⟨(some 6),.mv (.const (.int .i64 0)),none⟩])
 (.seq (.seq (.region [⟨(some 9),.mv (.tmp 0),none⟩,⟨(some 10),.mv (.tmp 1),none⟩,⟨(some 11),.call 123 [(.tmp 9),(.tmp 10)],none⟩,⟨(some 12),.not (.tmp 11),none⟩])
 (.cond (.tmp 12) (.seq (.region [⟨(some 6),.mv (.const (.int .i64 1)),none⟩])
 .ret) .skip))
 (.seq (.seq (.region [⟨(some 13),.mv (.tmp 2),none⟩,⟨(some 14),.bin .eql (.tmp 13) (.const (.int .u64 0)),none⟩])
 (.cond (.tmp 14) (.seq (.region [⟨(some 6),.mv (.const (.int .i64 0)),none⟩])
 .ret) .skip))
 (.seq (.region [⟨(some 16),.mv (.tmp 0),none⟩,⟨(some 17),.mv (.tmp 2),none⟩,⟨(some 18),.call 207 [(.tmp 16),(.tmp 17)],none⟩,⟨(some 15),.mv (.tmp 18),none⟩,⟨(some 19),.extract (.tmp 15) 0,none⟩,⟨(some 20),.extract (.tmp 15) 1,none⟩,⟨(some 7),.mv (.tmp 19),none⟩,⟨(some 8),.mv (.tmp 20),none⟩])
 (.seq (.seq (.region [⟨(some 21),.mv (.tmp 8),none⟩,⟨(some 22),.bin .eql (.tmp 21) (.const (.int .i64 0)),none⟩])
 (.cond (.tmp 22) (.region [⟨(some 23),.mv (.tmp 0),none⟩,⟨(some 24),.mv (.tmp 1),none⟩,⟨(some 25),.mv (.tmp 2),none⟩,⟨(some 26),.mv (.tmp 7),none⟩,⟨(some 27),.call 208 [(.tmp 23),(.tmp 24),(.tmp 25),(.tmp 26)],none⟩]) .skip))
 (.seq (.region [⟨(some 28),.mv (.tmp 8),none⟩,⟨(some 6),.mv (.tmp 28),none⟩])
 .ret))))))⟩
theorem k122 : compFn Tryz.prog Tryz.f122 = some c122 := by kernel_rfl
-- (*croft/cache.Shared).is
def c123 : AFunc := ⟨[.tmp 4],(.seq (.region [⟨(some 4),.mv (.const (.bool false)),none⟩])
 (.seq (.region [⟨(some 5),.mv (.tmp 1),none⟩,⟨(some 6),.bin .geq (.tmp 5) (.const (.int .i64 0)),none⟩,⟨(some 7),.mv (.tmp 6),none⟩,⟨(some 8),.mv (.tmp 1),some (7,true)⟩,⟨(some 9),.mv (.tmp 0),some (7,true)⟩,⟨(some 10),.nilCheck (.tmp 9),some (7,true)⟩,⟨(some 11),.faddr 4 (.tmp 10),some (7,true)⟩,⟨(some 12),.load false 1 (.tmp 11),some (7,true)⟩,⟨(some 13),.lenS (.tmp 12),some (7,true)⟩,⟨(some 14),.bin .lss (.tmp 8) (.tmp 13),some (7,true)⟩,⟨(some 15),.pick (.tmp 7) (.tmp 14) (.const (.bool false)),none⟩,⟨(some 4),.mv (.tmp 15),none⟩])
 .ret))⟩
theorem k123 : compFn Tryz.prog Tryz.f123 = some c123 := by kernel_rfl
-- (*croft/cache.Shared).hidden
def c124 : AFunc := ⟨[.tmp 4],(.seq (.region [⟨(some 4),.mv (.const (.bool false)),none⟩])
 (.seq (.seq (.region [⟨(some 12),.mv (.const (.int .i64 0)),none⟩])
 (.block 0 (.loop (.seq (.region [⟨(some 13),.bin .lss (.tmp 12) (.const (.int .i64 8)),none⟩])
 (.seq (.cond (.tmp 13) .skip (.exit 0))
 (.seq (.block 1 (.seq (.region [⟨(some 14),.mv (.tmp 12),none⟩,⟨(some 5),.mv (.tmp 14),none⟩])
 (.seq (.region [⟨(some 15),.mv (.tmp 5),none⟩,⟨(some 16),.bin .shl (.const (.int .u64 16)) (.tmp 15),none⟩,⟨(some 6),.mv (.tmp 16),none⟩])
 (.seq (.region [⟨(some 17),.mv (.tmp 1),none⟩,⟨(some 18),.mv (.tmp 6),none⟩,⟨(some 19),.bin .quo (.tmp 17) (.tmp 18),none⟩,⟨(some 20),.mv (.tmp 6),none⟩,⟨(some 21),.bin .mul (.tmp 19) (.tmp 20),none⟩,⟨(some 7),.mv (.tmp 21),none⟩])
 (.seq (.region [⟨(some 23),.mv (.tmp 0),none⟩,⟨(some 24),.nilCheck (.tmp 23),none⟩,⟨(some 25),.faddr 5 (.tmp 24),none⟩,⟨(some 26),.load false 1 (.tmp 25),none⟩,⟨(some 27),.mv (.tmp 7),none⟩,⟨(some 28),.lookup .int (.int .i64 0) true (.tmp 26) (.tmp 27),none⟩,⟨(some 22),.mv (.tmp 28),none⟩,⟨(some 29),.extract (.tmp 22) 0,none⟩,⟨(some 30),.extract (.tmp 22) 1,none⟩,⟨(some 8),.mv (.tmp 29),none⟩,⟨(some 9),.mv (.tmp 30),none⟩])
 (.seq (.region [⟨(some 31),.mv (.tmp 9),none⟩])
 (.cond (.tmp 31) (.seq (.region [⟨(some 32),.mv (.tmp 0),none⟩,⟨(some 33),.nilCheck (.tmp 32),none⟩,⟨(some 34),.faddr 4 (.tmp 33),none⟩,⟨(some 35),.load false 1 (.tmp 34),none⟩,⟨(some 36),.mv (.tmp 8),none⟩,⟨(some 37),.mv (.tmp 5),none⟩,⟨(some 38),.iaddrS 8 (.tmp 35) (.tmp 36),none⟩,⟨(some 39),.iaddrA 8 1 (.tmp 38) (.tmp 37),none⟩,⟨(some 40),.load false 1 (.tmp 39),none⟩,⟨(some 41),.lenS (.tmp 40),none⟩,⟨(some 42),.mv (.const (.int .i64 0)),none⟩])
 (.block 2 (.loop (.seq (.region [⟨(some 43),.bin .lss (.tmp 42) (.tmp 41),none⟩])
 (.seq (.cond (.tmp 43) .skip (.exit 2))
 (.seq (.block 3 (.seq (.region [⟨(some 44),.iaddrS 1 (.tmp 40) (.tmp 42),none⟩,⟨(some 45),.load false 1 (.tmp 44),none⟩,⟨(some 11),.mv (.tmp 45),none⟩])
 (.seq (.region [⟨(some 46),.mv (.tmp 11),none⟩,⟨(some 47),.mv (.tmp 7),none⟩,⟨(some 48),.bin .eql (.tmp 46) (.tmp 47),none⟩])
 (.cond (.tmp 48) (.seq (.region [⟨(some 4),.mv (.const (.bool true)),none⟩])
 .ret) .skip))))
 (.region [⟨(some 49),.bin .add (.tmp 42) (.const (.int .i64 1)),none⟩,⟨(some 42),.mv (.tmp 49),none⟩]))))))) .skip)))))))
 (.region [⟨(some 50),.bin .add (.tmp 12) (.const (.int .i64 1)),none⟩,⟨(some 12),.mv (.tmp 50),none⟩])))))))
 (.seq (.region [⟨(some 4),.mv (.const (.bool false)),none⟩])
 .ret)))⟩
theorem k124 : compFn Tryz.prog Tryz.f124 = some c124 := by kernel_rfl
-- (*croft/cache.Shared).drain
def c125 : AFunc := ⟨[.tmp 2],(.seq (.region [⟨(some 2),.mv (.const (.int .i64 0)),none⟩])
 (.seq (.region [⟨(some 3),.mv (.const (.int .i64 0)),none⟩])
 (.seq (.seq (.region [⟨(some 8),.mv (.tmp 0),none⟩,⟨(some 9),.nilCheck (.tmp 8),none⟩,⟨(some 10),.faddr 4 (.tmp 9),none⟩,⟨(some 11),.load false 1 (.tmp 10),none⟩,⟨(some 12),.lenS (.tmp 11),none⟩,⟨(some 13),.mv (.const (.int .i64 0)),none⟩])
 (.block 0 (.loop (.seq (.region [⟨(some 14),.bin .lss (.tmp 13) (.tmp 12),none⟩])
 (.seq (.cond (.tmp 14) .skip (.exit 0))
 (.seq (.block 1 (.seq (.region [⟨(some 15),.mv (.tmp 13),none⟩,⟨(some 4),.mv (.tmp 15),none⟩])
 (.seq (.region [⟨(some 16),.mv (.const (.int .i64 0)),none⟩])
 (.block 2 (.loop (.seq (.region [⟨(some 17),.bin .lss (.tmp 16) (.const (.int .i64 8)),none⟩])
 (.seq (.cond (.tmp 17) .skip (.exit 2))
 (.seq (.block 3 (.seq (.region [⟨(some 18),.mv (.tmp 16),none⟩,⟨(some 5),.mv (.tmp 18),none⟩])
 (.seq (.region [⟨(some 19),.mv (.tmp 0),none⟩,⟨(some 20),.nilCheck (.tmp 19),none⟩,⟨(some 21),.faddr 4 (.tmp 20),none⟩,⟨(some 22),.load false 1 (.tmp 21),none⟩,⟨(some 23),.mv (.tmp 4),none⟩,⟨(some 24),.mv (.tmp 5),none⟩,⟨(some 25),.iaddrS 8 (.tmp 22) (.tmp 23),none⟩,⟨(some 26),.iaddrA 8 1 (.tmp 25) (.tmp 24),none⟩,⟨(some 27),.load false 1 (.tmp 26),none⟩,⟨(some 6),.mv (.tmp 27),none⟩])
 (.seq (.seq (.region [⟨(some 28),.mv (.tmp 6),none⟩,⟨(some 29),.lenS (.tmp 28),none⟩,⟨(some 30),.bin .sub (.tmp 29) (.const (.int .i64 1)),none⟩,⟨(some 7),.mv (.tmp 30),none⟩])
 (.block 4 (.loop (.seq (.seq (.region [⟨(some 31),.mv (.tmp 7),none⟩,⟨(some 32),.bin .geq (.tmp 31) (.const (.int .i64 0)),none⟩])
 (.cond (.tmp 32) .skip (.exit 4)))
 (.seq (.block 5 (.seq (.draw [⟨⟨(some 35),.mv (.tmp 0),none⟩,0,0⟩,⟨⟨(some 36),.nilCheck (.tmp 35),none⟩,0,0⟩,⟨⟨(some 37),.faddr 2 (.tmp 36),none⟩,0,0⟩,⟨⟨(some 38),.load false 1 (.tmp 37),none⟩,0,0⟩,⟨⟨(some 39),.mv (.tmp 6),none⟩,0,0⟩,⟨⟨(some 40),.mv (.tmp 7),none⟩,0,0⟩,⟨⟨(some 41),.iaddrS 1 (.tmp 39) (.tmp 40),none⟩,0,0⟩,⟨⟨(some 42),.load false 1 (.tmp 41),none⟩,0,0⟩,⟨⟨(some 43),.call 132 [(.tmp 38),(.tmp 42)],none⟩,0,1⟩])
 (.region [⟨(some 44),.mv (.tmp 3),none⟩,⟨(some 45),.bin .add (.tmp 44) (.const (.int .i64 1)),none⟩,⟨(some 3),.mv (.tmp 45),none⟩])))
 (.region [⟨(some 33),.mv (.tmp 7),none⟩,⟨(some 34),.bin .sub (.tmp 33) (.const (.int .i64 1)),none⟩,⟨(some 7),.mv (.tmp 34),none⟩]))))))
 (.region [⟨(some 46),.mv (.tmp 0),none⟩,⟨(some 47),.nilCheck (.tmp 46),none⟩,⟨(some 48),.faddr 4 (.tmp 47),none⟩,⟨(some 49),.load false 1 (.tmp 48),none⟩,⟨(some 50),.mv (.tmp 4),none⟩,⟨(some 51),.mv (.tmp 5),none⟩,⟨(some 52),.iaddrS 8 (.tmp 49) (.tmp 50),none⟩,⟨(some 53),.iaddrA 8 1 (.tmp 52) (.tmp 51),none⟩,⟨none,.store 1 (.tmp 53) (.const (.slice none 0 0)),none⟩])))))
 (.region [⟨(some 54),.bin .add (.tmp 16) (.const (.int .i64 1)),none⟩,⟨(some 16),.mv (.tmp 54),none⟩])))))))))
 (.region [⟨(some 55),.bin .add (.tmp 13) (.const (.int .i64 1)),none⟩,⟨(some 13),.mv (.tmp 55),none⟩])))))))
 (.seq (.region [⟨(some 56),.mv (.tmp 0),none⟩,⟨(some 57),.nilCheck (.tmp 56),none⟩,⟨(some 58),.faddr 5 (.tmp 57),none⟩,⟨(some 59),.load false 1 (.tmp 58),none⟩,⟨none,.clearM (.tmp 59),none⟩])
 (.seq (.region [⟨(some 60),.mv (.tmp 3),none⟩,⟨(some 2),.mv (.tmp 60),none⟩])
 .ret)))))⟩
theorem k125 : compFn Tryz.prog Tryz.f125 = some c125 := by kernel_rfl
-- (*croft/cache.Shared).aligned
def c126 : AFunc := ⟨[.tmp 10,.tmp 11,.tmp 12],(.seq (.region [⟨(some 10),.mv (.const (.int .u64 0)),none⟩,⟨(some 11),.mv (.const (.int .u64 0)),none⟩,⟨(some 12),.mv (.const (.int .i64 0)),none⟩])
 (.seq (.seq (.region [⟨(some 13),.mv (.tmp 2),none⟩,⟨(some 14),.call 209 [(.tmp 13)],none⟩,⟨(some 15),.not (.tmp 14),none⟩,⟨(some 16),.mv (.tmp 15),none⟩,⟨(some 17),.mv (.tmp 0),some (16,false)⟩,⟨(some 18),.mv (.tmp 1),some (16,false)⟩,⟨(some 19),.call 123 [(.tmp 17),(.tmp 18)],some (16,false)⟩,⟨(some 20),.not (.tmp 19),some (16,false)⟩,⟨(some 21),.pick (.tmp 16) (.const (.bool true)) (.tmp 20),none⟩])
 (.cond (.tmp 21) (.seq (.region [⟨(some 10),.mv (.const (.int .u64 0)),none⟩,⟨(some 11),.mv (.const (.int .u64 0)),none⟩,⟨(some 12),.mv (.const (.int .i64 1)),none⟩])
 .ret) .skip))
 (.seq (.region [⟨(some 23),.mv (.tmp 0),none⟩,⟨(some 24),.mv (.tmp 3),none⟩,⟨(some 25),.mv (.tmp 2),none⟩,⟨(some 26),.call 210 [(.tmp 23),(.tmp 24),(.tmp 25)],none⟩,⟨(some 22),.mv (.tmp 26),none⟩,⟨(some 27),.extract (.tmp 22) 0,none⟩,⟨(some 28),.extract (.tmp 22) 1,none⟩,⟨(some 11),.mv (.tmp 27),none⟩,⟨(some 12),.mv (.tmp 28),none⟩])
 (.seq (.seq (.region [⟨(some 29),.mv (.tmp 12),none⟩,⟨(some 30),.bin .neq (.tmp 29) (.const (.int .i64 0)),none⟩])
 (.cond (.tmp 30) (.seq (.region [⟨(some 31),.mv (.tmp 12),none⟩,⟨(some 10),.mv (.const (.int .u64 0)),none⟩,⟨(some 11),.mv (.const (.int .u64 0)),none⟩,⟨(some 12),.mv (.tmp 31),none⟩])
 .ret) .skip))
 (.seq (.region [⟨(some 33),.mv (.tmp 0),none⟩,⟨(some 34),.mv (.tmp 1),none⟩,⟨(some 35),.mv (.tmp 11),none⟩,⟨(some 36),.mv (.tmp 4),none⟩,⟨(some 37),.call 211 [(.tmp 33),(.tmp 34),(.tmp 35),(.tmp 36)],none⟩,⟨(some 32),.mv (.tmp 37),none⟩,⟨(some 38),.extract (.tmp 32) 0,none⟩,⟨(some 39),.extract (.tmp 32) 1,none⟩,⟨(some 10),.mv (.tmp 38),none⟩,⟨(some 12),.mv (.tmp 39),none⟩])
 (.seq (.region [⟨(some 40),.mv (.tmp 10),none⟩,⟨(some 41),.mv (.tmp 11),none⟩,⟨(some 42),.mv (.tmp 12),none⟩,⟨(some 10),.mv (.tmp 40),none⟩,⟨(some 11),.mv (.tmp 41),none⟩,⟨(some 12),.mv (.tmp 42),none⟩])
 .ret))))))⟩
theorem k126 : compFn Tryz.prog Tryz.f126 = some c126 := by kernel_rfl
-- (*croft/malloc.Heap).within
def c148 : AFunc := ⟨[.tmp 6],(.seq (.region [⟨(some 6),.mv (.const (.bool false)),none⟩])
 (.seq (.region [⟨(some 10),.mv (.tmp 0),none⟩,⟨(some 11),.mv (.tmp 1),none⟩,⟨(some 12),.call 220 [(.tmp 10),(.tmp 11)],none⟩,⟨(some 9),.mv (.tmp 12),none⟩,⟨(some 13),.extract (.tmp 9) 0,none⟩,⟨(some 14),.extract (.tmp 9) 1,none⟩,⟨(some 7),.alloc [(.int .u64 0),(.int .u64 0)],none⟩,⟨none,.store 2 (.tmp 7) (.tmp 13),none⟩,⟨(some 8),.mv (.tmp 14),none⟩])
 (.seq (.region [⟨(some 15),.mv (.tmp 8),none⟩,⟨(some 16),.mv (.tmp 15),none⟩,⟨(some 17),.mv (.tmp 2),some (16,true)⟩,⟨(some 18),.faddr 0 (.tmp 7),some (16,true)⟩,⟨(some 19),.load false 1 (.tmp 18),some (16,true)⟩,⟨(some 20),.faddr 1 (.tmp 7),some (16,true)⟩,⟨(some 21),.load false 1 (.tmp 20),some (16,true)⟩,⟨(some 22),.bin .add (.tmp 19) (.tmp 21),some (16,true)⟩,⟨(some 23),.mv (.tmp 1),some (16,true)⟩,⟨(some 24),.bin .sub (.tmp 22) (.tmp 23),some (16,true)⟩,⟨(some 25),.bin .leq (.tmp 17) (.tmp 24),some (16,true)⟩,⟨(some 26),.pick (.tmp 16) (.tmp 25) (.const (.bool false)),none⟩,⟨(some 6),.mv (.tmp 26),none⟩])
 .ret)))⟩
theorem k148 : compFn Tryz.prog Tryz.f148 = some c148 := by kernel_rfl
-- (*croft/mem.Space).Read
def c149 : AFunc := ⟨[.tmp 6,.cell 7 false 1],(.seq (.region [⟨(some 6),.mv (.const (.slice none 0 0)),none⟩,⟨(some 7),.alloc [(.int .i64 0)],none⟩])
 (.seq (.region [⟨(some 9),.makeFunc 221 [] [(.tmp 7)],none⟩,⟨none,.deferv (.tmp 9) [],none⟩])
 (.seq (.region [⟨(some 10),.mv (.tmp 0),none⟩,⟨(some 11),.mv (.tmp 1),none⟩,⟨(some 12),.mv (.tmp 2),none⟩,⟨(some 13),.call 223 [(.tmp 10),(.tmp 11),(.tmp 12)],none⟩])
 (.seq (.region [⟨(some 14),.mv (.tmp 2),none⟩,⟨(some 15),.makeSlice 1 1 [(.int .u8 0)] (.tmp 14) (.tmp 14),none⟩,⟨(some 8),.mv (.tmp 15),none⟩])
 (.seq (.region [⟨(some 16),.mv (.tmp 0),none⟩,⟨(some 17),.mv (.tmp 1),none⟩,⟨(some 18),.mv (.tmp 8),none⟩,⟨(some 19),.call 224 [(.tmp 16),(.tmp 17),(.tmp 18)],none⟩])
 (.seq (.region [⟨(some 20),.mv (.tmp 8),none⟩,⟨(some 6),.mv (.tmp 20),none⟩,⟨none,.store 1 (.tmp 7) (.const (.int .i64 0)),none⟩])
 .ret))))))⟩
theorem k149 : compFn Tryz.prog Tryz.f149 = some c149 := by kernel_rfl
-- (*croft/cache.Shared).size
def c207 : AFunc := ⟨[.tmp 4,.tmp 5],(.seq (.region [⟨(some 4),.mv (.const (.int .u64 0)),none⟩,⟨(some 5),.mv (.const (.int .i64 0)),none⟩])
 (.seq (.seq (.region [⟨(some 9),.mv (.tmp 0),none⟩,⟨(some 10),.nilCheck (.tmp 9),none⟩,⟨(some 11),.faddr 5 (.tmp 10),none⟩,⟨(some 12),.load false 1 (.tmp 11),none⟩,⟨(some 13),.mv (.tmp 1),none⟩,⟨(some 14),.lookup .int (.int .i64 0) true (.tmp 12) (.tmp 13),none⟩,⟨(some 8),.mv (.tmp 14),none⟩,⟨(some 15),.extract (.tmp 8) 0,none⟩,⟨(some 16),.extract (.tmp 8) 1,none⟩,⟨(some 6),.mv (.tmp 15),none⟩,⟨(some 7),.mv (.tmp 16),none⟩])
 (.seq (.region [⟨(some 17),.mv (.tmp 7),none⟩])
 (.cond (.tmp 17) (.seq (.region [⟨(some 4),.mv (.const (.int .u64 0)),none⟩,⟨(some 5),.mv (.const (.int .i64 1)),none⟩])
 .ret) .skip)))
 (.seq (.region [⟨(some 18),.mv (.tmp 0),none⟩,⟨(some 19),.nilCheck (.tmp 18),none⟩,⟨(some 20),.faddr 2 (.tmp 19),none⟩,⟨(some 21),.load false 1 (.tmp 20),none⟩,⟨(some 22),.mv (.tmp 1),none⟩,⟨(some 23),.call 42 [(.tmp 21),(.tmp 22)],none⟩,⟨(some 24),.extract (.tmp 23) 0,none⟩,⟨(some 25),.extract (.tmp 23) 1,none⟩,⟨(some 4),.mv (.tmp 24),none⟩,⟨(some 5),.mv (.tmp 25),none⟩])
 .ret)))⟩
theorem k207 : compFn Tryz.prog Tryz.f207 = some c207 := by kernel_rfl
-- (*croft/cache.Shared).give
def c208 : AFunc := ⟨[],(.seq (.seq (.region [⟨(some 9),.mv (.tmp 3),none⟩,⟨(some 10),.bin .lss (.tmp 9) (.const (.int .u64 4096)),none⟩])
 (.cond (.tmp 10) (.seq (.draw [⟨⟨(some 11),.mv (.tmp 0),none⟩,0,1⟩,⟨⟨(some 12),.nilCheck (.tmp 11),none⟩,0,1⟩,⟨⟨(some 13),.faddr 4 (.tmp 12),none⟩,0,1⟩,⟨⟨(some 14),.load false 1 (.tmp 13),none⟩,0,1⟩,⟨⟨(some 15),.mv (.tmp 1),none⟩,0,1⟩,⟨⟨(some 16),.mv (.tmp 3),none⟩,0,0⟩,⟨⟨(some 17),.call 273 [(.tmp 16)],none⟩,0,1⟩,⟨⟨(some 18),.iaddrS 8 (.tmp 14) (.tmp 15),none⟩,0,1⟩,⟨⟨(some 19),.iaddrA 8 1 (.tmp 18) (.tmp 17),none⟩,1,1⟩,⟨⟨(some 8),.mv (.tmp 19),none⟩,1,1⟩])
 (.seq (.draw [⟨⟨(some 20),.mv (.tmp 8),none⟩,0,0⟩,⟨⟨(some 21),.nilCheck (.tmp 20),none⟩,0,0⟩,⟨⟨(some 22),.load false 1 (.tmp 21),none⟩,0,0⟩,⟨⟨(some 23),.lenS (.tmp 22),none⟩,0,0⟩,⟨⟨(some 24),.mv (.tmp 0),none⟩,0,0⟩,⟨⟨(some 25),.nilCheck (.tmp 24),none⟩,0,0⟩,⟨⟨(some 26),.faddr 3 (.tmp 25),none⟩,0,0⟩,⟨⟨(some 27),.load false 1 (.tmp 26),none⟩,0,0⟩,⟨⟨(some 28),.bin .lss (.tmp 23) (.tmp 27),none⟩,0,0⟩])
 (.cond (.tmp 28) (.seq (.region [⟨(some 29),.mv (.tmp 8),none⟩,⟨(some 30),.mv (.tmp 8),none⟩,⟨(some 31),.nilCheck (.tmp 30),none⟩,⟨(some 32),.load false 1 (.tmp 31),none⟩,⟨(some 33),.mv (.tmp 2),none⟩,⟨(some 34),.mkSlice 1 1 [(.int .u64 0)] [(0,1,(.tmp 33))],none⟩,⟨(some 35),.append 1 8 (.tmp 32) (.tmp 34),none⟩,⟨(some 36),.nilCheck (.tmp 29),none⟩,⟨none,.store 1 (.tmp 36) (.tmp 35),none⟩])
 (.seq (.region [⟨(some 37),.mv (.tmp 0),none⟩,⟨(some 38),.nilCheck (.tmp 37),none⟩,⟨(some 39),.faddr 5 (.tmp 38),none⟩,⟨(some 40),.load false 1 (.tmp 39),none⟩,⟨(some 41),.mv (.tmp 2),none⟩,⟨(some 42),.mv (.tmp 1),none⟩,⟨none,.mapUpdate .int (.tmp 40) (.tmp 41) (.tmp 42),none⟩])
 .ret)) .skip))) .skip))
 (.region [⟨(some 43),.mv (.tmp 0),none⟩,⟨(some 44),.nilCheck (.tmp 43),none⟩,⟨(some 45),.faddr 2 (.tmp 44),none⟩,⟨(some 46),.load false 1 (.tmp 45),none⟩,⟨(some 47),.mv (.tmp 2),none⟩,⟨(some 48),.call 132 [(.tmp 46),(.tmp 47)],none⟩]))⟩
theorem k208 : compFn Tryz.prog Tryz.f208 = some c208 := by kernel_rfl
-- (*croft/cache.Shared).round
def c210 : AFunc := ⟨[.tmp 6,.tmp 7],(.seq (.region [⟨(some 6),.mv (.const (.int .u64 0)),none⟩,⟨(some 7),.mv (.const (.int .i64 0)),none⟩])
 (.seq (.region [⟨(some 11),.mv (.tmp 1),none⟩,⟨(some 12),.mv (.tmp 2),none⟩,⟨(some 13),.maxmin true [(.tmp 11),(.tmp 12),(.const (.int .u64 16))],none⟩,⟨(some 14),.call 251 [(.tmp 13)],none⟩,⟨(some 10),.mv (.tmp 14),none⟩,⟨(some 15),.extract (.tmp 10) 0,none⟩,⟨(some 16),.extract (.tmp 10) 1,none⟩,⟨(some 8),.mv (.tmp 15),none⟩,⟨(some 9),.mv (.tmp 16),none⟩])
 (.seq (.seq (.region [⟨(some 17),.mv (.tmp 9),none⟩,⟨(some 18),.not (.tmp 17),none⟩,⟨(some 19),.mv (.tmp 18),none⟩,⟨(some 20),.mv (.tmp 8),some (19,false)⟩,⟨(some 21),.mv (.tmp 0),some (19,false)⟩,⟨(some 22),.nilCheck (.tmp 21),some (19,false)⟩,⟨(some 23),.faddr 2 (.tmp 22),some (19,false)⟩,⟨(some 24),.load false 1 (.tmp 23),some (19,false)⟩,⟨(some 25),.call 189 [(.tmp 24)],some (19,false)⟩,⟨(some 26),.part false 2 1 (.tmp 25),some (19,false)⟩,⟨(some 27),.bin .shl (.const (.int .u64 4096)) (.tmp 26),some (19,false)⟩,⟨(some 28),.bin .gtr (.tmp 20) (.tmp 27),some (19,false)⟩,⟨(some 29),.pick (.tmp 19) (.const (.bool true)) (.tmp 28),none⟩])
 (.cond (.tmp 29) (.seq (.region [⟨(some 6),.mv (.const (.int .u64 0)),none⟩,⟨(some 7),.mv (.const (.int .i64 3)),none⟩])
 .ret) .skip))
 (.seq (.region [⟨(some 30),.mv (.tmp 8),none⟩,⟨(some 6),.mv (.tmp 30),none⟩,⟨(some 7),.mv (.const (.int .i64 0)),none⟩])
 .ret))))⟩
theorem k210 : compFn Tryz.prog Tryz.f210 = some c210 := by kernel_rfl
-- (*croft/cache.Shared).take
def c211 : AFunc := ⟨[.tmp 8,.tmp 9],(.seq (.region [⟨(some 8),.mv (.const (.int .u64 0)),none⟩,⟨(some 9),.mv (.const (.int .i64 0)),none⟩])
 (.seq (.seq (.region [⟨(some 15),.mv (.tmp 2),none⟩,⟨(some 16),.bin .lss (.tmp 15) (.const (.int .u64 4096)),none⟩])
 (.cond (.tmp 16) (.seq (.draw [⟨⟨(some 17),.mv (.tmp 0),none⟩,0,1⟩,⟨⟨(some 18),.nilCheck (.tmp 17),none⟩,0,1⟩,⟨⟨(some 19),.faddr 4 (.tmp 18),none⟩,0,1⟩,⟨⟨(some 20),.load false 1 (.tmp 19),none⟩,0,1⟩,⟨⟨(some 21),.mv (.tmp 1),none⟩,0,1⟩,⟨⟨(some 22),.mv (.tmp 2),none⟩,0,0⟩,⟨⟨(some 23),.call 273 [(.tmp 22)],none⟩,0,1⟩,⟨⟨(some 24),.iaddrS 8 (.tmp 20) (.tmp 21),none⟩,0,1⟩,⟨⟨(some 25),.iaddrA 8 1 (.tmp 24) (.tmp 23),none⟩,1,1⟩,⟨⟨(some 10),.mv (.tmp 25),none⟩,1,1⟩])
 (.seq (.region [⟨(some 26),.mv (.tmp 10),none⟩,⟨(some 27),.nilCheck (.tmp 26),none⟩,⟨(some 28),.load false 1 (.tmp 27),none⟩,⟨(some 29),.lenS (.tmp 28),none⟩,⟨(some 11),.mv (.tmp 29),none⟩])
 (.seq (.region [⟨(some 30),.mv (.tmp 11),none⟩,⟨(some 31),.bin .gtr (.tmp 30) (.const (.int .i64 0)),none⟩])
 (.cond (.tmp 31) (.seq (.region [⟨(some 32),.mv (.tmp 10),none⟩,⟨(some 33),.nilCheck (.tmp 32),none⟩,⟨(some 34),.load false 1 (.tmp 33),none⟩,⟨(some 35),.mv (.tmp 11),none⟩,⟨(some 36),.bin .sub (.tmp 35) (.const (.int .i64 1)),none⟩,⟨(some 37),.iaddrS 1 (.tmp 34) (.tmp 36),none⟩,⟨(some 38),.load false 1 (.tmp 37),none⟩,⟨(some 12),.mv (.tmp 38),none⟩])
 (.seq (.region [⟨(some 39),.mv (.tmp 10),none⟩,⟨(some 40),.mv (.tmp 10),none⟩,⟨(some 41),.nilCheck (.tmp 40),none⟩,⟨(some 42),.load false 1 (.tmp 41),none⟩,⟨(some 43),.mv (.tmp 11),none⟩,⟨(some 44),.bin .sub (.tmp 43) (.const (.int .i64 1)),none⟩,⟨(some 45),.sliceOf 1 (.tmp 42) none (some (.tmp 44)),none⟩,⟨(some 46),.nilCheck (.tmp 39),none⟩,⟨none,.store 1 (.tmp 46) (.tmp 45),none⟩])
 (.seq (.region [⟨(some 47),.mv (.tmp 0),none⟩,⟨(some 48),.nilCheck (.tmp 47),none⟩,⟨(some 49),.faddr 5 (.tmp 48),none⟩,⟨(some 50),.load false 1 (.tmp 49),none⟩,⟨(some 51),.mv (.tmp 12),none⟩,⟨none,.delete .int (.tmp 50) (.tmp 51),none⟩])
 (.seq (.region [⟨(some 52),.mv (.tmp 12),none⟩,⟨(some 8),.mv (.tmp 52),none⟩,⟨(some 9),.mv (.const (.int .i64 0)),none⟩])
 .ret)))) .skip)))) .skip))
 (.seq (.region [⟨(some 54),.mv (.tmp 0),none⟩,⟨(some 55),.nilCheck (.tmp 54),none⟩,⟨(some 56),.faddr 2 (.tmp 55),none⟩,⟨(some 57),.load false 1 (.tmp 56),none⟩,⟨(some 58),.mv (.tmp 2),none⟩,⟨(some 59),.mv (.tmp 2),none⟩,⟨(some 60),.call 107 [(.tmp 57),(.tmp 58),(.tmp 59),(.const (.bool true))],none⟩,⟨(some 53),.mv (.tmp 60),none⟩,⟨(some 61),.extract (.tmp 53) 0,none⟩,⟨(some 62),.extract (.tmp 53) 1,none⟩,⟨(some 13),.mv (.tmp 61),none⟩,⟨(some 14),.mv (.tmp 62),none⟩])
 (.seq (.seq (.region [⟨(some 63),.mv (.tmp 14),none⟩,⟨(some 64),.bin .eql (.tmp 63) (.const (.int .i64 2)),none⟩])
 (.cond (.tmp 64) (.seq (.region [⟨(some 65),.mv (.tmp 0),none⟩,⟨(some 66),.call 125 [(.tmp 65)],none⟩])
 (.region [⟨(some 68),.mv (.tmp 0),none⟩,⟨(some 69),.nilCheck (.tmp 68),none⟩,⟨(some 70),.faddr 2 (.tmp 69),none⟩,⟨(some 71),.load false 1 (.tmp 70),none⟩,⟨(some 72),.mv (.tmp 2),none⟩,⟨(some 73),.mv (.tmp 2),none⟩,⟨(some 74),.mv (.tmp 3),none⟩,⟨(some 75),.call 107 [(.tmp 71),(.tmp 72),(.tmp 73),(.tmp 74)],none⟩,⟨(some 67),.mv (.tmp 75),none⟩,⟨(some 76),.extract (.tmp 67) 0,none⟩,⟨(some 77),.extract (.tmp 67) 1,none⟩,⟨(some 13),.mv (.tmp 76),none⟩,⟨(some 14),.mv (.tmp 77),none⟩])) .skip))
 (.seq (.region [⟨(some 78),.mv (.tmp 13),none⟩,⟨(some 79),.mv (.tmp 14),none⟩,⟨(some 8),.mv (.tmp 78),none⟩,⟨(some 9),.mv (.tmp 79),none⟩])
 .ret)))))⟩
theorem k211 : compFn Tryz.prog Tryz.f211 = some c211 := by kernel_rfl
-- (*croft/mem.Space).Read$1
def c221 : AFunc := ⟨[],(.regionR (some 1) [⟨(some 2),.call 222 [(.tmp 1),(.tmp 0)],none⟩])⟩
theorem k221 : compFn Tryz.prog Tryz.f221 = some c221 := by kernel_rfl
-- croft/cache.class
def c273 : AFunc := ⟨[.tmp 2],(.seq (.region [⟨(some 2),.mv (.const (.int .i64 0)),none⟩])
 (.seq (.region [⟨(some 3),.mv (.tmp 0),none⟩,⟨(some 4),.bin .quo (.tmp 3) (.const (.int .u64 16)),none⟩,⟨(some 5),.call 303 [(.tmp 4)],none⟩,⟨(some 2),.mv (.tmp 5),none⟩])
 .ret))⟩
theorem k273 : compFn Tryz.prog Tryz.f273 = some c273 := by kernel_rfl
end
end Go.Proofs.YtdnefddmghhgpaaGreatDoor
