import Derived.Test.YtdnefddmghhgpaaGreatDoorMaCode0
set_option maxRecDepth 1000000
set_option maxHeartbeats 4000000
set_option linter.unusedVariables false
namespace Go.Proofs.YtdnefddmghhgpaaGreatDoor
open AM Go
noncomputable section
-- (*croft/slab.Slab).Take
def c307 : AFunc := ⟨[.tmp 6,.tmp 7,.tmp 8],(.seq (.region [⟨(some 6),.mv (.const (.int .u64 0)),none⟩,⟨(some 7),.mv (.const (.bool false)),none⟩,⟨(some 8),.mv (.const (.int .i64 0)),none⟩])
 (.seq (.seq (.region [⟨(some 20),.mv (.tmp 1),none⟩,⟨(some 21),.bin .lss (.tmp 20) (.const (.int .i64 0)),none⟩,⟨(some 22),.mv (.tmp 21),none⟩,⟨(some 23),.mv (.tmp 1),some (22,false)⟩,⟨(some 24),.bin .geq (.tmp 23) (.const (.int .i64 8)),some (22,false)⟩,⟨(some 25),.pick (.tmp 22) (.const (.bool true)) (.tmp 24),none⟩])
 (.cond (.tmp 25) (.seq (.region [⟨(some 6),.mv (.const (.int .u64 0)),none⟩,⟨(some 7),.mv (.const (.bool false)),none⟩,⟨(some 8),.mv (.const (.int .i64 1)),none⟩])
 .ret) .skip))
 (.seq (.region [⟨(some 26),.mv (.tmp 0),none⟩,⟨(some 27),.mv (.tmp 1),none⟩,⟨(some 28),.nilCheck (.tmp 26),none⟩,⟨(some 29),.faddr 1 (.tmp 28),none⟩,⟨(some 30),.iaddrA 8 1 (.tmp 29) (.tmp 27),none⟩,⟨(some 31),.loadX false 1 (.tmp 30),none⟩,⟨(some 9),.mv (.tmp 31),none⟩])
 (.seq (.seq (.region [⟨(some 32),.mv (.tmp 9),none⟩,⟨(some 33),.bin .lss (.tmp 32) (.const (.int .i64 0)),none⟩])
 (.cond (.tmp 33) (.seq (.region [⟨(some 35),.mv (.tmp 0),none⟩,⟨(some 36),.nilCheck (.tmp 35),none⟩,⟨(some 37),.faddr 0 (.tmp 36),none⟩,⟨(some 38),.loadX false 1 (.tmp 37),none⟩,⟨(some 39),.mv (.tmp 2),none⟩,⟨(some 40),.call 309 [(.tmp 38),(.const (.int .i64 0)),(.tmp 39)],none⟩,⟨(some 34),.mv (.tmp 40),none⟩,⟨(some 41),.extract (.tmp 34) 0,none⟩,⟨(some 42),.extract (.tmp 34) 1,none⟩,⟨(some 43),.extract (.tmp 34) 2,none⟩,⟨(some 10),.mv (.tmp 41),none⟩,⟨(some 11),.mv (.tmp 42),none⟩,⟨(some 12),.mv (.tmp 43),none⟩])
 (.seq (.seq (.region [⟨(some 44),.mv (.tmp 12),none⟩,⟨(some 45),.bin .neq (.tmp 44) (.const (.int .i64 0)),none⟩])
 (.cond (.tmp 45) (.seq (.region [⟨(some 46),.mv (.tmp 12),none⟩,⟨(some 6),.mv (.const (.int .u64 0)),none⟩,⟨(some 7),.mv (.const (.bool false)),none⟩,⟨(some 8),.mv (.tmp 46),none⟩])
 .ret) .skip))
 (.region [⟨(some 47),.mv (.tmp 0),none⟩,⟨(some 48),.mv (.tmp 10),none⟩,⟨(some 49),.mv (.tmp 1),none⟩,⟨(some 50),.call 367 [(.tmp 47),(.tmp 48),(.tmp 49)],none⟩,⟨(some 51),.mv (.tmp 11),none⟩,⟨(some 9),.mv (.tmp 50),none⟩,⟨(some 7),.mv (.tmp 51),none⟩]))) .skip))
 (.seq (.region [⟨(some 52),.mv (.tmp 0),none⟩,⟨(some 53),.nilCheck (.tmp 52),none⟩,⟨(some 54),.faddr 0 (.tmp 53),none⟩,⟨(some 55),.loadX false 1 (.tmp 54),none⟩,⟨(some 56),.nilCheck (.tmp 55),none⟩,⟨(some 57),.faddr 0 (.tmp 56),none⟩,⟨(some 58),.call 116 [(.tmp 57)],none⟩,⟨(some 13),.mv (.tmp 58),none⟩])
 (.seq (.region [⟨(some 60),.mv (.tmp 13),none⟩,⟨(some 61),.mv (.tmp 9),none⟩,⟨(some 62),.call 118 [(.tmp 60),(.tmp 61)],none⟩,⟨(some 59),.mv (.tmp 62),none⟩,⟨(some 63),.extract (.tmp 59) 0,none⟩,⟨(some 64),.extract (.tmp 59) 1,none⟩,⟨(some 14),.alloc [(.int .i64 0),(.int .i64 0),(.int .i64 0),(.int .i64 0),(.int .i64 0),(.int .i64 0),(.int .i64 0),(.int .u64 0),(.int .u64 0),(.int .u64 0),(.int .u64 0)],none⟩,⟨none,.storeX 11 (.tmp 14) (.tmp 63),none⟩,⟨(some 15),.mv (.tmp 64),none⟩])
 (.seq (.region [⟨(some 65),.mv (.tmp 0),none⟩,⟨(some 66),.call 324 [(.tmp 65)],none⟩,⟨(some 67),.mv (.tmp 9),none⟩,⟨(some 68),.conv .u64 (.tmp 67),none⟩,⟨(some 69),.bin .mul (.const (.int .u64 4096)) (.tmp 68),none⟩,⟨(some 70),.bin .add (.tmp 66) (.tmp 69),none⟩,⟨(some 16),.mv (.tmp 70),none⟩])
 (.seq (.draw [⟨⟨(some 71),.mv (.tmp 16),none⟩,0,0⟩,⟨⟨(some 72),.faddr 6 (.tmp 14),none⟩,0,0⟩,⟨⟨(some 73),.loadX false 1 (.tmp 72),none⟩,0,0⟩,⟨⟨(some 74),.conv .u64 (.tmp 73),none⟩,0,0⟩,⟨⟨(some 75),.mv (.tmp 1),none⟩,0,0⟩,⟨⟨(some 76),.iaddrA 8 1 (.glob 1) (.tmp 75),none⟩,0,0⟩,⟨⟨(some 77),.loadX false 1 (.tmp 76),none⟩,0,0⟩,⟨⟨(some 78),.bin .mul (.tmp 74) (.tmp 77),none⟩,0,0⟩,⟨⟨(some 79),.bin .add (.tmp 71) (.tmp 78),none⟩,0,0⟩,⟨⟨(some 6),.mv (.tmp 79),none⟩,0,0⟩])
 (.seq (.region [⟨(some 81),.mv (.tmp 0),none⟩,⟨(some 82),.nilCheck (.tmp 81),none⟩,⟨(some 83),.faddr 0 (.tmp 82),none⟩,⟨(some 84),.loadX false 1 (.tmp 83),none⟩,⟨(some 85),.nilCheck (.tmp 84),none⟩,⟨(some 86),.faddr 0 (.tmp 85),none⟩,⟨(some 87),.call 113 [(.tmp 86)],none⟩,⟨(some 88),.mv (.tmp 6),none⟩,⟨(some 89),.call 243 [(.tmp 87),(.tmp 88)],none⟩,⟨(some 80),.mv (.tmp 89),none⟩,⟨(some 90),.extract (.tmp 80) 0,none⟩,⟨(some 91),.extract (.tmp 80) 1,none⟩,⟨(some 17),.mv (.tmp 90),none⟩,⟨(some 18),.mv (.tmp 91),none⟩])
 (.seq (.region [⟨(some 19),.mv (.const (.int .i64 (-1))),none⟩])
 (.seq (.seq (.region [⟨(some 92),.mv (.tmp 17),none⟩,⟨(some 93),.bin .neq (.tmp 92) (.const (.int .u64 0)),none⟩])
 (.cond (.tmp 93) (.region [⟨(some 94),.mv (.tmp 17),none⟩,⟨(some 95),.mv (.tmp 16),none⟩,⟨(some 96),.bin .sub (.tmp 94) (.tmp 95),none⟩,⟨(some 97),.mv (.tmp 1),none⟩,⟨(some 98),.iaddrA 8 1 (.glob 1) (.tmp 97),none⟩,⟨(some 99),.loadX false 1 (.tmp 98),none⟩,⟨(some 100),.bin .quo (.tmp 96) (.tmp 99),none⟩,⟨(some 101),.conv .i64 (.tmp 100),none⟩,⟨(some 19),.mv (.tmp 101),none⟩]) .skip))
 (.seq (.region [⟨(some 102),.mv (.tmp 13),none⟩,⟨(some 103),.mv (.tmp 9),none⟩,⟨(some 104),.faddr 6 (.tmp 14),none⟩,⟨(some 105),.loadX false 1 (.tmp 104),none⟩,⟨(some 106),.call 323 [(.tmp 102),(.tmp 103),(.tmp 105),(.const (.bool true))],none⟩])
 (.seq (.region [⟨(some 107),.mv (.tmp 13),none⟩,⟨(some 108),.mv (.tmp 9),none⟩,⟨(some 109),.mv (.tmp 19),none⟩,⟨(some 110),.call 328 [(.tmp 107),(.tmp 108),(.tmp 109)],none⟩])
 (.seq (.seq (.region [⟨(some 111),.mv (.tmp 19),none⟩,⟨(some 112),.bin .lss (.tmp 111) (.const (.int .i64 0)),none⟩])
 (.cond (.tmp 112) (.region [⟨(some 113),.mv (.tmp 0),none⟩,⟨(some 114),.mv (.tmp 9),none⟩,⟨(some 115),.mv (.tmp 1),none⟩,⟨(some 116),.call 325 [(.tmp 113),(.tmp 114),(.tmp 115)],none⟩]) .skip))
 (.seq (.region [⟨(some 117),.mv (.tmp 6),none⟩,⟨(some 118),.mv (.tmp 7),none⟩,⟨(some 6),.mv (.tmp 117),none⟩,⟨(some 7),.mv (.tmp 118),none⟩,⟨(some 8),.mv (.const (.int .i64 0)),none⟩])
 .ret)))))))))))))))⟩
theorem k307 : compFn Tryz.prog Tryz.f307 = some c307 := by kernel_rfl
-- croft/malloc.class
def c308 : AFunc := ⟨[.tmp 2],(.seq (.region [⟨(some 2),.mv (.const (.int .i64 0)),none⟩])
 (.seq (.region [⟨(some 3),.mv (.tmp 0),none⟩,⟨(some 4),.bin .quo (.tmp 3) (.const (.int .u64 16)),none⟩,⟨(some 5),.call 303 [(.tmp 4)],none⟩,⟨(some 2),.mv (.tmp 5),none⟩])
 .ret))⟩
theorem k308 : compFn Tryz.prog Tryz.f308 = some c308 := by kernel_rfl
-- (*croft/region.Pool).Need
def c309 : AFunc := ⟨[.tmp 6,.tmp 7,.tmp 8],(.seq (.region [⟨(some 6),.mv (.const (.int .u64 0)),none⟩,⟨(some 7),.mv (.const (.bool false)),none⟩,⟨(some 8),.mv (.const (.int .i64 0)),none⟩])
 (.seq (.region [⟨(some 12),.mv (.tmp 0),none⟩,⟨(some 13),.nilCheck (.tmp 12),none⟩,⟨(some 14),.faddr 0 (.tmp 13),none⟩,⟨(some 15),.faddr 2 (.tmp 14),none⟩,⟨(some 16),.loadX false 1 (.tmp 15),none⟩,⟨(some 17),.mv (.tmp 1),none⟩,⟨(some 18),.call 368 [(.tmp 16),(.tmp 17)],none⟩,⟨(some 11),.mv (.tmp 18),none⟩,⟨(some 19),.extract (.tmp 11) 0,none⟩,⟨(some 20),.extract (.tmp 11) 1,none⟩,⟨(some 6),.mv (.tmp 19),none⟩,⟨(some 8),.mv (.tmp 20),none⟩])
 (.seq (.seq (.region [⟨(some 21),.mv (.tmp 8),none⟩,⟨(some 22),.bin .neq (.tmp 21) (.const (.int .i64 2)),none⟩])
 (.cond (.tmp 22) (.seq (.region [⟨(some 23),.mv (.tmp 6),none⟩,⟨(some 24),.mv (.tmp 8),none⟩,⟨(some 6),.mv (.tmp 23),none⟩,⟨(some 7),.mv (.const (.bool false)),none⟩,⟨(some 8),.mv (.tmp 24),none⟩])
 .ret) .skip))
 (.seq (.seq (.region [⟨(some 26),.mv (.tmp 0),none⟩,⟨(some 27),.nilCheck (.tmp 26),none⟩,⟨(some 28),.faddr 0 (.tmp 27),none⟩,⟨(some 29),.faddr 0 (.tmp 28),none⟩,⟨(some 30),.loadX false 1 (.tmp 29),none⟩,⟨(some 31),.mv (.tmp 2),none⟩,⟨(some 32),.call 369 [(.tmp 30),(.tmp 31)],none⟩,⟨(some 25),.mv (.tmp 32),none⟩,⟨(some 33),.extract (.tmp 25) 0,none⟩,⟨(some 34),.extract (.tmp 25) 1,none⟩,⟨(some 9),.mv (.tmp 33),none⟩,⟨(some 10),.mv (.tmp 34),none⟩])
 (.seq (.region [⟨(some 35),.mv (.tmp 10),none⟩,⟨(some 36),.bin .neq (.tmp 35) (.const (.int .i64 0)),none⟩])
 (.cond (.tmp 36) (.seq (.region [⟨(some 37),.mv (.tmp 10),none⟩,⟨(some 6),.mv (.const (.int .u64 0)),none⟩,⟨(some 7),.mv (.const (.bool false)),none⟩,⟨(some 8),.mv (.tmp 37),none⟩])
 .ret) .skip)))
 (.seq (.region [⟨(some 38),.mv (.tmp 0),none⟩,⟨(some 39),.nilCheck (.tmp 38),none⟩,⟨(some 40),.faddr 0 (.tmp 39),none⟩,⟨(some 41),.faddr 1 (.tmp 40),none⟩,⟨(some 42),.loadX false 1 (.tmp 41),none⟩,⟨(some 43),.call 370 [(.tmp 42)],none⟩])
 (.seq (.region [⟨(some 44),.mv (.tmp 0),none⟩,⟨(some 45),.nilCheck (.tmp 44),none⟩,⟨(some 46),.faddr 0 (.tmp 45),none⟩,⟨(some 47),.faddr 2 (.tmp 46),none⟩,⟨(some 48),.loadX false 1 (.tmp 47),none⟩,⟨(some 49),.call 371 [(.tmp 48)],none⟩])
 (.seq (.region [⟨(some 51),.mv (.tmp 0),none⟩,⟨(some 52),.nilCheck (.tmp 51),none⟩,⟨(some 53),.faddr 0 (.tmp 52),none⟩,⟨(some 54),.faddr 2 (.tmp 53),none⟩,⟨(some 55),.loadX false 1 (.tmp 54),none⟩,⟨(some 56),.mv (.tmp 1),none⟩,⟨(some 57),.call 368 [(.tmp 55),(.tmp 56)],none⟩,⟨(some 50),.mv (.tmp 57),none⟩,⟨(some 58),.extract (.tmp 50) 0,none⟩,⟨(some 59),.extract (.tmp 50) 1,none⟩,⟨(some 6),.mv (.tmp 58),none⟩,⟨(some 8),.mv (.tmp 59),none⟩])
 (.seq (.region [⟨(some 60),.mv (.tmp 6),none⟩,⟨(some 61),.mv (.tmp 8),none⟩,⟨(some 62),.bin .eql (.tmp 61) (.const (.int .i64 0)),none⟩,⟨(some 63),.mv (.tmp 8),none⟩,⟨(some 6),.mv (.tmp 60),none⟩,⟨(some 7),.mv (.tmp 62),none⟩,⟨(some 8),.mv (.tmp 63),none⟩])
 .ret))))))))⟩
theorem k309 : compFn Tryz.prog Tryz.f309 = some c309 := by kernel_rfl
-- croft/bits.Of
def c311 : AFunc := ⟨[.tmp 4],(.seq (.region [⟨(some 4),.mv (.const (.ptr none)),none⟩])
 (.seq (.region [⟨(some 8),.mv (.tmp 1),none⟩,⟨(some 9),.call 372 [(.tmp 8)],none⟩,⟨(some 7),.mv (.tmp 9),none⟩,⟨(some 10),.extract (.tmp 7) 0,none⟩,⟨(some 11),.extract (.tmp 7) 1,none⟩,⟨(some 1),.mv (.tmp 10),none⟩,⟨(some 5),.mv (.tmp 11),none⟩])
 (.seq (.region [⟨(some 12),.mv (.tmp 1),none⟩,⟨(some 13),.mv (.tmp 5),none⟩,⟨(some 14),.makeSlice 1 8 [(.int .u64 0)] (.tmp 13) (.tmp 13),none⟩,⟨(some 15),.build [(.int .i64 0),(.slice none 0 0)] [(0,1,(.tmp 12)),(1,1,(.tmp 14))],none⟩,⟨(some 16),.box 2 (.tmp 15),none⟩,⟨(some 6),.mv (.tmp 16),none⟩])
 (.seq (.region [⟨(some 17),.mv (.tmp 6),none⟩,⟨(some 18),.nilCheck (.tmp 17),none⟩,⟨(some 19),.faddr 1 (.tmp 18),none⟩,⟨(some 20),.loadX false 1 (.tmp 19),none⟩,⟨(some 21),.mv (.tmp 0),none⟩,⟨(some 22),.copy 1 (.tmp 20) (.tmp 21),none⟩])
 (.seq (.region [⟨(some 23),.mv (.tmp 6),none⟩,⟨(some 24),.call 373 [(.tmp 23)],none⟩])
 (.seq (.region [⟨(some 25),.mv (.tmp 6),none⟩,⟨(some 4),.mv (.tmp 25),none⟩])
 .ret))))))⟩
theorem k311 : compFn Tryz.prog Tryz.f311 = some c311 := by kernel_rfl
-- croft/links.New
def c312 : AFunc := ⟨[.tmp 4],(.seq (.region [⟨(some 4),.mv (.const (.ptr none)),none⟩])
 (.seq (.region [⟨(some 5),.mv (.tmp 0),none⟩,⟨(some 6),.mv (.tmp 1),none⟩,⟨(some 7),.build [(.ptr none),(.int .u64 0)] [(0,1,(.tmp 5)),(1,1,(.tmp 6))],none⟩,⟨(some 8),.box 2 (.tmp 7),none⟩,⟨(some 4),.mv (.tmp 8),none⟩])
 .ret))⟩
theorem k312 : compFn Tryz.prog Tryz.f312 = some c312 := by kernel_rfl
-- (*croft/slab.Slab).find
def c322 : AFunc := ⟨[.tmp 4,.tmp 5,.cell 6 true 11,.tmp 7],(.seq (.region [⟨(some 4),.mv (.const (.int .i64 0)),none⟩,⟨(some 5),.mv (.const (.int .i64 0)),none⟩,⟨(some 6),.alloc [(.int .i64 0),(.int .i64 0),(.int .i64 0),(.int .i64 0),(.int .i64 0),(.int .i64 0),(.int .i64 0),(.int .u64 0),(.int .u64 0),(.int .u64 0),(.int .u64 0)],none⟩,⟨(some 7),.mv (.const (.bool false)),none⟩])
 (.seq (.region [⟨(some 11),.mv (.tmp 0),none⟩,⟨(some 12),.nilCheck (.tmp 11),none⟩,⟨(some 13),.faddr 0 (.tmp 12),none⟩,⟨(some 14),.loadX false 1 (.tmp 13),none⟩,⟨(some 15),.nilCheck (.tmp 14),none⟩,⟨(some 16),.faddr 0 (.tmp 15),none⟩,⟨(some 17),.call 116 [(.tmp 16)],none⟩,⟨(some 18),.mv (.tmp 0),none⟩,⟨(some 19),.call 324 [(.tmp 18)],none⟩,⟨(some 8),.mv (.tmp 17),none⟩,⟨(some 9),.mv (.tmp 19),none⟩])
 (.seq (.seq (.region [⟨(some 20),.mv (.tmp 1),none⟩,⟨(some 21),.mv (.tmp 9),none⟩,⟨(some 22),.bin .lss (.tmp 20) (.tmp 21),none⟩,⟨(some 23),.mv (.tmp 22),none⟩,⟨(some 24),.mv (.tmp 1),some (23,false)⟩,⟨(some 25),.mv (.tmp 9),some (23,false)⟩,⟨(some 26),.bin .sub (.tmp 24) (.tmp 25),some (23,false)⟩,⟨(some 27),.bin .quo (.tmp 26) (.const (.int .u64 4096)),some (23,false)⟩,⟨(some 28),.mv (.tmp 8),some (23,false)⟩,⟨(some 29),.call 117 [(.tmp 28)],some (23,false)⟩,⟨(some 30),.conv .u64 (.tmp 29),some (23,false)⟩,⟨(some 31),.bin .geq (.tmp 27) (.tmp 30),some (23,false)⟩,⟨(some 32),.pick (.tmp 23) (.const (.bool true)) (.tmp 31),none⟩])
 (.cond (.tmp 32) (.seq (.draw [⟨⟨(some 33),.loadX true 11 (.tmp 6),none⟩,0,0⟩,⟨⟨(some 4),.mv (.const (.int .i64 0)),none⟩,0,0⟩,⟨⟨(some 5),.mv (.const (.int .i64 0)),none⟩,0,0⟩,⟨⟨none,.storeX 11 (.tmp 6) (.tmp 33),none⟩,0,1⟩,⟨⟨(some 7),.mv (.const (.bool false)),none⟩,1,1⟩])
 .ret) .skip))
 (.seq (.region [⟨(some 34),.mv (.tmp 1),none⟩,⟨(some 35),.mv (.tmp 9),none⟩,⟨(some 36),.bin .sub (.tmp 34) (.tmp 35),none⟩,⟨(some 37),.bin .quo (.tmp 36) (.const (.int .u64 4096)),none⟩,⟨(some 38),.conv .i64 (.tmp 37),none⟩,⟨(some 4),.mv (.tmp 38),none⟩])
 (.seq (.region [⟨(some 40),.mv (.tmp 8),none⟩,⟨(some 41),.mv (.tmp 4),none⟩,⟨(some 42),.call 118 [(.tmp 40),(.tmp 41)],none⟩,⟨(some 39),.mv (.tmp 42),none⟩,⟨(some 43),.extract (.tmp 39) 0,none⟩,⟨(some 44),.extract (.tmp 39) 1,none⟩,⟨none,.storeX 11 (.tmp 6) (.tmp 43),none⟩])
 (.seq (.region [⟨(some 45),.mv (.tmp 1),none⟩,⟨(some 46),.mv (.tmp 9),none⟩,⟨(some 47),.bin .sub (.tmp 45) (.tmp 46),none⟩,⟨(some 48),.bin .rem (.tmp 47) (.const (.int .u64 4096)),none⟩,⟨(some 10),.mv (.tmp 48),none⟩])
 (.seq (.seq (.region [⟨(some 49),.faddr 0 (.tmp 6),none⟩,⟨(some 50),.loadX false 1 (.tmp 49),none⟩,⟨(some 51),.bin .neq (.tmp 50) (.const (.int .i64 4)),none⟩,⟨(some 52),.mv (.tmp 51),none⟩,⟨(some 53),.mv (.tmp 10),some (52,false)⟩,⟨(some 54),.faddr 2 (.tmp 6),some (52,false)⟩,⟨(some 55),.loadX false 1 (.tmp 54),some (52,false)⟩,⟨(some 56),.iaddrA 8 1 (.glob 1) (.tmp 55),some (52,false)⟩,⟨(some 57),.loadX false 1 (.tmp 56),some (52,false)⟩,⟨(some 58),.bin .rem (.tmp 53) (.tmp 57),some (52,false)⟩,⟨(some 59),.bin .neq (.tmp 58) (.const (.int .u64 0)),some (52,false)⟩,⟨(some 60),.pick (.tmp 52) (.const (.bool true)) (.tmp 59),none⟩])
 (.cond (.tmp 60) (.seq (.draw [⟨⟨(some 61),.loadX true 11 (.tmp 6),none⟩,0,0⟩,⟨⟨(some 4),.mv (.const (.int .i64 0)),none⟩,0,0⟩,⟨⟨(some 5),.mv (.const (.int .i64 0)),none⟩,0,0⟩,⟨⟨none,.storeX 11 (.tmp 6) (.tmp 61),none⟩,0,1⟩,⟨⟨(some 7),.mv (.const (.bool false)),none⟩,1,1⟩])
 .ret) .skip))
 (.seq (.region [⟨(some 62),.mv (.tmp 10),none⟩,⟨(some 63),.faddr 2 (.tmp 6),none⟩,⟨(some 64),.loadX false 1 (.tmp 63),none⟩,⟨(some 65),.iaddrA 8 1 (.glob 1) (.tmp 64),none⟩,⟨(some 66),.loadX false 1 (.tmp 65),none⟩,⟨(some 67),.bin .quo (.tmp 62) (.tmp 66),none⟩,⟨(some 68),.conv .i64 (.tmp 67),none⟩,⟨(some 5),.mv (.tmp 68),none⟩])
 (.seq (.draw [⟨⟨(some 69),.mv (.tmp 4),none⟩,0,0⟩,⟨⟨(some 70),.mv (.tmp 5),none⟩,0,0⟩,⟨⟨(some 71),.loadX true 11 (.tmp 6),none⟩,0,0⟩,⟨⟨(some 72),.mv (.tmp 5),none⟩,0,0⟩,⟨⟨(some 73),.bin .quo (.tmp 72) (.const (.int .i64 64)),none⟩,0,0⟩,⟨⟨(some 74),.faddr 7 (.tmp 6),none⟩,0,0⟩,⟨⟨(some 75),.iaddrA 4 1 (.tmp 74) (.tmp 73),none⟩,0,0⟩,⟨⟨(some 76),.loadX false 1 (.tmp 75),none⟩,0,0⟩,⟨⟨(some 77),.mv (.tmp 5),none⟩,0,0⟩,⟨⟨(some 78),.bin .rem (.tmp 77) (.const (.int .i64 64)),none⟩,0,1⟩,⟨⟨(some 79),.bin .shr (.tmp 76) (.tmp 78),none⟩,0,1⟩,⟨⟨(some 80),.bin .and (.tmp 79) (.const (.int .u64 1)),none⟩,0,1⟩,⟨⟨(some 81),.bin .eql (.tmp 80) (.const (.int .u64 1)),none⟩,0,1⟩,⟨⟨(some 4),.mv (.tmp 69),none⟩,0,0⟩,⟨⟨(some 5),.mv (.tmp 70),none⟩,0,0⟩,⟨⟨none,.storeX 11 (.tmp 6) (.tmp 71),none⟩,0,1⟩,⟨⟨(some 7),.mv (.tmp 81),none⟩,1,1⟩])
 .ret)))))))))⟩
theorem k322 : compFn Tryz.prog Tryz.f322 = some c322 := by kernel_rfl
-- (*croft/pagemap.Map).Own
def c323 : AFunc := ⟨[.tmp 8],(.seq (.region [⟨(some 8),.mv (.const (.int .i64 0)),none⟩])
 (.seq (.region [⟨(some 12),.mv (.tmp 0),none⟩,⟨(some 13),.mv (.tmp 1),none⟩,⟨(some 14),.call 374 [(.tmp 12),(.tmp 13)],none⟩,⟨(some 11),.mv (.tmp 14),none⟩,⟨(some 15),.extract (.tmp 11) 0,none⟩,⟨(some 16),.extract (.tmp 11) 1,none⟩,⟨(some 9),.mv (.tmp 15),none⟩,⟨(some 10),.mv (.tmp 16),none⟩])
 (.seq (.seq (.region [⟨(some 17),.mv (.tmp 10),none⟩,⟨(some 18),.not (.tmp 17),none⟩,⟨(some 19),.mv (.tmp 18),none⟩,⟨(some 20),.mv (.tmp 2),some (19,false)⟩,⟨(some 21),.mv (.tmp 9),some (19,false)⟩,⟨(some 22),.call 376 [(.tmp 21)],some (19,false)⟩,⟨(some 23),.bin .sub (.tmp 22) (.const (.int .i64 1)),some (19,false)⟩,⟨(some 24),.call 375 [(.tmp 20),(.const (.int .i64 0)),(.tmp 23)],some (19,false)⟩,⟨(some 25),.not (.tmp 24),some (19,false)⟩,⟨(some 26),.pick (.tmp 19) (.const (.bool true)) (.tmp 25),none⟩,⟨(some 27),.mv (.tmp 26),none⟩,⟨(some 28),.mv (.tmp 9),some (27,false)⟩,⟨(some 29),.mv (.tmp 2),some (27,false)⟩,⟨(some 30),.bin .quo (.tmp 29) (.const (.int .i64 64)),some (27,false)⟩,⟨(some 31),.nilCheck (.tmp 28),some (27,false)⟩,⟨(some 32),.faddr 7 (.tmp 31),some (27,false)⟩,⟨(some 33),.iaddrA 4 1 (.tmp 32) (.tmp 30),some (27,false)⟩,⟨(some 34),.loadX false 1 (.tmp 33),some (27,false)⟩,⟨(some 35),.mv (.tmp 2),some (27,false)⟩,⟨(some 36),.bin .rem (.tmp 35) (.const (.int .i64 64)),some (27,false)⟩,⟨(some 37),.bin .shr (.tmp 34) (.tmp 36),some (27,false)⟩,⟨(some 38),.bin .and (.tmp 37) (.const (.int .u64 1)),some (27,false)⟩,⟨(some 39),.bin .eql (.tmp 38) (.const (.int .u64 1)),some (27,false)⟩,⟨(some 40),.mv (.tmp 3),some (27,false)⟩,⟨(some 41),.eq1 false .bool (.tmp 39) (.tmp 40),some (27,false)⟩,⟨(some 42),.pick (.tmp 27) (.const (.bool true)) (.tmp 41),none⟩])
 (.cond (.tmp 42) (.seq (.region [⟨(some 8),.mv (.const (.int .i64 1)),none⟩])
 .ret) .skip))
 (.seq (.draw [⟨⟨(some 43),.mv (.tmp 9),none⟩,0,0⟩,⟨⟨(some 44),.mv (.tmp 2),none⟩,0,0⟩,⟨⟨(some 45),.bin .quo (.tmp 44) (.const (.int .i64 64)),none⟩,0,0⟩,⟨⟨(some 46),.nilCheck (.tmp 43),none⟩,0,0⟩,⟨⟨(some 47),.faddr 7 (.tmp 46),none⟩,0,0⟩,⟨⟨(some 48),.iaddrA 4 1 (.tmp 47) (.tmp 45),none⟩,0,0⟩,⟨⟨(some 49),.loadX false 1 (.tmp 48),none⟩,0,0⟩,⟨⟨(some 50),.mv (.tmp 2),none⟩,0,0⟩,⟨⟨(some 51),.bin .rem (.tmp 50) (.const (.int .i64 64)),none⟩,0,0⟩,⟨⟨(some 52),.bin .shl (.const (.int .u64 1)) (.tmp 51),none⟩,0,0⟩,⟨⟨(some 53),.bin .xor (.tmp 49) (.tmp 52),none⟩,0,0⟩,⟨⟨(some 54),.nilCheck (.tmp 43),none⟩,0,0⟩,⟨⟨(some 55),.faddr 7 (.tmp 54),none⟩,0,0⟩,⟨⟨(some 56),.iaddrA 4 1 (.tmp 55) (.tmp 45),none⟩,0,0⟩,⟨⟨none,.storeX 1 (.tmp 56) (.tmp 53),none⟩,0,1⟩])
 (.seq (.seq (.region [⟨(some 57),.mv (.tmp 3),none⟩])
 (.cond (.tmp 57) (.region [⟨(some 58),.mv (.tmp 9),none⟩,⟨(some 59),.nilCheck (.tmp 58),none⟩,⟨(some 60),.faddr 3 (.tmp 59),none⟩,⟨(some 61),.loadX false 1 (.tmp 60),none⟩,⟨(some 62),.bin .add (.tmp 61) (.const (.int .i64 1)),none⟩,⟨(some 63),.nilCheck (.tmp 58),none⟩,⟨(some 64),.faddr 3 (.tmp 63),none⟩,⟨none,.storeX 1 (.tmp 64) (.tmp 62),none⟩]) (.region [⟨(some 65),.mv (.tmp 9),none⟩,⟨(some 66),.nilCheck (.tmp 65),none⟩,⟨(some 67),.faddr 3 (.tmp 66),none⟩,⟨(some 68),.loadX false 1 (.tmp 67),none⟩,⟨(some 69),.bin .sub (.tmp 68) (.const (.int .i64 1)),none⟩,⟨(some 70),.nilCheck (.tmp 65),none⟩,⟨(some 71),.faddr 3 (.tmp 70),none⟩,⟨none,.storeX 1 (.tmp 71) (.tmp 69),none⟩])))
 (.seq (.region [⟨(some 8),.mv (.const (.int .i64 0)),none⟩])
 .ret))))))⟩
theorem k323 : compFn Tryz.prog Tryz.f323 = some c323 := by kernel_rfl
-- (*croft/slab.Slab).base
def c324 : AFunc := ⟨[.tmp 2],(.seq (.region [⟨(some 2),.mv (.const (.int .u64 0)),none⟩])
 (.seq (.draw [⟨⟨(some 5),.mv (.tmp 0),none⟩,0,0⟩,⟨⟨(some 6),.nilCheck (.tmp 5),none⟩,0,0⟩,⟨⟨(some 7),.faddr 0 (.tmp 6),none⟩,0,0⟩,⟨⟨(some 8),.loadX false 1 (.tmp 7),none⟩,0,0⟩,⟨⟨(some 9),.nilCheck (.tmp 8),none⟩,0,0⟩,⟨⟨(some 10),.faddr 0 (.tmp 9),none⟩,0,0⟩,⟨⟨(some 11),.call 113 [(.tmp 10)],none⟩,0,1⟩,⟨⟨(some 12),.mv (.tmp 0),none⟩,0,1⟩,⟨⟨(some 13),.nilCheck (.tmp 12),none⟩,0,1⟩,⟨⟨(some 14),.faddr 0 (.tmp 13),none⟩,0,1⟩,⟨⟨(some 15),.loadX false 1 (.tmp 14),none⟩,0,1⟩,⟨⟨(some 16),.nilCheck (.tmp 15),none⟩,0,1⟩,⟨⟨(some 17),.faddr 0 (.tmp 16),none⟩,0,1⟩,⟨⟨(some 18),.call 116 [(.tmp 17)],none⟩,1,2⟩,⟨⟨(some 3),.mv (.tmp 11),none⟩,2,2⟩,⟨⟨(some 4),.mv (.tmp 18),none⟩,2,2⟩])
 (.seq (.region [⟨(some 19),.mv (.tmp 3),none⟩,⟨(some 20),.call 114 [(.tmp 19)],none⟩,⟨(some 21),.mv (.tmp 4),none⟩,⟨(some 22),.call 117 [(.tmp 21)],none⟩,⟨(some 23),.conv .u64 (.tmp 22),none⟩,⟨(some 24),.bin .mul (.const (.int .u64 4096)) (.tmp 23),none⟩,⟨(some 25),.bin .sub (.tmp 20) (.tmp 24),none⟩,⟨(some 2),.mv (.tmp 25),none⟩])
 .ret)))⟩
theorem k324 : compFn Tryz.prog Tryz.f324 = some c324 := by kernel_rfl
-- (*croft/slab.Slab).unhang
def c325 : AFunc := ⟨[],(.seq (.region [⟨(some 13),.mv (.tmp 0),none⟩,⟨(some 14),.nilCheck (.tmp 13),none⟩,⟨(some 15),.faddr 0 (.tmp 14),none⟩,⟨(some 16),.loadX false 1 (.tmp 15),none⟩,⟨(some 17),.nilCheck (.tmp 16),none⟩,⟨(some 18),.faddr 0 (.tmp 17),none⟩,⟨(some 19),.call 116 [(.tmp 18)],none⟩,⟨(some 6),.mv (.tmp 19),none⟩])
 (.seq (.region [⟨(some 21),.mv (.tmp 6),none⟩,⟨(some 22),.mv (.tmp 1),none⟩,⟨(some 23),.call 118 [(.tmp 21),(.tmp 22)],none⟩,⟨(some 20),.mv (.tmp 23),none⟩,⟨(some 24),.extract (.tmp 20) 0,none⟩,⟨(some 25),.extract (.tmp 20) 1,none⟩,⟨(some 7),.alloc [(.int .i64 0),(.int .i64 0),(.int .i64 0),(.int .i64 0),(.int .i64 0),(.int .i64 0),(.int .i64 0),(.int .u64 0),(.int .u64 0),(.int .u64 0),(.int .u64 0)],none⟩,⟨none,.storeX 11 (.tmp 7) (.tmp 24),none⟩,⟨(some 8),.mv (.tmp 25),none⟩])
 (.seq (.seq (.region [⟨(some 26),.faddr 5 (.tmp 7),none⟩,⟨(some 27),.loadX false 1 (.tmp 26),none⟩,⟨(some 28),.bin .geq (.tmp 27) (.const (.int .i64 0)),none⟩])
 (.cond (.tmp 28) (.seq (.region [⟨(some 30),.mv (.tmp 6),none⟩,⟨(some 31),.faddr 5 (.tmp 7),none⟩,⟨(some 32),.loadX false 1 (.tmp 31),none⟩,⟨(some 33),.call 118 [(.tmp 30),(.tmp 32)],none⟩,⟨(some 29),.mv (.tmp 33),none⟩,⟨(some 34),.extract (.tmp 29) 0,none⟩,⟨(some 35),.extract (.tmp 29) 1,none⟩,⟨(some 9),.alloc [(.int .i64 0),(.int .i64 0),(.int .i64 0),(.int .i64 0),(.int .i64 0),(.int .i64 0),(.int .i64 0),(.int .u64 0),(.int .u64 0),(.int .u64 0),(.int .u64 0)],none⟩,⟨none,.storeX 11 (.tmp 9) (.tmp 34),none⟩,⟨(some 10),.mv (.tmp 35),none⟩])
 (.region [⟨(some 36),.mv (.tmp 6),none⟩,⟨(some 37),.faddr 5 (.tmp 7),none⟩,⟨(some 38),.loadX false 1 (.tmp 37),none⟩,⟨(some 39),.faddr 4 (.tmp 7),none⟩,⟨(some 40),.loadX false 1 (.tmp 39),none⟩,⟨(some 41),.faddr 5 (.tmp 9),none⟩,⟨(some 42),.loadX false 1 (.tmp 41),none⟩,⟨(some 43),.call 377 [(.tmp 36),(.tmp 38),(.tmp 40),(.tmp 42)],none⟩])) (.draw [⟨⟨(some 44),.mv (.tmp 0),none⟩,0,0⟩,⟨⟨(some 45),.mv (.tmp 2),none⟩,0,0⟩,⟨⟨(some 46),.faddr 4 (.tmp 7),none⟩,0,0⟩,⟨⟨(some 47),.loadX false 1 (.tmp 46),none⟩,0,0⟩,⟨⟨(some 48),.nilCheck (.tmp 44),none⟩,0,0⟩,⟨⟨(some 49),.faddr 1 (.tmp 48),none⟩,0,0⟩,⟨⟨(some 50),.iaddrA 8 1 (.tmp 49) (.tmp 45),none⟩,0,0⟩,⟨⟨none,.storeX 1 (.tmp 50) (.tmp 47),none⟩,0,1⟩])))
 (.seq (.seq (.region [⟨(some 51),.faddr 4 (.tmp 7),none⟩,⟨(some 52),.loadX false 1 (.tmp 51),none⟩,⟨(some 53),.bin .geq (.tmp 52) (.const (.int .i64 0)),none⟩])
 (.cond (.tmp 53) (.seq (.region [⟨(some 55),.mv (.tmp 6),none⟩,⟨(some 56),.faddr 4 (.tmp 7),none⟩,⟨(some 57),.loadX false 1 (.tmp 56),none⟩,⟨(some 58),.call 118 [(.tmp 55),(.tmp 57)],none⟩,⟨(some 54),.mv (.tmp 58),none⟩,⟨(some 59),.extract (.tmp 54) 0,none⟩,⟨(some 60),.extract (.tmp 54) 1,none⟩,⟨(some 11),.alloc [(.int .i64 0),(.int .i64 0),(.int .i64 0),(.int .i64 0),(.int .i64 0),(.int .i64 0),(.int .i64 0),(.int .u64 0),(.int .u64 0),(.int .u64 0),(.int .u64 0)],none⟩,⟨none,.storeX 11 (.tmp 11) (.tmp 59),none⟩,⟨(some 12),.mv (.tmp 60),none⟩])
 (.region [⟨(some 61),.mv (.tmp 6),none⟩,⟨(some 62),.faddr 4 (.tmp 7),none⟩,⟨(some 63),.loadX false 1 (.tmp 62),none⟩,⟨(some 64),.faddr 4 (.tmp 11),none⟩,⟨(some 65),.loadX false 1 (.tmp 64),none⟩,⟨(some 66),.faddr 5 (.tmp 7),none⟩,⟨(some 67),.loadX false 1 (.tmp 66),none⟩,⟨(some 68),.call 377 [(.tmp 61),(.tmp 63),(.tmp 65),(.tmp 67)],none⟩])) .skip))
 (.region [⟨(some 69),.mv (.tmp 6),none⟩,⟨(some 70),.mv (.tmp 1),none⟩,⟨(some 71),.call 377 [(.tmp 69),(.tmp 70),(.const (.int .i64 (-1))),(.const (.int .i64 (-1)))],none⟩])))))⟩
theorem k325 : compFn Tryz.prog Tryz.f325 = some c325 := by kernel_rfl
-- (*croft/pagemap.Map).Run
def c326 : AFunc := ⟨[.tmp 8],(.seq (.region [⟨(some 8),.mv (.const (.int .i64 0)),none⟩])
 (.seq (.seq (.draw [⟨⟨(some 11),.mv (.tmp 3),none⟩,0,0⟩,⟨⟨(some 12),.bin .neq (.tmp 11) (.const (.int .i64 0)),none⟩,0,0⟩,⟨⟨(some 13),.mv (.tmp 12),none⟩,0,0⟩,⟨⟨(some 14),.mv (.tmp 3),some (13,true)⟩,0,0⟩,⟨⟨(some 15),.bin .neq (.tmp 14) (.const (.int .i64 2)),some (13,true)⟩,0,0⟩,⟨⟨(some 16),.pick (.tmp 13) (.tmp 15) (.const (.bool false)),none⟩,0,0⟩,⟨⟨(some 17),.mv (.tmp 16),none⟩,0,0⟩,⟨⟨(some 18),.mv (.tmp 2),some (17,false)⟩,0,0⟩,⟨⟨(some 19),.mv (.tmp 0),some (17,false)⟩,0,0⟩,⟨⟨(some 20),.nilCheck (.tmp 19),some (17,false)⟩,0,0⟩,⟨⟨(some 21),.faddr 0 (.tmp 20),some (17,false)⟩,0,0⟩,⟨⟨(some 22),.loadX false 1 (.tmp 21),some (17,false)⟩,0,0⟩,⟨⟨(some 23),.call 375 [(.tmp 18),(.const (.int .i64 0)),(.tmp 22)],some (17,false)⟩,0,1⟩,⟨⟨(some 24),.not (.tmp 23),some (17,false)⟩,1,1⟩,⟨⟨(some 25),.pick (.tmp 17) (.const (.bool true)) (.tmp 24),none⟩,1,1⟩,⟨⟨(some 26),.mv (.tmp 25),none⟩,1,1⟩,⟨⟨(some 27),.mv (.tmp 1),some (26,false)⟩,1,1⟩,⟨⟨(some 28),.bin .lss (.tmp 27) (.const (.int .i64 0)),some (26,false)⟩,1,1⟩,⟨⟨(some 29),.pick (.tmp 26) (.const (.bool true)) (.tmp 28),none⟩,1,1⟩,⟨⟨(some 30),.mv (.tmp 29),none⟩,1,1⟩,⟨⟨(some 31),.mv (.tmp 1),some (30,false)⟩,1,1⟩,⟨⟨(some 32),.mv (.tmp 2),some (30,false)⟩,1,1⟩,⟨⟨(some 33),.bin .shl (.const (.int .i64 1)) (.tmp 32),some (30,false)⟩,1,1⟩,⟨⟨(some 34),.bin .rem (.tmp 31) (.tmp 33),some (30,false)⟩,1,1⟩,⟨⟨(some 35),.bin .neq (.tmp 34) (.const (.int .i64 0)),some (30,false)⟩,1,1⟩,⟨⟨(some 36),.pick (.tmp 30) (.const (.bool true)) (.tmp 35),none⟩,1,1⟩,⟨⟨(some 37),.mv (.tmp 36),none⟩,1,1⟩,⟨⟨(some 38),.mv (.tmp 1),some (37,false)⟩,1,1⟩,⟨⟨(some 39),.mv (.tmp 0),some (37,false)⟩,1,1⟩,⟨⟨(some 40),.nilCheck (.tmp 39),some (37,false)⟩,1,1⟩,⟨⟨(some 41),.faddr 1 (.tmp 40),some (37,false)⟩,1,1⟩,⟨⟨(some 42),.loadX false 1 (.tmp 41),some (37,false)⟩,1,1⟩,⟨⟨(some 43),.lenX (.tmp 42),some (37,false)⟩,1,1⟩,⟨⟨(some 44),.mv (.tmp 2),some (37,false)⟩,1,1⟩,⟨⟨(some 45),.bin .shl (.const (.int .i64 1)) (.tmp 44),some (37,false)⟩,1,1⟩,⟨⟨(some 46),.bin .sub (.tmp 43) (.tmp 45),some (37,false)⟩,1,1⟩,⟨⟨(some 47),.bin .gtr (.tmp 38) (.tmp 46),some (37,false)⟩,1,1⟩,⟨⟨(some 48),.pick (.tmp 37) (.const (.bool true)) (.tmp 47),none⟩,1,1⟩])
 (.cond (.tmp 48) (.seq (.region [⟨(some 8),.mv (.const (.int .i64 1)),none⟩])
 .ret) .skip))
 (.seq (.seq (.region [⟨(some 49),.mv (.tmp 2),none⟩,⟨(some 50),.bin .shl (.const (.int .i64 1)) (.tmp 49),none⟩,⟨(some 51),.mv (.const (.int .i64 0)),none⟩])
 (.block 0 (.loop (.seq (.region [⟨(some 52),.bin .lss (.tmp 51) (.tmp 50),none⟩])
 (.seq (.cond (.tmp 52) .skip (.exit 0))
 (.seq (.block 1 (.seq (.region [⟨(some 53),.mv (.tmp 51),none⟩,⟨(some 9),.mv (.tmp 53),none⟩])
 (.seq (.region [⟨(some 54),.mv (.tmp 3),none⟩,⟨(some 55),.mv (.tmp 2),none⟩,⟨(some 56),.call 378 [(.tmp 54),(.tmp 55)],none⟩,⟨(some 10),.alloc [(.int .i64 0),(.int .i64 0),(.int .i64 0),(.int .i64 0),(.int .i64 0),(.int .i64 0),(.int .i64 0),(.int .u64 0),(.int .u64 0),(.int .u64 0),(.int .u64 0)],none⟩,⟨none,.storeX 11 (.tmp 10) (.tmp 56),none⟩])
 (.seq (.seq (.region [⟨(some 57),.mv (.tmp 9),none⟩,⟨(some 58),.bin .gtr (.tmp 57) (.const (.int .i64 0)),none⟩])
 (.cond (.tmp 58) (.region [⟨(some 59),.faddr 0 (.tmp 10),none⟩,⟨(some 60),.loadX false 1 (.tmp 59),none⟩,⟨(some 61),.bin .add (.tmp 60) (.const (.int .i64 1)),none⟩,⟨(some 62),.faddr 0 (.tmp 10),none⟩,⟨none,.storeX 1 (.tmp 62) (.tmp 61),none⟩]) .skip))
 (.seq (.draw [⟨⟨(some 63),.mv (.tmp 0),none⟩,0,0⟩,⟨⟨(some 64),.nilCheck (.tmp 63),none⟩,0,0⟩,⟨⟨(some 65),.faddr 1 (.tmp 64),none⟩,0,0⟩,⟨⟨(some 66),.loadX false 1 (.tmp 65),none⟩,0,0⟩,⟨⟨(some 67),.mv (.tmp 1),none⟩,0,0⟩,⟨⟨(some 68),.mv (.tmp 9),none⟩,0,0⟩,⟨⟨(some 69),.bin .add (.tmp 67) (.tmp 68),none⟩,0,0⟩,⟨⟨(some 70),.iaddrX 11 (.tmp 66) (.tmp 69),none⟩,0,0⟩,⟨⟨(some 71),.loadX true 11 (.tmp 70),none⟩,0,0⟩,⟨⟨(some 72),.loadX true 11 (.tmp 10),none⟩,0,0⟩,⟨⟨(some 73),.eqs true [true,true,true,true,true,true,true,true,true,true,true] (.tmp 71) (.tmp 72),none⟩,0,0⟩])
 (.cond (.tmp 73) (.draw [⟨⟨(some 74),.mv (.tmp 0),none⟩,0,0⟩,⟨⟨(some 75),.nilCheck (.tmp 74),none⟩,0,0⟩,⟨⟨(some 76),.faddr 1 (.tmp 75),none⟩,0,0⟩,⟨⟨(some 77),.loadX false 1 (.tmp 76),none⟩,0,0⟩,⟨⟨(some 78),.mv (.tmp 1),none⟩,0,0⟩,⟨⟨(some 79),.mv (.tmp 9),none⟩,0,0⟩,⟨⟨(some 80),.bin .add (.tmp 78) (.tmp 79),none⟩,0,0⟩,⟨⟨(some 81),.loadX true 11 (.tmp 10),none⟩,0,0⟩,⟨⟨(some 82),.iaddrX 11 (.tmp 77) (.tmp 80),none⟩,0,0⟩,⟨⟨none,.storeX 11 (.tmp 82) (.tmp 81),none⟩,0,1⟩]) .skip))))))
 (.region [⟨(some 83),.bin .add (.tmp 51) (.const (.int .i64 1)),none⟩,⟨(some 51),.mv (.tmp 83),none⟩])))))))
 (.seq (.region [⟨(some 8),.mv (.const (.int .i64 0)),none⟩])
 .ret))))⟩
theorem k326 : compFn Tryz.prog Tryz.f326 = some c326 := by kernel_rfl
-- (*croft/slab.Slab).hang
def c327 : AFunc := ⟨[],(.seq (.draw [⟨⟨(some 10),.mv (.tmp 0),none⟩,0,0⟩,⟨⟨(some 11),.nilCheck (.tmp 10),none⟩,0,0⟩,⟨⟨(some 12),.faddr 0 (.tmp 11),none⟩,0,0⟩,⟨⟨(some 13),.loadX false 1 (.tmp 12),none⟩,0,0⟩,⟨⟨(some 14),.nilCheck (.tmp 13),none⟩,0,0⟩,⟨⟨(some 15),.faddr 0 (.tmp 14),none⟩,0,0⟩,⟨⟨(some 16),.call 116 [(.tmp 15)],none⟩,0,1⟩,⟨⟨(some 17),.mv (.tmp 0),none⟩,0,1⟩,⟨⟨(some 18),.mv (.tmp 2),none⟩,0,1⟩,⟨⟨(some 19),.nilCheck (.tmp 17),none⟩,0,1⟩,⟨⟨(some 20),.faddr 1 (.tmp 19),none⟩,0,1⟩,⟨⟨(some 21),.iaddrA 8 1 (.tmp 20) (.tmp 18),none⟩,0,1⟩,⟨⟨(some 22),.loadX false 1 (.tmp 21),none⟩,0,1⟩,⟨⟨(some 6),.mv (.tmp 16),none⟩,1,1⟩,⟨⟨(some 7),.mv (.tmp 22),none⟩,1,1⟩])
 (.seq (.region [⟨(some 23),.mv (.tmp 6),none⟩,⟨(some 24),.mv (.tmp 1),none⟩,⟨(some 25),.mv (.tmp 7),none⟩,⟨(some 26),.call 377 [(.tmp 23),(.tmp 24),(.tmp 25),(.const (.int .i64 (-1)))],none⟩])
 (.seq (.seq (.region [⟨(some 27),.mv (.tmp 7),none⟩,⟨(some 28),.bin .geq (.tmp 27) (.const (.int .i64 0)),none⟩])
 (.cond (.tmp 28) (.seq (.region [⟨(some 30),.mv (.tmp 6),none⟩,⟨(some 31),.mv (.tmp 7),none⟩,⟨(some 32),.call 118 [(.tmp 30),(.tmp 31)],none⟩,⟨(some 29),.mv (.tmp 32),none⟩,⟨(some 33),.extract (.tmp 29) 0,none⟩,⟨(some 34),.extract (.tmp 29) 1,none⟩,⟨(some 8),.alloc [(.int .i64 0),(.int .i64 0),(.int .i64 0),(.int .i64 0),(.int .i64 0),(.int .i64 0),(.int .i64 0),(.int .u64 0),(.int .u64 0),(.int .u64 0),(.int .u64 0)],none⟩,⟨none,.storeX 11 (.tmp 8) (.tmp 33),none⟩,⟨(some 9),.mv (.tmp 34),none⟩])
 (.region [⟨(some 35),.mv (.tmp 6),none⟩,⟨(some 36),.mv (.tmp 7),none⟩,⟨(some 37),.faddr 4 (.tmp 8),none⟩,⟨(some 38),.loadX false 1 (.tmp 37),none⟩,⟨(some 39),.mv (.tmp 1),none⟩,⟨(some 40),.call 377 [(.tmp 35),(.tmp 36),(.tmp 38),(.tmp 39)],none⟩])) .skip))
 (.region [⟨(some 41),.mv (.tmp 0),none⟩,⟨(some 42),.mv (.tmp 2),none⟩,⟨(some 43),.mv (.tmp 1),none⟩,⟨(some 44),.nilCheck (.tmp 41),none⟩,⟨(some 45),.faddr 1 (.tmp 44),none⟩,⟨(some 46),.iaddrA 8 1 (.tmp 45) (.tmp 42),none⟩,⟨none,.storeX 1 (.tmp 46) (.tmp 43),none⟩]))))⟩
theorem k327 : compFn Tryz.prog Tryz.f327 = some c327 := by kernel_rfl
-- (*croft/pagemap.Map).First
def c328 : AFunc := ⟨[.tmp 6],(.seq (.region [⟨(some 6),.mv (.const (.int .i64 0)),none⟩])
 (.seq (.region [⟨(some 10),.mv (.tmp 0),none⟩,⟨(some 11),.mv (.tmp 1),none⟩,⟨(some 12),.call 374 [(.tmp 10),(.tmp 11)],none⟩,⟨(some 9),.mv (.tmp 12),none⟩,⟨(some 13),.extract (.tmp 9) 0,none⟩,⟨(some 14),.extract (.tmp 9) 1,none⟩,⟨(some 7),.mv (.tmp 13),none⟩,⟨(some 8),.mv (.tmp 14),none⟩])
 (.seq (.seq (.region [⟨(some 15),.mv (.tmp 8),none⟩,⟨(some 16),.not (.tmp 15),none⟩,⟨(some 17),.mv (.tmp 16),none⟩,⟨(some 18),.mv (.tmp 2),some (17,false)⟩,⟨(some 19),.mv (.tmp 7),some (17,false)⟩,⟨(some 20),.call 376 [(.tmp 19)],some (17,false)⟩,⟨(some 21),.bin .sub (.tmp 20) (.const (.int .i64 1)),some (17,false)⟩,⟨(some 22),.call 375 [(.tmp 18),(.const (.int .i64 (-1))),(.tmp 21)],some (17,false)⟩,⟨(some 23),.not (.tmp 22),some (17,false)⟩,⟨(some 24),.pick (.tmp 17) (.const (.bool true)) (.tmp 23),none⟩])
 (.cond (.tmp 24) (.seq (.region [⟨(some 6),.mv (.const (.int .i64 1)),none⟩])
 .ret) .skip))
 (.seq (.region [⟨(some 25),.mv (.tmp 7),none⟩,⟨(some 26),.mv (.tmp 2),none⟩,⟨(some 27),.nilCheck (.tmp 25),none⟩,⟨(some 28),.faddr 6 (.tmp 27),none⟩,⟨none,.storeX 1 (.tmp 28) (.tmp 26),none⟩])
 (.seq (.region [⟨(some 6),.mv (.const (.int .i64 0)),none⟩])
 .ret)))))⟩
theorem k328 : compFn Tryz.prog Tryz.f328 = some c328 := by kernel_rfl
-- (*croft/buddy.Buddy).Give
def c329 : AFunc := ⟨[.tmp 6],(.seq (.region [⟨(some 6),.mv (.const (.int .i64 0)),none⟩])
 (.scope (.seq (.region [⟨(some 12),.mv (.tmp 0),none⟩,⟨(some 13),.mv (.tmp 1),none⟩,⟨(some 14),.mv (.tmp 2),none⟩,⟨(some 15),.call 305 [(.tmp 12),(.tmp 13),(.tmp 14)],none⟩,⟨(some 11),.mv (.tmp 15),none⟩,⟨(some 16),.extract (.tmp 11) 0,none⟩,⟨(some 17),.extract (.tmp 11) 1,none⟩,⟨(some 7),.mv (.tmp 16),none⟩,⟨(some 8),.mv (.tmp 17),none⟩])
 (.seq (.seq (.region [⟨(some 18),.mv (.tmp 8),none⟩,⟨(some 19),.not (.tmp 18),none⟩])
 (.cond (.tmp 19) (.seq (.region [⟨(some 6),.mv (.const (.int .i64 1)),none⟩])
 .ret) .skip))
 (.seq (.region [⟨(some 20),.mv (.tmp 2),none⟩,⟨(some 9),.mv (.tmp 20),none⟩])
 (.seq (.label 0)
 (.seq (.seq (.region [⟨(some 21),.mv (.tmp 0),none⟩,⟨(some 22),.mv (.tmp 7),none⟩,⟨(some 23),.mv (.tmp 9),none⟩,⟨(some 24),.call 366 [(.tmp 21),(.tmp 22),(.tmp 23)],none⟩,⟨(some 25),.not (.tmp 24),none⟩])
 (.cond (.tmp 25) (.seq (.seq (.draw [⟨⟨(some 26),.mv (.tmp 0),none⟩,0,1⟩,⟨⟨(some 27),.nilCheck (.tmp 26),none⟩,0,1⟩,⟨⟨(some 28),.faddr 5 (.tmp 27),none⟩,0,1⟩,⟨⟨(some 29),.loadX false 1 (.tmp 28),none⟩,0,1⟩,⟨⟨(some 30),.mv (.tmp 9),none⟩,0,1⟩,⟨⟨(some 31),.iaddrX 1 (.tmp 29) (.tmp 30),none⟩,0,1⟩,⟨⟨(some 32),.loadX false 1 (.tmp 31),none⟩,0,1⟩,⟨⟨(some 33),.mv (.tmp 0),none⟩,0,0⟩,⟨⟨(some 34),.mv (.tmp 7),none⟩,0,0⟩,⟨⟨(some 35),.mv (.tmp 9),none⟩,0,0⟩,⟨⟨(some 36),.bin .shl (.const (.int .i64 1)) (.tmp 35),none⟩,0,0⟩,⟨⟨(some 37),.bin .xor (.tmp 34) (.tmp 36),none⟩,0,0⟩,⟨⟨(some 38),.call 380 [(.tmp 33),(.tmp 37)],none⟩,0,1⟩,⟨⟨(some 39),.call 379 [(.tmp 32),(.tmp 38)],none⟩,1,2⟩,⟨⟨(some 10),.mv (.tmp 39),none⟩,2,2⟩])
 (.seq (.region [⟨(some 40),.mv (.tmp 10),none⟩,⟨(some 41),.bin .neq (.tmp 40) (.const (.int .i64 0)),none⟩])
 (.cond (.tmp 41) (.seq (.region [⟨(some 42),.mv (.tmp 10),none⟩,⟨(some 6),.mv (.tmp 42),none⟩])
 .ret) .skip)))
 (.seq (.region [⟨(some 43),.mv (.tmp 7),none⟩,⟨(some 44),.mv (.tmp 9),none⟩,⟨(some 45),.bin .shl (.const (.int .i64 1)) (.tmp 44),none⟩,⟨(some 46),.bin .andNot (.tmp 43) (.tmp 45),none⟩,⟨(some 7),.mv (.tmp 46),none⟩])
 (.seq (.region [⟨(some 47),.mv (.tmp 9),none⟩,⟨(some 48),.bin .add (.tmp 47) (.const (.int .i64 1)),none⟩,⟨(some 9),.mv (.tmp 48),none⟩])
 (.goto 0)))) .skip))
 (.seq (.region [⟨(some 49),.mv (.tmp 0),none⟩,⟨(some 50),.mv (.tmp 7),none⟩,⟨(some 51),.mv (.tmp 9),none⟩,⟨(some 52),.call 365 [(.tmp 49),(.tmp 50),(.tmp 51)],none⟩])
 (.seq (.region [⟨(some 6),.mv (.const (.int .i64 0)),none⟩])
 .ret)))))))))⟩
theorem k329 : compFn Tryz.prog Tryz.f329 = some c329 := by kernel_rfl
-- slices.siftDownCmpFunc[uint64]
def c333 : AFunc := ⟨[],(.seq (.region [⟨(some 12),.mv (.tmp 1),none⟩,⟨(some 10),.mv (.tmp 12),none⟩])
 (.block 0 (.loop (.block 1 (.seq (.region [⟨(some 13),.mv (.tmp 10),none⟩,⟨(some 14),.bin .mul (.const (.int .i64 2)) (.tmp 13),none⟩,⟨(some 15),.bin .add (.tmp 14) (.const (.int .i64 1)),none⟩,⟨(some 11),.mv (.tmp 15),none⟩])
 (.seq (.seq (.region [⟨(some 16),.mv (.tmp 11),none⟩,⟨(some 17),.mv (.tmp 2),none⟩,⟨(some 18),.bin .geq (.tmp 16) (.tmp 17),none⟩])
 (.cond (.tmp 18) (.exit 0) .skip))
 (.seq (.seq (.draw [⟨⟨(some 19),.mv (.tmp 11),none⟩,0,0⟩,⟨⟨(some 20),.bin .add (.tmp 19) (.const (.int .i64 1)),none⟩,0,0⟩,⟨⟨(some 21),.mv (.tmp 2),none⟩,0,0⟩,⟨⟨(some 22),.bin .lss (.tmp 20) (.tmp 21),none⟩,0,0⟩,⟨⟨(some 23),.mv (.tmp 22),none⟩,0,0⟩,⟨⟨(some 24),.mv (.tmp 4),some (23,true)⟩,0,0⟩,⟨⟨(some 25),.mv (.tmp 0),some (23,true)⟩,0,0⟩,⟨⟨(some 26),.mv (.tmp 3),some (23,true)⟩,0,0⟩,⟨⟨(some 27),.mv (.tmp 11),some (23,true)⟩,0,0⟩,⟨⟨(some 28),.bin .add (.tmp 26) (.tmp 27),some (23,true)⟩,0,0⟩,⟨⟨(some 29),.iaddrX 1 (.tmp 25) (.tmp 28),some (23,true)⟩,0,0⟩,⟨⟨(some 30),.loadX false 1 (.tmp 29),some (23,true)⟩,0,0⟩,⟨⟨(some 31),.mv (.tmp 0),some (23,true)⟩,0,0⟩,⟨⟨(some 32),.mv (.tmp 3),some (23,true)⟩,0,0⟩,⟨⟨(some 33),.mv (.tmp 11),some (23,true)⟩,0,0⟩,⟨⟨(some 34),.bin .add (.tmp 32) (.tmp 33),some (23,true)⟩,0,0⟩,⟨⟨(some 35),.bin .add (.tmp 34) (.const (.int .i64 1)),some (23,true)⟩,0,0⟩,⟨⟨(some 36),.iaddrX 1 (.tmp 31) (.tmp 35),some (23,true)⟩,0,0⟩,⟨⟨(some 37),.loadX false 1 (.tmp 36),some (23,true)⟩,0,0⟩,⟨⟨(some 38),.callv (.tmp 24) [(.tmp 30),(.tmp 37)],some (23,true)⟩,0,1⟩,⟨⟨(some 39),.bin .lss (.tmp 38) (.const (.int .i64 0)),some (23,true)⟩,1,1⟩,⟨⟨(some 40),.pick (.tmp 23) (.tmp 39) (.const (.bool false)),none⟩,1,1⟩])
 (.cond (.tmp 40) (.region [⟨(some 41),.mv (.tmp 11),none⟩,⟨(some 42),.bin .add (.tmp 41) (.const (.int .i64 1)),none⟩,⟨(some 11),.mv (.tmp 42),none⟩]) .skip))
 (.seq (.seq (.draw [⟨⟨(some 43),.mv (.tmp 4),none⟩,0,0⟩,⟨⟨(some 44),.mv (.tmp 0),none⟩,0,0⟩,⟨⟨(some 45),.mv (.tmp 3),none⟩,0,0⟩,⟨⟨(some 46),.mv (.tmp 10),none⟩,0,0⟩,⟨⟨(some 47),.bin .add (.tmp 45) (.tmp 46),none⟩,0,0⟩,⟨⟨(some 48),.iaddrX 1 (.tmp 44) (.tmp 47),none⟩,0,0⟩,⟨⟨(some 49),.loadX false 1 (.tmp 48),none⟩,0,0⟩,⟨⟨(some 50),.mv (.tmp 0),none⟩,0,0⟩,⟨⟨(some 51),.mv (.tmp 3),none⟩,0,0⟩,⟨⟨(some 52),.mv (.tmp 11),none⟩,0,0⟩,⟨⟨(some 53),.bin .add (.tmp 51) (.tmp 52),none⟩,0,0⟩,⟨⟨(some 54),.iaddrX 1 (.tmp 50) (.tmp 53),none⟩,0,0⟩,⟨⟨(some 55),.loadX false 1 (.tmp 54),none⟩,0,0⟩,⟨⟨(some 56),.callv (.tmp 43) [(.tmp 49),(.tmp 55)],none⟩,0,1⟩,⟨⟨(some 57),.bin .lss (.tmp 56) (.const (.int .i64 0)),none⟩,1,1⟩,⟨⟨(some 58),.not (.tmp 57),none⟩,1,1⟩])
 (.cond (.tmp 58) .ret .skip))
 (.seq (.draw [⟨⟨(some 59),.mv (.tmp 0),none⟩,0,0⟩,⟨⟨(some 60),.mv (.tmp 3),none⟩,0,0⟩,⟨⟨(some 61),.mv (.tmp 10),none⟩,0,0⟩,⟨⟨(some 62),.bin .add (.tmp 60) (.tmp 61),none⟩,0,0⟩,⟨⟨(some 63),.mv (.tmp 0),none⟩,0,1⟩,⟨⟨(some 64),.mv (.tmp 3),none⟩,0,1⟩,⟨⟨(some 65),.mv (.tmp 11),none⟩,0,1⟩,⟨⟨(some 66),.bin .add (.tmp 64) (.tmp 65),none⟩,0,1⟩,⟨⟨(some 67),.mv (.tmp 0),none⟩,0,0⟩,⟨⟨(some 68),.mv (.tmp 3),none⟩,0,0⟩,⟨⟨(some 69),.mv (.tmp 11),none⟩,0,0⟩,⟨⟨(some 70),.bin .add (.tmp 68) (.tmp 69),none⟩,0,0⟩,⟨⟨(some 71),.iaddrX 1 (.tmp 67) (.tmp 70),none⟩,0,0⟩,⟨⟨(some 72),.loadX false 1 (.tmp 71),none⟩,0,0⟩,⟨⟨(some 73),.mv (.tmp 0),none⟩,0,0⟩,⟨⟨(some 74),.mv (.tmp 3),none⟩,0,0⟩,⟨⟨(some 75),.mv (.tmp 10),none⟩,0,0⟩,⟨⟨(some 76),.bin .add (.tmp 74) (.tmp 75),none⟩,0,0⟩,⟨⟨(some 77),.iaddrX 1 (.tmp 73) (.tmp 76),none⟩,0,0⟩,⟨⟨(some 78),.loadX false 1 (.tmp 77),none⟩,0,0⟩,⟨⟨(some 79),.iaddrX 1 (.tmp 59) (.tmp 62),none⟩,0,0⟩,⟨⟨none,.storeX 1 (.tmp 79) (.tmp 72),none⟩,0,1⟩,⟨⟨(some 80),.iaddrX 1 (.tmp 63) (.tmp 66),none⟩,1,1⟩,⟨⟨none,.storeX 1 (.tmp 80) (.tmp 78),none⟩,1,2⟩])
 (.region [⟨(some 81),.mv (.tmp 11),none⟩,⟨(some 10),.mv (.tmp 81),none⟩]))))))))))⟩
theorem k333 : compFn Tryz.prog Tryz.f333 = some c333 := by kernel_rfl
-- slices.nextPowerOfTwo
def c334 : AFunc := ⟨[.tmp 2],(.seq (.region [⟨(some 2),.mv (.const (.int .u64 0)),none⟩])
 (.seq (.region [⟨(some 3),.mv (.tmp 0),none⟩,⟨(some 4),.conv .u64 (.tmp 3),none⟩,⟨(some 5),.call 242 [(.tmp 4)],none⟩,⟨(some 6),.bin .shl (.const (.int .u64 1)) (.tmp 5),none⟩,⟨(some 2),.mv (.tmp 6),none⟩])
 .ret))⟩
theorem k334 : compFn Tryz.prog Tryz.f334 = some c334 := by kernel_rfl
-- (*slices.xorshift).Next
def c335 : AFunc := ⟨[.tmp 2],(.seq (.region [⟨(some 2),.mv (.const (.int .u64 0)),none⟩])
 (.seq (.draw [⟨⟨(some 3),.mv (.tmp 0),none⟩,0,0⟩,⟨⟨(some 4),.nilCheck (.tmp 3),none⟩,0,0⟩,⟨⟨(some 5),.loadX false 1 (.tmp 4),none⟩,0,0⟩,⟨⟨(some 6),.mv (.tmp 0),none⟩,0,0⟩,⟨⟨(some 7),.nilCheck (.tmp 6),none⟩,0,0⟩,⟨⟨(some 8),.loadX false 1 (.tmp 7),none⟩,0,0⟩,⟨⟨(some 9),.bin .shl (.tmp 8) (.const (.int .u64 13)),none⟩,0,0⟩,⟨⟨(some 10),.bin .xor (.tmp 5) (.tmp 9),none⟩,0,0⟩,⟨⟨(some 11),.nilCheck (.tmp 3),none⟩,0,0⟩,⟨⟨none,.storeX 1 (.tmp 11) (.tmp 10),none⟩,0,1⟩])
 (.seq (.draw [⟨⟨(some 12),.mv (.tmp 0),none⟩,0,0⟩,⟨⟨(some 13),.nilCheck (.tmp 12),none⟩,0,0⟩,⟨⟨(some 14),.loadX false 1 (.tmp 13),none⟩,0,0⟩,⟨⟨(some 15),.mv (.tmp 0),none⟩,0,0⟩,⟨⟨(some 16),.nilCheck (.tmp 15),none⟩,0,0⟩,⟨⟨(some 17),.loadX false 1 (.tmp 16),none⟩,0,0⟩,⟨⟨(some 18),.bin .shr (.tmp 17) (.const (.int .u64 7)),none⟩,0,0⟩,⟨⟨(some 19),.bin .xor (.tmp 14) (.tmp 18),none⟩,0,0⟩,⟨⟨(some 20),.nilCheck (.tmp 12),none⟩,0,0⟩,⟨⟨none,.storeX 1 (.tmp 20) (.tmp 19),none⟩,0,1⟩])
 (.seq (.draw [⟨⟨(some 21),.mv (.tmp 0),none⟩,0,0⟩,⟨⟨(some 22),.nilCheck (.tmp 21),none⟩,0,0⟩,⟨⟨(some 23),.loadX false 1 (.tmp 22),none⟩,0,0⟩,⟨⟨(some 24),.mv (.tmp 0),none⟩,0,0⟩,⟨⟨(some 25),.nilCheck (.tmp 24),none⟩,0,0⟩,⟨⟨(some 26),.loadX false 1 (.tmp 25),none⟩,0,0⟩,⟨⟨(some 27),.bin .shl (.tmp 26) (.const (.int .u64 17)),none⟩,0,0⟩,⟨⟨(some 28),.bin .xor (.tmp 23) (.tmp 27),none⟩,0,0⟩,⟨⟨(some 29),.nilCheck (.tmp 21),none⟩,0,0⟩,⟨⟨none,.storeX 1 (.tmp 29) (.tmp 28),none⟩,0,1⟩])
 (.seq (.region [⟨(some 30),.mv (.tmp 0),none⟩,⟨(some 31),.nilCheck (.tmp 30),none⟩,⟨(some 32),.loadX false 1 (.tmp 31),none⟩,⟨(some 2),.mv (.tmp 32),none⟩])
 .ret)))))⟩
theorem k335 : compFn Tryz.prog Tryz.f335 = some c335 := by kernel_rfl
-- slices.medianAdjacentCmpFunc[uint64]
def c336 : AFunc := ⟨[.tmp 8],(.seq (.region [⟨(some 8),.mv (.const (.int .i64 0)),none⟩])
 (.seq (.region [⟨(some 9),.mv (.tmp 0),none⟩,⟨(some 10),.mv (.tmp 1),none⟩,⟨(some 11),.bin .sub (.tmp 10) (.const (.int .i64 1)),none⟩,⟨(some 12),.mv (.tmp 1),none⟩,⟨(some 13),.mv (.tmp 1),none⟩,⟨(some 14),.bin .add (.tmp 13) (.const (.int .i64 1)),none⟩,⟨(some 15),.mv (.tmp 2),none⟩,⟨(some 16),.mv (.tmp 3),none⟩,⟨(some 17),.call 337 [(.tmp 9),(.tmp 11),(.tmp 12),(.tmp 14),(.tmp 15),(.tmp 16)],none⟩,⟨(some 8),.mv (.tmp 17),none⟩])
 .ret))⟩
theorem k336 : compFn Tryz.prog Tryz.f336 = some c336 := by kernel_rfl
-- slices.medianCmpFunc[uint64]
def c337 : AFunc := ⟨[.tmp 12],(.seq (.region [⟨(some 12),.mv (.const (.int .i64 0)),none⟩])
 (.seq (.region [⟨(some 14),.mv (.tmp 0),none⟩,⟨(some 15),.mv (.tmp 1),none⟩,⟨(some 16),.mv (.tmp 2),none⟩,⟨(some 17),.mv (.tmp 4),none⟩,⟨(some 18),.mv (.tmp 5),none⟩,⟨(some 19),.call 382 [(.tmp 14),(.tmp 15),(.tmp 16),(.tmp 17),(.tmp 18)],none⟩,⟨(some 13),.mv (.tmp 19),none⟩,⟨(some 20),.extract (.tmp 13) 0,none⟩,⟨(some 21),.extract (.tmp 13) 1,none⟩,⟨(some 1),.mv (.tmp 20),none⟩,⟨(some 2),.mv (.tmp 21),none⟩])
 (.seq (.region [⟨(some 23),.mv (.tmp 0),none⟩,⟨(some 24),.mv (.tmp 2),none⟩,⟨(some 25),.mv (.tmp 3),none⟩,⟨(some 26),.mv (.tmp 4),none⟩,⟨(some 27),.mv (.tmp 5),none⟩,⟨(some 28),.call 382 [(.tmp 23),(.tmp 24),(.tmp 25),(.tmp 26),(.tmp 27)],none⟩,⟨(some 22),.mv (.tmp 28),none⟩,⟨(some 29),.extract (.tmp 22) 0,none⟩,⟨(some 30),.extract (.tmp 22) 1,none⟩,⟨(some 2),.mv (.tmp 29),none⟩,⟨(some 3),.mv (.tmp 30),none⟩])
 (.seq (.region [⟨(some 32),.mv (.tmp 0),none⟩,⟨(some 33),.mv (.tmp 1),none⟩,⟨(some 34),.mv (.tmp 2),none⟩,⟨(some 35),.mv (.tmp 4),none⟩,⟨(some 36),.mv (.tmp 5),none⟩,⟨(some 37),.call 382 [(.tmp 32),(.tmp 33),(.tmp 34),(.tmp 35),(.tmp 36)],none⟩,⟨(some 31),.mv (.tmp 37),none⟩,⟨(some 38),.extract (.tmp 31) 0,none⟩,⟨(some 39),.extract (.tmp 31) 1,none⟩,⟨(some 1),.mv (.tmp 38),none⟩,⟨(some 2),.mv (.tmp 39),none⟩])
 (.seq (.region [⟨(some 40),.mv (.tmp 2),none⟩,⟨(some 12),.mv (.tmp 40),none⟩])
 .ret)))))⟩
theorem k337 : compFn Tryz.prog Tryz.f337 = some c337 := by kernel_rfl
-- (*croft/buddy.Buddy).page
def c364 : AFunc := ⟨[.tmp 4,.tmp 5],(.seq (.region [⟨(some 4),.mv (.const (.int .i64 0)),none⟩,⟨(some 5),.mv (.const (.bool false)),none⟩])
 (.seq (.seq (.draw [⟨⟨(some 6),.mv (.tmp 1),none⟩,0,0⟩,⟨⟨(some 7),.mv (.tmp 0),none⟩,0,0⟩,⟨⟨(some 8),.nilCheck (.tmp 7),none⟩,0,0⟩,⟨⟨(some 9),.faddr 0 (.tmp 8),none⟩,0,0⟩,⟨⟨(some 10),.faddr 0 (.tmp 9),none⟩,0,0⟩,⟨⟨(some 11),.loadX false 1 (.tmp 10),none⟩,0,0⟩,⟨⟨(some 12),.bin .lss (.tmp 6) (.tmp 11),none⟩,0,0⟩,⟨⟨(some 13),.mv (.tmp 12),none⟩,0,0⟩,⟨⟨(some 14),.mv (.tmp 1),some (13,false)⟩,0,0⟩,⟨⟨(some 15),.bin .rem (.tmp 14) (.const (.int .u64 4096)),some (13,false)⟩,0,0⟩,⟨⟨(some 16),.bin .neq (.tmp 15) (.const (.int .u64 0)),some (13,false)⟩,0,0⟩,⟨⟨(some 17),.pick (.tmp 13) (.const (.bool true)) (.tmp 16),none⟩,0,0⟩,⟨⟨(some 18),.mv (.tmp 17),none⟩,0,0⟩,⟨⟨(some 19),.mv (.tmp 1),some (18,false)⟩,0,1⟩,⟨⟨(some 20),.mv (.tmp 0),some (18,false)⟩,0,1⟩,⟨⟨(some 21),.nilCheck (.tmp 20),some (18,false)⟩,0,1⟩,⟨⟨(some 22),.faddr 0 (.tmp 21),some (18,false)⟩,0,1⟩,⟨⟨(some 23),.faddr 0 (.tmp 22),some (18,false)⟩,0,1⟩,⟨⟨(some 24),.loadX false 1 (.tmp 23),some (18,false)⟩,0,1⟩,⟨⟨(some 25),.bin .sub (.tmp 19) (.tmp 24),some (18,false)⟩,0,1⟩,⟨⟨(some 26),.bin .quo (.tmp 25) (.const (.int .u64 4096)),some (18,false)⟩,0,1⟩,⟨⟨(some 27),.mv (.tmp 0),some (18,false)⟩,0,0⟩,⟨⟨(some 28),.nilCheck (.tmp 27),some (18,false)⟩,0,0⟩,⟨⟨(some 29),.faddr 4 (.tmp 28),some (18,false)⟩,0,0⟩,⟨⟨(some 30),.loadX false 1 (.tmp 29),some (18,false)⟩,0,0⟩,⟨⟨(some 31),.call 117 [(.tmp 30)],some (18,false)⟩,0,1⟩,⟨⟨(some 32),.conv .u64 (.tmp 31),some (18,false)⟩,1,1⟩,⟨⟨(some 33),.bin .geq (.tmp 26) (.tmp 32),some (18,false)⟩,1,1⟩,⟨⟨(some 34),.pick (.tmp 18) (.const (.bool true)) (.tmp 33),none⟩,1,1⟩])
 (.cond (.tmp 34) (.seq (.region [⟨(some 4),.mv (.const (.int .i64 0)),none⟩,⟨(some 5),.mv (.const (.bool false)),none⟩])
 .ret) .skip))
 (.seq (.region [⟨(some 35),.mv (.tmp 1),none⟩,⟨(some 36),.mv (.tmp 0),none⟩,⟨(some 37),.nilCheck (.tmp 36),none⟩,⟨(some 38),.faddr 0 (.tmp 37),none⟩,⟨(some 39),.faddr 0 (.tmp 38),none⟩,⟨(some 40),.loadX false 1 (.tmp 39),none⟩,⟨(some 41),.bin .sub (.tmp 35) (.tmp 40),none⟩,⟨(some 42),.bin .quo (.tmp 41) (.const (.int .u64 4096)),none⟩,⟨(some 43),.conv .i64 (.tmp 42),none⟩,⟨(some 4),.mv (.tmp 43),none⟩,⟨(some 5),.mv (.const (.bool true)),none⟩])
 .ret)))⟩
theorem k364 : compFn Tryz.prog Tryz.f364 = some c364 := by kernel_rfl
-- (*croft/buddy.Buddy).enter
def c365 : AFunc := ⟨[],(.seq (.region [⟨(some 6),.mv (.tmp 0),none⟩,⟨(some 7),.nilCheck (.tmp 6),none⟩,⟨(some 8),.faddr 4 (.tmp 7),none⟩,⟨(some 9),.loadX false 1 (.tmp 8),none⟩,⟨(some 10),.mv (.tmp 1),none⟩,⟨(some 11),.mv (.tmp 2),none⟩,⟨(some 12),.call 326 [(.tmp 9),(.tmp 10),(.tmp 11),(.const (.int .i64 0))],none⟩])
 (.draw [⟨⟨(some 13),.mv (.tmp 0),none⟩,0,1⟩,⟨⟨(some 14),.nilCheck (.tmp 13),none⟩,0,1⟩,⟨⟨(some 15),.faddr 5 (.tmp 14),none⟩,0,1⟩,⟨⟨(some 16),.loadX false 1 (.tmp 15),none⟩,0,1⟩,⟨⟨(some 17),.mv (.tmp 2),none⟩,0,1⟩,⟨⟨(some 18),.iaddrX 1 (.tmp 16) (.tmp 17),none⟩,0,1⟩,⟨⟨(some 19),.loadX false 1 (.tmp 18),none⟩,0,1⟩,⟨⟨(some 20),.mv (.tmp 0),none⟩,0,0⟩,⟨⟨(some 21),.mv (.tmp 1),none⟩,0,0⟩,⟨⟨(some 22),.call 380 [(.tmp 20),(.tmp 21)],none⟩,0,1⟩,⟨⟨(some 23),.call 392 [(.tmp 19),(.tmp 22)],none⟩,1,2⟩]))⟩
theorem k365 : compFn Tryz.prog Tryz.f365 = some c365 := by kernel_rfl
-- (*croft/buddy.Buddy).turn
def c366 : AFunc := ⟨[.tmp 6],(.seq (.region [⟨(some 6),.mv (.const (.bool false)),none⟩])
 (.seq (.seq (.region [⟨(some 9),.mv (.tmp 2),none⟩,⟨(some 10),.mv (.tmp 0),none⟩,⟨(some 11),.nilCheck (.tmp 10),none⟩,⟨(some 12),.faddr 0 (.tmp 11),none⟩,⟨(some 13),.faddr 2 (.tmp 12),none⟩,⟨(some 14),.loadX false 1 (.tmp 13),none⟩,⟨(some 15),.bin .eql (.tmp 9) (.tmp 14),none⟩])
 (.cond (.tmp 15) (.seq (.region [⟨(some 6),.mv (.const (.bool true)),none⟩])
 .ret) .skip))
 (.seq (.region [⟨(some 17),.mv (.tmp 0),none⟩,⟨(some 18),.nilCheck (.tmp 17),none⟩,⟨(some 19),.faddr 4 (.tmp 18),none⟩,⟨(some 20),.loadX false 1 (.tmp 19),none⟩,⟨(some 21),.mv (.tmp 2),none⟩,⟨(some 22),.mv (.tmp 1),none⟩,⟨(some 23),.call 393 [(.tmp 20),(.tmp 21),(.tmp 22)],none⟩,⟨(some 16),.mv (.tmp 23),none⟩,⟨(some 24),.extract (.tmp 16) 0,none⟩,⟨(some 25),.extract (.tmp 16) 1,none⟩,⟨(some 7),.mv (.tmp 24),none⟩,⟨(some 8),.mv (.tmp 25),none⟩])
 (.seq (.region [⟨(some 26),.mv (.tmp 7),none⟩,⟨(some 6),.mv (.tmp 26),none⟩])
 .ret))))⟩
theorem k366 : compFn Tryz.prog Tryz.f366 = some c366 := by kernel_rfl
-- (*croft/slab.Slab).born
def c367 : AFunc := ⟨[.tmp 6],(.seq (.region [⟨(some 6),.mv (.const (.int .i64 0)),none⟩])
 (.seq (.draw [⟨⟨(some 13),.mv (.tmp 0),none⟩,0,0⟩,⟨⟨(some 14),.nilCheck (.tmp 13),none⟩,0,0⟩,⟨⟨(some 15),.faddr 0 (.tmp 14),none⟩,0,0⟩,⟨⟨(some 16),.loadX false 1 (.tmp 15),none⟩,0,0⟩,⟨⟨(some 17),.nilCheck (.tmp 16),none⟩,0,0⟩,⟨⟨(some 18),.faddr 0 (.tmp 17),none⟩,0,0⟩,⟨⟨(some 19),.call 116 [(.tmp 18)],none⟩,0,1⟩,⟨⟨(some 20),.mv (.tmp 0),none⟩,0,1⟩,⟨⟨(some 21),.nilCheck (.tmp 20),none⟩,0,1⟩,⟨⟨(some 22),.faddr 0 (.tmp 21),none⟩,0,1⟩,⟨⟨(some 23),.loadX false 1 (.tmp 22),none⟩,0,1⟩,⟨⟨(some 24),.nilCheck (.tmp 23),none⟩,0,1⟩,⟨⟨(some 25),.faddr 0 (.tmp 24),none⟩,0,1⟩,⟨⟨(some 26),.call 113 [(.tmp 25)],none⟩,1,2⟩,⟨⟨(some 7),.mv (.tmp 19),none⟩,2,2⟩,⟨⟨(some 8),.mv (.tmp 26),none⟩,2,2⟩])
 (.seq (.region [⟨(some 27),.mv (.tmp 1),none⟩,⟨(some 28),.mv (.tmp 0),none⟩,⟨(some 29),.call 324 [(.tmp 28)],none⟩,⟨(some 30),.bin .sub (.tmp 27) (.tmp 29),none⟩,⟨(some 31),.bin .quo (.tmp 30) (.const (.int .u64 4096)),none⟩,⟨(some 32),.conv .i64 (.tmp 31),none⟩,⟨(some 9),.mv (.tmp 32),none⟩])
 (.seq (.region [⟨(some 33),.mv (.tmp 7),none⟩,⟨(some 34),.mv (.tmp 9),none⟩,⟨(some 35),.mv (.tmp 2),none⟩,⟨(some 36),.call 394 [(.tmp 33),(.tmp 34),(.tmp 35)],none⟩])
 (.seq (.region [⟨(some 37),.mv (.tmp 2),none⟩,⟨(some 38),.iaddrA 8 1 (.glob 1) (.tmp 37),none⟩,⟨(some 39),.loadX false 1 (.tmp 38),none⟩,⟨(some 40),.bin .quo (.const (.int .u64 4096)) (.tmp 39),none⟩,⟨(some 10),.mv (.tmp 40),none⟩])
 (.seq (.seq (.region [⟨(some 41),.mv (.tmp 10),none⟩,⟨(some 42),.mv (.const (.int .u64 0)),none⟩])
 (.block 0 (.loop (.seq (.region [⟨(some 43),.bin .lss (.tmp 42) (.tmp 41),none⟩])
 (.seq (.cond (.tmp 43) .skip (.exit 0))
 (.seq (.block 1 (.seq (.region [⟨(some 44),.mv (.tmp 42),none⟩,⟨(some 11),.mv (.tmp 44),none⟩])
 (.seq (.region [⟨(some 45),.mv (.tmp 1),none⟩,⟨(some 46),.mv (.tmp 11),none⟩,⟨(some 47),.bin .add (.tmp 46) (.const (.int .u64 1)),none⟩,⟨(some 48),.mv (.tmp 2),none⟩,⟨(some 49),.iaddrA 8 1 (.glob 1) (.tmp 48),none⟩,⟨(some 50),.loadX false 1 (.tmp 49),none⟩,⟨(some 51),.bin .mul (.tmp 47) (.tmp 50),none⟩,⟨(some 52),.bin .add (.tmp 45) (.tmp 51),none⟩,⟨(some 12),.mv (.tmp 52),none⟩])
 (.seq (.seq (.region [⟨(some 53),.mv (.tmp 11),none⟩,⟨(some 54),.bin .add (.tmp 53) (.const (.int .u64 1)),none⟩,⟨(some 55),.mv (.tmp 10),none⟩,⟨(some 56),.bin .eql (.tmp 54) (.tmp 55),none⟩])
 (.cond (.tmp 56) (.region [⟨(some 12),.mv (.const (.int .u64 0)),none⟩]) .skip))
 (.region [⟨(some 57),.mv (.tmp 8),none⟩,⟨(some 58),.mv (.tmp 1),none⟩,⟨(some 59),.mv (.tmp 11),none⟩,⟨(some 60),.mv (.tmp 2),none⟩,⟨(some 61),.iaddrA 8 1 (.glob 1) (.tmp 60),none⟩,⟨(some 62),.loadX false 1 (.tmp 61),none⟩,⟨(some 63),.bin .mul (.tmp 59) (.tmp 62),none⟩,⟨(some 64),.bin .add (.tmp 58) (.tmp 63),none⟩,⟨(some 65),.mv (.tmp 12),none⟩,⟨(some 66),.call 238 [(.tmp 57),(.tmp 64),(.tmp 65)],none⟩])))))
 (.region [⟨(some 67),.bin .add (.tmp 42) (.const (.int .u64 1)),none⟩,⟨(some 42),.mv (.tmp 67),none⟩])))))))
 (.seq (.region [⟨(some 68),.mv (.tmp 7),none⟩,⟨(some 69),.mv (.tmp 9),none⟩,⟨(some 70),.call 328 [(.tmp 68),(.tmp 69),(.const (.int .i64 0))],none⟩])
 (.seq (.region [⟨(some 71),.mv (.tmp 0),none⟩,⟨(some 72),.mv (.tmp 9),none⟩,⟨(some 73),.mv (.tmp 2),none⟩,⟨(some 74),.call 327 [(.tmp 71),(.tmp 72),(.tmp 73)],none⟩])
 (.seq (.region [⟨(some 75),.mv (.tmp 9),none⟩,⟨(some 6),.mv (.tmp 75),none⟩])
 .ret)))))))))⟩
theorem k367 : compFn Tryz.prog Tryz.f367 = some c367 := by kernel_rfl
-- (*croft/buddy.Buddy).Take
def c368 : AFunc := ⟨[.tmp 4,.tmp 5],(.seq (.region [⟨(some 4),.mv (.const (.int .u64 0)),none⟩,⟨(some 5),.mv (.const (.int .i64 0)),none⟩])
 (.seq (.seq (.region [⟨(some 11),.mv (.tmp 1),none⟩,⟨(some 12),.bin .lss (.tmp 11) (.const (.int .i64 0)),none⟩,⟨(some 13),.mv (.tmp 12),none⟩,⟨(some 14),.mv (.tmp 1),some (13,false)⟩,⟨(some 15),.mv (.tmp 0),some (13,false)⟩,⟨(some 16),.nilCheck (.tmp 15),some (13,false)⟩,⟨(some 17),.faddr 0 (.tmp 16),some (13,false)⟩,⟨(some 18),.faddr 2 (.tmp 17),some (13,false)⟩,⟨(some 19),.loadX false 1 (.tmp 18),some (13,false)⟩,⟨(some 20),.bin .gtr (.tmp 14) (.tmp 19),some (13,false)⟩,⟨(some 21),.pick (.tmp 13) (.const (.bool true)) (.tmp 20),none⟩])
 (.cond (.tmp 21) (.seq (.region [⟨(some 4),.mv (.const (.int .u64 0)),none⟩,⟨(some 5),.mv (.const (.int .i64 1)),none⟩])
 .ret) .skip))
 (.seq (.seq (.region [⟨(some 22),.mv (.tmp 1),none⟩,⟨(some 6),.mv (.tmp 22),none⟩])
 (.block 0 (.loop (.seq (.seq (.region [⟨(some 23),.mv (.tmp 6),none⟩,⟨(some 24),.mv (.tmp 0),none⟩,⟨(some 25),.nilCheck (.tmp 24),none⟩,⟨(some 26),.faddr 0 (.tmp 25),none⟩,⟨(some 27),.faddr 2 (.tmp 26),none⟩,⟨(some 28),.loadX false 1 (.tmp 27),none⟩,⟨(some 29),.bin .leq (.tmp 23) (.tmp 28),none⟩])
 (.cond (.tmp 29) .skip (.exit 0)))
 (.seq (.block 1 (.seq (.region [⟨(some 33),.mv (.tmp 0),none⟩,⟨(some 34),.nilCheck (.tmp 33),none⟩,⟨(some 35),.faddr 5 (.tmp 34),none⟩,⟨(some 36),.loadX false 1 (.tmp 35),none⟩,⟨(some 37),.mv (.tmp 6),none⟩,⟨(some 38),.iaddrX 1 (.tmp 36) (.tmp 37),none⟩,⟨(some 39),.loadX false 1 (.tmp 38),none⟩,⟨(some 40),.call 395 [(.tmp 39)],none⟩,⟨(some 32),.mv (.tmp 40),none⟩,⟨(some 41),.extract (.tmp 32) 0,none⟩,⟨(some 42),.extract (.tmp 32) 1,none⟩,⟨(some 7),.mv (.tmp 41),none⟩,⟨(some 8),.mv (.tmp 42),none⟩])
 (.seq (.seq (.region [⟨(some 43),.mv (.tmp 8),none⟩,⟨(some 44),.bin .eql (.tmp 43) (.const (.int .i64 9)),none⟩])
 (.cond (.tmp 44) (.exit 1) .skip))
 (.seq (.region [⟨(some 46),.mv (.tmp 0),none⟩,⟨(some 47),.mv (.tmp 7),none⟩,⟨(some 48),.call 364 [(.tmp 46),(.tmp 47)],none⟩,⟨(some 45),.mv (.tmp 48),none⟩,⟨(some 49),.extract (.tmp 45) 0,none⟩,⟨(some 50),.extract (.tmp 45) 1,none⟩,⟨(some 9),.mv (.tmp 49),none⟩,⟨(some 10),.mv (.tmp 50),none⟩])
 (.seq (.seq (.region [⟨(some 51),.mv (.tmp 8),none⟩,⟨(some 52),.bin .neq (.tmp 51) (.const (.int .i64 0)),none⟩,⟨(some 53),.mv (.tmp 52),none⟩,⟨(some 54),.mv (.tmp 10),some (53,false)⟩,⟨(some 55),.not (.tmp 54),some (53,false)⟩,⟨(some 56),.pick (.tmp 53) (.const (.bool true)) (.tmp 55),none⟩])
 (.cond (.tmp 56) (.seq (.region [⟨(some 4),.mv (.const (.int .u64 0)),none⟩,⟨(some 5),.mv (.const (.int .i64 8)),none⟩])
 .ret) .skip))
 (.seq (.region [⟨(some 57),.mv (.tmp 0),none⟩,⟨(some 58),.mv (.tmp 9),none⟩,⟨(some 59),.mv (.tmp 6),none⟩,⟨(some 60),.call 366 [(.tmp 57),(.tmp 58),(.tmp 59)],none⟩])
 (.seq (.region [⟨(some 61),.mv (.tmp 0),none⟩,⟨(some 62),.mv (.tmp 9),none⟩,⟨(some 63),.mv (.tmp 6),none⟩,⟨(some 64),.mv (.tmp 1),none⟩,⟨(some 65),.call 306 [(.tmp 61),(.tmp 62),(.tmp 63),(.tmp 64)],none⟩])
 (.seq (.region [⟨(some 66),.mv (.tmp 7),none⟩,⟨(some 4),.mv (.tmp 66),none⟩,⟨(some 5),.mv (.const (.int .i64 0)),none⟩])
 .ret))))))))
 (.region [⟨(some 30),.mv (.tmp 6),none⟩,⟨(some 31),.bin .add (.tmp 30) (.const (.int .i64 1)),none⟩,⟨(some 6),.mv (.tmp 31),none⟩]))))))
 (.seq (.region [⟨(some 4),.mv (.const (.int .u64 0)),none⟩,⟨(some 5),.mv (.const (.int .i64 2)),none⟩])
 .ret))))⟩
theorem k368 : compFn Tryz.prog Tryz.f368 = some c368 := by kernel_rfl
-- (*croft/mem.Space).Commit
def c369 : AFunc := ⟨[.tmp 4,.tmp 5],(.seq (.region [⟨(some 4),.mv (.const (.int .u64 0)),none⟩,⟨(some 5),.mv (.const (.int .i64 0)),none⟩])
 (.seq (.seq (.draw [⟨⟨(some 7),.mv (.tmp 1),none⟩,0,0⟩,⟨⟨(some 8),.mv (.tmp 7),none⟩,0,0⟩,⟨⟨(some 9),.mv (.tmp 0),some (8,false)⟩,0,0⟩,⟨⟨(some 10),.nilCheck (.tmp 9),some (8,false)⟩,0,0⟩,⟨⟨(some 11),.faddr 4 (.tmp 10),some (8,false)⟩,0,0⟩,⟨⟨(some 12),.loadX false 1 (.tmp 11),some (8,false)⟩,0,0⟩,⟨⟨(some 13),.lenX (.tmp 12),some (8,false)⟩,0,0⟩,⟨⟨(some 14),.mv (.tmp 0),some (8,false)⟩,0,0⟩,⟨⟨(some 15),.nilCheck (.tmp 14),some (8,false)⟩,0,0⟩,⟨⟨(some 16),.faddr 0 (.tmp 15),some (8,false)⟩,0,0⟩,⟨⟨(some 17),.faddr 1 (.tmp 16),some (8,false)⟩,0,0⟩,⟨⟨(some 18),.loadX false 1 (.tmp 17),some (8,false)⟩,0,0⟩,⟨⟨(some 19),.bin .eql (.tmp 13) (.tmp 18),some (8,false)⟩,0,0⟩,⟨⟨(some 20),.pick (.tmp 8) (.const (.bool true)) (.tmp 19),none⟩,0,0⟩])
 (.cond (.tmp 20) (.seq (.region [⟨(some 4),.mv (.const (.int .u64 0)),none⟩,⟨(some 5),.mv (.const (.int .i64 2)),none⟩])
 .ret) .skip))
 (.seq (.region [⟨(some 21),.mv (.tmp 0),none⟩,⟨(some 22),.call 114 [(.tmp 21)],none⟩,⟨(some 6),.mv (.tmp 22),none⟩])
 (.seq (.draw [⟨⟨(some 23),.mv (.tmp 0),none⟩,0,3⟩,⟨⟨(some 24),.mv (.tmp 0),none⟩,0,2⟩,⟨⟨(some 25),.nilCheck (.tmp 24),none⟩,0,2⟩,⟨⟨(some 26),.faddr 4 (.tmp 25),none⟩,0,2⟩,⟨⟨(some 27),.loadX false 1 (.tmp 26),none⟩,0,2⟩,⟨⟨(some 28),.mv (.tmp 0),none⟩,0,0⟩,⟨⟨(some 29),.nilCheck (.tmp 28),none⟩,0,0⟩,⟨⟨(some 30),.faddr 3 (.tmp 29),none⟩,0,0⟩,⟨⟨(some 31),.loadX false 1 (.tmp 30),none⟩,0,0⟩,⟨⟨(some 32),.makeSlice 1 1 [(.int .u8 0)] (.tmp 31) (.tmp 31),none⟩,0,1⟩,⟨⟨(some 33),.mkSlice 1 1 [(.slice none 0 0)] [(0,1,(.tmp 32))],none⟩,1,2⟩,⟨⟨(some 34),.appendX 1 24 (.tmp 27) (.tmp 33),none⟩,2,3⟩,⟨⟨(some 35),.nilCheck (.tmp 23),none⟩,3,3⟩,⟨⟨(some 36),.faddr 4 (.tmp 35),none⟩,3,3⟩,⟨⟨none,.storeX 1 (.tmp 36) (.tmp 34),none⟩,3,4⟩])
 (.seq (.region [⟨(some 37),.mv (.tmp 6),none⟩,⟨(some 4),.mv (.tmp 37),none⟩,⟨(some 5),.mv (.const (.int .i64 0)),none⟩])
 .ret)))))⟩
theorem k369 : compFn Tryz.prog Tryz.f369 = some c369 := by kernel_rfl
-- (*croft/pagemap.Map).Grow
def c370 : AFunc := ⟨[],(.seq (.region [⟨(some 3),.mv (.tmp 0),none⟩,⟨(some 4),.nilCheck (.tmp 3),none⟩,⟨(some 5),.faddr 1 (.tmp 4),none⟩,⟨(some 6),.loadX false 1 (.tmp 5),none⟩,⟨(some 7),.lenX (.tmp 6),none⟩,⟨(some 2),.mv (.tmp 7),none⟩])
 (.seq (.seq (.region [⟨(some 8),.mv (.tmp 2),none⟩,⟨(some 9),.mv (.tmp 0),none⟩,⟨(some 10),.call 396 [(.tmp 9)],none⟩,⟨(some 11),.bin .add (.tmp 8) (.tmp 10),none⟩,⟨(some 12),.bin .gtr (.tmp 11) (.const (.int .i64 1024)),none⟩])
 (.cond (.tmp 12) .ret .skip))
 (.seq (.draw [⟨⟨(some 13),.mv (.tmp 0),none⟩,0,2⟩,⟨⟨(some 14),.mv (.tmp 0),none⟩,0,1⟩,⟨⟨(some 15),.nilCheck (.tmp 14),none⟩,0,1⟩,⟨⟨(some 16),.faddr 1 (.tmp 15),none⟩,0,1⟩,⟨⟨(some 17),.loadX false 1 (.tmp 16),none⟩,0,1⟩,⟨⟨(some 18),.mv (.tmp 0),none⟩,0,0⟩,⟨⟨(some 19),.call 396 [(.tmp 18)],none⟩,0,1⟩,⟨⟨(some 20),.appendZ 11 88 [(.int .i64 0),(.int .i64 0),(.int .i64 0),(.int .i64 0),(.int .i64 0),(.int .i64 0),(.int .i64 0),(.int .u64 0),(.int .u64 0),(.int .u64 0),(.int .u64 0)] (.tmp 17) (.tmp 19),none⟩,1,2⟩,⟨⟨(some 21),.nilCheck (.tmp 13),none⟩,2,2⟩,⟨⟨(some 22),.faddr 1 (.tmp 21),none⟩,2,2⟩,⟨⟨none,.storeX 1 (.tmp 22) (.tmp 20),none⟩,2,3⟩])
 (.seq (.region [⟨(some 23),.mv (.tmp 0),none⟩,⟨(some 24),.call 397 [(.tmp 23)],none⟩])
 (.region [⟨(some 25),.mv (.tmp 0),none⟩,⟨(some 26),.mv (.tmp 2),none⟩,⟨(some 27),.mv (.tmp 0),none⟩,⟨(some 28),.nilCheck (.tmp 27),none⟩,⟨(some 29),.faddr 0 (.tmp 28),none⟩,⟨(some 30),.loadX false 1 (.tmp 29),none⟩,⟨(some 31),.call 326 [(.tmp 25),(.tmp 26),(.tmp 30),(.const (.int .i64 2))],none⟩])))))⟩
theorem k370 : compFn Tryz.prog Tryz.f370 = some c370 := by kernel_rfl
-- (*croft/buddy.Buddy).Feed
def c371 : AFunc := ⟨[.tmp 2],(.seq (.region [⟨(some 2),.mv (.const (.int .i64 0)),none⟩])
 (.seq (.region [⟨(some 7),.mv (.tmp 0),none⟩,⟨(some 8),.call 398 [(.tmp 7)],none⟩,⟨(some 6),.mv (.tmp 8),none⟩,⟨(some 9),.extract (.tmp 6) 0,none⟩,⟨(some 10),.extract (.tmp 6) 1,none⟩,⟨(some 3),.mv (.tmp 9),none⟩,⟨(some 4),.mv (.tmp 10),none⟩])
 (.seq (.seq (.region [⟨(some 11),.mv (.tmp 4),none⟩,⟨(some 12),.not (.tmp 11),none⟩])
 (.cond (.tmp 12) (.seq (.region [⟨(some 2),.mv (.const (.int .i64 9)),none⟩])
 .ret) .skip))
 (.seq (.draw [⟨⟨(some 13),.mv (.tmp 0),none⟩,0,1⟩,⟨⟨(some 14),.mv (.tmp 0),none⟩,0,0⟩,⟨⟨(some 15),.mv (.tmp 3),none⟩,0,0⟩,⟨⟨(some 16),.call 380 [(.tmp 14),(.tmp 15)],none⟩,0,1⟩,⟨⟨(some 17),.mv (.tmp 0),none⟩,0,1⟩,⟨⟨(some 18),.nilCheck (.tmp 17),none⟩,0,1⟩,⟨⟨(some 19),.faddr 0 (.tmp 18),none⟩,0,1⟩,⟨⟨(some 20),.faddr 2 (.tmp 19),none⟩,0,1⟩,⟨⟨(some 21),.loadX false 1 (.tmp 20),none⟩,0,1⟩,⟨⟨(some 22),.call 329 [(.tmp 13),(.tmp 16),(.tmp 21)],none⟩,1,2⟩,⟨⟨(some 5),.mv (.tmp 22),none⟩,2,2⟩])
 (.seq (.region [⟨(some 23),.mv (.tmp 5),none⟩,⟨(some 24),.bin .eql (.tmp 23) (.const (.int .i64 1)),none⟩])
 (.cond (.tmp 24) (.seq (.region [⟨(some 2),.mv (.const (.int .i64 9)),none⟩])
 .ret) (.seq (.region [⟨(some 25),.mv (.tmp 5),none⟩,⟨(some 2),.mv (.tmp 25),none⟩])
 .ret)))))))⟩
theorem k371 : compFn Tryz.prog Tryz.f371 = some c371 := by kernel_rfl
-- croft/bits.fit
def c372 : AFunc := ⟨[.tmp 2,.tmp 3],(.seq (.region [⟨(some 2),.mv (.const (.int .i64 0)),none⟩,⟨(some 3),.mv (.const (.int .i64 0)),none⟩])
 (.seq (.region [⟨(some 4),.mv (.tmp 0),none⟩,⟨(some 5),.maxmin false [(.tmp 4),(.const (.int .i64 1048576))],none⟩,⟨(some 6),.maxmin true [(.const (.int .i64 0)),(.tmp 5)],none⟩,⟨(some 0),.mv (.tmp 6),none⟩])
 (.seq (.region [⟨(some 7),.mv (.tmp 0),none⟩,⟨(some 8),.mv (.tmp 0),none⟩,⟨(some 9),.bin .add (.tmp 8) (.const (.int .i64 63)),none⟩,⟨(some 10),.bin .quo (.tmp 9) (.const (.int .i64 64)),none⟩,⟨(some 2),.mv (.tmp 7),none⟩,⟨(some 3),.mv (.tmp 10),none⟩])
 .ret)))⟩
theorem k372 : compFn Tryz.prog Tryz.f372 = some c372 := by kernel_rfl
-- (*croft/bits.Set).cut
def c373 : AFunc := ⟨[],(.seq (.region [⟨(some 2),.mv (.tmp 0),none⟩,⟨(some 3),.nilCheck (.tmp 2),none⟩,⟨(some 4),.faddr 0 (.tmp 3),none⟩,⟨(some 5),.loadX false 1 (.tmp 4),none⟩,⟨(some 6),.bin .rem (.tmp 5) (.const (.int .i64 64)),none⟩,⟨(some 7),.bin .neq (.tmp 6) (.const (.int .i64 0)),none⟩])
 (.cond (.tmp 7) (.draw [⟨⟨(some 8),.mv (.tmp 0),none⟩,0,0⟩,⟨⟨(some 9),.nilCheck (.tmp 8),none⟩,0,0⟩,⟨⟨(some 10),.faddr 1 (.tmp 9),none⟩,0,0⟩,⟨⟨(some 11),.loadX false 1 (.tmp 10),none⟩,0,0⟩,⟨⟨(some 12),.mv (.tmp 0),none⟩,0,0⟩,⟨⟨(some 13),.nilCheck (.tmp 12),none⟩,0,0⟩,⟨⟨(some 14),.faddr 1 (.tmp 13),none⟩,0,0⟩,⟨⟨(some 15),.loadX false 1 (.tmp 14),none⟩,0,0⟩,⟨⟨(some 16),.lenX (.tmp 15),none⟩,0,0⟩,⟨⟨(some 17),.bin .sub (.tmp 16) (.const (.int .i64 1)),none⟩,0,0⟩,⟨⟨(some 18),.iaddrX 1 (.tmp 11) (.tmp 17),none⟩,0,0⟩,⟨⟨(some 19),.loadX false 1 (.tmp 18),none⟩,0,0⟩,⟨⟨(some 20),.mv (.tmp 0),none⟩,0,0⟩,⟨⟨(some 21),.nilCheck (.tmp 20),none⟩,0,0⟩,⟨⟨(some 22),.faddr 0 (.tmp 21),none⟩,0,0⟩,⟨⟨(some 23),.loadX false 1 (.tmp 22),none⟩,0,0⟩,⟨⟨(some 24),.bin .rem (.tmp 23) (.const (.int .i64 64)),none⟩,0,0⟩,⟨⟨(some 25),.bin .shl (.const (.int .u64 1)) (.tmp 24),none⟩,0,0⟩,⟨⟨(some 26),.bin .sub (.tmp 25) (.const (.int .u64 1)),none⟩,0,0⟩,⟨⟨(some 27),.bin .and (.tmp 19) (.tmp 26),none⟩,0,0⟩,⟨⟨(some 28),.iaddrX 1 (.tmp 11) (.tmp 17),none⟩,0,0⟩,⟨⟨none,.storeX 1 (.tmp 28) (.tmp 27),none⟩,0,1⟩]) .skip))⟩
theorem k373 : compFn Tryz.prog Tryz.f373 = some c373 := by kernel_rfl
-- (*croft/pagemap.Map).slab
def c374 : AFunc := ⟨[.tmp 4,.tmp 5],(.seq (.region [⟨(some 4),.mv (.const (.ptr none)),none⟩,⟨(some 5),.mv (.const (.bool false)),none⟩])
 (.seq (.seq (.region [⟨(some 9),.mv (.tmp 0),none⟩,⟨(some 10),.mv (.tmp 1),none⟩,⟨(some 11),.call 118 [(.tmp 9),(.tmp 10)],none⟩,⟨(some 8),.mv (.tmp 11),none⟩,⟨(some 12),.extract (.tmp 8) 0,none⟩,⟨(some 13),.extract (.tmp 8) 1,none⟩,⟨(some 6),.alloc [(.int .i64 0),(.int .i64 0),(.int .i64 0),(.int .i64 0),(.int .i64 0),(.int .i64 0),(.int .i64 0),(.int .u64 0),(.int .u64 0),(.int .u64 0),(.int .u64 0)],none⟩,⟨none,.storeX 11 (.tmp 6) (.tmp 12),none⟩,⟨(some 7),.mv (.tmp 13),none⟩])
 (.seq (.region [⟨(some 14),.mv (.tmp 7),none⟩,⟨(some 15),.not (.tmp 14),none⟩,⟨(some 16),.mv (.tmp 15),none⟩,⟨(some 17),.faddr 0 (.tmp 6),some (16,false)⟩,⟨(some 18),.loadX false 1 (.tmp 17),some (16,false)⟩,⟨(some 19),.bin .neq (.tmp 18) (.const (.int .i64 4)),some (16,false)⟩,⟨(some 20),.pick (.tmp 16) (.const (.bool true)) (.tmp 19),none⟩])
 (.cond (.tmp 20) (.seq (.region [⟨(some 4),.mv (.const (.ptr none)),none⟩,⟨(some 5),.mv (.const (.bool false)),none⟩])
 .ret) .skip)))
 (.seq (.region [⟨(some 21),.mv (.tmp 0),none⟩,⟨(some 22),.nilCheck (.tmp 21),none⟩,⟨(some 23),.faddr 1 (.tmp 22),none⟩,⟨(some 24),.loadX false 1 (.tmp 23),none⟩,⟨(some 25),.mv (.tmp 1),none⟩,⟨(some 26),.iaddrX 11 (.tmp 24) (.tmp 25),none⟩,⟨(some 4),.mv (.tmp 26),none⟩,⟨(some 5),.mv (.const (.bool true)),none⟩])
 .ret)))⟩
theorem k374 : compFn Tryz.prog Tryz.f374 = some c374 := by kernel_rfl
-- croft/pagemap.within
def c375 : AFunc := ⟨[.tmp 6],(.seq (.region [⟨(some 6),.mv (.const (.bool false)),none⟩])
 (.seq (.region [⟨(some 7),.mv (.tmp 0),none⟩,⟨(some 8),.mv (.tmp 1),none⟩,⟨(some 9),.bin .geq (.tmp 7) (.tmp 8),none⟩,⟨(some 10),.mv (.tmp 9),none⟩,⟨(some 11),.mv (.tmp 0),some (10,true)⟩,⟨(some 12),.mv (.tmp 2),some (10,true)⟩,⟨(some 13),.bin .leq (.tmp 11) (.tmp 12),some (10,true)⟩,⟨(some 14),.pick (.tmp 10) (.tmp 13) (.const (.bool false)),none⟩,⟨(some 6),.mv (.tmp 14),none⟩])
 .ret))⟩
theorem k375 : compFn Tryz.prog Tryz.f375 = some c375 := by kernel_rfl
-- croft/pagemap.cells
def c376 : AFunc := ⟨[.tmp 2],(.seq (.region [⟨(some 2),.mv (.const (.int .i64 0)),none⟩])
 (.seq (.region [⟨(some 3),.mv (.tmp 0),none⟩,⟨(some 4),.nilCheck (.tmp 3),none⟩,⟨(some 5),.faddr 2 (.tmp 4),none⟩,⟨(some 6),.loadX false 1 (.tmp 5),none⟩,⟨(some 7),.bin .shr (.const (.int .i64 256)) (.tmp 6),none⟩,⟨(some 2),.mv (.tmp 7),none⟩])
 .ret))⟩
theorem k376 : compFn Tryz.prog Tryz.f376 = some c376 := by kernel_rfl
-- (*croft/pagemap.Map).Chain
def c377 : AFunc := ⟨[.tmp 8],(.seq (.region [⟨(some 8),.mv (.const (.int .i64 0)),none⟩])
 (.seq (.region [⟨(some 12),.mv (.tmp 0),none⟩,⟨(some 13),.mv (.tmp 1),none⟩,⟨(some 14),.call 374 [(.tmp 12),(.tmp 13)],none⟩,⟨(some 11),.mv (.tmp 14),none⟩,⟨(some 15),.extract (.tmp 11) 0,none⟩,⟨(some 16),.extract (.tmp 11) 1,none⟩,⟨(some 9),.mv (.tmp 15),none⟩,⟨(some 10),.mv (.tmp 16),none⟩])
 (.seq (.seq (.region [⟨(some 17),.mv (.tmp 10),none⟩,⟨(some 18),.not (.tmp 17),none⟩,⟨(some 19),.mv (.tmp 18),none⟩,⟨(some 20),.mv (.tmp 2),some (19,false)⟩,⟨(some 21),.mv (.tmp 0),some (19,false)⟩,⟨(some 22),.nilCheck (.tmp 21),some (19,false)⟩,⟨(some 23),.faddr 1 (.tmp 22),some (19,false)⟩,⟨(some 24),.loadX false 1 (.tmp 23),some (19,false)⟩,⟨(some 25),.lenX (.tmp 24),some (19,false)⟩,⟨(some 26),.bin .sub (.tmp 25) (.const (.int .i64 1)),some (19,false)⟩,⟨(some 27),.call 375 [(.tmp 20),(.const (.int .i64 (-1))),(.tmp 26)],some (19,false)⟩,⟨(some 28),.not (.tmp 27),some (19,false)⟩,⟨(some 29),.pick (.tmp 19) (.const (.bool true)) (.tmp 28),none⟩,⟨(some 30),.mv (.tmp 29),none⟩,⟨(some 31),.mv (.tmp 3),some (30,false)⟩,⟨(some 32),.mv (.tmp 0),some (30,false)⟩,⟨(some 33),.nilCheck (.tmp 32),some (30,false)⟩,⟨(some 34),.faddr 1 (.tmp 33),some (30,false)⟩,⟨(some 35),.loadX false 1 (.tmp 34),some (30,false)⟩,⟨(some 36),.lenX (.tmp 35),some (30,false)⟩,⟨(some 37),.bin .sub (.tmp 36) (.const (.int .i64 1)),some (30,false)⟩,⟨(some 38),.call 375 [(.tmp 31),(.const (.int .i64 (-1))),(.tmp 37)],some (30,false)⟩,⟨(some 39),.not (.tmp 38),some (30,false)⟩,⟨(some 40),.pick (.tmp 30) (.const (.bool true)) (.tmp 39),none⟩])
 (.cond (.tmp 40) (.seq (.region [⟨(some 8),.mv (.const (.int .i64 1)),none⟩])
 .ret) .skip))
 (.seq (.region [⟨(some 41),.mv (.tmp 9),none⟩,⟨(some 42),.mv (.tmp 9),none⟩,⟨(some 43),.mv (.tmp 2),none⟩,⟨(some 44),.mv (.tmp 3),none⟩,⟨(some 45),.nilCheck (.tmp 41),none⟩,⟨(some 46),.faddr 4 (.tmp 45),none⟩,⟨none,.storeX 1 (.tmp 46) (.tmp 43),none⟩,⟨(some 47),.nilCheck (.tmp 42),none⟩,⟨(some 48),.faddr 5 (.tmp 47),none⟩,⟨none,.storeX 1 (.tmp 48) (.tmp 44),none⟩])
 (.seq (.region [⟨(some 8),.mv (.const (.int .i64 0)),none⟩])
 .ret)))))⟩
theorem k377 : compFn Tryz.prog Tryz.f377 = some c377 := by kernel_rfl
-- croft/pagemap.plain
def c378 : AFunc := ⟨[.cell 4 true 11],(.seq (.region [⟨(some 4),.alloc [(.int .i64 0),(.int .i64 0),(.int .i64 0),(.int .i64 0),(.int .i64 0),(.int .i64 0),(.int .i64 0),(.int .u64 0),(.int .u64 0),(.int .u64 0),(.int .u64 0)],none⟩])
 (.seq (.region [⟨(some 5),.mv (.tmp 0),none⟩,⟨(some 6),.mv (.tmp 1),none⟩,⟨(some 7),.build [(.int .i64 0),(.int .i64 0),(.int .i64 0),(.int .i64 0),(.int .i64 0),(.int .i64 0),(.int .i64 0),(.int .u64 0),(.int .u64 0),(.int .u64 0),(.int .u64 0)] [(0,1,(.tmp 5)),(1,1,(.tmp 6)),(4,1,(.const (.int .i64 (-1)))),(5,1,(.const (.int .i64 (-1)))),(6,1,(.const (.int .i64 (-1))))],none⟩,⟨none,.storeX 11 (.tmp 4) (.tmp 7),none⟩])
 .ret))⟩
theorem k378 : compFn Tryz.prog Tryz.f378 = some c378 := by kernel_rfl
-- (*croft/links.List).Remove
def c379 : AFunc := ⟨[.tmp 4],(.seq (.region [⟨(some 4),.mv (.const (.int .i64 0)),none⟩])
 (.seq (.region [⟨(some 9),.mv (.tmp 0),none⟩,⟨(some 10),.mv (.tmp 1),none⟩,⟨(some 11),.call 399 [(.tmp 9),(.tmp 10)],none⟩,⟨(some 8),.mv (.tmp 11),none⟩,⟨(some 12),.extract (.tmp 8) 0,none⟩,⟨(some 13),.extract (.tmp 8) 1,none⟩,⟨(some 14),.extract (.tmp 8) 2,none⟩,⟨(some 5),.mv (.tmp 12),none⟩,⟨(some 6),.mv (.tmp 13),none⟩,⟨(some 7),.mv (.tmp 14),none⟩])
 (.seq (.seq (.region [⟨(some 15),.mv (.tmp 7),none⟩,⟨(some 16),.not (.tmp 15),none⟩])
 (.cond (.tmp 16) (.seq (.region [⟨(some 4),.mv (.const (.int .i64 4)),none⟩])
 .ret) .skip))
 (.seq (.seq (.region [⟨(some 17),.mv (.tmp 0),none⟩,⟨(some 18),.mv (.tmp 1),none⟩,⟨(some 19),.mv (.tmp 5),none⟩,⟨(some 20),.mv (.tmp 6),none⟩,⟨(some 21),.call 400 [(.tmp 17),(.tmp 18),(.tmp 19),(.tmp 20)],none⟩,⟨(some 22),.not (.tmp 21),none⟩])
 (.cond (.tmp 22) (.seq (.region [⟨(some 4),.mv (.const (.int .i64 8)),none⟩])
 .ret) .skip))
 (.seq (.seq (.region [⟨(some 23),.mv (.tmp 6),none⟩,⟨(some 24),.bin .eql (.tmp 23) (.const (.int .u64 0)),none⟩])
 (.cond (.tmp 24) (.region [⟨(some 25),.mv (.tmp 0),none⟩,⟨(some 26),.mv (.tmp 5),none⟩,⟨(some 27),.nilCheck (.tmp 25),none⟩,⟨(some 28),.faddr 1 (.tmp 27),none⟩,⟨none,.storeX 1 (.tmp 28) (.tmp 26),none⟩]) (.region [⟨(some 29),.mv (.tmp 0),none⟩,⟨(some 30),.nilCheck (.tmp 29),none⟩,⟨(some 31),.faddr 0 (.tmp 30),none⟩,⟨(some 32),.loadX false 1 (.tmp 31),none⟩,⟨(some 33),.mv (.tmp 6),none⟩,⟨(some 34),.mv (.tmp 5),none⟩,⟨(some 35),.call 238 [(.tmp 32),(.tmp 33),(.tmp 34)],none⟩])))
 (.seq (.seq (.region [⟨(some 36),.mv (.tmp 5),none⟩,⟨(some 37),.bin .neq (.tmp 36) (.const (.int .u64 0)),none⟩])
 (.cond (.tmp 37) (.region [⟨(some 38),.mv (.tmp 0),none⟩,⟨(some 39),.nilCheck (.tmp 38),none⟩,⟨(some 40),.faddr 0 (.tmp 39),none⟩,⟨(some 41),.loadX false 1 (.tmp 40),none⟩,⟨(some 42),.mv (.tmp 5),none⟩,⟨(some 43),.bin .add (.tmp 42) (.const (.int .u64 8)),none⟩,⟨(some 44),.mv (.tmp 6),none⟩,⟨(some 45),.call 238 [(.tmp 41),(.tmp 43),(.tmp 44)],none⟩]) .skip))
 (.seq (.region [⟨(some 4),.mv (.const (.int .i64 0)),none⟩])
 .ret)))))))⟩
theorem k379 : compFn Tryz.prog Tryz.f379 = some c379 := by kernel_rfl
-- (*croft/buddy.Buddy).address
def c380 : AFunc := ⟨[.tmp 4],(.seq (.region [⟨(some 4),.mv (.const (.int .u64 0)),none⟩])
 (.seq (.region [⟨(some 5),.mv (.tmp 0),none⟩,⟨(some 6),.nilCheck (.tmp 5),none⟩,⟨(some 7),.faddr 0 (.tmp 6),none⟩,⟨(some 8),.faddr 0 (.tmp 7),none⟩,⟨(some 9),.loadX false 1 (.tmp 8),none⟩,⟨(some 10),.mv (.tmp 1),none⟩,⟨(some 11),.conv .u64 (.tmp 10),none⟩,⟨(some 12),.bin .mul (.const (.int .u64 4096)) (.tmp 11),none⟩,⟨(some 13),.bin .add (.tmp 9) (.tmp 12),none⟩,⟨(some 4),.mv (.tmp 13),none⟩])
 .ret))⟩
theorem k380 : compFn Tryz.prog Tryz.f380 = some c380 := by kernel_rfl
-- slices.order2CmpFunc[uint64]
def c382 : AFunc := ⟨[.tmp 10,.tmp 11],(.seq (.region [⟨(some 10),.mv (.const (.int .i64 0)),none⟩,⟨(some 11),.mv (.const (.int .i64 0)),none⟩])
 (.seq (.seq (.draw [⟨⟨(some 12),.mv (.tmp 4),none⟩,0,0⟩,⟨⟨(some 13),.mv (.tmp 0),none⟩,0,0⟩,⟨⟨(some 14),.mv (.tmp 2),none⟩,0,0⟩,⟨⟨(some 15),.iaddrX 1 (.tmp 13) (.tmp 14),none⟩,0,0⟩,⟨⟨(some 16),.loadX false 1 (.tmp 15),none⟩,0,0⟩,⟨⟨(some 17),.mv (.tmp 0),none⟩,0,0⟩,⟨⟨(some 18),.mv (.tmp 1),none⟩,0,0⟩,⟨⟨(some 19),.iaddrX 1 (.tmp 17) (.tmp 18),none⟩,0,0⟩,⟨⟨(some 20),.loadX false 1 (.tmp 19),none⟩,0,0⟩,⟨⟨(some 21),.callv (.tmp 12) [(.tmp 16),(.tmp 20)],none⟩,0,1⟩,⟨⟨(some 22),.bin .lss (.tmp 21) (.const (.int .i64 0)),none⟩,1,1⟩])
 (.cond (.tmp 22) (.seq (.region [⟨(some 23),.mv (.tmp 3),none⟩,⟨(some 24),.nilCheck (.tmp 23),none⟩,⟨(some 25),.loadX false 1 (.tmp 24),none⟩,⟨(some 26),.bin .add (.tmp 25) (.const (.int .i64 1)),none⟩,⟨(some 27),.nilCheck (.tmp 23),none⟩,⟨none,.storeX 1 (.tmp 27) (.tmp 26),none⟩])
 (.seq (.region [⟨(some 28),.mv (.tmp 2),none⟩,⟨(some 29),.mv (.tmp 1),none⟩,⟨(some 10),.mv (.tmp 28),none⟩,⟨(some 11),.mv (.tmp 29),none⟩])
 .ret)) .skip))
 (.seq (.region [⟨(some 30),.mv (.tmp 1),none⟩,⟨(some 31),.mv (.tmp 2),none⟩,⟨(some 10),.mv (.tmp 30),none⟩,⟨(some 11),.mv (.tmp 31),none⟩])
 .ret)))⟩
theorem k382 : compFn Tryz.prog Tryz.f382 = some c382 := by kernel_rfl
-- (*croft/links.List).Push
def c392 : AFunc := ⟨[.tmp 4],(.seq (.region [⟨(some 4),.mv (.const (.int .i64 0)),none⟩])
 (.seq (.seq (.region [⟨(some 13),.mv (.tmp 0),none⟩,⟨(some 14),.mv (.tmp 1),none⟩,⟨(some 15),.call 399 [(.tmp 13),(.tmp 14)],none⟩,⟨(some 12),.mv (.tmp 15),none⟩,⟨(some 16),.extract (.tmp 12) 0,none⟩,⟨(some 17),.extract (.tmp 12) 1,none⟩,⟨(some 18),.extract (.tmp 12) 2,none⟩,⟨(some 5),.mv (.tmp 16),none⟩,⟨(some 6),.mv (.tmp 17),none⟩,⟨(some 7),.mv (.tmp 18),none⟩])
 (.seq (.region [⟨(some 19),.mv (.tmp 7),none⟩,⟨(some 20),.not (.tmp 19),none⟩])
 (.cond (.tmp 20) (.seq (.region [⟨(some 4),.mv (.const (.int .i64 4)),none⟩])
 .ret) .skip)))
 (.seq (.seq (.region [⟨(some 21),.mv (.tmp 0),none⟩,⟨(some 22),.nilCheck (.tmp 21),none⟩,⟨(some 23),.faddr 1 (.tmp 22),none⟩,⟨(some 24),.loadX false 1 (.tmp 23),none⟩,⟨(some 8),.mv (.tmp 24),none⟩])
 (.seq (.region [⟨(some 25),.mv (.tmp 8),none⟩,⟨(some 26),.bin .neq (.tmp 25) (.const (.int .u64 0)),none⟩])
 (.cond (.tmp 26) (.seq (.region [⟨(some 28),.mv (.tmp 0),none⟩,⟨(some 29),.mv (.tmp 8),none⟩,⟨(some 30),.call 399 [(.tmp 28),(.tmp 29)],none⟩,⟨(some 27),.mv (.tmp 30),none⟩,⟨(some 31),.extract (.tmp 27) 0,none⟩,⟨(some 32),.extract (.tmp 27) 1,none⟩,⟨(some 33),.extract (.tmp 27) 2,none⟩,⟨(some 9),.mv (.tmp 31),none⟩,⟨(some 10),.mv (.tmp 32),none⟩,⟨(some 11),.mv (.tmp 33),none⟩])
 (.seq (.region [⟨(some 34),.mv (.tmp 11),none⟩,⟨(some 35),.not (.tmp 34),none⟩,⟨(some 36),.mv (.tmp 35),none⟩,⟨(some 37),.mv (.tmp 10),some (36,false)⟩,⟨(some 38),.bin .neq (.tmp 37) (.const (.int .u64 0)),some (36,false)⟩,⟨(some 39),.pick (.tmp 36) (.const (.bool true)) (.tmp 38),none⟩])
 (.cond (.tmp 39) (.seq (.region [⟨(some 4),.mv (.const (.int .i64 8)),none⟩])
 .ret) .skip))) .skip)))
 (.seq (.draw [⟨⟨(some 40),.mv (.tmp 0),none⟩,0,0⟩,⟨⟨(some 41),.nilCheck (.tmp 40),none⟩,0,0⟩,⟨⟨(some 42),.faddr 0 (.tmp 41),none⟩,0,0⟩,⟨⟨(some 43),.loadX false 1 (.tmp 42),none⟩,0,0⟩,⟨⟨(some 44),.mv (.tmp 1),none⟩,0,0⟩,⟨⟨(some 45),.mv (.tmp 0),none⟩,0,0⟩,⟨⟨(some 46),.nilCheck (.tmp 45),none⟩,0,0⟩,⟨⟨(some 47),.faddr 1 (.tmp 46),none⟩,0,0⟩,⟨⟨(some 48),.loadX false 1 (.tmp 47),none⟩,0,0⟩,⟨⟨(some 49),.call 238 [(.tmp 43),(.tmp 44),(.tmp 48)],none⟩,0,1⟩])
 (.seq (.region [⟨(some 50),.mv (.tmp 0),none⟩,⟨(some 51),.nilCheck (.tmp 50),none⟩,⟨(some 52),.faddr 0 (.tmp 51),none⟩,⟨(some 53),.loadX false 1 (.tmp 52),none⟩,⟨(some 54),.mv (.tmp 1),none⟩,⟨(some 55),.bin .add (.tmp 54) (.const (.int .u64 8)),none⟩,⟨(some 56),.call 238 [(.tmp 53),(.tmp 55),(.const (.int .u64 0))],none⟩])
 (.seq (.seq (.region [⟨(some 57),.mv (.tmp 0),none⟩,⟨(some 58),.nilCheck (.tmp 57),none⟩,⟨(some 59),.faddr 1 (.tmp 58),none⟩,⟨(some 60),.loadX false 1 (.tmp 59),none⟩,⟨(some 61),.bin .neq (.tmp 60) (.const (.int .u64 0)),none⟩])
 (.cond (.tmp 61) (.draw [⟨⟨(some 62),.mv (.tmp 0),none⟩,0,0⟩,⟨⟨(some 63),.nilCheck (.tmp 62),none⟩,0,0⟩,⟨⟨(some 64),.faddr 0 (.tmp 63),none⟩,0,0⟩,⟨⟨(some 65),.loadX false 1 (.tmp 64),none⟩,0,0⟩,⟨⟨(some 66),.mv (.tmp 0),none⟩,0,0⟩,⟨⟨(some 67),.nilCheck (.tmp 66),none⟩,0,0⟩,⟨⟨(some 68),.faddr 1 (.tmp 67),none⟩,0,0⟩,⟨⟨(some 69),.loadX false 1 (.tmp 68),none⟩,0,0⟩,⟨⟨(some 70),.bin .add (.tmp 69) (.const (.int .u64 8)),none⟩,0,0⟩,⟨⟨(some 71),.mv (.tmp 1),none⟩,0,0⟩,⟨⟨(some 72),.call 238 [(.tmp 65),(.tmp 70),(.tmp 71)],none⟩,0,1⟩]) .skip))
 (.seq (.region [⟨(some 73),.mv (.tmp 0),none⟩,⟨(some 74),.mv (.tmp 1),none⟩,⟨(some 75),.nilCheck (.tmp 73),none⟩,⟨(some 76),.faddr 1 (.tmp 75),none⟩,⟨none,.storeX 1 (.tmp 76) (.tmp 74),none⟩])
 (.seq (.region [⟨(some 4),.mv (.const (.int .i64 0)),none⟩])
 .ret))))))))⟩
theorem k392 : compFn Tryz.prog Tryz.f392 = some c392 := by kernel_rfl
-- (*croft/pagemap.Map).Flip
def c393 : AFunc := ⟨[.tmp 6,.tmp 7],(.seq (.region [⟨(some 6),.mv (.const (.bool false)),none⟩,⟨(some 7),.mv (.const (.int .i64 0)),none⟩])
 (.seq (.seq (.region [⟨(some 11),.mv (.tmp 0),none⟩,⟨(some 12),.mv (.tmp 2),none⟩,⟨(some 13),.call 118 [(.tmp 11),(.tmp 12)],none⟩,⟨(some 10),.mv (.tmp 13),none⟩,⟨(some 14),.extract (.tmp 10) 0,none⟩,⟨(some 15),.extract (.tmp 10) 1,none⟩,⟨(some 8),.alloc [(.int .i64 0),(.int .i64 0),(.int .i64 0),(.int .i64 0),(.int .i64 0),(.int .i64 0),(.int .i64 0),(.int .u64 0),(.int .u64 0),(.int .u64 0),(.int .u64 0)],none⟩,⟨none,.storeX 11 (.tmp 8) (.tmp 14),none⟩,⟨(some 9),.mv (.tmp 15),none⟩])
 (.seq (.region [⟨(some 16),.mv (.tmp 9),none⟩,⟨(some 17),.not (.tmp 16),none⟩,⟨(some 18),.mv (.tmp 17),none⟩,⟨(some 19),.mv (.tmp 1),some (18,false)⟩,⟨(some 20),.mv (.tmp 0),some (18,false)⟩,⟨(some 21),.nilCheck (.tmp 20),some (18,false)⟩,⟨(some 22),.faddr 0 (.tmp 21),some (18,false)⟩,⟨(some 23),.loadX false 1 (.tmp 22),some (18,false)⟩,⟨(some 24),.bin .sub (.tmp 23) (.const (.int .i64 1)),some (18,false)⟩,⟨(some 25),.call 375 [(.tmp 19),(.const (.int .i64 0)),(.tmp 24)],some (18,false)⟩,⟨(some 26),.not (.tmp 25),some (18,false)⟩,⟨(some 27),.pick (.tmp 18) (.const (.bool true)) (.tmp 26),none⟩])
 (.cond (.tmp 27) (.seq (.region [⟨(some 6),.mv (.const (.bool false)),none⟩,⟨(some 7),.mv (.const (.int .i64 1)),none⟩])
 .ret) .skip)))
 (.seq (.draw [⟨⟨(some 28),.mv (.tmp 0),none⟩,0,0⟩,⟨⟨(some 29),.nilCheck (.tmp 28),none⟩,0,0⟩,⟨⟨(some 30),.faddr 2 (.tmp 29),none⟩,0,0⟩,⟨⟨(some 31),.loadX false 1 (.tmp 30),none⟩,0,0⟩,⟨⟨(some 32),.mv (.tmp 1),none⟩,0,0⟩,⟨⟨(some 33),.iaddrX 1 (.tmp 31) (.tmp 32),none⟩,0,0⟩,⟨⟨(some 34),.loadX false 1 (.tmp 33),none⟩,0,0⟩,⟨⟨(some 35),.mv (.tmp 2),none⟩,0,0⟩,⟨⟨(some 36),.mv (.tmp 1),none⟩,0,0⟩,⟨⟨(some 37),.bin .add (.tmp 36) (.const (.int .i64 1)),none⟩,0,0⟩,⟨⟨(some 38),.bin .shr (.tmp 35) (.tmp 37),none⟩,0,0⟩,⟨⟨(some 39),.call 404 [(.tmp 34),(.tmp 38)],none⟩,0,1⟩])
 (.seq (.region [⟨(some 40),.mv (.tmp 0),none⟩,⟨(some 41),.mv (.tmp 1),none⟩,⟨(some 42),.mv (.tmp 2),none⟩,⟨(some 43),.call 405 [(.tmp 40),(.tmp 41),(.tmp 42)],none⟩,⟨(some 6),.mv (.tmp 43),none⟩,⟨(some 7),.mv (.const (.int .i64 0)),none⟩])
 .ret))))⟩
theorem k393 : compFn Tryz.prog Tryz.f393 = some c393 := by kernel_rfl
-- (*croft/pagemap.Map).Slab
def c394 : AFunc := ⟨[.tmp 6],(.seq (.region [⟨(some 6),.mv (.const (.int .i64 0)),none⟩])
 (.seq (.seq (.region [⟨(some 10),.mv (.tmp 0),none⟩,⟨(some 11),.mv (.tmp 1),none⟩,⟨(some 12),.call 118 [(.tmp 10),(.tmp 11)],none⟩,⟨(some 9),.mv (.tmp 12),none⟩,⟨(some 13),.extract (.tmp 9) 0,none⟩,⟨(some 14),.extract (.tmp 9) 1,none⟩,⟨(some 7),.alloc [(.int .i64 0),(.int .i64 0),(.int .i64 0),(.int .i64 0),(.int .i64 0),(.int .i64 0),(.int .i64 0),(.int .u64 0),(.int .u64 0),(.int .u64 0),(.int .u64 0)],none⟩,⟨none,.storeX 11 (.tmp 7) (.tmp 13),none⟩,⟨(some 8),.mv (.tmp 14),none⟩])
 (.seq (.region [⟨(some 15),.mv (.tmp 8),none⟩,⟨(some 16),.not (.tmp 15),none⟩,⟨(some 17),.mv (.tmp 16),none⟩,⟨(some 18),.mv (.tmp 2),some (17,false)⟩,⟨(some 19),.call 375 [(.tmp 18),(.const (.int .i64 0)),(.const (.int .i64 7))],some (17,false)⟩,⟨(some 20),.not (.tmp 19),some (17,false)⟩,⟨(some 21),.pick (.tmp 17) (.const (.bool true)) (.tmp 20),none⟩])
 (.cond (.tmp 21) (.seq (.region [⟨(some 6),.mv (.const (.int .i64 1)),none⟩])
 .ret) .skip)))
 (.seq (.draw [⟨⟨(some 22),.mv (.tmp 0),none⟩,0,1⟩,⟨⟨(some 23),.nilCheck (.tmp 22),none⟩,0,1⟩,⟨⟨(some 24),.faddr 1 (.tmp 23),none⟩,0,1⟩,⟨⟨(some 25),.loadX false 1 (.tmp 24),none⟩,0,1⟩,⟨⟨(some 26),.mv (.tmp 1),none⟩,0,1⟩,⟨⟨(some 27),.call 378 [(.const (.int .i64 4)),(.const (.int .i64 0))],none⟩,0,1⟩,⟨⟨(some 28),.iaddrX 11 (.tmp 25) (.tmp 26),none⟩,1,1⟩,⟨⟨none,.storeX 11 (.tmp 28) (.tmp 27),none⟩,1,2⟩])
 (.seq (.region [⟨(some 29),.mv (.tmp 0),none⟩,⟨(some 30),.nilCheck (.tmp 29),none⟩,⟨(some 31),.faddr 1 (.tmp 30),none⟩,⟨(some 32),.loadX false 1 (.tmp 31),none⟩,⟨(some 33),.mv (.tmp 1),none⟩,⟨(some 34),.mv (.tmp 2),none⟩,⟨(some 35),.iaddrX 11 (.tmp 32) (.tmp 33),none⟩,⟨(some 36),.faddr 2 (.tmp 35),none⟩,⟨none,.storeX 1 (.tmp 36) (.tmp 34),none⟩])
 (.seq (.region [⟨(some 6),.mv (.const (.int .i64 0)),none⟩])
 .ret)))))⟩
theorem k394 : compFn Tryz.prog Tryz.f394 = some c394 := by kernel_rfl
-- (*croft/links.List).Pop
def c395 : AFunc := ⟨[.tmp 2,.tmp 3],(.seq (.region [⟨(some 2),.mv (.const (.int .u64 0)),none⟩,⟨(some 3),.mv (.const (.int .i64 0)),none⟩])
 (.seq (.region [⟨(some 6),.mv (.tmp 0),none⟩,⟨(some 7),.nilCheck (.tmp 6),none⟩,⟨(some 8),.faddr 1 (.tmp 7),none⟩,⟨(some 9),.loadX false 1 (.tmp 8),none⟩,⟨(some 4),.mv (.tmp 9),none⟩])
 (.seq (.seq (.region [⟨(some 10),.mv (.tmp 4),none⟩,⟨(some 11),.bin .eql (.tmp 10) (.const (.int .u64 0)),none⟩])
 (.cond (.tmp 11) (.seq (.region [⟨(some 2),.mv (.const (.int .u64 0)),none⟩,⟨(some 3),.mv (.const (.int .i64 9)),none⟩])
 .ret) .skip))
 (.seq (.seq (.region [⟨(some 12),.mv (.tmp 0),none⟩,⟨(some 13),.mv (.tmp 4),none⟩,⟨(some 14),.call 379 [(.tmp 12),(.tmp 13)],none⟩,⟨(some 5),.mv (.tmp 14),none⟩])
 (.seq (.region [⟨(some 15),.mv (.tmp 5),none⟩,⟨(some 16),.bin .neq (.tmp 15) (.const (.int .i64 0)),none⟩])
 (.cond (.tmp 16) (.seq (.region [⟨(some 17),.mv (.tmp 5),none⟩,⟨(some 2),.mv (.const (.int .u64 0)),none⟩,⟨(some 3),.mv (.tmp 17),none⟩])
 .ret) .skip)))
 (.seq (.region [⟨(some 18),.mv (.tmp 4),none⟩,⟨(some 2),.mv (.tmp 18),none⟩,⟨(some 3),.mv (.const (.int .i64 0)),none⟩])
 .ret)))))⟩
theorem k395 : compFn Tryz.prog Tryz.f395 = some c395 := by kernel_rfl
-- (*croft/pagemap.Map).size
def c396 : AFunc := ⟨[.tmp 2],(.seq (.region [⟨(some 2),.mv (.const (.int .i64 0)),none⟩])
 (.seq (.region [⟨(some 3),.mv (.tmp 0),none⟩,⟨(some 4),.nilCheck (.tmp 3),none⟩,⟨(some 5),.faddr 0 (.tmp 4),none⟩,⟨(some 6),.loadX false 1 (.tmp 5),none⟩,⟨(some 7),.bin .shl (.const (.int .i64 1)) (.tmp 6),none⟩,⟨(some 2),.mv (.tmp 7),none⟩])
 .ret))⟩
theorem k396 : compFn Tryz.prog Tryz.f396 = some c396 := by kernel_rfl
-- (*croft/pagemap.Map).paired
def c397 : AFunc := ⟨[],(.seq (.region [⟨(some 4),.mv (.tmp 0),none⟩,⟨(some 5),.nilCheck (.tmp 4),none⟩,⟨(some 6),.faddr 2 (.tmp 5),none⟩,⟨(some 7),.loadX false 1 (.tmp 6),none⟩,⟨(some 8),.lenX (.tmp 7),none⟩,⟨(some 9),.mv (.const (.int .i64 0)),none⟩])
 (.block 0 (.loop (.seq (.region [⟨(some 10),.bin .lss (.tmp 9) (.tmp 8),none⟩])
 (.seq (.cond (.tmp 10) .skip (.exit 0))
 (.seq (.block 1 (.seq (.region [⟨(some 11),.mv (.tmp 9),none⟩,⟨(some 12),.iaddrX 1 (.tmp 7) (.tmp 9),none⟩,⟨(some 13),.loadX false 1 (.tmp 12),none⟩,⟨(some 2),.mv (.tmp 11),none⟩,⟨(some 3),.mv (.tmp 13),none⟩])
 (.region [⟨(some 14),.mv (.tmp 3),none⟩,⟨(some 15),.mv (.tmp 0),none⟩,⟨(some 16),.nilCheck (.tmp 15),none⟩,⟨(some 17),.faddr 1 (.tmp 16),none⟩,⟨(some 18),.loadX false 1 (.tmp 17),none⟩,⟨(some 19),.lenX (.tmp 18),none⟩,⟨(some 20),.mv (.tmp 2),none⟩,⟨(some 21),.bin .add (.tmp 20) (.const (.int .i64 1)),none⟩,⟨(some 22),.bin .shr (.tmp 19) (.tmp 21),none⟩,⟨(some 23),.call 406 [(.tmp 14),(.tmp 22)],none⟩])))
 (.region [⟨(some 24),.bin .add (.tmp 9) (.const (.int .i64 1)),none⟩,⟨(some 9),.mv (.tmp 24),none⟩])))))))⟩
theorem k397 : compFn Tryz.prog Tryz.f397 = some c397 := by kernel_rfl
-- (*croft/buddy.Buddy).top
def c398 : AFunc := ⟨[.tmp 2,.tmp 3],(.seq (.region [⟨(some 2),.mv (.const (.int .i64 0)),none⟩,⟨(some 3),.mv (.const (.bool false)),none⟩])
 (.seq (.draw [⟨⟨(some 5),.mv (.tmp 0),none⟩,0,0⟩,⟨⟨(some 6),.nilCheck (.tmp 5),none⟩,0,0⟩,⟨⟨(some 7),.faddr 3 (.tmp 6),none⟩,0,0⟩,⟨⟨(some 8),.loadX false 1 (.tmp 7),none⟩,0,0⟩,⟨⟨(some 9),.call 407 [(.tmp 8)],none⟩,0,1⟩,⟨⟨(some 10),.mv (.tmp 0),none⟩,0,1⟩,⟨⟨(some 11),.nilCheck (.tmp 10),none⟩,0,1⟩,⟨⟨(some 12),.faddr 0 (.tmp 11),none⟩,0,1⟩,⟨⟨(some 13),.faddr 2 (.tmp 12),none⟩,0,1⟩,⟨⟨(some 14),.loadX false 1 (.tmp 13),none⟩,0,1⟩,⟨⟨(some 15),.bin .shl (.tmp 9) (.tmp 14),none⟩,1,1⟩,⟨⟨(some 4),.mv (.tmp 15),none⟩,1,1⟩])
 (.seq (.draw [⟨⟨(some 16),.mv (.tmp 4),none⟩,0,1⟩,⟨⟨(some 17),.mv (.tmp 0),none⟩,0,1⟩,⟨⟨(some 18),.nilCheck (.tmp 17),none⟩,0,1⟩,⟨⟨(some 19),.faddr 0 (.tmp 18),none⟩,0,1⟩,⟨⟨(some 20),.faddr 2 (.tmp 19),none⟩,0,1⟩,⟨⟨(some 21),.loadX false 1 (.tmp 20),none⟩,0,1⟩,⟨⟨(some 22),.bin .shl (.const (.int .i64 1)) (.tmp 21),none⟩,0,1⟩,⟨⟨(some 23),.bin .sub (.tmp 16) (.tmp 22),none⟩,0,1⟩,⟨⟨(some 24),.mv (.tmp 4),none⟩,0,0⟩,⟨⟨(some 25),.bin .gtr (.tmp 24) (.const (.int .i64 0)),none⟩,0,0⟩,⟨⟨(some 26),.mv (.tmp 25),none⟩,0,0⟩,⟨⟨(some 27),.mv (.tmp 0),some (26,true)⟩,0,0⟩,⟨⟨(some 28),.nilCheck (.tmp 27),some (26,true)⟩,0,0⟩,⟨⟨(some 29),.faddr 4 (.tmp 28),some (26,true)⟩,0,0⟩,⟨⟨(some 30),.loadX false 1 (.tmp 29),some (26,true)⟩,0,0⟩,⟨⟨(some 31),.call 117 [(.tmp 30)],some (26,true)⟩,0,1⟩,⟨⟨(some 32),.mv (.tmp 4),some (26,true)⟩,0,1⟩,⟨⟨(some 33),.bin .eql (.tmp 31) (.tmp 32),some (26,true)⟩,1,1⟩,⟨⟨(some 34),.pick (.tmp 26) (.tmp 33) (.const (.bool false)),none⟩,1,1⟩,⟨⟨(some 2),.mv (.tmp 23),none⟩,1,1⟩,⟨⟨(some 3),.mv (.tmp 34),none⟩,1,1⟩])
 .ret)))⟩
theorem k398 : compFn Tryz.prog Tryz.f398 = some c398 := by kernel_rfl
-- (*croft/links.List).links
def c399 : AFunc := ⟨[.tmp 4,.tmp 5,.tmp 6],(.seq (.region [⟨(some 4),.mv (.const (.int .u64 0)),none⟩,⟨(some 5),.mv (.const (.int .u64 0)),none⟩,⟨(some 6),.mv (.const (.bool false)),none⟩])
 (.seq (.region [⟨(some 10),.mv (.tmp 0),none⟩,⟨(some 11),.nilCheck (.tmp 10),none⟩,⟨(some 12),.faddr 0 (.tmp 11),none⟩,⟨(some 13),.loadX false 1 (.tmp 12),none⟩,⟨(some 14),.mv (.tmp 1),none⟩,⟨(some 15),.call 243 [(.tmp 13),(.tmp 14)],none⟩,⟨(some 9),.mv (.tmp 15),none⟩,⟨(some 16),.extract (.tmp 9) 0,none⟩,⟨(some 17),.extract (.tmp 9) 1,none⟩,⟨(some 4),.mv (.tmp 16),none⟩,⟨(some 7),.mv (.tmp 17),none⟩])
 (.seq (.seq (.region [⟨(some 18),.mv (.tmp 7),none⟩,⟨(some 19),.bin .neq (.tmp 18) (.const (.int .i64 0)),none⟩])
 (.cond (.tmp 19) (.seq (.region [⟨(some 4),.mv (.const (.int .u64 0)),none⟩,⟨(some 5),.mv (.const (.int .u64 0)),none⟩,⟨(some 6),.mv (.const (.bool false)),none⟩])
 .ret) .skip))
 (.seq (.region [⟨(some 21),.mv (.tmp 0),none⟩,⟨(some 22),.nilCheck (.tmp 21),none⟩,⟨(some 23),.faddr 0 (.tmp 22),none⟩,⟨(some 24),.loadX false 1 (.tmp 23),none⟩,⟨(some 25),.mv (.tmp 1),none⟩,⟨(some 26),.bin .add (.tmp 25) (.const (.int .u64 8)),none⟩,⟨(some 27),.call 243 [(.tmp 24),(.tmp 26)],none⟩,⟨(some 20),.mv (.tmp 27),none⟩,⟨(some 28),.extract (.tmp 20) 0,none⟩,⟨(some 29),.extract (.tmp 20) 1,none⟩,⟨(some 5),.mv (.tmp 28),none⟩,⟨(some 8),.mv (.tmp 29),none⟩])
 (.seq (.region [⟨(some 30),.mv (.tmp 4),none⟩,⟨(some 31),.mv (.tmp 5),none⟩,⟨(some 32),.mv (.tmp 8),none⟩,⟨(some 33),.bin .eql (.tmp 32) (.const (.int .i64 0)),none⟩,⟨(some 34),.mv (.tmp 33),none⟩,⟨(some 35),.mv (.tmp 1),some (34,true)⟩,⟨(some 36),.bin .add (.tmp 35) (.const (.int .u64 8)),some (34,true)⟩,⟨(some 37),.mv (.tmp 1),some (34,true)⟩,⟨(some 38),.bin .gtr (.tmp 36) (.tmp 37),some (34,true)⟩,⟨(some 39),.pick (.tmp 34) (.tmp 38) (.const (.bool false)),none⟩,⟨(some 4),.mv (.tmp 30),none⟩,⟨(some 5),.mv (.tmp 31),none⟩,⟨(some 6),.mv (.tmp 39),none⟩])
 .ret)))))⟩
theorem k399 : compFn Tryz.prog Tryz.f399 = some c399 := by kernel_rfl
-- (*croft/links.List).sound
def c400 : AFunc := ⟨[.tmp 8],(.seq (.region [⟨(some 8),.mv (.const (.bool false)),none⟩])
 (.seq (.seq (.region [⟨(some 15),.mv (.tmp 3),none⟩,⟨(some 16),.bin .eql (.tmp 15) (.const (.int .u64 0)),none⟩,⟨(some 17),.mv (.tmp 1),none⟩,⟨(some 18),.mv (.tmp 0),none⟩,⟨(some 19),.nilCheck (.tmp 18),none⟩,⟨(some 20),.faddr 1 (.tmp 19),none⟩,⟨(some 21),.loadX false 1 (.tmp 20),none⟩,⟨(some 22),.bin .eql (.tmp 17) (.tmp 21),none⟩,⟨(some 23),.eq1 true .bool (.tmp 16) (.tmp 22),none⟩])
 (.cond (.tmp 23) (.seq (.region [⟨(some 8),.mv (.const (.bool false)),none⟩])
 .ret) .skip))
 (.seq (.seq (.region [⟨(some 24),.mv (.tmp 3),none⟩,⟨(some 25),.bin .neq (.tmp 24) (.const (.int .u64 0)),none⟩])
 (.cond (.tmp 25) (.seq (.region [⟨(some 27),.mv (.tmp 0),none⟩,⟨(some 28),.mv (.tmp 3),none⟩,⟨(some 29),.call 399 [(.tmp 27),(.tmp 28)],none⟩,⟨(some 26),.mv (.tmp 29),none⟩,⟨(some 30),.extract (.tmp 26) 0,none⟩,⟨(some 31),.extract (.tmp 26) 1,none⟩,⟨(some 32),.extract (.tmp 26) 2,none⟩,⟨(some 9),.mv (.tmp 30),none⟩,⟨(some 10),.mv (.tmp 31),none⟩,⟨(some 11),.mv (.tmp 32),none⟩])
 (.seq (.region [⟨(some 33),.mv (.tmp 11),none⟩,⟨(some 34),.not (.tmp 33),none⟩,⟨(some 35),.mv (.tmp 34),none⟩,⟨(some 36),.mv (.tmp 9),some (35,false)⟩,⟨(some 37),.mv (.tmp 1),some (35,false)⟩,⟨(some 38),.bin .neq (.tmp 36) (.tmp 37),some (35,false)⟩,⟨(some 39),.pick (.tmp 35) (.const (.bool true)) (.tmp 38),none⟩])
 (.cond (.tmp 39) (.seq (.region [⟨(some 8),.mv (.const (.bool false)),none⟩])
 .ret) .skip))) .skip))
 (.seq (.seq (.region [⟨(some 40),.mv (.tmp 2),none⟩,⟨(some 41),.bin .neq (.tmp 40) (.const (.int .u64 0)),none⟩])
 (.cond (.tmp 41) (.seq (.region [⟨(some 43),.mv (.tmp 0),none⟩,⟨(some 44),.mv (.tmp 2),none⟩,⟨(some 45),.call 399 [(.tmp 43),(.tmp 44)],none⟩,⟨(some 42),.mv (.tmp 45),none⟩,⟨(some 46),.extract (.tmp 42) 0,none⟩,⟨(some 47),.extract (.tmp 42) 1,none⟩,⟨(some 48),.extract (.tmp 42) 2,none⟩,⟨(some 12),.mv (.tmp 46),none⟩,⟨(some 13),.mv (.tmp 47),none⟩,⟨(some 14),.mv (.tmp 48),none⟩])
 (.seq (.region [⟨(some 49),.mv (.tmp 14),none⟩,⟨(some 50),.not (.tmp 49),none⟩,⟨(some 51),.mv (.tmp 50),none⟩,⟨(some 52),.mv (.tmp 13),some (51,false)⟩,⟨(some 53),.mv (.tmp 1),some (51,false)⟩,⟨(some 54),.bin .neq (.tmp 52) (.tmp 53),some (51,false)⟩,⟨(some 55),.pick (.tmp 51) (.const (.bool true)) (.tmp 54),none⟩])
 (.cond (.tmp 55) (.seq (.region [⟨(some 8),.mv (.const (.bool false)),none⟩])
 .ret) .skip))) .skip))
 (.seq (.region [⟨(some 8),.mv (.const (.bool true)),none⟩])
 .ret)))))⟩
theorem k400 : compFn Tryz.prog Tryz.f400 = some c400 := by kernel_rfl
-- (*croft/bits.Set).Flip
def c404 : AFunc := ⟨[.tmp 4],(.seq (.region [⟨(some 4),.mv (.const (.bool false)),none⟩])
 (.seq (.seq (.region [⟨(some 5),.mv (.tmp 0),none⟩,⟨(some 6),.mv (.tmp 1),none⟩,⟨(some 7),.call 408 [(.tmp 5),(.tmp 6)],none⟩,⟨(some 8),.not (.tmp 7),none⟩])
 (.cond (.tmp 8) (.seq (.region [⟨(some 4),.mv (.const (.bool false)),none⟩])
 .ret) .skip))
 (.seq (.draw [⟨⟨(some 9),.mv (.tmp 0),none⟩,0,0⟩,⟨⟨(some 10),.nilCheck (.tmp 9),none⟩,0,0⟩,⟨⟨(some 11),.faddr 1 (.tmp 10),none⟩,0,0⟩,⟨⟨(some 12),.loadX false 1 (.tmp 11),none⟩,0,0⟩,⟨⟨(some 13),.mv (.tmp 1),none⟩,0,0⟩,⟨⟨(some 14),.bin .quo (.tmp 13) (.const (.int .i64 64)),none⟩,0,0⟩,⟨⟨(some 15),.iaddrX 1 (.tmp 12) (.tmp 14),none⟩,0,0⟩,⟨⟨(some 16),.loadX false 1 (.tmp 15),none⟩,0,0⟩,⟨⟨(some 17),.mv (.tmp 1),none⟩,0,0⟩,⟨⟨(some 18),.bin .rem (.tmp 17) (.const (.int .i64 64)),none⟩,0,0⟩,⟨⟨(some 19),.bin .shl (.const (.int .u64 1)) (.tmp 18),none⟩,0,0⟩,⟨⟨(some 20),.bin .xor (.tmp 16) (.tmp 19),none⟩,0,0⟩,⟨⟨(some 21),.iaddrX 1 (.tmp 12) (.tmp 14),none⟩,0,0⟩,⟨⟨none,.storeX 1 (.tmp 21) (.tmp 20),none⟩,0,1⟩])
 (.seq (.region [⟨(some 4),.mv (.const (.bool true)),none⟩])
 .ret))))⟩
theorem k404 : compFn Tryz.prog Tryz.f404 = some c404 := by kernel_rfl
-- (*croft/pagemap.Map).Pair
def c405 : AFunc := ⟨[.tmp 6],(.seq (.region [⟨(some 6),.mv (.const (.bool false)),none⟩])
 (.seq (.seq (.region [⟨(some 10),.mv (.tmp 0),none⟩,⟨(some 11),.mv (.tmp 2),none⟩,⟨(some 12),.call 118 [(.tmp 10),(.tmp 11)],none⟩,⟨(some 9),.mv (.tmp 12),none⟩,⟨(some 13),.extract (.tmp 9) 0,none⟩,⟨(some 14),.extract (.tmp 9) 1,none⟩,⟨(some 7),.alloc [(.int .i64 0),(.int .i64 0),(.int .i64 0),(.int .i64 0),(.int .i64 0),(.int .i64 0),(.int .i64 0),(.int .u64 0),(.int .u64 0),(.int .u64 0),(.int .u64 0)],none⟩,⟨none,.storeX 11 (.tmp 7) (.tmp 13),none⟩,⟨(some 8),.mv (.tmp 14),none⟩])
 (.seq (.region [⟨(some 15),.mv (.tmp 8),none⟩,⟨(some 16),.not (.tmp 15),none⟩,⟨(some 17),.mv (.tmp 16),none⟩,⟨(some 18),.mv (.tmp 1),some (17,false)⟩,⟨(some 19),.mv (.tmp 0),some (17,false)⟩,⟨(some 20),.nilCheck (.tmp 19),some (17,false)⟩,⟨(some 21),.faddr 0 (.tmp 20),some (17,false)⟩,⟨(some 22),.loadX false 1 (.tmp 21),some (17,false)⟩,⟨(some 23),.bin .sub (.tmp 22) (.const (.int .i64 1)),some (17,false)⟩,⟨(some 24),.call 375 [(.tmp 18),(.const (.int .i64 0)),(.tmp 23)],some (17,false)⟩,⟨(some 25),.not (.tmp 24),some (17,false)⟩,⟨(some 26),.pick (.tmp 17) (.const (.bool true)) (.tmp 25),none⟩])
 (.cond (.tmp 26) (.seq (.region [⟨(some 6),.mv (.const (.bool false)),none⟩])
 .ret) .skip)))
 (.seq (.draw [⟨⟨(some 27),.mv (.tmp 0),none⟩,0,0⟩,⟨⟨(some 28),.nilCheck (.tmp 27),none⟩,0,0⟩,⟨⟨(some 29),.faddr 2 (.tmp 28),none⟩,0,0⟩,⟨⟨(some 30),.loadX false 1 (.tmp 29),none⟩,0,0⟩,⟨⟨(some 31),.mv (.tmp 1),none⟩,0,0⟩,⟨⟨(some 32),.iaddrX 1 (.tmp 30) (.tmp 31),none⟩,0,0⟩,⟨⟨(some 33),.loadX false 1 (.tmp 32),none⟩,0,0⟩,⟨⟨(some 34),.mv (.tmp 2),none⟩,0,0⟩,⟨⟨(some 35),.mv (.tmp 1),none⟩,0,0⟩,⟨⟨(some 36),.bin .add (.tmp 35) (.const (.int .i64 1)),none⟩,0,0⟩,⟨⟨(some 37),.bin .shr (.tmp 34) (.tmp 36),none⟩,0,0⟩,⟨⟨(some 38),.call 409 [(.tmp 33),(.tmp 37)],none⟩,0,1⟩,⟨⟨(some 6),.mv (.tmp 38),none⟩,1,1⟩])
 .ret)))⟩
theorem k405 : compFn Tryz.prog Tryz.f405 = some c405 := by kernel_rfl
-- (*croft/bits.Set).Resize
def c406 : AFunc := ⟨[],(.region [⟨(some 4),.mv (.tmp 0),none⟩,⟨(some 5),.mv (.tmp 0),none⟩,⟨(some 6),.nilCheck (.tmp 5),none⟩,⟨(some 7),.faddr 1 (.tmp 6),none⟩,⟨(some 8),.loadX false 1 (.tmp 7),none⟩,⟨(some 9),.mv (.tmp 1),none⟩,⟨(some 10),.call 311 [(.tmp 8),(.tmp 9)],none⟩,⟨(some 11),.nilCheck (.tmp 10),none⟩,⟨(some 12),.loadX true 2 (.tmp 11),none⟩,⟨(some 13),.nilCheck (.tmp 4),none⟩,⟨none,.storeX 2 (.tmp 13) (.tmp 12),none⟩])⟩
theorem k406 : compFn Tryz.prog Tryz.f406 = some c406 := by kernel_rfl
-- (*croft/mem.Space).Regions
def c407 : AFunc := ⟨[.tmp 2],(.seq (.region [⟨(some 2),.mv (.const (.int .i64 0)),none⟩])
 (.seq (.region [⟨(some 3),.mv (.tmp 0),none⟩,⟨(some 4),.nilCheck (.tmp 3),none⟩,⟨(some 5),.faddr 4 (.tmp 4),none⟩,⟨(some 6),.loadX false 1 (.tmp 5),none⟩,⟨(some 7),.lenX (.tmp 6),none⟩,⟨(some 2),.mv (.tmp 7),none⟩])
 .ret))⟩
theorem k407 : compFn Tryz.prog Tryz.f407 = some c407 := by kernel_rfl
-- (*croft/bits.Set).has
def c408 : AFunc := ⟨[.tmp 4],(.seq (.region [⟨(some 4),.mv (.const (.bool false)),none⟩])
 (.seq (.region [⟨(some 5),.mv (.tmp 1),none⟩,⟨(some 6),.bin .geq (.tmp 5) (.const (.int .i64 0)),none⟩,⟨(some 7),.mv (.tmp 6),none⟩,⟨(some 8),.mv (.tmp 1),some (7,true)⟩,⟨(some 9),.mv (.tmp 0),some (7,true)⟩,⟨(some 10),.nilCheck (.tmp 9),some (7,true)⟩,⟨(some 11),.faddr 0 (.tmp 10),some (7,true)⟩,⟨(some 12),.loadX false 1 (.tmp 11),some (7,true)⟩,⟨(some 13),.bin .lss (.tmp 8) (.tmp 12),some (7,true)⟩,⟨(some 14),.pick (.tmp 7) (.tmp 13) (.const (.bool false)),none⟩,⟨(some 4),.mv (.tmp 14),none⟩])
 .ret))⟩
theorem k408 : compFn Tryz.prog Tryz.f408 = some c408 := by kernel_rfl
-- (*croft/bits.Set).Get
def c409 : AFunc := ⟨[.tmp 4],(.seq (.region [⟨(some 4),.mv (.const (.bool false)),none⟩])
 (.seq (.region [⟨(some 5),.mv (.tmp 0),none⟩,⟨(some 6),.mv (.tmp 1),none⟩,⟨(some 7),.call 408 [(.tmp 5),(.tmp 6)],none⟩,⟨(some 8),.mv (.tmp 7),none⟩,⟨(some 9),.mv (.tmp 0),some (8,true)⟩,⟨(some 10),.nilCheck (.tmp 9),some (8,true)⟩,⟨(some 11),.faddr 1 (.tmp 10),some (8,true)⟩,⟨(some 12),.loadX false 1 (.tmp 11),some (8,true)⟩,⟨(some 13),.mv (.tmp 1),some (8,true)⟩,⟨(some 14),.bin .quo (.tmp 13) (.const (.int .i64 64)),some (8,true)⟩,⟨(some 15),.iaddrX 1 (.tmp 12) (.tmp 14),some (8,true)⟩,⟨(some 16),.loadX false 1 (.tmp 15),some (8,true)⟩,⟨(some 17),.mv (.tmp 1),some (8,true)⟩,⟨(some 18),.bin .rem (.tmp 17) (.const (.int .i64 64)),some (8,true)⟩,⟨(some 19),.bin .shr (.tmp 16) (.tmp 18),some (8,true)⟩,⟨(some 20),.bin .and (.tmp 19) (.const (.int .u64 1)),some (8,true)⟩,⟨(some 21),.bin .eql (.tmp 20) (.const (.int .u64 1)),some (8,true)⟩,⟨(some 22),.pick (.tmp 8) (.tmp 21) (.const (.bool false)),none⟩,⟨(some 4),.mv (.tmp 22),none⟩])
 .ret))⟩
theorem k409 : compFn Tryz.prog Tryz.f409 = some c409 := by kernel_rfl
-- (*croft/march.Store).mark
def c438 : AFunc := ⟨[],(.seq (.region [⟨(some 10),.mv (.tmp 0),none⟩,⟨(some 11),.nilCheck (.tmp 10),none⟩,⟨(some 12),.faddr 1 (.tmp 11),none⟩,⟨(some 13),.loadX false 1 (.tmp 12),none⟩,⟨(some 14),.mv (.tmp 1),none⟩,⟨(some 15),.lookup .int (.ptr none) false (.tmp 13) (.tmp 14),none⟩,⟨(some 6),.mv (.tmp 15),none⟩])
 (.seq (.seq (.region [⟨(some 16),.mv (.tmp 6),none⟩,⟨(some 17),.nilCheck (.tmp 16),none⟩,⟨(some 18),.faddr 0 (.tmp 17),none⟩,⟨(some 19),.loadX false 1 (.tmp 18),none⟩,⟨(some 20),.mv (.const (.int .i64 0)),none⟩])
 (.block 0 (.loop (.seq (.region [⟨(some 21),.bin .lss (.tmp 20) (.tmp 19),none⟩])
 (.seq (.cond (.tmp 21) .skip (.exit 0))
 (.seq (.block 1 (.seq (.region [⟨(some 22),.mv (.tmp 20),none⟩,⟨(some 7),.mv (.tmp 22),none⟩])
 (.seq (.region [⟨(some 24),.mv (.tmp 0),none⟩,⟨(some 25),.nilCheck (.tmp 24),none⟩,⟨(some 26),.faddr 0 (.tmp 25),none⟩,⟨(some 27),.loadX false 1 (.tmp 26),none⟩,⟨(some 28),.mv (.tmp 1),none⟩,⟨(some 29),.mv (.tmp 7),none⟩,⟨(some 30),.conv .u64 (.tmp 29),none⟩,⟨(some 31),.bin .mul (.const (.int .u64 8)) (.tmp 30),none⟩,⟨(some 32),.bin .add (.tmp 28) (.tmp 31),none⟩,⟨(some 33),.call 170 [(.tmp 27),(.tmp 32)],none⟩,⟨(some 23),.mv (.tmp 33),none⟩,⟨(some 34),.extract (.tmp 23) 0,none⟩,⟨(some 35),.extract (.tmp 23) 1,none⟩,⟨(some 8),.mv (.tmp 34),none⟩,⟨(some 9),.mv (.tmp 35),none⟩])
 (.seq (.region [⟨(some 36),.mv (.tmp 8),none⟩,⟨(some 37),.bin .neq (.tmp 36) (.const (.int .u64 0)),none⟩])
 (.cond (.tmp 37) (.region [⟨(some 38),.mv (.tmp 0),none⟩,⟨(some 39),.mv (.tmp 8),none⟩,⟨(some 40),.call 163 [(.tmp 38),(.tmp 39)],none⟩]) .skip)))))
 (.region [⟨(some 41),.bin .add (.tmp 20) (.const (.int .i64 1)),none⟩,⟨(some 20),.mv (.tmp 41),none⟩])))))))
 (.region [⟨(some 42),.mv (.tmp 6),none⟩,⟨(some 43),.nilCheck (.tmp 42),none⟩,⟨(some 44),.faddr 3 (.tmp 43),none⟩,⟨none,.storeX 1 (.tmp 44) (.const (.int .i64 2)),none⟩])))⟩
theorem k438 : compFn Tryz.prog Tryz.f438 = some c438 := by kernel_rfl
-- (*croft/march.Store).sweep
def c439 : AFunc := ⟨[],(.seq (.region [⟨(some 9),.mv (.tmp 0),none⟩,⟨(some 10),.nilCheck (.tmp 9),none⟩,⟨(some 11),.faddr 0 (.tmp 10),none⟩,⟨(some 12),.loadX false 1 (.tmp 11),none⟩,⟨(some 13),.mv (.tmp 1),none⟩,⟨(some 14),.call 42 [(.tmp 12),(.tmp 13)],none⟩,⟨(some 8),.mv (.tmp 14),none⟩,⟨(some 15),.extract (.tmp 8) 0,none⟩,⟨(some 16),.extract (.tmp 8) 1,none⟩,⟨(some 6),.mv (.tmp 15),none⟩,⟨(some 7),.mv (.tmp 16),none⟩])
 (.seq (.region [⟨(some 17),.mv (.tmp 0),none⟩,⟨(some 18),.nilCheck (.tmp 17),none⟩,⟨(some 19),.faddr 0 (.tmp 18),none⟩,⟨(some 20),.loadX false 1 (.tmp 19),none⟩,⟨(some 21),.mv (.tmp 1),none⟩,⟨(some 22),.call 132 [(.tmp 20),(.tmp 21)],none⟩])
 (.seq (.region [⟨(some 23),.mv (.tmp 2),none⟩,⟨(some 24),.nilCheck (.tmp 23),none⟩,⟨(some 25),.faddr 1 (.tmp 24),none⟩,⟨(some 26),.loadX false 1 (.tmp 25),none⟩,⟨(some 27),.bin .add (.tmp 26) (.const (.int .i64 1)),none⟩,⟨(some 28),.nilCheck (.tmp 23),none⟩,⟨(some 29),.faddr 1 (.tmp 28),none⟩,⟨none,.storeX 1 (.tmp 29) (.tmp 27),none⟩])
 (.region [⟨(some 30),.mv (.tmp 2),none⟩,⟨(some 31),.nilCheck (.tmp 30),none⟩,⟨(some 32),.faddr 2 (.tmp 31),none⟩,⟨(some 33),.loadX false 1 (.tmp 32),none⟩,⟨(some 34),.mv (.tmp 6),none⟩,⟨(some 35),.bin .add (.tmp 33) (.tmp 34),none⟩,⟨(some 36),.nilCheck (.tmp 30),none⟩,⟨(some 37),.faddr 2 (.tmp 36),none⟩,⟨none,.storeX 1 (.tmp 37) (.tmp 35),none⟩]))))⟩
theorem k439 : compFn Tryz.prog Tryz.f439 = some c439 := by kernel_rfl
end
end Go.Proofs.YtdnefddmghhgpaaGreatDoor
