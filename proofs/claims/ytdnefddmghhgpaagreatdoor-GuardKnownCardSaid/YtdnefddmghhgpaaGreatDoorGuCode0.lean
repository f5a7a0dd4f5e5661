import Derived.Test.YtdnefddmghhgpaaGreatDoorM7Link
set_option maxRecDepth 1000000
set_option maxHeartbeats 4000000
set_option linter.unusedVariables false
namespace Go.Proofs.YtdnefddmghhgpaaGreatDoor
open AM Go
noncomputable section
-- croft/croftlaw23.GuardKnown
def c6 : AFunc := ⟨[.tmp 0],(.seq (.region [⟨(some 0),.mv (.const (.bool false)),none⟩])
 (.seq (.seq (.region [⟨(some 17),.call 38 [],none⟩,⟨(some 18),.not (.tmp 17),none⟩])
 (.cond (.tmp 18) (.seq (.region [⟨(some 0),.mv (.const (.bool false)),none⟩])
 .ret) .skip))
 (.seq (.region [⟨(some 20),.build [(.int .u64 0),(.int .i64 0),(.int .i64 0)] [(0,1,(.const (.int .u64 65536))),(1,1,(.const (.int .i64 1))),(2,1,(.const (.int .i64 1)))],none⟩,⟨(some 21),.call 12 [(.tmp 20)],none⟩,⟨(some 19),.mv (.tmp 21),none⟩,⟨(some 22),.extract (.tmp 19) 0,none⟩,⟨(some 23),.extract (.tmp 19) 1,none⟩,⟨(some 1),.mv (.tmp 22),none⟩,⟨(some 2),.mv (.tmp 23),none⟩])
 (.seq (.seq (.region [⟨(some 24),.mv (.tmp 2),none⟩,⟨(some 25),.bin .neq (.tmp 24) (.const (.int .i64 0)),none⟩])
 (.cond (.tmp 25) (.seq (.region [⟨(some 0),.mv (.const (.bool false)),none⟩])
 .ret) .skip))
 (.seq (.region [⟨(some 27),.mv (.tmp 1),none⟩,⟨(some 28),.call 39 [(.tmp 27),(.const (.int .i64 8)),(.const (.int .i64 1)),(.const (.int .u8 0))],none⟩,⟨(some 26),.mv (.tmp 28),none⟩,⟨(some 29),.extract (.tmp 26) 0,none⟩,⟨(some 30),.extract (.tmp 26) 1,none⟩,⟨(some 3),.mv (.tmp 29),none⟩,⟨(some 4),.mv (.tmp 30),none⟩])
 (.seq (.region [⟨(some 32),.mv (.tmp 1),none⟩,⟨(some 33),.call 39 [(.tmp 32),(.const (.int .i64 1040)),(.const (.int .i64 1)),(.const (.int .u8 0))],none⟩,⟨(some 31),.mv (.tmp 33),none⟩,⟨(some 34),.extract (.tmp 31) 0,none⟩,⟨(some 35),.extract (.tmp 31) 1,none⟩,⟨(some 5),.mv (.tmp 34),none⟩,⟨(some 6),.mv (.tmp 35),none⟩])
 (.seq (.region [⟨(some 37),.mv (.tmp 1),none⟩,⟨(some 38),.call 39 [(.tmp 37),(.const (.int .i64 16)),(.const (.int .i64 257)),(.const (.int .u8 0))],none⟩,⟨(some 36),.mv (.tmp 38),none⟩,⟨(some 39),.extract (.tmp 36) 0,none⟩,⟨(some 40),.extract (.tmp 36) 1,none⟩,⟨(some 7),.mv (.tmp 39),none⟩,⟨(some 8),.mv (.tmp 40),none⟩])
 (.seq (.region [⟨(some 42),.mv (.tmp 1),none⟩,⟨(some 43),.call 39 [(.tmp 42),(.const (.int .i64 16)),(.const (.int .i64 (-1))),(.const (.int .u8 0))],none⟩,⟨(some 41),.mv (.tmp 43),none⟩,⟨(some 44),.extract (.tmp 41) 0,none⟩,⟨(some 45),.extract (.tmp 41) 1,none⟩,⟨(some 9),.mv (.tmp 44),none⟩,⟨(some 10),.mv (.tmp 45),none⟩])
 (.seq (.region [⟨(some 47),.mv (.tmp 1),none⟩,⟨(some 48),.call 39 [(.tmp 47),(.const (.int .i64 16)),(.const (.int .i64 1)),(.const (.int .u8 170))],none⟩,⟨(some 46),.mv (.tmp 48),none⟩,⟨(some 49),.extract (.tmp 46) 0,none⟩,⟨(some 50),.extract (.tmp 46) 1,none⟩,⟨(some 11),.mv (.tmp 49),none⟩,⟨(some 2),.mv (.tmp 50),none⟩])
 (.seq (.seq (.region [⟨(some 51),.mv (.tmp 4),none⟩,⟨(some 52),.bin .neq (.tmp 51) (.const (.int .i64 1)),none⟩,⟨(some 53),.mv (.tmp 52),none⟩,⟨(some 54),.mv (.tmp 6),some (53,false)⟩,⟨(some 55),.bin .neq (.tmp 54) (.const (.int .i64 1)),some (53,false)⟩,⟨(some 56),.pick (.tmp 53) (.const (.bool true)) (.tmp 55),none⟩,⟨(some 57),.mv (.tmp 56),none⟩,⟨(some 58),.mv (.tmp 8),some (57,false)⟩,⟨(some 59),.bin .neq (.tmp 58) (.const (.int .i64 1)),some (57,false)⟩,⟨(some 60),.pick (.tmp 57) (.const (.bool true)) (.tmp 59),none⟩,⟨(some 61),.mv (.tmp 60),none⟩,⟨(some 62),.mv (.tmp 10),some (61,false)⟩,⟨(some 63),.bin .neq (.tmp 62) (.const (.int .i64 1)),some (61,false)⟩,⟨(some 64),.pick (.tmp 61) (.const (.bool true)) (.tmp 63),none⟩,⟨(some 65),.mv (.tmp 64),none⟩,⟨(some 66),.mv (.tmp 2),some (65,false)⟩,⟨(some 67),.bin .neq (.tmp 66) (.const (.int .i64 0)),some (65,false)⟩,⟨(some 68),.pick (.tmp 65) (.const (.bool true)) (.tmp 67),none⟩,⟨(some 69),.mv (.tmp 68),none⟩,⟨(some 70),.pick (.tmp 69) (.const (.bool true)) (.const (.bool false)),none⟩,⟨(some 71),.mv (.tmp 70),none⟩,⟨(some 72),.pick (.tmp 71) (.const (.bool true)) (.const (.bool false)),none⟩,⟨(some 73),.mv (.tmp 72),none⟩,⟨(some 74),.pick (.tmp 73) (.const (.bool true)) (.const (.bool false)),none⟩,⟨(some 75),.mv (.tmp 74),none⟩,⟨(some 76),.pick (.tmp 75) (.const (.bool true)) (.const (.bool false)),none⟩,⟨(some 77),.mv (.tmp 76),none⟩,⟨(some 78),.pick (.tmp 77) (.const (.bool true)) (.const (.bool false)),none⟩])
 (.cond (.tmp 78) (.seq (.region [⟨(some 0),.mv (.const (.bool false)),none⟩])
 .ret) .skip))
 (.seq (.region [⟨(some 80),.mv (.tmp 11),none⟩,⟨(some 81),.call 40 [(.tmp 80),(.const (.int .u64 20)),(.const (.int .u32 7)),(.const (.bool false))],none⟩,⟨(some 79),.mv (.tmp 81),none⟩,⟨(some 82),.extract (.tmp 79) 0,none⟩,⟨(some 83),.extract (.tmp 79) 1,none⟩,⟨(some 12),.mv (.tmp 82),none⟩,⟨(some 4),.mv (.tmp 83),none⟩])
 (.seq (.region [⟨(some 85),.mv (.tmp 11),none⟩,⟨(some 86),.call 40 [(.tmp 85),(.const (.int .u64 8161)),(.const (.int .u32 0)),(.const (.bool false))],none⟩,⟨(some 84),.mv (.tmp 86),none⟩,⟨(some 87),.extract (.tmp 84) 0,none⟩,⟨(some 88),.extract (.tmp 84) 1,none⟩,⟨(some 6),.mv (.tmp 88),none⟩])
 (.seq (.region [⟨(some 90),.mv (.tmp 11),none⟩,⟨(some 91),.call 40 [(.tmp 90),(.const (.int .u64 18446744073709551615)),(.const (.int .u32 0)),(.const (.bool false))],none⟩,⟨(some 89),.mv (.tmp 91),none⟩,⟨(some 92),.extract (.tmp 89) 0,none⟩,⟨(some 93),.extract (.tmp 89) 1,none⟩,⟨(some 8),.mv (.tmp 93),none⟩])
 (.seq (.region [⟨(some 95),.mv (.tmp 11),none⟩,⟨(some 96),.mv (.tmp 12),none⟩,⟨(some 97),.call 41 [(.tmp 95),(.tmp 96)],none⟩,⟨(some 94),.mv (.tmp 97),none⟩,⟨(some 98),.extract (.tmp 94) 0,none⟩,⟨(some 99),.extract (.tmp 94) 1,none⟩,⟨(some 13),.mv (.tmp 98),none⟩,⟨(some 10),.mv (.tmp 99),none⟩])
 (.seq (.region [⟨(some 101),.mv (.tmp 11),none⟩,⟨(some 102),.call 41 [(.tmp 101),(.const (.int .u64 65536))],none⟩,⟨(some 100),.mv (.tmp 102),none⟩,⟨(some 103),.extract (.tmp 100) 0,none⟩,⟨(some 104),.extract (.tmp 100) 1,none⟩,⟨(some 2),.mv (.tmp 104),none⟩])
 (.seq (.seq (.region [⟨(some 105),.mv (.tmp 12),none⟩,⟨(some 106),.bin .neq (.tmp 105) (.const (.int .u64 65552)),none⟩,⟨(some 107),.mv (.tmp 106),none⟩,⟨(some 108),.mv (.tmp 4),some (107,false)⟩,⟨(some 109),.bin .neq (.tmp 108) (.const (.int .i64 0)),some (107,false)⟩,⟨(some 110),.pick (.tmp 107) (.const (.bool true)) (.tmp 109),none⟩,⟨(some 111),.mv (.tmp 110),none⟩,⟨(some 112),.mv (.tmp 6),some (111,false)⟩,⟨(some 113),.bin .neq (.tmp 112) (.const (.int .i64 3)),some (111,false)⟩,⟨(some 114),.pick (.tmp 111) (.const (.bool true)) (.tmp 113),none⟩,⟨(some 115),.mv (.tmp 114),none⟩,⟨(some 116),.mv (.tmp 8),some (115,false)⟩,⟨(some 117),.bin .neq (.tmp 116) (.const (.int .i64 3)),some (115,false)⟩,⟨(some 118),.pick (.tmp 115) (.const (.bool true)) (.tmp 117),none⟩,⟨(some 119),.mv (.tmp 118),none⟩,⟨(some 120),.mv (.tmp 13),some (119,false)⟩,⟨(some 121),.bin .neq (.tmp 120) (.const (.int .u64 20)),some (119,false)⟩,⟨(some 122),.pick (.tmp 119) (.const (.bool true)) (.tmp 121),none⟩,⟨(some 123),.mv (.tmp 122),none⟩,⟨(some 124),.mv (.tmp 10),some (123,false)⟩,⟨(some 125),.bin .neq (.tmp 124) (.const (.int .i64 0)),some (123,false)⟩,⟨(some 126),.pick (.tmp 123) (.const (.bool true)) (.tmp 125),none⟩,⟨(some 127),.mv (.tmp 126),none⟩,⟨(some 128),.mv (.tmp 2),some (127,false)⟩,⟨(some 129),.bin .neq (.tmp 128) (.const (.int .i64 1)),some (127,false)⟩,⟨(some 130),.pick (.tmp 127) (.const (.bool true)) (.tmp 129),none⟩])
 (.cond (.tmp 130) (.seq (.region [⟨(some 0),.mv (.const (.bool false)),none⟩])
 .ret) .skip))
 (.seq (.region [⟨(some 132),.mv (.tmp 1),none⟩,⟨(some 133),.call 42 [(.tmp 132),(.const (.int .u64 65536))],none⟩,⟨(some 131),.mv (.tmp 133),none⟩,⟨(some 134),.extract (.tmp 131) 0,none⟩,⟨(some 135),.extract (.tmp 131) 1,none⟩,⟨(some 13),.mv (.tmp 134),none⟩,⟨(some 4),.mv (.tmp 135),none⟩])
 (.seq (.region [⟨(some 137),.mv (.tmp 1),none⟩,⟨(some 138),.call 43 [(.tmp 137),(.const (.int .u64 65551))],none⟩,⟨(some 136),.mv (.tmp 138),none⟩,⟨(some 139),.extract (.tmp 136) 0,none⟩,⟨(some 140),.extract (.tmp 136) 1,none⟩,⟨(some 14),.mv (.tmp 139),none⟩,⟨(some 6),.mv (.tmp 140),none⟩])
 (.seq (.region [⟨(some 142),.mv (.tmp 1),none⟩,⟨(some 143),.call 43 [(.tmp 142),(.const (.int .u64 65572))],none⟩,⟨(some 141),.mv (.tmp 143),none⟩,⟨(some 144),.extract (.tmp 141) 0,none⟩,⟨(some 145),.extract (.tmp 141) 1,none⟩,⟨(some 15),.mv (.tmp 144),none⟩,⟨(some 8),.mv (.tmp 145),none⟩])
 (.seq (.region [⟨(some 147),.mv (.tmp 1),none⟩,⟨(some 148),.call 44 [(.tmp 147),(.const (.int .u64 65552)),(.const (.int .u64 20))],none⟩,⟨(some 146),.mv (.tmp 148),none⟩,⟨(some 149),.extract (.tmp 146) 0,none⟩,⟨(some 150),.extract (.tmp 146) 1,none⟩,⟨(some 16),.mv (.tmp 149),none⟩,⟨(some 10),.mv (.tmp 150),none⟩])
 (.seq (.seq (.region [⟨(some 151),.mv (.tmp 13),none⟩,⟨(some 152),.bin .neq (.tmp 151) (.const (.int .u64 64)),none⟩,⟨(some 153),.mv (.tmp 152),none⟩,⟨(some 154),.mv (.tmp 4),some (153,false)⟩,⟨(some 155),.bin .neq (.tmp 154) (.const (.int .i64 0)),some (153,false)⟩,⟨(some 156),.pick (.tmp 153) (.const (.bool true)) (.tmp 155),none⟩,⟨(some 157),.mv (.tmp 156),none⟩,⟨(some 158),.mv (.tmp 14),some (157,false)⟩,⟨(some 159),.bin .neq (.tmp 158) (.const (.int .u8 170)),some (157,false)⟩,⟨(some 160),.pick (.tmp 157) (.const (.bool true)) (.tmp 159),none⟩,⟨(some 161),.mv (.tmp 160),none⟩,⟨(some 162),.mv (.tmp 6),some (161,false)⟩,⟨(some 163),.bin .neq (.tmp 162) (.const (.int .i64 0)),some (161,false)⟩,⟨(some 164),.pick (.tmp 161) (.const (.bool true)) (.tmp 163),none⟩,⟨(some 165),.mv (.tmp 164),none⟩,⟨(some 166),.mv (.tmp 15),some (165,false)⟩,⟨(some 167),.bin .neq (.tmp 166) (.const (.int .u8 170)),some (165,false)⟩,⟨(some 168),.pick (.tmp 165) (.const (.bool true)) (.tmp 167),none⟩,⟨(some 169),.mv (.tmp 168),none⟩,⟨(some 170),.mv (.tmp 8),some (169,false)⟩,⟨(some 171),.bin .neq (.tmp 170) (.const (.int .i64 0)),some (169,false)⟩,⟨(some 172),.pick (.tmp 169) (.const (.bool true)) (.tmp 171),none⟩,⟨(some 173),.mv (.tmp 172),none⟩,⟨(some 174),.mv (.tmp 10),some (173,false)⟩,⟨(some 175),.bin .neq (.tmp 174) (.const (.int .i64 0)),some (173,false)⟩,⟨(some 176),.pick (.tmp 173) (.const (.bool true)) (.tmp 175),none⟩,⟨(some 177),.mv (.tmp 176),none⟩,⟨(some 178),.mv (.tmp 16),some (177,false)⟩,⟨(some 179),.makeSlice 1 1 [(.int .u8 0)] (.const (.int .i64 20)) (.const (.int .i64 20)),some (177,false)⟩,⟨(some 180),.call 45 [(.tmp 178),(.tmp 179)],some (177,false)⟩,⟨(some 181),.not (.tmp 180),some (177,false)⟩,⟨(some 182),.pick (.tmp 177) (.const (.bool true)) (.tmp 181),none⟩])
 (.cond (.tmp 182) (.seq (.region [⟨(some 0),.mv (.const (.bool false)),none⟩])
 .ret) .skip))
 (.seq (.seq (.region [⟨(some 183),.mv (.tmp 11),none⟩,⟨(some 184),.call 46 [(.tmp 183),(.const (.int .u64 65535)),(.const (.int .i64 0)),(.const (.int .u64 0))],none⟩,⟨(some 185),.not (.tmp 184),none⟩,⟨(some 186),.mv (.tmp 185),none⟩,⟨(some 187),.mv (.tmp 11),some (186,false)⟩,⟨(some 188),.mv (.tmp 12),some (186,false)⟩,⟨(some 189),.call 46 [(.tmp 187),(.const (.int .u64 65536)),(.const (.int .i64 1)),(.tmp 188)],some (186,false)⟩,⟨(some 190),.not (.tmp 189),some (186,false)⟩,⟨(some 191),.pick (.tmp 186) (.const (.bool true)) (.tmp 190),none⟩,⟨(some 192),.mv (.tmp 191),none⟩,⟨(some 193),.mv (.tmp 11),some (192,false)⟩,⟨(some 194),.mv (.tmp 12),some (192,false)⟩,⟨(some 195),.mv (.tmp 12),some (192,false)⟩,⟨(some 196),.call 46 [(.tmp 193),(.tmp 194),(.const (.int .i64 4)),(.tmp 195)],some (192,false)⟩,⟨(some 197),.not (.tmp 196),some (192,false)⟩,⟨(some 198),.pick (.tmp 192) (.const (.bool true)) (.tmp 197),none⟩,⟨(some 199),.mv (.tmp 198),none⟩,⟨(some 200),.mv (.tmp 11),some (199,false)⟩,⟨(some 201),.mv (.tmp 12),some (199,false)⟩,⟨(some 202),.call 46 [(.tmp 200),(.const (.int .u64 65572)),(.const (.int .i64 2)),(.tmp 201)],some (199,false)⟩,⟨(some 203),.not (.tmp 202),some (199,false)⟩,⟨(some 204),.pick (.tmp 199) (.const (.bool true)) (.tmp 203),none⟩,⟨(some 205),.mv (.tmp 204),none⟩,⟨(some 206),.mv (.tmp 11),some (205,false)⟩,⟨(some 207),.mv (.tmp 12),some (205,false)⟩,⟨(some 208),.call 46 [(.tmp 206),(.const (.int .u64 65599)),(.const (.int .i64 2)),(.tmp 207)],some (205,false)⟩,⟨(some 209),.not (.tmp 208),some (205,false)⟩,⟨(some 210),.pick (.tmp 205) (.const (.bool true)) (.tmp 209),none⟩,⟨(some 211),.mv (.tmp 210),none⟩,⟨(some 212),.mv (.tmp 11),some (211,false)⟩,⟨(some 213),.call 46 [(.tmp 212),(.const (.int .u64 65600)),(.const (.int .i64 0)),(.const (.int .u64 0))],some (211,false)⟩,⟨(some 214),.not (.tmp 213),some (211,false)⟩,⟨(some 215),.pick (.tmp 211) (.const (.bool true)) (.tmp 214),none⟩])
 (.cond (.tmp 215) (.seq (.region [⟨(some 0),.mv (.const (.bool false)),none⟩])
 .ret) .skip))
 (.seq (.seq (.region [⟨(some 216),.mv (.tmp 1),none⟩,⟨(some 217),.call 47 [(.tmp 216),(.const (.int .u64 65571)),(.const (.int .u8 5))],none⟩,⟨(some 218),.bin .neq (.tmp 217) (.const (.int .i64 0)),none⟩,⟨(some 219),.mv (.tmp 218),none⟩,⟨(some 220),.mv (.tmp 11),some (219,false)⟩,⟨(some 221),.call 48 [(.tmp 220)],some (219,false)⟩,⟨(some 222),.lenS (.tmp 221),some (219,false)⟩,⟨(some 223),.bin .neq (.tmp 222) (.const (.int .i64 0)),some (219,false)⟩,⟨(some 224),.pick (.tmp 219) (.const (.bool true)) (.tmp 223),none⟩,⟨(some 225),.mv (.tmp 224),none⟩,⟨(some 226),.mv (.tmp 1),some (225,false)⟩,⟨(some 227),.call 47 [(.tmp 226),(.const (.int .u64 65572)),(.const (.int .u8 5))],some (225,false)⟩,⟨(some 228),.bin .neq (.tmp 227) (.const (.int .i64 0)),some (225,false)⟩,⟨(some 229),.pick (.tmp 225) (.const (.bool true)) (.tmp 228),none⟩,⟨(some 230),.mv (.tmp 229),none⟩,⟨(some 231),.mv (.tmp 1),some (230,false)⟩,⟨(some 232),.call 47 [(.tmp 231),(.const (.int .u64 65551)),(.const (.int .u8 170))],some (230,false)⟩,⟨(some 233),.bin .neq (.tmp 232) (.const (.int .i64 0)),some (230,false)⟩,⟨(some 234),.pick (.tmp 230) (.const (.bool true)) (.tmp 233),none⟩,⟨(some 235),.mv (.tmp 234),none⟩,⟨(some 236),.mv (.tmp 11),some (235,false)⟩,⟨(some 237),.call 48 [(.tmp 236)],some (235,false)⟩,⟨(some 238),.mv (.tmp 12),some (235,false)⟩,⟨(some 239),.build [(.int .u64 0),(.int .u64 0),(.int .u32 0),(.int .i64 0),(.int .u8 0)] [(0,1,(.const (.int .u64 65572))),(1,1,(.tmp 238)),(2,1,(.const (.int .u32 7))),(3,1,(.const (.int .i64 2))),(4,1,(.const (.int .u8 5)))],some (235,false)⟩,⟨(some 240),.mkSlice 1 5 [(.int .u64 0),(.int .u64 0),(.int .u32 0),(.int .i64 0),(.int .u8 0)] [(0,5,(.tmp 239))],some (235,false)⟩,⟨(some 241),.call 49 [(.tmp 237),(.tmp 240)],some (235,false)⟩,⟨(some 242),.not (.tmp 241),some (235,false)⟩,⟨(some 243),.pick (.tmp 235) (.const (.bool true)) (.tmp 242),none⟩,⟨(some 244),.mv (.tmp 243),none⟩,⟨(some 245),.mv (.tmp 11),some (244,false)⟩,⟨(some 246),.call 48 [(.tmp 245)],some (244,false)⟩,⟨(some 247),.lenS (.tmp 246),some (244,false)⟩,⟨(some 248),.bin .neq (.tmp 247) (.const (.int .i64 0)),some (244,false)⟩,⟨(some 249),.pick (.tmp 244) (.const (.bool true)) (.tmp 248),none⟩])
 (.cond (.tmp 249) (.seq (.region [⟨(some 0),.mv (.const (.bool false)),none⟩])
 .ret) .skip))
 (.seq (.region [⟨(some 250),.mv (.tmp 1),none⟩,⟨(some 251),.mv (.tmp 11),none⟩,⟨(some 252),.call 50 [(.tmp 250),(.tmp 251)],none⟩,⟨(some 0),.mv (.tmp 252),none⟩])
 .ret))))))))))))))))))))))))⟩
theorem k6 : compFn Tryz.prog Tryz.f6 = some c6 := by kernel_rfl
-- croft/malloc.New
def c12 : AFunc := ⟨[.tmp 2,.tmp 3],(.seq (.region [⟨(some 1),.box 3 (.tmp 0),none⟩,⟨(some 2),.mv (.const (.ptr none)),none⟩,⟨(some 3),.mv (.const (.int .i64 0)),none⟩])
 (.seq (.region [⟨(some 7),.load true 3 (.tmp 1),none⟩,⟨(some 8),.call 104 [(.tmp 7)],none⟩,⟨(some 6),.mv (.tmp 8),none⟩,⟨(some 9),.extract (.tmp 6) 0,none⟩,⟨(some 10),.extract (.tmp 6) 1,none⟩,⟨(some 4),.mv (.tmp 9),none⟩,⟨(some 5),.mv (.tmp 10),none⟩])
 (.seq (.seq (.region [⟨(some 11),.mv (.tmp 5),none⟩,⟨(some 12),.bin .neq (.tmp 11) (.const (.int .i64 0)),none⟩])
 (.cond (.tmp 12) (.seq (.region [⟨(some 13),.mv (.tmp 5),none⟩,⟨(some 2),.mv (.const (.ptr none)),none⟩,⟨(some 3),.mv (.tmp 13),none⟩])
 .ret) .skip))
 (.seq (.draw [⟨⟨(some 14),.load true 3 (.tmp 1),none⟩,0,1⟩,⟨⟨(some 15),.mv (.tmp 4),none⟩,0,1⟩,⟨⟨(some 16),.mv (.tmp 4),none⟩,0,0⟩,⟨⟨(some 17),.call 105 [(.tmp 16)],none⟩,0,1⟩,⟨⟨(some 18),.build [(.int .i32 0),(.int .u32 0),(.int .u64 0),(.int .i64 0),(.int .i64 0),(.ptr none),(.ptr none)] [(2,3,(.tmp 14)),(5,1,(.tmp 15)),(6,1,(.tmp 17))],none⟩,1,1⟩,⟨⟨(some 19),.box 7 (.tmp 18),none⟩,1,2⟩,⟨⟨(some 2),.mv (.tmp 19),none⟩,2,2⟩,⟨⟨(some 3),.mv (.const (.int .i64 0)),none⟩,2,2⟩])
 .ret))))⟩
theorem k12 : compFn Tryz.prog Tryz.f12 = some c12 := by kernel_rfl
-- (*croft/malloc.Heap).Stats
def c21 : AFunc := ⟨[.cell 2 true 4],(.seq (.region [⟨(some 2),.alloc [(.int .u64 0),(.int .u64 0),(.int .i64 0),(.int .i64 0)],none⟩])
 (.seq (.region [⟨(some 10),.mv (.tmp 0),none⟩,⟨(some 11),.nilCheck (.tmp 10),none⟩,⟨(some 12),.faddr 0 (.tmp 11),none⟩,⟨(some 13),.call 111 [(.tmp 12)],none⟩])
 (.seq (.region [⟨(some 14),.mv (.tmp 0),none⟩,⟨(some 15),.nilCheck (.tmp 14),none⟩,⟨(some 16),.faddr 0 (.tmp 15),none⟩,⟨none,.defer 112 [(.tmp 16)],none⟩])
 (.seq (.draw [⟨⟨(some 17),.mv (.tmp 0),none⟩,0,0⟩,⟨⟨(some 18),.nilCheck (.tmp 17),none⟩,0,0⟩,⟨⟨(some 19),.faddr 5 (.tmp 18),none⟩,0,0⟩,⟨⟨(some 20),.load false 1 (.tmp 19),none⟩,0,0⟩,⟨⟨(some 21),.nilCheck (.tmp 20),none⟩,0,0⟩,⟨⟨(some 22),.faddr 0 (.tmp 21),none⟩,0,0⟩,⟨⟨(some 23),.call 113 [(.tmp 22)],none⟩,0,1⟩,⟨⟨(some 24),.call 114 [(.tmp 23)],none⟩,1,2⟩,⟨⟨(some 25),.mv (.tmp 0),none⟩,0,2⟩,⟨⟨(some 26),.nilCheck (.tmp 25),none⟩,0,2⟩,⟨⟨(some 27),.faddr 2 (.tmp 26),none⟩,0,2⟩,⟨⟨(some 28),.faddr 0 (.tmp 27),none⟩,0,2⟩,⟨⟨(some 29),.load false 1 (.tmp 28),none⟩,0,2⟩,⟨⟨(some 30),.bin .sub (.tmp 24) (.tmp 29),none⟩,2,2⟩,⟨⟨(some 31),.build [(.int .u64 0),(.int .u64 0),(.int .i64 0),(.int .i64 0)] [(0,1,(.tmp 30))],none⟩,2,2⟩,⟨⟨(some 3),.alloc [(.int .u64 0),(.int .u64 0),(.int .i64 0),(.int .i64 0)],none⟩,0,2⟩,⟨⟨none,.store 4 (.tmp 3) (.tmp 31),none⟩,2,3⟩])
 (.seq (.seq (.region [⟨(some 32),.mv (.tmp 0),none⟩,⟨(some 33),.call 115 [(.tmp 32)],none⟩,⟨(some 34),.lenS (.tmp 33),none⟩,⟨(some 35),.mv (.const (.int .i64 0)),none⟩])
 (.block 0 (.loop (.seq (.region [⟨(some 36),.bin .lss (.tmp 35) (.tmp 34),none⟩])
 (.seq (.cond (.tmp 36) .skip (.exit 0))
 (.seq (.block 1 (.seq (.region [⟨(some 37),.iaddrS 2 (.tmp 33) (.tmp 35),none⟩,⟨(some 38),.load true 2 (.tmp 37),none⟩,⟨(some 5),.alloc [(.int .u64 0),(.int .u64 0)],none⟩,⟨none,.store 2 (.tmp 5) (.tmp 38),none⟩])
 (.seq (.region [⟨(some 39),.faddr 1 (.tmp 3),none⟩,⟨(some 40),.load false 1 (.tmp 39),none⟩,⟨(some 41),.faddr 1 (.tmp 5),none⟩,⟨(some 42),.load false 1 (.tmp 41),none⟩,⟨(some 43),.bin .add (.tmp 40) (.tmp 42),none⟩,⟨(some 44),.faddr 1 (.tmp 3),none⟩,⟨none,.store 1 (.tmp 44) (.tmp 43),none⟩])
 (.region [⟨(some 45),.faddr 2 (.tmp 3),none⟩,⟨(some 46),.load false 1 (.tmp 45),none⟩,⟨(some 47),.bin .add (.tmp 46) (.const (.int .i64 1)),none⟩,⟨(some 48),.faddr 2 (.tmp 3),none⟩,⟨none,.store 1 (.tmp 48) (.tmp 47),none⟩]))))
 (.region [⟨(some 49),.bin .add (.tmp 35) (.const (.int .i64 1)),none⟩,⟨(some 35),.mv (.tmp 49),none⟩])))))))
 (.seq (.region [⟨(some 50),.mv (.tmp 0),none⟩,⟨(some 51),.nilCheck (.tmp 50),none⟩,⟨(some 52),.faddr 5 (.tmp 51),none⟩,⟨(some 53),.load false 1 (.tmp 52),none⟩,⟨(some 54),.nilCheck (.tmp 53),none⟩,⟨(some 55),.faddr 0 (.tmp 54),none⟩,⟨(some 56),.call 116 [(.tmp 55)],none⟩,⟨(some 6),.mv (.tmp 56),none⟩])
 (.seq (.seq (.region [⟨(some 57),.mv (.tmp 6),none⟩,⟨(some 58),.call 117 [(.tmp 57)],none⟩,⟨(some 59),.mv (.const (.int .i64 0)),none⟩])
 (.block 2 (.loop (.seq (.region [⟨(some 60),.bin .lss (.tmp 59) (.tmp 58),none⟩])
 (.seq (.cond (.tmp 60) .skip (.exit 2))
 (.seq (.block 3 (.seq (.region [⟨(some 61),.mv (.tmp 59),none⟩,⟨(some 7),.mv (.tmp 61),none⟩])
 (.seq (.region [⟨(some 63),.mv (.tmp 6),none⟩,⟨(some 64),.mv (.tmp 7),none⟩,⟨(some 65),.call 118 [(.tmp 63),(.tmp 64)],none⟩,⟨(some 62),.mv (.tmp 65),none⟩,⟨(some 66),.extract (.tmp 62) 0,none⟩,⟨(some 67),.extract (.tmp 62) 1,none⟩,⟨(some 8),.alloc [(.int .i64 0),(.int .i64 0),(.int .i64 0),(.int .i64 0),(.int .i64 0),(.int .i64 0),(.int .i64 0),(.int .u64 0),(.int .u64 0),(.int .u64 0),(.int .u64 0)],none⟩,⟨none,.store 11 (.tmp 8) (.tmp 66),none⟩,⟨(some 9),.mv (.tmp 67),none⟩])
 (.seq (.region [⟨(some 68),.faddr 0 (.tmp 8),none⟩,⟨(some 69),.load false 1 (.tmp 68),none⟩,⟨(some 70),.bin .eql (.tmp 69) (.const (.int .i64 0)),none⟩,⟨(some 71),.mv (.tmp 70),none⟩,⟨(some 72),.faddr 0 (.tmp 8),some (71,false)⟩,⟨(some 73),.load false 1 (.tmp 72),some (71,false)⟩,⟨(some 74),.bin .eql (.tmp 73) (.const (.int .i64 1)),some (71,false)⟩,⟨(some 75),.pick (.tmp 71) (.const (.bool true)) (.tmp 74),none⟩])
 (.cond (.tmp 75) (.region [⟨(some 76),.faddr 3 (.tmp 3),none⟩,⟨(some 77),.load false 1 (.tmp 76),none⟩,⟨(some 78),.bin .add (.tmp 77) (.const (.int .i64 1)),none⟩,⟨(some 79),.faddr 3 (.tmp 3),none⟩,⟨none,.store 1 (.tmp 79) (.tmp 78),none⟩]) .skip)))))
 (.region [⟨(some 80),.bin .add (.tmp 59) (.const (.int .i64 1)),none⟩,⟨(some 59),.mv (.tmp 80),none⟩])))))))
 (.seq (.region [⟨(some 81),.load true 4 (.tmp 3),none⟩,⟨none,.store 4 (.tmp 2) (.tmp 81),none⟩])
 .ret))))))))⟩
theorem k21 : compFn Tryz.prog Tryz.f21 = some c21 := by kernel_rfl
-- croft/croftlaw23.awake
def c38 : AFunc := ⟨[.tmp 0],(.seq (.region [⟨(some 0),.mv (.const (.bool false)),none⟩])
 (.seq (.region [⟨(some 7),.build [(.int .u64 0),(.int .i64 0),(.int .i64 0)] [(0,1,(.const (.int .u64 65536))),(1,1,(.const (.int .i64 1))),(2,1,(.const (.int .i64 1)))],none⟩,⟨(some 8),.call 12 [(.tmp 7)],none⟩,⟨(some 6),.mv (.tmp 8),none⟩,⟨(some 9),.extract (.tmp 6) 0,none⟩,⟨(some 10),.extract (.tmp 6) 1,none⟩,⟨(some 1),.mv (.tmp 9),none⟩,⟨(some 2),.mv (.tmp 10),none⟩])
 (.seq (.seq (.region [⟨(some 11),.mv (.tmp 2),none⟩,⟨(some 12),.bin .neq (.tmp 11) (.const (.int .i64 0)),none⟩,⟨(some 13),.mv (.tmp 12),none⟩,⟨(some 14),.mv (.tmp 1),some (13,false)⟩,⟨(some 15),.eq1 false .ptr (.tmp 14) (.const (.ptr none)),some (13,false)⟩,⟨(some 16),.pick (.tmp 13) (.const (.bool true)) (.tmp 15),none⟩])
 (.cond (.tmp 16) (.seq (.region [⟨(some 0),.mv (.const (.bool false)),none⟩])
 .ret) .skip))
 (.seq (.region [⟨(some 18),.mv (.tmp 1),none⟩,⟨(some 19),.call 39 [(.tmp 18),(.const (.int .i64 16)),(.const (.int .i64 1)),(.const (.int .u8 170))],none⟩,⟨(some 17),.mv (.tmp 19),none⟩,⟨(some 20),.extract (.tmp 17) 0,none⟩,⟨(some 21),.extract (.tmp 17) 1,none⟩,⟨(some 3),.mv (.tmp 20),none⟩,⟨(some 2),.mv (.tmp 21),none⟩])
 (.seq (.seq (.region [⟨(some 22),.mv (.tmp 2),none⟩,⟨(some 23),.bin .neq (.tmp 22) (.const (.int .i64 0)),none⟩,⟨(some 24),.mv (.tmp 23),none⟩,⟨(some 25),.mv (.tmp 3),some (24,false)⟩,⟨(some 26),.eq1 false .ptr (.tmp 25) (.const (.ptr none)),some (24,false)⟩,⟨(some 27),.pick (.tmp 24) (.const (.bool true)) (.tmp 26),none⟩])
 (.cond (.tmp 27) (.seq (.region [⟨(some 0),.mv (.const (.bool false)),none⟩])
 .ret) .skip))
 (.seq (.region [⟨(some 29),.mv (.tmp 3),none⟩,⟨(some 30),.call 40 [(.tmp 29),(.const (.int .u64 20)),(.const (.int .u32 7)),(.const (.bool false))],none⟩,⟨(some 28),.mv (.tmp 30),none⟩,⟨(some 31),.extract (.tmp 28) 0,none⟩,⟨(some 32),.extract (.tmp 28) 1,none⟩,⟨(some 4),.mv (.tmp 31),none⟩,⟨(some 2),.mv (.tmp 32),none⟩])
 (.seq (.seq (.region [⟨(some 33),.mv (.tmp 2),none⟩,⟨(some 34),.bin .neq (.tmp 33) (.const (.int .i64 0)),none⟩,⟨(some 35),.mv (.tmp 34),none⟩,⟨(some 36),.mv (.tmp 4),some (35,false)⟩,⟨(some 37),.bin .neq (.tmp 36) (.const (.int .u64 65552)),some (35,false)⟩,⟨(some 38),.pick (.tmp 35) (.const (.bool true)) (.tmp 37),none⟩,⟨(some 39),.mv (.tmp 38),none⟩,⟨(some 40),.mv (.tmp 1),some (39,false)⟩,⟨(some 41),.call 47 [(.tmp 40),(.const (.int .u64 65572)),(.const (.int .u8 5))],some (39,false)⟩,⟨(some 42),.bin .neq (.tmp 41) (.const (.int .i64 0)),some (39,false)⟩,⟨(some 43),.pick (.tmp 39) (.const (.bool true)) (.tmp 42),none⟩])
 (.cond (.tmp 43) (.seq (.region [⟨(some 0),.mv (.const (.bool false)),none⟩])
 .ret) .skip))
 (.seq (.region [⟨(some 44),.mv (.tmp 3),none⟩,⟨(some 45),.call 48 [(.tmp 44)],none⟩,⟨(some 5),.mv (.tmp 45),none⟩])
 (.seq (.region [⟨(some 46),.mv (.tmp 5),none⟩,⟨(some 47),.lenS (.tmp 46),none⟩,⟨(some 48),.bin .eql (.tmp 47) (.const (.int .i64 1)),none⟩,⟨(some 49),.mv (.tmp 48),none⟩,⟨(some 50),.mv (.tmp 5),some (49,true)⟩,⟨(some 51),.iaddrS 5 (.tmp 50) (.const (.int .i64 0)),some (49,true)⟩,⟨(some 52),.faddr 0 (.tmp 51),some (49,true)⟩,⟨(some 53),.load false 1 (.tmp 52),some (49,true)⟩,⟨(some 54),.bin .eql (.tmp 53) (.const (.int .u64 65572)),some (49,true)⟩,⟨(some 55),.pick (.tmp 49) (.tmp 54) (.const (.bool false)),none⟩,⟨(some 56),.mv (.tmp 55),none⟩,⟨(some 57),.mv (.tmp 5),some (56,true)⟩,⟨(some 58),.iaddrS 5 (.tmp 57) (.const (.int .i64 0)),some (56,true)⟩,⟨(some 59),.faddr 1 (.tmp 58),some (56,true)⟩,⟨(some 60),.load false 1 (.tmp 59),some (56,true)⟩,⟨(some 61),.bin .eql (.tmp 60) (.const (.int .u64 65552)),some (56,true)⟩,⟨(some 62),.pick (.tmp 56) (.tmp 61) (.const (.bool false)),none⟩,⟨(some 63),.mv (.tmp 62),none⟩,⟨(some 64),.mv (.tmp 5),some (63,true)⟩,⟨(some 65),.iaddrS 5 (.tmp 64) (.const (.int .i64 0)),some (63,true)⟩,⟨(some 66),.faddr 2 (.tmp 65),some (63,true)⟩,⟨(some 67),.load false 1 (.tmp 66),some (63,true)⟩,⟨(some 68),.bin .eql (.tmp 67) (.const (.int .u32 7)),some (63,true)⟩,⟨(some 69),.pick (.tmp 63) (.tmp 68) (.const (.bool false)),none⟩,⟨(some 70),.mv (.tmp 69),none⟩,⟨(some 71),.mv (.tmp 5),some (70,true)⟩,⟨(some 72),.iaddrS 5 (.tmp 71) (.const (.int .i64 0)),some (70,true)⟩,⟨(some 73),.faddr 3 (.tmp 72),some (70,true)⟩,⟨(some 74),.load false 1 (.tmp 73),some (70,true)⟩,⟨(some 75),.bin .eql (.tmp 74) (.const (.int .i64 2)),some (70,true)⟩,⟨(some 76),.pick (.tmp 70) (.tmp 75) (.const (.bool false)),none⟩,⟨(some 77),.mv (.tmp 76),none⟩,⟨(some 78),.mv (.tmp 5),some (77,true)⟩,⟨(some 79),.iaddrS 5 (.tmp 78) (.const (.int .i64 0)),some (77,true)⟩,⟨(some 80),.faddr 4 (.tmp 79),some (77,true)⟩,⟨(some 81),.load false 1 (.tmp 80),some (77,true)⟩,⟨(some 82),.bin .eql (.tmp 81) (.const (.int .u8 5)),some (77,true)⟩,⟨(some 83),.pick (.tmp 77) (.tmp 82) (.const (.bool false)),none⟩,⟨(some 84),.mv (.tmp 83),none⟩,⟨(some 85),.mv (.tmp 3),some (84,true)⟩,⟨(some 86),.call 142 [(.tmp 85)],some (84,true)⟩,⟨(some 87),.lenS (.tmp 86),some (84,true)⟩,⟨(some 88),.bin .eql (.tmp 87) (.const (.int .i64 1)),some (84,true)⟩,⟨(some 89),.pick (.tmp 84) (.tmp 88) (.const (.bool false)),none⟩,⟨(some 0),.mv (.tmp 89),none⟩])
 .ret)))))))))⟩
theorem k38 : compFn Tryz.prog Tryz.f38 = some c38 := by kernel_rfl
-- croft/guard.New
def c39 : AFunc := ⟨[.tmp 8,.tmp 9],(.seq (.region [⟨(some 8),.mv (.const (.ptr none)),none⟩,⟨(some 9),.mv (.const (.int .i64 0)),none⟩])
 (.seq (.seq (.region [⟨(some 10),.mv (.tmp 1),none⟩,⟨(some 11),.bin .lss (.tmp 10) (.const (.int .i64 16)),none⟩,⟨(some 12),.mv (.tmp 11),none⟩,⟨(some 13),.mv (.tmp 1),some (12,false)⟩,⟨(some 14),.bin .gtr (.tmp 13) (.const (.int .i64 1024)),some (12,false)⟩,⟨(some 15),.pick (.tmp 12) (.const (.bool true)) (.tmp 14),none⟩,⟨(some 16),.mv (.tmp 15),none⟩,⟨(some 17),.mv (.tmp 1),some (16,false)⟩,⟨(some 18),.bin .rem (.tmp 17) (.const (.int .i64 16)),some (16,false)⟩,⟨(some 19),.bin .neq (.tmp 18) (.const (.int .i64 0)),some (16,false)⟩,⟨(some 20),.pick (.tmp 16) (.const (.bool true)) (.tmp 19),none⟩,⟨(some 21),.mv (.tmp 20),none⟩,⟨(some 22),.mv (.tmp 2),some (21,false)⟩,⟨(some 23),.bin .lss (.tmp 22) (.const (.int .i64 0)),some (21,false)⟩,⟨(some 24),.pick (.tmp 21) (.const (.bool true)) (.tmp 23),none⟩,⟨(some 25),.mv (.tmp 24),none⟩,⟨(some 26),.mv (.tmp 2),some (25,false)⟩,⟨(some 27),.bin .gtr (.tmp 26) (.const (.int .i64 256)),some (25,false)⟩,⟨(some 28),.pick (.tmp 25) (.const (.bool true)) (.tmp 27),none⟩])
 (.cond (.tmp 28) (.seq (.region [⟨(some 8),.mv (.const (.ptr none)),none⟩,⟨(some 9),.mv (.const (.int .i64 1)),none⟩])
 .ret) .skip))
 (.seq (.region [⟨(some 29),.mv (.tmp 0),none⟩,⟨(some 30),.mv (.tmp 1),none⟩,⟨(some 31),.conv .u64 (.tmp 30),none⟩,⟨(some 32),.mv (.tmp 2),none⟩,⟨(some 33),.mv (.tmp 3),none⟩,⟨(some 34),.build [(.ptr none),(.int .u64 0),(.int .i64 0),(.int .u8 0),(.slice none 0 0),(.slice none 0 0),(.slice none 0 0)] [(0,1,(.tmp 29)),(1,1,(.tmp 31)),(2,1,(.tmp 32)),(3,1,(.tmp 33))],none⟩,⟨(some 35),.box 7 (.tmp 34),none⟩,⟨(some 8),.mv (.tmp 35),none⟩,⟨(some 9),.mv (.const (.int .i64 0)),none⟩])
 .ret)))⟩
theorem k39 : compFn Tryz.prog Tryz.f39 = some c39 := by kernel_rfl
-- (*croft/guard.Guard).Malloc
def c40 : AFunc := ⟨[.tmp 8,.tmp 9],(.seq (.region [⟨(some 8),.mv (.const (.int .u64 0)),none⟩,⟨(some 9),.mv (.const (.int .i64 0)),none⟩])
 (.seq (.seq (.region [⟨(some 15),.mv (.tmp 1),none⟩,⟨(some 16),.bin .gtr (.tmp 15) (.const (.int .u64 1048576)),none⟩])
 (.cond (.tmp 16) (.seq (.region [⟨(some 8),.mv (.const (.int .u64 0)),none⟩,⟨(some 9),.mv (.const (.int .i64 3)),none⟩])
 .ret) .skip))
 (.seq (.region [⟨(some 18),.mv (.tmp 0),none⟩,⟨(some 19),.mv (.tmp 1),none⟩,⟨(some 20),.mv (.tmp 0),none⟩,⟨(some 21),.nilCheck (.tmp 20),none⟩,⟨(some 22),.faddr 1 (.tmp 21),none⟩,⟨(some 23),.load false 1 (.tmp 22),none⟩,⟨(some 24),.bin .mul (.const (.int .u64 2)) (.tmp 23),none⟩,⟨(some 25),.bin .add (.tmp 19) (.tmp 24),none⟩,⟨(some 26),.mv (.tmp 3),none⟩,⟨(some 27),.call 143 [(.tmp 18),(.tmp 25),(.tmp 26)],none⟩,⟨(some 17),.mv (.tmp 27),none⟩,⟨(some 28),.extract (.tmp 17) 0,none⟩,⟨(some 29),.extract (.tmp 17) 1,none⟩,⟨(some 10),.mv (.tmp 28),none⟩,⟨(some 11),.mv (.tmp 29),none⟩])
 (.seq (.seq (.region [⟨(some 30),.mv (.tmp 11),none⟩,⟨(some 31),.bin .neq (.tmp 30) (.const (.int .i64 0)),none⟩])
 (.cond (.tmp 31) (.seq (.region [⟨(some 32),.mv (.tmp 11),none⟩,⟨(some 8),.mv (.const (.int .u64 0)),none⟩,⟨(some 9),.mv (.tmp 32),none⟩])
 .ret) .skip))
 (.seq (.region [⟨(some 34),.mv (.tmp 0),none⟩,⟨(some 35),.nilCheck (.tmp 34),none⟩,⟨(some 36),.faddr 0 (.tmp 35),none⟩,⟨(some 37),.load false 1 (.tmp 36),none⟩,⟨(some 38),.mv (.tmp 10),none⟩,⟨(some 39),.call 42 [(.tmp 37),(.tmp 38)],none⟩,⟨(some 33),.mv (.tmp 39),none⟩,⟨(some 40),.extract (.tmp 33) 0,none⟩,⟨(some 41),.extract (.tmp 33) 1,none⟩,⟨(some 12),.mv (.tmp 40),none⟩,⟨(some 13),.mv (.tmp 41),none⟩])
 (.seq (.region [⟨(some 42),.mv (.tmp 10),none⟩,⟨(some 43),.mv (.tmp 12),none⟩,⟨(some 44),.mv (.tmp 1),none⟩,⟨(some 45),.mv (.tmp 2),none⟩,⟨(some 46),.build [(.int .u64 0),(.int .u64 0),(.int .u64 0),(.int .u32 0),(.bool false)] [(0,1,(.tmp 42)),(1,1,(.tmp 43)),(2,1,(.tmp 44)),(3,1,(.tmp 45))],none⟩,⟨(some 47),.box 5 (.tmp 46),none⟩,⟨(some 14),.mv (.tmp 47),none⟩])
 (.seq (.region [⟨(some 48),.mv (.tmp 0),none⟩,⟨(some 49),.mv (.tmp 10),none⟩,⟨(some 50),.mv (.tmp 12),none⟩,⟨(some 51),.mv (.tmp 0),none⟩,⟨(some 52),.nilCheck (.tmp 51),none⟩,⟨(some 53),.faddr 3 (.tmp 52),none⟩,⟨(some 54),.load false 1 (.tmp 53),none⟩,⟨(some 55),.call 144 [(.tmp 48),(.tmp 49),(.tmp 50),(.tmp 54)],none⟩])
 (.seq (.region [⟨(some 56),.mv (.tmp 0),none⟩,⟨(some 57),.mv (.tmp 0),none⟩,⟨(some 58),.mv (.tmp 14),none⟩,⟨(some 59),.call 145 [(.tmp 57),(.tmp 58)],none⟩,⟨(some 60),.mv (.tmp 1),none⟩,⟨(some 61),.call 144 [(.tmp 56),(.tmp 59),(.tmp 60),(.const (.int .u8 0))],none⟩])
 (.seq (.region [⟨(some 62),.mv (.tmp 0),none⟩,⟨(some 63),.mv (.tmp 0),none⟩,⟨(some 64),.nilCheck (.tmp 63),none⟩,⟨(some 65),.faddr 4 (.tmp 64),none⟩,⟨(some 66),.load false 1 (.tmp 65),none⟩,⟨(some 67),.mv (.tmp 14),none⟩,⟨(some 68),.mkSlice 1 1 [(.ptr none)] [(0,1,(.tmp 67))],none⟩,⟨(some 69),.appendC 1 8 (.tmp 66) (.tmp 68),none⟩,⟨(some 70),.nilCheck (.tmp 62),none⟩,⟨(some 71),.faddr 4 (.tmp 70),none⟩,⟨none,.store 1 (.tmp 71) (.tmp 69),none⟩])
 (.seq (.region [⟨(some 72),.mv (.tmp 0),none⟩,⟨(some 73),.mv (.tmp 14),none⟩,⟨(some 74),.call 145 [(.tmp 72),(.tmp 73)],none⟩,⟨(some 8),.mv (.tmp 74),none⟩,⟨(some 9),.mv (.const (.int .i64 0)),none⟩])
 .ret))))))))))⟩
theorem k40 : compFn Tryz.prog Tryz.f40 = some c40 := by kernel_rfl
-- (*croft/guard.Guard).Size
def c41 : AFunc := ⟨[.tmp 4,.tmp 5],(.seq (.region [⟨(some 4),.mv (.const (.int .u64 0)),none⟩,⟨(some 5),.mv (.const (.int .i64 0)),none⟩])
 (.seq (.region [⟨(some 9),.mv (.tmp 0),none⟩,⟨(some 10),.mv (.tmp 1),none⟩,⟨(some 11),.call 146 [(.tmp 9),(.tmp 10)],none⟩,⟨(some 8),.mv (.tmp 11),none⟩,⟨(some 12),.extract (.tmp 8) 0,none⟩,⟨(some 13),.extract (.tmp 8) 1,none⟩,⟨(some 6),.mv (.tmp 12),none⟩,⟨(some 7),.mv (.tmp 13),none⟩])
 (.seq (.seq (.region [⟨(some 14),.mv (.tmp 7),none⟩,⟨(some 15),.bin .neq (.tmp 14) (.const (.int .i64 0)),none⟩])
 (.cond (.tmp 15) (.seq (.region [⟨(some 16),.mv (.tmp 7),none⟩,⟨(some 4),.mv (.const (.int .u64 0)),none⟩,⟨(some 5),.mv (.tmp 16),none⟩])
 .ret) .skip))
 (.seq (.region [⟨(some 17),.mv (.tmp 0),none⟩,⟨(some 18),.nilCheck (.tmp 17),none⟩,⟨(some 19),.faddr 4 (.tmp 18),none⟩,⟨(some 20),.load false 1 (.tmp 19),none⟩,⟨(some 21),.mv (.tmp 6),none⟩,⟨(some 22),.iaddrS 1 (.tmp 20) (.tmp 21),none⟩,⟨(some 23),.load false 1 (.tmp 22),none⟩,⟨(some 24),.nilCheck (.tmp 23),none⟩,⟨(some 25),.faddr 2 (.tmp 24),none⟩,⟨(some 26),.load false 1 (.tmp 25),none⟩,⟨(some 4),.mv (.tmp 26),none⟩,⟨(some 5),.mv (.const (.int .i64 0)),none⟩])
 .ret))))⟩
theorem k41 : compFn Tryz.prog Tryz.f41 = some c41 := by kernel_rfl
-- (*croft/malloc.Heap).UsableSize
def c42 : AFunc := ⟨[.tmp 4,.tmp 5],(.seq (.region [⟨(some 4),.mv (.const (.int .u64 0)),none⟩,⟨(some 5),.mv (.const (.int .i64 0)),none⟩])
 (.seq (.region [⟨(some 8),.mv (.tmp 0),none⟩,⟨(some 9),.nilCheck (.tmp 8),none⟩,⟨(some 10),.faddr 0 (.tmp 9),none⟩,⟨(some 11),.call 111 [(.tmp 10)],none⟩])
 (.seq (.region [⟨(some 12),.mv (.tmp 0),none⟩,⟨(some 13),.nilCheck (.tmp 12),none⟩,⟨(some 14),.faddr 0 (.tmp 13),none⟩,⟨none,.defer 112 [(.tmp 14)],none⟩])
 (.seq (.region [⟨(some 16),.mv (.tmp 0),none⟩,⟨(some 17),.mv (.tmp 1),none⟩,⟨(some 18),.call 147 [(.tmp 16),(.tmp 17)],none⟩,⟨(some 15),.mv (.tmp 18),none⟩,⟨(some 19),.extract (.tmp 15) 0,none⟩,⟨(some 20),.extract (.tmp 15) 1,none⟩,⟨(some 6),.alloc [(.int .u64 0),(.int .u64 0)],none⟩,⟨none,.store 2 (.tmp 6) (.tmp 19),none⟩,⟨(some 7),.mv (.tmp 20),none⟩])
 (.seq (.region [⟨(some 21),.faddr 1 (.tmp 6),none⟩,⟨(some 22),.load false 1 (.tmp 21),none⟩,⟨(some 23),.mv (.tmp 7),none⟩,⟨(some 4),.mv (.tmp 22),none⟩,⟨(some 5),.mv (.tmp 23),none⟩])
 .ret)))))⟩
theorem k42 : compFn Tryz.prog Tryz.f42 = some c42 := by kernel_rfl
-- (*croft/malloc.Heap).Load
def c43 : AFunc := ⟨[.tmp 4,.tmp 5],(.seq (.region [⟨(some 4),.mv (.const (.int .u8 0)),none⟩,⟨(some 5),.mv (.const (.int .i64 0)),none⟩])
 (.seq (.region [⟨(some 9),.mv (.tmp 0),none⟩,⟨(some 10),.mv (.tmp 1),none⟩,⟨(some 11),.call 44 [(.tmp 9),(.tmp 10),(.const (.int .u64 1))],none⟩,⟨(some 8),.mv (.tmp 11),none⟩,⟨(some 12),.extract (.tmp 8) 0,none⟩,⟨(some 13),.extract (.tmp 8) 1,none⟩,⟨(some 6),.mv (.tmp 12),none⟩,⟨(some 7),.mv (.tmp 13),none⟩])
 (.seq (.seq (.region [⟨(some 14),.mv (.tmp 7),none⟩,⟨(some 15),.bin .neq (.tmp 14) (.const (.int .i64 0)),none⟩])
 (.cond (.tmp 15) (.seq (.region [⟨(some 16),.mv (.tmp 7),none⟩,⟨(some 4),.mv (.const (.int .u8 0)),none⟩,⟨(some 5),.mv (.tmp 16),none⟩])
 .ret) .skip))
 (.seq (.region [⟨(some 17),.mv (.tmp 6),none⟩,⟨(some 18),.iaddrS 1 (.tmp 17) (.const (.int .i64 0)),none⟩,⟨(some 19),.load false 1 (.tmp 18),none⟩,⟨(some 4),.mv (.tmp 19),none⟩,⟨(some 5),.mv (.const (.int .i64 0)),none⟩])
 .ret))))⟩
theorem k43 : compFn Tryz.prog Tryz.f43 = some c43 := by kernel_rfl
-- (*croft/malloc.Heap).Read
def c44 : AFunc := ⟨[.tmp 6,.tmp 7],(.seq (.region [⟨(some 6),.mv (.const (.slice none 0 0)),none⟩,⟨(some 7),.mv (.const (.int .i64 0)),none⟩])
 (.seq (.region [⟨(some 8),.mv (.tmp 0),none⟩,⟨(some 9),.nilCheck (.tmp 8),none⟩,⟨(some 10),.faddr 0 (.tmp 9),none⟩,⟨(some 11),.call 111 [(.tmp 10)],none⟩])
 (.seq (.region [⟨(some 12),.mv (.tmp 0),none⟩,⟨(some 13),.nilCheck (.tmp 12),none⟩,⟨(some 14),.faddr 0 (.tmp 13),none⟩,⟨none,.defer 112 [(.tmp 14)],none⟩])
 (.seq (.seq (.region [⟨(some 15),.mv (.tmp 2),none⟩,⟨(some 16),.bin .eql (.tmp 15) (.const (.int .u64 0)),none⟩])
 (.cond (.tmp 16) (.seq (.region [⟨(some 6),.mv (.const (.slice none 0 0)),none⟩,⟨(some 7),.mv (.const (.int .i64 0)),none⟩])
 .ret) .skip))
 (.seq (.seq (.region [⟨(some 17),.mv (.tmp 0),none⟩,⟨(some 18),.mv (.tmp 1),none⟩,⟨(some 19),.mv (.tmp 2),none⟩,⟨(some 20),.call 148 [(.tmp 17),(.tmp 18),(.tmp 19)],none⟩,⟨(some 21),.not (.tmp 20),none⟩])
 (.cond (.tmp 21) (.seq (.region [⟨(some 6),.mv (.const (.slice none 0 0)),none⟩,⟨(some 7),.mv (.const (.int .i64 4)),none⟩])
 .ret) .skip))
 (.seq (.region [⟨(some 22),.mv (.tmp 0),none⟩,⟨(some 23),.nilCheck (.tmp 22),none⟩,⟨(some 24),.faddr 5 (.tmp 23),none⟩,⟨(some 25),.load false 1 (.tmp 24),none⟩,⟨(some 26),.nilCheck (.tmp 25),none⟩,⟨(some 27),.faddr 0 (.tmp 26),none⟩,⟨(some 28),.call 113 [(.tmp 27)],none⟩,⟨(some 29),.mv (.tmp 1),none⟩,⟨(some 30),.mv (.tmp 2),none⟩,⟨(some 31),.call 149 [(.tmp 28),(.tmp 29),(.tmp 30)],none⟩,⟨(some 32),.extract (.tmp 31) 0,none⟩,⟨(some 33),.extract (.tmp 31) 1,none⟩,⟨(some 6),.mv (.tmp 32),none⟩,⟨(some 7),.mv (.tmp 33),none⟩])
 .ret))))))⟩
theorem k44 : compFn Tryz.prog Tryz.f44 = some c44 := by kernel_rfl
-- croft/croftref8.Same
def c45 : AFunc := ⟨[.tmp 4],(.seq (.region [⟨(some 4),.mv (.const (.bool false)),none⟩])
 (.seq (.seq (.region [⟨(some 6),.mv (.tmp 0),none⟩,⟨(some 7),.lenS (.tmp 6),none⟩,⟨(some 8),.mv (.tmp 1),none⟩,⟨(some 9),.lenS (.tmp 8),none⟩,⟨(some 10),.bin .neq (.tmp 7) (.tmp 9),none⟩])
 (.cond (.tmp 10) (.seq (.region [⟨(some 4),.mv (.const (.bool false)),none⟩])
 .ret) .skip))
 (.seq (.seq (.region [⟨(some 5),.mv (.const (.int .i64 0)),none⟩])
 (.block 0 (.loop (.seq (.seq (.region [⟨(some 11),.mv (.tmp 5),none⟩,⟨(some 12),.mv (.tmp 0),none⟩,⟨(some 13),.lenS (.tmp 12),none⟩,⟨(some 14),.bin .lss (.tmp 11) (.tmp 13),none⟩])
 (.cond (.tmp 14) .skip (.exit 0)))
 (.seq (.block 1 (.seq (.draw [⟨⟨(some 17),.mv (.tmp 0),none⟩,0,0⟩,⟨⟨(some 18),.mv (.tmp 5),none⟩,0,0⟩,⟨⟨(some 19),.iaddrS 1 (.tmp 17) (.tmp 18),none⟩,0,0⟩,⟨⟨(some 20),.load false 1 (.tmp 19),none⟩,0,0⟩,⟨⟨(some 21),.mv (.tmp 1),none⟩,0,0⟩,⟨⟨(some 22),.mv (.tmp 5),none⟩,0,0⟩,⟨⟨(some 23),.iaddrS 1 (.tmp 21) (.tmp 22),none⟩,0,0⟩,⟨⟨(some 24),.load false 1 (.tmp 23),none⟩,0,0⟩,⟨⟨(some 25),.bin .neq (.tmp 20) (.tmp 24),none⟩,0,0⟩])
 (.cond (.tmp 25) (.seq (.region [⟨(some 4),.mv (.const (.bool false)),none⟩])
 .ret) .skip)))
 (.region [⟨(some 15),.mv (.tmp 5),none⟩,⟨(some 16),.bin .add (.tmp 15) (.const (.int .i64 1)),none⟩,⟨(some 5),.mv (.tmp 16),none⟩]))))))
 (.seq (.region [⟨(some 4),.mv (.const (.bool true)),none⟩])
 .ret))))⟩
theorem k45 : compFn Tryz.prog Tryz.f45 = some c45 := by kernel_rfl
-- croft/croftlaw23.where
def c46 : AFunc := ⟨[.tmp 8],(.seq (.region [⟨(some 8),.mv (.const (.bool false)),none⟩])
 (.seq (.region [⟨(some 12),.mv (.tmp 0),none⟩,⟨(some 13),.mv (.tmp 1),none⟩,⟨(some 14),.call 150 [(.tmp 12),(.tmp 13)],none⟩,⟨(some 11),.mv (.tmp 14),none⟩,⟨(some 15),.extract (.tmp 11) 0,none⟩,⟨(some 16),.extract (.tmp 11) 1,none⟩,⟨(some 9),.mv (.tmp 15),none⟩,⟨(some 10),.mv (.tmp 16),none⟩])
 (.seq (.region [⟨(some 17),.mv (.tmp 9),none⟩,⟨(some 18),.mv (.tmp 2),none⟩,⟨(some 19),.bin .eql (.tmp 17) (.tmp 18),none⟩,⟨(some 20),.mv (.tmp 19),none⟩,⟨(some 21),.mv (.tmp 10),some (20,true)⟩,⟨(some 22),.mv (.tmp 3),some (20,true)⟩,⟨(some 23),.bin .eql (.tmp 21) (.tmp 22),some (20,true)⟩,⟨(some 24),.pick (.tmp 20) (.tmp 23) (.const (.bool false)),none⟩,⟨(some 8),.mv (.tmp 24),none⟩])
 .ret)))⟩
theorem k46 : compFn Tryz.prog Tryz.f46 = some c46 := by kernel_rfl
-- (*croft/malloc.Heap).Store
def c47 : AFunc := ⟨[.tmp 6],(.seq (.region [⟨(some 6),.mv (.const (.int .i64 0)),none⟩])
 (.seq (.region [⟨(some 7),.mv (.tmp 0),none⟩,⟨(some 8),.mv (.tmp 1),none⟩,⟨(some 9),.mv (.tmp 2),none⟩,⟨(some 10),.mkSlice 1 1 [(.int .u8 0)] [(0,1,(.tmp 9))],none⟩,⟨(some 11),.call 151 [(.tmp 7),(.tmp 8),(.tmp 10)],none⟩,⟨(some 6),.mv (.tmp 11),none⟩])
 .ret))⟩
theorem k47 : compFn Tryz.prog Tryz.f47 = some c47 := by kernel_rfl
-- (*croft/guard.Guard).Check
def c48 : AFunc := ⟨[.tmp 2],(.seq (.region [⟨(some 1),.box 1 (.tmp 0),none⟩,⟨(some 2),.mv (.const (.slice none 0 0)),none⟩])
 (.seq (.region [⟨(some 8),.load false 1 (.tmp 1),none⟩,⟨(some 9),.nilCheck (.tmp 8),none⟩,⟨(some 10),.faddr 6 (.tmp 9),none⟩,⟨(some 11),.load false 1 (.tmp 10),none⟩,⟨(some 3),.alloc [(.slice none 0 0)],none⟩,⟨none,.store 1 (.tmp 3) (.tmp 11),none⟩])
 (.seq (.region [⟨(some 12),.load false 1 (.tmp 1),none⟩,⟨(some 13),.nilCheck (.tmp 12),none⟩,⟨(some 14),.faddr 6 (.tmp 13),none⟩,⟨none,.store 1 (.tmp 14) (.const (.slice none 0 0)),none⟩])
 (.seq (.region [⟨(some 15),.makeFunc 152 [] [(.tmp 3),(.tmp 1)],none⟩,⟨(some 4),.alloc [.nilFunc],none⟩,⟨none,.store 1 (.tmp 4) (.tmp 15),none⟩])
 (.seq (.seq (.region [⟨(some 16),.load false 1 (.tmp 1),none⟩,⟨(some 17),.call 153 [(.tmp 16)],none⟩,⟨(some 18),.lenS (.tmp 17),none⟩,⟨(some 19),.mv (.const (.int .i64 0)),none⟩])
 (.block 0 (.loop (.seq (.region [⟨(some 20),.bin .lss (.tmp 19) (.tmp 18),none⟩])
 (.seq (.cond (.tmp 20) .skip (.exit 0))
 (.seq (.block 1 (.seq (.region [⟨(some 21),.iaddrS 1 (.tmp 17) (.tmp 19),none⟩,⟨(some 22),.load false 1 (.tmp 21),none⟩,⟨(some 6),.mv (.tmp 22),none⟩])
 (.seq (.region [⟨(some 23),.load false 1 (.tmp 1),none⟩,⟨(some 24),.mv (.tmp 6),none⟩,⟨(some 25),.call 154 [(.tmp 23),(.tmp 24)],none⟩])
 (.block 2 (.rangeFunc (.tmp 25) [26] (.region [⟨(some 7),.alloc [(.int .u64 0),(.int .u64 0),(.int .u32 0),(.int .i64 0),(.int .u8 0)],none⟩,⟨none,.store 5 (.tmp 7) (.tmp 26),none⟩])
 (.block 3 (.region [⟨(some 27),.load false 1 (.tmp 4),none⟩,⟨(some 28),.load true 5 (.tmp 7),none⟩,⟨(some 29),.callv (.tmp 27) [(.tmp 28)],none⟩])))))))
 (.region [⟨(some 30),.bin .add (.tmp 19) (.const (.int .i64 1)),none⟩,⟨(some 19),.mv (.tmp 30),none⟩])))))))
 (.seq (.region [⟨(some 31),.load false 1 (.tmp 3),none⟩,⟨(some 2),.mv (.tmp 31),none⟩])
 .ret))))))⟩
theorem k48 : compFn Tryz.prog Tryz.f48 = some c48 := by kernel_rfl
-- croft/croftlaw23.found
def c49 : AFunc := ⟨[.tmp 4],(.seq (.region [⟨(some 4),.mv (.const (.bool false)),none⟩])
 (.seq (.seq (.region [⟨(some 6),.mv (.tmp 0),none⟩,⟨(some 7),.lenS (.tmp 6),none⟩,⟨(some 8),.mv (.tmp 1),none⟩,⟨(some 9),.lenS (.tmp 8),none⟩,⟨(some 10),.bin .neq (.tmp 7) (.tmp 9),none⟩])
 (.cond (.tmp 10) (.seq (.region [⟨(some 4),.mv (.const (.bool false)),none⟩])
 .ret) .skip))
 (.seq (.seq (.region [⟨(some 5),.mv (.const (.int .i64 0)),none⟩])
 (.block 0 (.loop (.seq (.seq (.region [⟨(some 11),.mv (.tmp 5),none⟩,⟨(some 12),.mv (.tmp 0),none⟩,⟨(some 13),.lenS (.tmp 12),none⟩,⟨(some 14),.bin .lss (.tmp 11) (.tmp 13),none⟩])
 (.cond (.tmp 14) .skip (.exit 0)))
 (.seq (.block 1 (.seq (.draw [⟨⟨(some 17),.mv (.tmp 0),none⟩,0,0⟩,⟨⟨(some 18),.mv (.tmp 5),none⟩,0,0⟩,⟨⟨(some 19),.iaddrS 5 (.tmp 17) (.tmp 18),none⟩,0,0⟩,⟨⟨(some 20),.faddr 0 (.tmp 19),none⟩,0,0⟩,⟨⟨(some 21),.load false 1 (.tmp 20),none⟩,0,0⟩,⟨⟨(some 22),.mv (.tmp 1),none⟩,0,0⟩,⟨⟨(some 23),.mv (.tmp 5),none⟩,0,0⟩,⟨⟨(some 24),.iaddrS 5 (.tmp 22) (.tmp 23),none⟩,0,0⟩,⟨⟨(some 25),.faddr 0 (.tmp 24),none⟩,0,0⟩,⟨⟨(some 26),.load false 1 (.tmp 25),none⟩,0,0⟩,⟨⟨(some 27),.bin .neq (.tmp 21) (.tmp 26),none⟩,0,0⟩,⟨⟨(some 28),.mv (.tmp 27),none⟩,0,0⟩,⟨⟨(some 29),.mv (.tmp 0),some (28,false)⟩,0,0⟩,⟨⟨(some 30),.mv (.tmp 5),some (28,false)⟩,0,0⟩,⟨⟨(some 31),.iaddrS 5 (.tmp 29) (.tmp 30),some (28,false)⟩,0,0⟩,⟨⟨(some 32),.faddr 1 (.tmp 31),some (28,false)⟩,0,0⟩,⟨⟨(some 33),.load false 1 (.tmp 32),some (28,false)⟩,0,0⟩,⟨⟨(some 34),.mv (.tmp 1),some (28,false)⟩,0,0⟩,⟨⟨(some 35),.mv (.tmp 5),some (28,false)⟩,0,0⟩,⟨⟨(some 36),.iaddrS 5 (.tmp 34) (.tmp 35),some (28,false)⟩,0,0⟩,⟨⟨(some 37),.faddr 1 (.tmp 36),some (28,false)⟩,0,0⟩,⟨⟨(some 38),.load false 1 (.tmp 37),some (28,false)⟩,0,0⟩,⟨⟨(some 39),.bin .neq (.tmp 33) (.tmp 38),some (28,false)⟩,0,0⟩,⟨⟨(some 40),.pick (.tmp 28) (.const (.bool true)) (.tmp 39),none⟩,0,0⟩,⟨⟨(some 41),.mv (.tmp 40),none⟩,0,0⟩,⟨⟨(some 42),.mv (.tmp 0),some (41,false)⟩,0,0⟩,⟨⟨(some 43),.mv (.tmp 5),some (41,false)⟩,0,0⟩,⟨⟨(some 44),.iaddrS 5 (.tmp 42) (.tmp 43),some (41,false)⟩,0,0⟩,⟨⟨(some 45),.faddr 2 (.tmp 44),some (41,false)⟩,0,0⟩,⟨⟨(some 46),.load false 1 (.tmp 45),some (41,false)⟩,0,0⟩,⟨⟨(some 47),.mv (.tmp 1),some (41,false)⟩,0,0⟩,⟨⟨(some 48),.mv (.tmp 5),some (41,false)⟩,0,0⟩,⟨⟨(some 49),.iaddrS 5 (.tmp 47) (.tmp 48),some (41,false)⟩,0,0⟩,⟨⟨(some 50),.faddr 2 (.tmp 49),some (41,false)⟩,0,0⟩,⟨⟨(some 51),.load false 1 (.tmp 50),some (41,false)⟩,0,0⟩,⟨⟨(some 52),.bin .neq (.tmp 46) (.tmp 51),some (41,false)⟩,0,0⟩,⟨⟨(some 53),.pick (.tmp 41) (.const (.bool true)) (.tmp 52),none⟩,0,0⟩,⟨⟨(some 54),.mv (.tmp 53),none⟩,0,0⟩,⟨⟨(some 55),.mv (.tmp 0),some (54,false)⟩,0,0⟩,⟨⟨(some 56),.mv (.tmp 5),some (54,false)⟩,0,0⟩,⟨⟨(some 57),.iaddrS 5 (.tmp 55) (.tmp 56),some (54,false)⟩,0,0⟩,⟨⟨(some 58),.faddr 3 (.tmp 57),some (54,false)⟩,0,0⟩,⟨⟨(some 59),.load false 1 (.tmp 58),some (54,false)⟩,0,0⟩,⟨⟨(some 60),.mv (.tmp 1),some (54,false)⟩,0,0⟩,⟨⟨(some 61),.mv (.tmp 5),some (54,false)⟩,0,0⟩,⟨⟨(some 62),.iaddrS 5 (.tmp 60) (.tmp 61),some (54,false)⟩,0,0⟩,⟨⟨(some 63),.faddr 3 (.tmp 62),some (54,false)⟩,0,0⟩,⟨⟨(some 64),.load false 1 (.tmp 63),some (54,false)⟩,0,0⟩,⟨⟨(some 65),.bin .neq (.tmp 59) (.tmp 64),some (54,false)⟩,0,0⟩,⟨⟨(some 66),.pick (.tmp 54) (.const (.bool true)) (.tmp 65),none⟩,0,0⟩,⟨⟨(some 67),.mv (.tmp 66),none⟩,0,0⟩,⟨⟨(some 68),.mv (.tmp 0),some (67,false)⟩,0,0⟩,⟨⟨(some 69),.mv (.tmp 5),some (67,false)⟩,0,0⟩,⟨⟨(some 70),.iaddrS 5 (.tmp 68) (.tmp 69),some (67,false)⟩,0,0⟩,⟨⟨(some 71),.faddr 4 (.tmp 70),some (67,false)⟩,0,0⟩,⟨⟨(some 72),.load false 1 (.tmp 71),some (67,false)⟩,0,0⟩,⟨⟨(some 73),.mv (.tmp 1),some (67,false)⟩,0,0⟩,⟨⟨(some 74),.mv (.tmp 5),some (67,false)⟩,0,0⟩,⟨⟨(some 75),.iaddrS 5 (.tmp 73) (.tmp 74),some (67,false)⟩,0,0⟩,⟨⟨(some 76),.faddr 4 (.tmp 75),some (67,false)⟩,0,0⟩,⟨⟨(some 77),.load false 1 (.tmp 76),some (67,false)⟩,0,0⟩,⟨⟨(some 78),.bin .neq (.tmp 72) (.tmp 77),some (67,false)⟩,0,0⟩,⟨⟨(some 79),.pick (.tmp 67) (.const (.bool true)) (.tmp 78),none⟩,0,0⟩])
 (.cond (.tmp 79) (.seq (.region [⟨(some 4),.mv (.const (.bool false)),none⟩])
 .ret) .skip)))
 (.region [⟨(some 15),.mv (.tmp 5),none⟩,⟨(some 16),.bin .add (.tmp 15) (.const (.int .i64 1)),none⟩,⟨(some 5),.mv (.tmp 16),none⟩]))))))
 (.seq (.region [⟨(some 4),.mv (.const (.bool true)),none⟩])
 .ret))))⟩
theorem k49 : compFn Tryz.prog Tryz.f49 = some c49 := by kernel_rfl
-- croft/croftlaw23.later
def c50 : AFunc := ⟨[.tmp 4],(.seq (.region [⟨(some 4),.mv (.const (.bool false)),none⟩])
 (.seq (.region [⟨(some 13),.mv (.tmp 0),none⟩,⟨(some 14),.call 43 [(.tmp 13),(.const (.int .u64 65572))],none⟩,⟨(some 12),.mv (.tmp 14),none⟩,⟨(some 15),.extract (.tmp 12) 0,none⟩,⟨(some 16),.extract (.tmp 12) 1,none⟩,⟨(some 5),.mv (.tmp 15),none⟩,⟨(some 6),.mv (.tmp 16),none⟩])
 (.seq (.region [⟨(some 18),.mv (.tmp 1),none⟩,⟨(some 19),.call 40 [(.tmp 18),(.const (.int .u64 1)),(.const (.int .u32 8)),(.const (.bool false))],none⟩,⟨(some 17),.mv (.tmp 19),none⟩,⟨(some 20),.extract (.tmp 17) 0,none⟩,⟨(some 21),.extract (.tmp 17) 1,none⟩,⟨(some 7),.mv (.tmp 20),none⟩,⟨(some 8),.mv (.tmp 21),none⟩])
 (.seq (.seq (.region [⟨(some 22),.mv (.tmp 5),none⟩,⟨(some 23),.bin .neq (.tmp 22) (.const (.int .u8 170)),none⟩,⟨(some 24),.mv (.tmp 23),none⟩,⟨(some 25),.mv (.tmp 6),some (24,false)⟩,⟨(some 26),.bin .neq (.tmp 25) (.const (.int .i64 0)),some (24,false)⟩,⟨(some 27),.pick (.tmp 24) (.const (.bool true)) (.tmp 26),none⟩,⟨(some 28),.mv (.tmp 27),none⟩,⟨(some 29),.mv (.tmp 7),some (28,false)⟩,⟨(some 30),.bin .neq (.tmp 29) (.const (.int .u64 65616)),some (28,false)⟩,⟨(some 31),.pick (.tmp 28) (.const (.bool true)) (.tmp 30),none⟩,⟨(some 32),.mv (.tmp 31),none⟩,⟨(some 33),.mv (.tmp 8),some (32,false)⟩,⟨(some 34),.bin .neq (.tmp 33) (.const (.int .i64 0)),some (32,false)⟩,⟨(some 35),.pick (.tmp 32) (.const (.bool true)) (.tmp 34),none⟩,⟨(some 36),.mv (.tmp 35),none⟩,⟨(some 37),.mv (.tmp 1),some (36,false)⟩,⟨(some 38),.call 155 [(.tmp 37),(.const (.int .u64 65552))],some (36,false)⟩,⟨(some 39),.bin .neq (.tmp 38) (.const (.int .i64 0)),some (36,false)⟩,⟨(some 40),.pick (.tmp 36) (.const (.bool true)) (.tmp 39),none⟩,⟨(some 41),.mv (.tmp 40),none⟩,⟨(some 42),.mv (.tmp 1),some (41,false)⟩,⟨(some 43),.call 155 [(.tmp 42),(.const (.int .u64 65552))],some (41,false)⟩,⟨(some 44),.bin .neq (.tmp 43) (.const (.int .i64 9)),some (41,false)⟩,⟨(some 45),.pick (.tmp 41) (.const (.bool true)) (.tmp 44),none⟩,⟨(some 46),.mv (.tmp 45),none⟩,⟨(some 47),.mv (.tmp 1),some (46,false)⟩,⟨(some 48),.call 155 [(.tmp 47),(.const (.int .u64 65553))],some (46,false)⟩,⟨(some 49),.bin .neq (.tmp 48) (.const (.int .i64 1)),some (46,false)⟩,⟨(some 50),.pick (.tmp 46) (.const (.bool true)) (.tmp 49),none⟩])
 (.cond (.tmp 50) (.seq (.region [⟨(some 4),.mv (.const (.bool false)),none⟩])
 .ret) .skip))
 (.seq (.region [⟨(some 51),.mv (.tmp 1),none⟩,⟨(some 52),.call 156 [(.tmp 51)],none⟩,⟨(some 9),.mv (.tmp 52),none⟩])
 (.seq (.region [⟨(some 53),.mv (.tmp 1),none⟩,⟨(some 54),.call 142 [(.tmp 53)],none⟩,⟨(some 10),.mv (.tmp 54),none⟩])
 (.seq (.seq (.region [⟨(some 55),.mv (.tmp 9),none⟩,⟨(some 56),.lenS (.tmp 55),none⟩,⟨(some 57),.bin .neq (.tmp 56) (.const (.int .i64 1)),none⟩,⟨(some 58),.mv (.tmp 57),none⟩,⟨(some 59),.mv (.tmp 9),some (58,false)⟩,⟨(some 60),.iaddrS 1 (.tmp 59) (.const (.int .i64 0)),some (58,false)⟩,⟨(some 61),.load false 1 (.tmp 60),some (58,false)⟩,⟨(some 62),.bin .neq (.tmp 61) (.const (.int .u64 65552)),some (58,false)⟩,⟨(some 63),.pick (.tmp 58) (.const (.bool true)) (.tmp 62),none⟩,⟨(some 64),.mv (.tmp 63),none⟩,⟨(some 65),.mv (.tmp 10),some (64,false)⟩,⟨(some 66),.lenS (.tmp 65),some (64,false)⟩,⟨(some 67),.bin .neq (.tmp 66) (.const (.int .i64 1)),some (64,false)⟩,⟨(some 68),.pick (.tmp 64) (.const (.bool true)) (.tmp 67),none⟩,⟨(some 69),.mv (.tmp 68),none⟩,⟨(some 70),.mv (.tmp 10),some (69,false)⟩,⟨(some 71),.iaddrS 3 (.tmp 70) (.const (.int .i64 0)),some (69,false)⟩,⟨(some 72),.faddr 0 (.tmp 71),some (69,false)⟩,⟨(some 73),.load false 1 (.tmp 72),some (69,false)⟩,⟨(some 74),.mv (.tmp 7),some (69,false)⟩,⟨(some 75),.bin .neq (.tmp 73) (.tmp 74),some (69,false)⟩,⟨(some 76),.pick (.tmp 69) (.const (.bool true)) (.tmp 75),none⟩,⟨(some 77),.mv (.tmp 76),none⟩,⟨(some 78),.mv (.tmp 10),some (77,false)⟩,⟨(some 79),.iaddrS 3 (.tmp 78) (.const (.int .i64 0)),some (77,false)⟩,⟨(some 80),.faddr 1 (.tmp 79),some (77,false)⟩,⟨(some 81),.load false 1 (.tmp 80),some (77,false)⟩,⟨(some 82),.bin .neq (.tmp 81) (.const (.int .u64 1)),some (77,false)⟩,⟨(some 83),.pick (.tmp 77) (.const (.bool true)) (.tmp 82),none⟩,⟨(some 84),.mv (.tmp 83),none⟩,⟨(some 85),.mv (.tmp 10),some (84,false)⟩,⟨(some 86),.iaddrS 3 (.tmp 85) (.const (.int .i64 0)),some (84,false)⟩,⟨(some 87),.faddr 2 (.tmp 86),some (84,false)⟩,⟨(some 88),.load false 1 (.tmp 87),some (84,false)⟩,⟨(some 89),.bin .neq (.tmp 88) (.const (.int .u32 8)),some (84,false)⟩,⟨(some 90),.pick (.tmp 84) (.const (.bool true)) (.tmp 89),none⟩,⟨(some 91),.mv (.tmp 90),none⟩,⟨(some 92),.mv (.tmp 0),some (91,false)⟩,⟨(some 93),.call 47 [(.tmp 92),(.const (.int .u64 65552)),(.const (.int .u8 1))],some (91,false)⟩,⟨(some 94),.bin .neq (.tmp 93) (.const (.int .i64 0)),some (91,false)⟩,⟨(some 95),.pick (.tmp 91) (.const (.bool true)) (.tmp 94),none⟩,⟨(some 96),.mv (.tmp 95),none⟩,⟨(some 97),.mv (.tmp 0),some (96,false)⟩,⟨(some 98),.call 47 [(.tmp 97),(.const (.int .u64 65536)),(.const (.int .u8 2))],some (96,false)⟩,⟨(some 99),.bin .neq (.tmp 98) (.const (.int .i64 0)),some (96,false)⟩,⟨(some 100),.pick (.tmp 96) (.const (.bool true)) (.tmp 99),none⟩,⟨(some 101),.mv (.tmp 100),none⟩,⟨(some 102),.mv (.tmp 1),some (101,false)⟩,⟨(some 103),.mv (.tmp 7),some (101,false)⟩,⟨(some 104),.call 155 [(.tmp 102),(.tmp 103)],some (101,false)⟩,⟨(some 105),.bin .neq (.tmp 104) (.const (.int .i64 0)),some (101,false)⟩,⟨(some 106),.pick (.tmp 101) (.const (.bool true)) (.tmp 105),none⟩])
 (.cond (.tmp 106) (.seq (.region [⟨(some 4),.mv (.const (.bool false)),none⟩])
 .ret) .skip))
 (.seq (.region [⟨(some 107),.mv (.tmp 1),none⟩,⟨(some 108),.call 156 [(.tmp 107)],none⟩,⟨(some 9),.mv (.tmp 108),none⟩])
 (.seq (.seq (.region [⟨(some 109),.mv (.tmp 9),none⟩,⟨(some 110),.lenS (.tmp 109),none⟩,⟨(some 111),.bin .neq (.tmp 110) (.const (.int .i64 1)),none⟩,⟨(some 112),.mv (.tmp 111),none⟩,⟨(some 113),.mv (.tmp 9),some (112,false)⟩,⟨(some 114),.iaddrS 1 (.tmp 113) (.const (.int .i64 0)),some (112,false)⟩,⟨(some 115),.load false 1 (.tmp 114),some (112,false)⟩,⟨(some 116),.mv (.tmp 7),some (112,false)⟩,⟨(some 117),.bin .neq (.tmp 115) (.tmp 116),some (112,false)⟩,⟨(some 118),.pick (.tmp 112) (.const (.bool true)) (.tmp 117),none⟩,⟨(some 119),.mv (.tmp 118),none⟩,⟨(some 120),.mv (.tmp 0),some (119,false)⟩,⟨(some 121),.call 21 [(.tmp 120)],some (119,false)⟩,⟨(some 122),.part false 2 1 (.tmp 121),some (119,false)⟩,⟨(some 123),.bin .neq (.tmp 122) (.const (.int .i64 1)),some (119,false)⟩,⟨(some 124),.pick (.tmp 119) (.const (.bool true)) (.tmp 123),none⟩,⟨(some 125),.mv (.tmp 124),none⟩,⟨(some 126),.mv (.tmp 0),some (125,false)⟩,⟨(some 127),.call 47 [(.tmp 126),(.const (.int .u64 65617)),(.const (.int .u8 3))],some (125,false)⟩,⟨(some 128),.bin .neq (.tmp 127) (.const (.int .i64 0)),some (125,false)⟩,⟨(some 129),.pick (.tmp 125) (.const (.bool true)) (.tmp 128),none⟩,⟨(some 130),.mv (.tmp 129),none⟩,⟨(some 131),.mv (.tmp 1),some (130,false)⟩,⟨(some 132),.call 48 [(.tmp 131)],some (130,false)⟩,⟨(some 133),.build [(.int .u64 0),(.int .u64 0),(.int .u32 0),(.int .i64 0),(.int .u8 0)] [(0,1,(.const (.int .u64 65536))),(1,1,(.const (.int .u64 65552))),(2,1,(.const (.int .u32 7))),(3,1,(.const (.int .i64 1))),(4,1,(.const (.int .u8 2)))],some (130,false)⟩,⟨(some 134),.build [(.int .u64 0),(.int .u64 0),(.int .u32 0),(.int .i64 0),(.int .u8 0)] [(0,1,(.const (.int .u64 65552))),(1,1,(.const (.int .u64 65552))),(2,1,(.const (.int .u32 7))),(3,1,(.const (.int .i64 3))),(4,1,(.const (.int .u8 1)))],some (130,false)⟩,⟨(some 135),.mv (.tmp 7),some (130,false)⟩,⟨(some 136),.build [(.int .u64 0),(.int .u64 0),(.int .u32 0),(.int .i64 0),(.int .u8 0)] [(0,1,(.const (.int .u64 65617))),(1,1,(.tmp 135)),(2,1,(.const (.int .u32 8))),(3,1,(.const (.int .i64 2))),(4,1,(.const (.int .u8 3)))],some (130,false)⟩,⟨(some 137),.mkSlice 3 5 [(.int .u64 0),(.int .u64 0),(.int .u32 0),(.int .i64 0),(.int .u8 0)] [(0,5,(.tmp 133)),(5,5,(.tmp 134)),(10,5,(.tmp 136))],some (130,false)⟩,⟨(some 138),.call 49 [(.tmp 132),(.tmp 137)],some (130,false)⟩,⟨(some 139),.not (.tmp 138),some (130,false)⟩,⟨(some 140),.pick (.tmp 130) (.const (.bool true)) (.tmp 139),none⟩])
 (.cond (.tmp 140) (.seq (.region [⟨(some 4),.mv (.const (.bool false)),none⟩])
 .ret) .skip))
 (.seq (.region [⟨(some 142),.mv (.tmp 1),none⟩,⟨(some 143),.call 40 [(.tmp 142),(.const (.int .u64 8000)),(.const (.int .u32 9)),(.const (.bool true))],none⟩,⟨(some 141),.mv (.tmp 143),none⟩,⟨(some 144),.extract (.tmp 141) 0,none⟩,⟨(some 145),.extract (.tmp 141) 1,none⟩,⟨(some 11),.mv (.tmp 144),none⟩,⟨(some 6),.mv (.tmp 145),none⟩])
 (.seq (.seq (.region [⟨(some 146),.mv (.tmp 11),none⟩,⟨(some 147),.bin .neq (.tmp 146) (.const (.int .u64 65552)),none⟩,⟨(some 148),.mv (.tmp 147),none⟩,⟨(some 149),.mv (.tmp 6),some (148,false)⟩,⟨(some 150),.bin .neq (.tmp 149) (.const (.int .i64 0)),some (148,false)⟩,⟨(some 151),.pick (.tmp 148) (.const (.bool true)) (.tmp 150),none⟩,⟨(some 152),.mv (.tmp 151),none⟩,⟨(some 153),.mv (.tmp 1),some (152,false)⟩,⟨(some 154),.call 156 [(.tmp 153)],some (152,false)⟩,⟨(some 155),.lenS (.tmp 154),some (152,false)⟩,⟨(some 156),.bin .neq (.tmp 155) (.const (.int .i64 0)),some (152,false)⟩,⟨(some 157),.pick (.tmp 152) (.const (.bool true)) (.tmp 156),none⟩,⟨(some 158),.mv (.tmp 157),none⟩,⟨(some 159),.mv (.tmp 1),some (158,false)⟩,⟨(some 160),.call 48 [(.tmp 159)],some (158,false)⟩,⟨(some 161),.lenS (.tmp 160),some (158,false)⟩,⟨(some 162),.bin .neq (.tmp 161) (.const (.int .i64 0)),some (158,false)⟩,⟨(some 163),.pick (.tmp 158) (.const (.bool true)) (.tmp 162),none⟩])
 (.cond (.tmp 163) (.seq (.region [⟨(some 4),.mv (.const (.bool false)),none⟩])
 .ret) .skip))
 (.seq (.region [⟨(some 165),.mv (.tmp 1),none⟩,⟨(some 166),.mv (.tmp 11),none⟩,⟨(some 167),.call 157 [(.tmp 165),(.tmp 166),(.const (.int .u64 1)),(.const (.bool true))],none⟩,⟨(some 164),.mv (.tmp 167),none⟩,⟨(some 168),.extract (.tmp 164) 0,none⟩,⟨(some 169),.extract (.tmp 164) 1,none⟩,⟨(some 6),.mv (.tmp 169),none⟩])
 (.seq (.region [⟨(some 170),.mv (.tmp 6),none⟩,⟨(some 171),.bin .eql (.tmp 170) (.const (.int .i64 2)),none⟩,⟨(some 172),.mv (.tmp 171),none⟩,⟨(some 173),.mv (.tmp 1),some (172,true)⟩,⟨(some 174),.call 155 [(.tmp 173),(.const (.int .u64 0))],some (172,true)⟩,⟨(some 175),.bin .eql (.tmp 174) (.const (.int .i64 0)),some (172,true)⟩,⟨(some 176),.pick (.tmp 172) (.tmp 175) (.const (.bool false)),none⟩,⟨(some 4),.mv (.tmp 176),none⟩])
 .ret)))))))))))))⟩
theorem k50 : compFn Tryz.prog Tryz.f50 = some c50 := by kernel_rfl
-- croft/region.New
def c104 : AFunc := ⟨[.tmp 2,.tmp 3],(.seq (.region [⟨(some 1),.box 3 (.tmp 0),none⟩,⟨(some 2),.mv (.const (.ptr none)),none⟩,⟨(some 3),.mv (.const (.int .i64 0)),none⟩])
 (.seq (.region [⟨(some 8),.load true 3 (.tmp 1),none⟩,⟨(some 9),.call 199 [(.tmp 8)],none⟩,⟨(some 7),.mv (.tmp 9),none⟩,⟨(some 10),.extract (.tmp 7) 0,none⟩,⟨(some 11),.extract (.tmp 7) 1,none⟩,⟨(some 4),.mv (.tmp 10),none⟩,⟨(some 5),.mv (.tmp 11),none⟩])
 (.seq (.seq (.region [⟨(some 12),.mv (.tmp 5),none⟩,⟨(some 13),.bin .neq (.tmp 12) (.const (.int .i64 0)),none⟩])
 (.cond (.tmp 13) (.seq (.region [⟨(some 14),.mv (.tmp 5),none⟩,⟨(some 2),.mv (.const (.ptr none)),none⟩,⟨(some 3),.mv (.tmp 14),none⟩])
 .ret) .skip))
 (.seq (.region [⟨(some 15),.faddr 2 (.tmp 1),none⟩,⟨(some 16),.load false 1 (.tmp 15),none⟩,⟨(some 17),.call 200 [(.tmp 16)],none⟩,⟨(some 6),.mv (.tmp 17),none⟩])
 (.seq (.region [⟨(some 18),.mv (.tmp 4),none⟩,⟨(some 19),.mv (.tmp 6),none⟩,⟨(some 20),.load true 3 (.tmp 1),none⟩,⟨(some 21),.mv (.tmp 4),none⟩,⟨(some 22),.mv (.tmp 6),none⟩,⟨(some 23),.call 201 [(.tmp 20),(.tmp 21),(.tmp 22)],none⟩,⟨(some 24),.build [(.ptr none),(.ptr none),(.ptr none)] [(0,1,(.tmp 18)),(1,1,(.tmp 19)),(2,1,(.tmp 23))],none⟩,⟨(some 25),.build [(.ptr none),(.ptr none),(.ptr none)] [(0,3,(.tmp 24))],none⟩,⟨(some 26),.box 3 (.tmp 25),none⟩,⟨(some 2),.mv (.tmp 26),none⟩,⟨(some 3),.mv (.const (.int .i64 0)),none⟩])
 .ret)))))⟩
theorem k104 : compFn Tryz.prog Tryz.f104 = some c104 := by kernel_rfl
-- croft/slab.New
def c105 : AFunc := ⟨[.tmp 2],(.seq (.region [⟨(some 2),.mv (.const (.ptr none)),none⟩])
 (.seq (.region [⟨(some 5),.mv (.tmp 0),none⟩,⟨(some 6),.build [(.ptr none),(.int .i64 0),(.int .i64 0),(.int .i64 0),(.int .i64 0),(.int .i64 0),(.int .i64 0),(.int .i64 0),(.int .i64 0)] [(0,1,(.tmp 5))],none⟩,⟨(some 7),.box 9 (.tmp 6),none⟩,⟨(some 3),.mv (.tmp 7),none⟩])
 (.seq (.seq (.region [⟨(some 8),.mv (.const (.int .i64 0)),none⟩])
 (.block 0 (.loop (.seq (.region [⟨(some 9),.bin .lss (.tmp 8) (.const (.int .i64 8)),none⟩])
 (.seq (.cond (.tmp 9) .skip (.exit 0))
 (.seq (.block 1 (.seq (.region [⟨(some 10),.mv (.tmp 8),none⟩,⟨(some 4),.mv (.tmp 10),none⟩])
 (.region [⟨(some 11),.mv (.tmp 3),none⟩,⟨(some 12),.mv (.tmp 4),none⟩,⟨(some 13),.nilCheck (.tmp 11),none⟩,⟨(some 14),.faddr 1 (.tmp 13),none⟩,⟨(some 15),.iaddrA 8 1 (.tmp 14) (.tmp 12),none⟩,⟨none,.store 1 (.tmp 15) (.const (.int .i64 (-1))),none⟩])))
 (.region [⟨(some 16),.bin .add (.tmp 8) (.const (.int .i64 1)),none⟩,⟨(some 8),.mv (.tmp 16),none⟩])))))))
 (.seq (.region [⟨(some 17),.mv (.tmp 3),none⟩,⟨(some 2),.mv (.tmp 17),none⟩])
 .ret))))⟩
theorem k105 : compFn Tryz.prog Tryz.f105 = some c105 := by kernel_rfl
-- (*croft/malloc.Heap).AlignedAlloc
def c107 : AFunc := ⟨[.tmp 8,.tmp 9],(.seq (.region [⟨(some 8),.mv (.const (.int .u64 0)),none⟩,⟨(some 9),.mv (.const (.int .i64 0)),none⟩])
 (.seq (.region [⟨(some 12),.mv (.tmp 0),none⟩,⟨(some 13),.nilCheck (.tmp 12),none⟩,⟨(some 14),.faddr 0 (.tmp 13),none⟩,⟨(some 15),.call 111 [(.tmp 14)],none⟩])
 (.seq (.region [⟨(some 16),.mv (.tmp 0),none⟩,⟨(some 17),.nilCheck (.tmp 16),none⟩,⟨(some 18),.faddr 0 (.tmp 17),none⟩,⟨none,.defer 112 [(.tmp 18)],none⟩])
 (.seq (.region [⟨(some 20),.mv (.tmp 0),none⟩,⟨(some 21),.mv (.tmp 2),none⟩,⟨(some 22),.mv (.tmp 1),none⟩,⟨(some 23),.mv (.tmp 3),none⟩,⟨(some 24),.call 202 [(.tmp 20),(.tmp 21),(.tmp 22),(.tmp 23)],none⟩,⟨(some 19),.mv (.tmp 24),none⟩,⟨(some 25),.extract (.tmp 19) 0,none⟩,⟨(some 26),.extract (.tmp 19) 1,none⟩,⟨(some 10),.alloc [(.int .u64 0),(.int .u64 0)],none⟩,⟨none,.store 2 (.tmp 10) (.tmp 25),none⟩,⟨(some 11),.mv (.tmp 26),none⟩])
 (.seq (.region [⟨(some 27),.faddr 0 (.tmp 10),none⟩,⟨(some 28),.load false 1 (.tmp 27),none⟩,⟨(some 29),.mv (.tmp 11),none⟩,⟨(some 8),.mv (.tmp 28),none⟩,⟨(some 9),.mv (.tmp 29),none⟩])
 .ret)))))⟩
theorem k107 : compFn Tryz.prog Tryz.f107 = some c107 := by kernel_rfl
-- (*croft/region.ground).Space
def c113 : AFunc := ⟨[.tmp 2],(.seq (.region [⟨(some 2),.mv (.const (.ptr none)),none⟩])
 (.seq (.region [⟨(some 3),.mv (.tmp 0),none⟩,⟨(some 4),.nilCheck (.tmp 3),none⟩,⟨(some 5),.faddr 0 (.tmp 4),none⟩,⟨(some 6),.load false 1 (.tmp 5),none⟩,⟨(some 2),.mv (.tmp 6),none⟩])
 .ret))⟩
theorem k113 : compFn Tryz.prog Tryz.f113 = some c113 := by kernel_rfl
-- (*croft/mem.Space).End
def c114 : AFunc := ⟨[.tmp 2],(.seq (.region [⟨(some 2),.mv (.const (.int .u64 0)),none⟩])
 (.seq (.draw [⟨⟨(some 3),.mv (.tmp 0),none⟩,0,0⟩,⟨⟨(some 4),.nilCheck (.tmp 3),none⟩,0,0⟩,⟨⟨(some 5),.faddr 0 (.tmp 4),none⟩,0,0⟩,⟨⟨(some 6),.faddr 0 (.tmp 5),none⟩,0,0⟩,⟨⟨(some 7),.load false 1 (.tmp 6),none⟩,0,0⟩,⟨⟨(some 8),.mv (.tmp 0),none⟩,0,0⟩,⟨⟨(some 9),.nilCheck (.tmp 8),none⟩,0,0⟩,⟨⟨(some 10),.faddr 3 (.tmp 9),none⟩,0,0⟩,⟨⟨(some 11),.load false 1 (.tmp 10),none⟩,0,0⟩,⟨⟨(some 12),.mv (.tmp 0),none⟩,0,0⟩,⟨⟨(some 13),.nilCheck (.tmp 12),none⟩,0,0⟩,⟨⟨(some 14),.faddr 4 (.tmp 13),none⟩,0,0⟩,⟨⟨(some 15),.load false 1 (.tmp 14),none⟩,0,0⟩,⟨⟨(some 16),.lenS (.tmp 15),none⟩,0,0⟩,⟨⟨(some 17),.conv .u64 (.tmp 16),none⟩,0,0⟩,⟨⟨(some 18),.bin .mul (.tmp 11) (.tmp 17),none⟩,0,0⟩,⟨⟨(some 19),.bin .add (.tmp 7) (.tmp 18),none⟩,0,0⟩,⟨⟨(some 2),.mv (.tmp 19),none⟩,0,0⟩])
 .ret))⟩
theorem k114 : compFn Tryz.prog Tryz.f114 = some c114 := by kernel_rfl
-- (*croft/malloc.Heap).live
def c115 : AFunc := ⟨[.tmp 2],(.seq (.region [⟨(some 2),.mv (.const (.slice none 0 0)),none⟩])
 (.seq (.region [⟨(some 3),.mv (.const (.slice none 0 0)),none⟩])
 (.seq (.region [⟨(some 11),.mv (.tmp 0),none⟩,⟨(some 12),.nilCheck (.tmp 11),none⟩,⟨(some 13),.faddr 5 (.tmp 12),none⟩,⟨(some 14),.load false 1 (.tmp 13),none⟩,⟨(some 15),.nilCheck (.tmp 14),none⟩,⟨(some 16),.faddr 0 (.tmp 15),none⟩,⟨(some 17),.call 116 [(.tmp 16)],none⟩,⟨(some 4),.mv (.tmp 17),none⟩])
 (.seq (.seq (.region [⟨(some 5),.mv (.const (.int .i64 0)),none⟩])
 (.block 0 (.loop (.seq (.seq (.region [⟨(some 18),.mv (.tmp 5),none⟩,⟨(some 19),.mv (.tmp 4),none⟩,⟨(some 20),.call 117 [(.tmp 19)],none⟩,⟨(some 21),.bin .lss (.tmp 18) (.tmp 20),none⟩])
 (.cond (.tmp 21) .skip (.exit 0)))
 (.seq (.block 1 (.seq (.region [⟨(some 25),.mv (.tmp 4),none⟩,⟨(some 26),.mv (.tmp 5),none⟩,⟨(some 27),.call 118 [(.tmp 25),(.tmp 26)],none⟩,⟨(some 24),.mv (.tmp 27),none⟩,⟨(some 28),.extract (.tmp 24) 0,none⟩,⟨(some 29),.extract (.tmp 24) 1,none⟩,⟨(some 6),.alloc [(.int .i64 0),(.int .i64 0),(.int .i64 0),(.int .i64 0),(.int .i64 0),(.int .i64 0),(.int .i64 0),(.int .u64 0),(.int .u64 0),(.int .u64 0),(.int .u64 0)],none⟩,⟨none,.store 11 (.tmp 6) (.tmp 28),none⟩,⟨(some 7),.mv (.tmp 29),none⟩])
 (.seq (.region [⟨(some 30),.mv (.tmp 0),none⟩,⟨(some 31),.nilCheck (.tmp 30),none⟩,⟨(some 32),.faddr 2 (.tmp 31),none⟩,⟨(some 33),.faddr 0 (.tmp 32),none⟩,⟨(some 34),.load false 1 (.tmp 33),none⟩,⟨(some 35),.mv (.tmp 5),none⟩,⟨(some 36),.conv .u64 (.tmp 35),none⟩,⟨(some 37),.bin .mul (.tmp 36) (.const (.int .u64 4096)),none⟩,⟨(some 38),.bin .add (.tmp 34) (.tmp 37),none⟩,⟨(some 8),.mv (.tmp 38),none⟩])
 (.seq (.region [⟨(some 39),.faddr 0 (.tmp 6),none⟩,⟨(some 40),.load false 1 (.tmp 39),none⟩])
 (.block 2 (.seq (.region [⟨(some 42),.bin .eql (.tmp 40) (.const (.int .i64 2)),none⟩,⟨(some 41),.mv (.tmp 42),none⟩])
 (.cond (.tmp 41) (.region [⟨(some 43),.mv (.tmp 3),none⟩,⟨(some 44),.mv (.tmp 8),none⟩,⟨(some 45),.faddr 1 (.tmp 6),none⟩,⟨(some 46),.load false 1 (.tmp 45),none⟩,⟨(some 47),.bin .shl (.const (.int .u64 4096)) (.tmp 46),none⟩,⟨(some 48),.build [(.int .u64 0),(.int .u64 0)] [(0,1,(.tmp 44)),(1,1,(.tmp 47))],none⟩,⟨(some 49),.mkSlice 1 2 [(.int .u64 0),(.int .u64 0)] [(0,2,(.tmp 48))],none⟩,⟨(some 50),.appendC 2 16 (.tmp 43) (.tmp 49),none⟩,⟨(some 3),.mv (.tmp 50),none⟩]) (.seq (.region [⟨(some 52),.bin .eql (.tmp 40) (.const (.int .i64 4)),none⟩,⟨(some 51),.mv (.tmp 52),none⟩])
 (.cond (.tmp 51) (.seq (.region [⟨(some 53),.faddr 2 (.tmp 6),none⟩,⟨(some 54),.load false 1 (.tmp 53),none⟩,⟨(some 55),.bin .shl (.const (.int .u64 16)) (.tmp 54),none⟩,⟨(some 9),.mv (.tmp 55),none⟩])
 (.seq (.region [⟨(some 56),.mv (.tmp 9),none⟩,⟨(some 57),.bin .quo (.const (.int .u64 4096)) (.tmp 56),none⟩,⟨(some 58),.mv (.const (.int .u64 0)),none⟩])
 (.block 3 (.loop (.seq (.region [⟨(some 59),.bin .lss (.tmp 58) (.tmp 57),none⟩])
 (.seq (.cond (.tmp 59) .skip (.exit 3))
 (.seq (.block 4 (.seq (.region [⟨(some 60),.mv (.tmp 58),none⟩,⟨(some 10),.mv (.tmp 60),none⟩])
 (.seq (.region [⟨(some 61),.mv (.tmp 10),none⟩,⟨(some 62),.bin .quo (.tmp 61) (.const (.int .u64 64)),none⟩,⟨(some 63),.faddr 7 (.tmp 6),none⟩,⟨(some 64),.iaddrA 4 1 (.tmp 63) (.tmp 62),none⟩,⟨(some 65),.load false 1 (.tmp 64),none⟩,⟨(some 66),.mv (.tmp 10),none⟩,⟨(some 67),.bin .rem (.tmp 66) (.const (.int .u64 64)),none⟩,⟨(some 68),.bin .shr (.tmp 65) (.tmp 67),none⟩,⟨(some 69),.bin .and (.tmp 68) (.const (.int .u64 1)),none⟩,⟨(some 70),.bin .eql (.tmp 69) (.const (.int .u64 1)),none⟩])
 (.cond (.tmp 70) (.region [⟨(some 71),.mv (.tmp 3),none⟩,⟨(some 72),.mv (.tmp 8),none⟩,⟨(some 73),.mv (.tmp 10),none⟩,⟨(some 74),.mv (.tmp 9),none⟩,⟨(some 75),.bin .mul (.tmp 73) (.tmp 74),none⟩,⟨(some 76),.bin .add (.tmp 72) (.tmp 75),none⟩,⟨(some 77),.mv (.tmp 9),none⟩,⟨(some 78),.build [(.int .u64 0),(.int .u64 0)] [(0,1,(.tmp 76)),(1,1,(.tmp 77))],none⟩,⟨(some 79),.mkSlice 1 2 [(.int .u64 0),(.int .u64 0)] [(0,2,(.tmp 78))],none⟩,⟨(some 80),.appendC 2 16 (.tmp 71) (.tmp 79),none⟩,⟨(some 3),.mv (.tmp 80),none⟩]) .skip))))
 (.region [⟨(some 81),.bin .add (.tmp 58) (.const (.int .u64 1)),none⟩,⟨(some 58),.mv (.tmp 81),none⟩])))))))) .skip)))))))))
 (.region [⟨(some 22),.mv (.tmp 5),none⟩,⟨(some 23),.bin .add (.tmp 22) (.const (.int .i64 1)),none⟩,⟨(some 5),.mv (.tmp 23),none⟩]))))))
 (.seq (.region [⟨(some 82),.mv (.tmp 3),none⟩,⟨(some 2),.mv (.tmp 82),none⟩])
 .ret)))))⟩
theorem k115 : compFn Tryz.prog Tryz.f115 = some c115 := by kernel_rfl
-- (*croft/region.ground).Map
def c116 : AFunc := ⟨[.tmp 2],(.seq (.region [⟨(some 2),.mv (.const (.ptr none)),none⟩])
 (.seq (.region [⟨(some 3),.mv (.tmp 0),none⟩,⟨(some 4),.nilCheck (.tmp 3),none⟩,⟨(some 5),.faddr 1 (.tmp 4),none⟩,⟨(some 6),.load false 1 (.tmp 5),none⟩,⟨(some 2),.mv (.tmp 6),none⟩])
 .ret))⟩
theorem k116 : compFn Tryz.prog Tryz.f116 = some c116 := by kernel_rfl
-- (*croft/pagemap.Map).Pages
def c117 : AFunc := ⟨[.tmp 2],(.seq (.region [⟨(some 2),.mv (.const (.int .i64 0)),none⟩])
 (.seq (.region [⟨(some 3),.mv (.tmp 0),none⟩,⟨(some 4),.nilCheck (.tmp 3),none⟩,⟨(some 5),.faddr 1 (.tmp 4),none⟩,⟨(some 6),.load false 1 (.tmp 5),none⟩,⟨(some 7),.lenS (.tmp 6),none⟩,⟨(some 2),.mv (.tmp 7),none⟩])
 .ret))⟩
theorem k117 : compFn Tryz.prog Tryz.f117 = some c117 := by kernel_rfl
-- (*croft/pagemap.Map).At
def c118 : AFunc := ⟨[.cell 4 true 11,.tmp 5],(.seq (.region [⟨(some 4),.alloc [(.int .i64 0),(.int .i64 0),(.int .i64 0),(.int .i64 0),(.int .i64 0),(.int .i64 0),(.int .i64 0),(.int .u64 0),(.int .u64 0),(.int .u64 0),(.int .u64 0)],none⟩,⟨(some 5),.mv (.const (.bool false)),none⟩])
 (.seq (.seq (.region [⟨(some 6),.mv (.tmp 1),none⟩,⟨(some 7),.bin .lss (.tmp 6) (.const (.int .i64 0)),none⟩,⟨(some 8),.mv (.tmp 7),none⟩,⟨(some 9),.mv (.tmp 1),some (8,false)⟩,⟨(some 10),.mv (.tmp 0),some (8,false)⟩,⟨(some 11),.nilCheck (.tmp 10),some (8,false)⟩,⟨(some 12),.faddr 1 (.tmp 11),some (8,false)⟩,⟨(some 13),.load false 1 (.tmp 12),some (8,false)⟩,⟨(some 14),.lenS (.tmp 13),some (8,false)⟩,⟨(some 15),.bin .geq (.tmp 9) (.tmp 14),some (8,false)⟩,⟨(some 16),.pick (.tmp 8) (.const (.bool true)) (.tmp 15),none⟩])
 (.cond (.tmp 16) (.seq (.region [⟨(some 17),.build [(.int .i64 0),(.int .i64 0),(.int .i64 0),(.int .i64 0),(.int .i64 0),(.int .i64 0),(.int .i64 0),(.int .u64 0),(.int .u64 0),(.int .u64 0),(.int .u64 0)] [],none⟩,⟨none,.store 11 (.tmp 4) (.tmp 17),none⟩,⟨(some 5),.mv (.const (.bool false)),none⟩])
 .ret) .skip))
 (.seq (.region [⟨(some 18),.mv (.tmp 0),none⟩,⟨(some 19),.nilCheck (.tmp 18),none⟩,⟨(some 20),.faddr 1 (.tmp 19),none⟩,⟨(some 21),.load false 1 (.tmp 20),none⟩,⟨(some 22),.mv (.tmp 1),none⟩,⟨(some 23),.iaddrS 11 (.tmp 21) (.tmp 22),none⟩,⟨(some 24),.load true 11 (.tmp 23),none⟩,⟨none,.store 11 (.tmp 4) (.tmp 24),none⟩,⟨(some 5),.mv (.const (.bool true)),none⟩])
 .ret)))⟩
theorem k118 : compFn Tryz.prog Tryz.f118 = some c118 := by kernel_rfl
-- (*croft/malloc.Heap).Free
def c132 : AFunc := ⟨[.tmp 4],(.seq (.region [⟨(some 4),.mv (.const (.int .i64 0)),none⟩])
 (.seq (.region [⟨(some 7),.mv (.tmp 0),none⟩,⟨(some 8),.nilCheck (.tmp 7),none⟩,⟨(some 9),.faddr 0 (.tmp 8),none⟩,⟨(some 10),.call 111 [(.tmp 9)],none⟩])
 (.seq (.region [⟨(some 11),.mv (.tmp 0),none⟩,⟨(some 12),.nilCheck (.tmp 11),none⟩,⟨(some 13),.faddr 0 (.tmp 12),none⟩,⟨none,.defer 112 [(.tmp 13)],none⟩])
 (.seq (.seq (.region [⟨(some 14),.mv (.tmp 1),none⟩,⟨(some 15),.bin .eql (.tmp 14) (.const (.int .u64 0)),none⟩])
 (.cond (.tmp 15) (.seq (.region [⟨(some 4),.mv (.const (.int .i64 0)),none⟩])
 .ret) .skip))
 (.seq (.region [⟨(some 17),.mv (.tmp 0),none⟩,⟨(some 18),.mv (.tmp 1),none⟩,⟨(some 19),.call 147 [(.tmp 17),(.tmp 18)],none⟩,⟨(some 16),.mv (.tmp 19),none⟩,⟨(some 20),.extract (.tmp 16) 0,none⟩,⟨(some 21),.extract (.tmp 16) 1,none⟩,⟨(some 5),.alloc [(.int .u64 0),(.int .u64 0)],none⟩,⟨none,.store 2 (.tmp 5) (.tmp 20),none⟩,⟨(some 6),.mv (.tmp 21),none⟩])
 (.seq (.seq (.region [⟨(some 22),.mv (.tmp 6),none⟩,⟨(some 23),.bin .eql (.tmp 22) (.const (.int .i64 0)),none⟩])
 (.cond (.tmp 23) (.region [⟨(some 24),.mv (.tmp 0),none⟩,⟨(some 25),.load true 2 (.tmp 5),none⟩,⟨(some 26),.call 214 [(.tmp 24),(.tmp 25)],none⟩]) .skip))
 (.seq (.region [⟨(some 27),.mv (.tmp 6),none⟩,⟨(some 4),.mv (.tmp 27),none⟩])
 .ret)))))))⟩
theorem k132 : compFn Tryz.prog Tryz.f132 = some c132 := by kernel_rfl
-- (*croft/guard.Guard).Leaks
def c142 : AFunc := ⟨[.tmp 2],(.seq (.region [⟨(some 2),.mv (.const (.slice none 0 0)),none⟩])
 (.seq (.region [⟨(some 3),.mv (.const (.slice none 0 0)),none⟩])
 (.seq (.seq (.region [⟨(some 6),.mv (.tmp 0),none⟩,⟨(some 7),.nilCheck (.tmp 6),none⟩,⟨(some 8),.faddr 4 (.tmp 7),none⟩,⟨(some 9),.load false 1 (.tmp 8),none⟩,⟨(some 10),.lenS (.tmp 9),none⟩,⟨(some 11),.mv (.const (.int .i64 0)),none⟩])
 (.block 0 (.loop (.seq (.region [⟨(some 12),.bin .lss (.tmp 11) (.tmp 10),none⟩])
 (.seq (.cond (.tmp 12) .skip (.exit 0))
 (.seq (.block 1 (.seq (.region [⟨(some 13),.iaddrS 1 (.tmp 9) (.tmp 11),none⟩,⟨(some 14),.load false 1 (.tmp 13),none⟩,⟨(some 5),.mv (.tmp 14),none⟩])
 (.draw [⟨⟨(some 15),.mv (.tmp 3),none⟩,0,2⟩,⟨⟨(some 16),.mv (.tmp 0),none⟩,0,0⟩,⟨⟨(some 17),.mv (.tmp 5),none⟩,0,0⟩,⟨⟨(some 18),.call 145 [(.tmp 16),(.tmp 17)],none⟩,0,1⟩,⟨⟨(some 19),.mv (.tmp 5),none⟩,0,1⟩,⟨⟨(some 20),.nilCheck (.tmp 19),none⟩,0,1⟩,⟨⟨(some 21),.faddr 2 (.tmp 20),none⟩,0,1⟩,⟨⟨(some 22),.load false 1 (.tmp 21),none⟩,0,1⟩,⟨⟨(some 23),.mv (.tmp 5),none⟩,0,1⟩,⟨⟨(some 24),.nilCheck (.tmp 23),none⟩,0,1⟩,⟨⟨(some 25),.faddr 3 (.tmp 24),none⟩,0,1⟩,⟨⟨(some 26),.load false 1 (.tmp 25),none⟩,0,1⟩,⟨⟨(some 27),.build [(.int .u64 0),(.int .u64 0),(.int .u32 0)] [(0,1,(.tmp 18)),(1,1,(.tmp 22)),(2,1,(.tmp 26))],none⟩,1,1⟩,⟨⟨(some 28),.mkSlice 1 3 [(.int .u64 0),(.int .u64 0),(.int .u32 0)] [(0,3,(.tmp 27))],none⟩,1,2⟩,⟨⟨(some 29),.appendC 3 24 (.tmp 15) (.tmp 28),none⟩,2,3⟩,⟨⟨(some 3),.mv (.tmp 29),none⟩,3,3⟩])))
 (.region [⟨(some 30),.bin .add (.tmp 11) (.const (.int .i64 1)),none⟩,⟨(some 11),.mv (.tmp 30),none⟩])))))))
 (.seq (.region [⟨(some 31),.mv (.tmp 3),none⟩,⟨(some 2),.mv (.tmp 31),none⟩])
 .ret))))⟩
theorem k142 : compFn Tryz.prog Tryz.f142 = some c142 := by kernel_rfl
-- (*croft/guard.Guard).hull
def c143 : AFunc := ⟨[.tmp 6,.tmp 7],(.seq (.region [⟨(some 6),.mv (.const (.int .u64 0)),none⟩,⟨(some 7),.mv (.const (.int .i64 0)),none⟩])
 (.seq (.region [⟨(some 11),.mv (.tmp 0),none⟩,⟨(some 12),.nilCheck (.tmp 11),none⟩,⟨(some 13),.faddr 0 (.tmp 12),none⟩,⟨(some 14),.load false 1 (.tmp 13),none⟩,⟨(some 15),.mv (.tmp 1),none⟩,⟨(some 16),.call 193 [(.tmp 14),(.tmp 15),(.const (.bool true))],none⟩,⟨(some 10),.mv (.tmp 16),none⟩,⟨(some 17),.extract (.tmp 10) 0,none⟩,⟨(some 18),.extract (.tmp 10) 1,none⟩,⟨(some 8),.mv (.tmp 17),none⟩,⟨(some 9),.mv (.tmp 18),none⟩])
 (.seq (.seq (.region [⟨(some 19),.mv (.tmp 9),none⟩,⟨(some 20),.bin .neq (.tmp 19) (.const (.int .i64 2)),none⟩])
 (.cond (.tmp 20) (.seq (.region [⟨(some 21),.mv (.tmp 8),none⟩,⟨(some 22),.mv (.tmp 9),none⟩,⟨(some 6),.mv (.tmp 21),none⟩,⟨(some 7),.mv (.tmp 22),none⟩])
 .ret) .skip))
 (.seq (.region [⟨(some 23),.mv (.tmp 0),none⟩,⟨(some 24),.call 215 [(.tmp 23)],none⟩])
 (.seq (.region [⟨(some 25),.mv (.tmp 0),none⟩,⟨(some 26),.nilCheck (.tmp 25),none⟩,⟨(some 27),.faddr 0 (.tmp 26),none⟩,⟨(some 28),.load false 1 (.tmp 27),none⟩,⟨(some 29),.mv (.tmp 1),none⟩,⟨(some 30),.mv (.tmp 2),none⟩,⟨(some 31),.call 193 [(.tmp 28),(.tmp 29),(.tmp 30)],none⟩,⟨(some 32),.extract (.tmp 31) 0,none⟩,⟨(some 33),.extract (.tmp 31) 1,none⟩,⟨(some 6),.mv (.tmp 32),none⟩,⟨(some 7),.mv (.tmp 33),none⟩])
 .ret)))))⟩
theorem k143 : compFn Tryz.prog Tryz.f143 = some c143 := by kernel_rfl
-- (*croft/guard.Guard).fill
def c144 : AFunc := ⟨[],(.draw [⟨⟨(some 8),.mv (.tmp 0),none⟩,0,2⟩,⟨⟨(some 9),.nilCheck (.tmp 8),none⟩,0,2⟩,⟨⟨(some 10),.faddr 0 (.tmp 9),none⟩,0,2⟩,⟨⟨(some 11),.load false 1 (.tmp 10),none⟩,0,2⟩,⟨⟨(some 12),.mv (.tmp 1),none⟩,0,2⟩,⟨⟨(some 13),.mv (.tmp 3),none⟩,0,0⟩,⟨⟨(some 14),.mkSlice 1 1 [(.int .u8 0)] [(0,1,(.tmp 13))],none⟩,0,1⟩,⟨⟨(some 15),.mv (.tmp 2),none⟩,0,1⟩,⟨⟨(some 16),.conv .i64 (.tmp 15),none⟩,0,1⟩,⟨⟨(some 17),.call 216 [(.tmp 14),(.tmp 16)],none⟩,1,2⟩,⟨⟨(some 18),.call 151 [(.tmp 11),(.tmp 12),(.tmp 17)],none⟩,2,3⟩])⟩
theorem k144 : compFn Tryz.prog Tryz.f144 = some c144 := by kernel_rfl
-- (*croft/guard.Guard).address
def c145 : AFunc := ⟨[.tmp 4],(.seq (.region [⟨(some 4),.mv (.const (.int .u64 0)),none⟩])
 (.seq (.draw [⟨⟨(some 5),.mv (.tmp 1),none⟩,0,0⟩,⟨⟨(some 6),.nilCheck (.tmp 5),none⟩,0,0⟩,⟨⟨(some 7),.faddr 0 (.tmp 6),none⟩,0,0⟩,⟨⟨(some 8),.load false 1 (.tmp 7),none⟩,0,0⟩,⟨⟨(some 9),.mv (.tmp 0),none⟩,0,0⟩,⟨⟨(some 10),.nilCheck (.tmp 9),none⟩,0,0⟩,⟨⟨(some 11),.faddr 1 (.tmp 10),none⟩,0,0⟩,⟨⟨(some 12),.load false 1 (.tmp 11),none⟩,0,0⟩,⟨⟨(some 13),.bin .add (.tmp 8) (.tmp 12),none⟩,0,0⟩,⟨⟨(some 4),.mv (.tmp 13),none⟩,0,0⟩])
 .ret))⟩
theorem k145 : compFn Tryz.prog Tryz.f145 = some c145 := by kernel_rfl
-- (*croft/guard.Guard).find
def c146 : AFunc := ⟨[.tmp 4,.tmp 5],(.seq (.region [⟨(some 2),.box 1 (.tmp 0),none⟩,⟨(some 3),.box 1 (.tmp 1),none⟩,⟨(some 4),.mv (.const (.int .i64 0)),none⟩,⟨(some 5),.mv (.const (.int .i64 0)),none⟩])
 (.seq (.region [⟨(some 8),.makeFunc 217 [] [(.tmp 2),(.tmp 3)],none⟩,⟨(some 6),.mv (.tmp 8),none⟩])
 (.seq (.seq (.region [⟨(some 9),.load false 1 (.tmp 2),none⟩,⟨(some 10),.nilCheck (.tmp 9),none⟩,⟨(some 11),.faddr 4 (.tmp 10),none⟩,⟨(some 12),.load false 1 (.tmp 11),none⟩,⟨(some 13),.mv (.tmp 6),none⟩,⟨(some 14),.call 218 [(.tmp 12),(.tmp 13)],none⟩,⟨(some 7),.mv (.tmp 14),none⟩])
 (.seq (.region [⟨(some 15),.mv (.tmp 7),none⟩,⟨(some 16),.bin .geq (.tmp 15) (.const (.int .i64 0)),none⟩])
 (.cond (.tmp 16) (.seq (.region [⟨(some 17),.mv (.tmp 7),none⟩,⟨(some 4),.mv (.tmp 17),none⟩,⟨(some 5),.mv (.const (.int .i64 0)),none⟩])
 .ret) .skip)))
 (.seq (.seq (.region [⟨(some 18),.load false 1 (.tmp 2),none⟩,⟨(some 19),.nilCheck (.tmp 18),none⟩,⟨(some 20),.faddr 5 (.tmp 19),none⟩,⟨(some 21),.load false 1 (.tmp 20),none⟩,⟨(some 22),.mv (.tmp 6),none⟩,⟨(some 23),.call 219 [(.tmp 21),(.tmp 22)],none⟩])
 (.cond (.tmp 23) (.seq (.region [⟨(some 4),.mv (.const (.int .i64 (-1))),none⟩,⟨(some 5),.mv (.const (.int .i64 9)),none⟩])
 .ret) .skip))
 (.seq (.region [⟨(some 4),.mv (.const (.int .i64 (-1))),none⟩,⟨(some 5),.mv (.const (.int .i64 1)),none⟩])
 .ret)))))⟩
theorem k146 : compFn Tryz.prog Tryz.f146 = some c146 := by kernel_rfl
-- (*croft/malloc.Heap).start
def c147 : AFunc := ⟨[.cell 4 true 2,.tmp 5],(.seq (.region [⟨(some 4),.alloc [(.int .u64 0),(.int .u64 0)],none⟩,⟨(some 5),.mv (.const (.int .i64 0)),none⟩])
 (.seq (.region [⟨(some 9),.mv (.tmp 0),none⟩,⟨(some 10),.mv (.tmp 1),none⟩,⟨(some 11),.call 220 [(.tmp 9),(.tmp 10)],none⟩,⟨(some 8),.mv (.tmp 11),none⟩,⟨(some 12),.extract (.tmp 8) 0,none⟩,⟨(some 13),.extract (.tmp 8) 1,none⟩,⟨(some 6),.alloc [(.int .u64 0),(.int .u64 0)],none⟩,⟨none,.store 2 (.tmp 6) (.tmp 12),none⟩,⟨(some 7),.mv (.tmp 13),none⟩])
 (.seq (.seq (.region [⟨(some 14),.mv (.tmp 7),none⟩,⟨(some 15),.not (.tmp 14),none⟩,⟨(some 16),.mv (.tmp 15),none⟩,⟨(some 17),.faddr 0 (.tmp 6),some (16,false)⟩,⟨(some 18),.load false 1 (.tmp 17),some (16,false)⟩,⟨(some 19),.mv (.tmp 1),some (16,false)⟩,⟨(some 20),.bin .neq (.tmp 18) (.tmp 19),some (16,false)⟩,⟨(some 21),.pick (.tmp 16) (.const (.bool true)) (.tmp 20),none⟩])
 (.cond (.tmp 21) (.seq (.region [⟨(some 22),.build [(.int .u64 0),(.int .u64 0)] [],none⟩,⟨none,.store 2 (.tmp 4) (.tmp 22),none⟩,⟨(some 5),.mv (.const (.int .i64 1)),none⟩])
 .ret) .skip))
 (.seq (.region [⟨(some 23),.load true 2 (.tmp 6),none⟩,⟨none,.store 2 (.tmp 4) (.tmp 23),none⟩,⟨(some 5),.mv (.const (.int .i64 0)),none⟩])
 .ret))))⟩
theorem k147 : compFn Tryz.prog Tryz.f147 = some c147 := by kernel_rfl
-- (*croft/malloc.Heap).within
def c148 : AFunc := ⟨[.tmp 6],(.seq (.region [⟨(some 6),.mv (.const (.bool false)),none⟩])
 (.seq (.region [⟨(some 10),.mv (.tmp 0),none⟩,⟨(some 11),.mv (.tmp 1),none⟩,⟨(some 12),.call 220 [(.tmp 10),(.tmp 11)],none⟩,⟨(some 9),.mv (.tmp 12),none⟩,⟨(some 13),.extract (.tmp 9) 0,none⟩,⟨(some 14),.extract (.tmp 9) 1,none⟩,⟨(some 7),.alloc [(.int .u64 0),(.int .u64 0)],none⟩,⟨none,.store 2 (.tmp 7) (.tmp 13),none⟩,⟨(some 8),.mv (.tmp 14),none⟩])
 (.seq (.region [⟨(some 15),.mv (.tmp 8),none⟩,⟨(some 16),.mv (.tmp 15),none⟩,⟨(some 17),.mv (.tmp 2),some (16,true)⟩,⟨(some 18),.faddr 0 (.tmp 7),some (16,true)⟩,⟨(some 19),.load false 1 (.tmp 18),some (16,true)⟩,⟨(some 20),.faddr 1 (.tmp 7),some (16,true)⟩,⟨(some 21),.load false 1 (.tmp 20),some (16,true)⟩,⟨(some 22),.bin .add (.tmp 19) (.tmp 21),some (16,true)⟩,⟨(some 23),.mv (.tmp 1),some (16,true)⟩,⟨(some 24),.bin .sub (.tmp 22) (.tmp 23),some (16,true)⟩,⟨(some 25),.bin .leq (.tmp 17) (.tmp 24),some (16,true)⟩,⟨(some 26),.pick (.tmp 16) (.tmp 25) (.const (.bool false)),none⟩,⟨(some 6),.mv (.tmp 26),none⟩])
 .ret)))⟩
theorem k148 : compFn Tryz.prog Tryz.f148 = some c148 := by kernel_rfl
-- (*croft/mem.Space).Read
def c149 : AFunc := ⟨[.tmp 6,.cell 7 false 1],(.seq (.region [⟨(some 6),.mv (.const (.slice none 0 0)),none⟩,⟨(some 7),.alloc [(.int .i64 0)],none⟩])
 (.seq (.region [⟨(some 9),.makeFunc 221 [] [(.tmp 7)],none⟩,⟨none,.deferv (.tmp 9) [],none⟩])
 (.seq (.region [⟨(some 10),.mv (.tmp 0),none⟩,⟨(some 11),.mv (.tmp 1),none⟩,⟨(some 12),.mv (.tmp 2),none⟩,⟨(some 13),.call 223 [(.tmp 10),(.tmp 11),(.tmp 12)],none⟩])
 (.seq (.region [⟨(some 14),.mv (.tmp 2),none⟩,⟨(some 15),.makeSlice 1 1 [(.int .u8 0)] (.tmp 14) (.tmp 14),none⟩,⟨(some 8),.mv (.tmp 15),none⟩])
 (.seq (.region [⟨(some 16),.mv (.tmp 0),none⟩,⟨(some 17),.mv (.tmp 1),none⟩,⟨(some 18),.mv (.tmp 8),none⟩,⟨(some 19),.call 224 [(.tmp 16),(.tmp 17),(.tmp 18)],none⟩])
 (.seq (.region [⟨(some 20),.mv (.tmp 8),none⟩,⟨(some 6),.mv (.tmp 20),none⟩,⟨none,.store 1 (.tmp 7) (.const (.int .i64 0)),none⟩])
 .ret))))))⟩
theorem k149 : compFn Tryz.prog Tryz.f149 = some c149 := by kernel_rfl
-- (*croft/guard.Guard).Where
def c150 : AFunc := ⟨[.tmp 4,.tmp 5],(.seq (.region [⟨(some 4),.mv (.const (.int .i64 0)),none⟩,⟨(some 5),.mv (.const (.int .u64 0)),none⟩])
 (.seq (.seq (.region [⟨(some 8),.mv (.tmp 0),none⟩,⟨(some 9),.call 153 [(.tmp 8)],none⟩,⟨(some 10),.lenS (.tmp 9),none⟩,⟨(some 11),.mv (.const (.int .i64 0)),none⟩])
 (.block 0 (.loop (.seq (.region [⟨(some 12),.bin .lss (.tmp 11) (.tmp 10),none⟩])
 (.seq (.cond (.tmp 12) .skip (.exit 0))
 (.seq (.block 1 (.seq (.region [⟨(some 13),.iaddrS 1 (.tmp 9) (.tmp 11),none⟩,⟨(some 14),.load false 1 (.tmp 13),none⟩,⟨(some 7),.mv (.tmp 14),none⟩])
 (.seq (.draw [⟨⟨(some 15),.mv (.tmp 1),none⟩,0,0⟩,⟨⟨(some 16),.mv (.tmp 7),none⟩,0,0⟩,⟨⟨(some 17),.nilCheck (.tmp 16),none⟩,0,0⟩,⟨⟨(some 18),.faddr 0 (.tmp 17),none⟩,0,0⟩,⟨⟨(some 19),.load false 1 (.tmp 18),none⟩,0,0⟩,⟨⟨(some 20),.bin .geq (.tmp 15) (.tmp 19),none⟩,0,0⟩,⟨⟨(some 21),.mv (.tmp 20),none⟩,0,0⟩,⟨⟨(some 22),.mv (.tmp 1),some (21,true)⟩,0,0⟩,⟨⟨(some 23),.mv (.tmp 7),some (21,true)⟩,0,0⟩,⟨⟨(some 24),.nilCheck (.tmp 23),some (21,true)⟩,0,0⟩,⟨⟨(some 25),.faddr 0 (.tmp 24),some (21,true)⟩,0,0⟩,⟨⟨(some 26),.load false 1 (.tmp 25),some (21,true)⟩,0,0⟩,⟨⟨(some 27),.bin .sub (.tmp 22) (.tmp 26),some (21,true)⟩,0,0⟩,⟨⟨(some 28),.mv (.tmp 7),some (21,true)⟩,0,0⟩,⟨⟨(some 29),.nilCheck (.tmp 28),some (21,true)⟩,0,0⟩,⟨⟨(some 30),.faddr 1 (.tmp 29),some (21,true)⟩,0,0⟩,⟨⟨(some 31),.load false 1 (.tmp 30),some (21,true)⟩,0,0⟩,⟨⟨(some 32),.bin .lss (.tmp 27) (.tmp 31),some (21,true)⟩,0,0⟩,⟨⟨(some 33),.pick (.tmp 21) (.tmp 32) (.const (.bool false)),none⟩,0,0⟩])
 (.cond (.tmp 33) (.seq (.region [⟨(some 34),.mv (.tmp 0),none⟩,⟨(some 35),.mv (.tmp 7),none⟩,⟨(some 36),.mv (.tmp 1),none⟩,⟨(some 37),.call 225 [(.tmp 34),(.tmp 35),(.tmp 36)],none⟩,⟨(some 38),.mv (.tmp 0),none⟩,⟨(some 39),.mv (.tmp 7),none⟩,⟨(some 40),.call 145 [(.tmp 38),(.tmp 39)],none⟩,⟨(some 4),.mv (.tmp 37),none⟩,⟨(some 5),.mv (.tmp 40),none⟩])
 .ret) .skip))))
 (.region [⟨(some 41),.bin .add (.tmp 11) (.const (.int .i64 1)),none⟩,⟨(some 11),.mv (.tmp 41),none⟩])))))))
 (.seq (.region [⟨(some 4),.mv (.const (.int .i64 0)),none⟩,⟨(some 5),.mv (.const (.int .u64 0)),none⟩])
 .ret)))⟩
theorem k150 : compFn Tryz.prog Tryz.f150 = some c150 := by kernel_rfl
-- (*croft/malloc.Heap).Write
def c151 : AFunc := ⟨[.tmp 6],(.seq (.region [⟨(some 6),.mv (.const (.int .i64 0)),none⟩])
 (.seq (.region [⟨(some 7),.mv (.tmp 0),none⟩,⟨(some 8),.nilCheck (.tmp 7),none⟩,⟨(some 9),.faddr 0 (.tmp 8),none⟩,⟨(some 10),.call 111 [(.tmp 9)],none⟩])
 (.seq (.region [⟨(some 11),.mv (.tmp 0),none⟩,⟨(some 12),.nilCheck (.tmp 11),none⟩,⟨(some 13),.faddr 0 (.tmp 12),none⟩,⟨none,.defer 112 [(.tmp 13)],none⟩])
 (.seq (.seq (.region [⟨(some 14),.mv (.tmp 2),none⟩,⟨(some 15),.lenS (.tmp 14),none⟩,⟨(some 16),.bin .eql (.tmp 15) (.const (.int .i64 0)),none⟩])
 (.cond (.tmp 16) (.seq (.region [⟨(some 6),.mv (.const (.int .i64 0)),none⟩])
 .ret) .skip))
 (.seq (.seq (.region [⟨(some 17),.mv (.tmp 0),none⟩,⟨(some 18),.mv (.tmp 1),none⟩,⟨(some 19),.mv (.tmp 2),none⟩,⟨(some 20),.lenS (.tmp 19),none⟩,⟨(some 21),.conv .u64 (.tmp 20),none⟩,⟨(some 22),.call 148 [(.tmp 17),(.tmp 18),(.tmp 21)],none⟩,⟨(some 23),.not (.tmp 22),none⟩])
 (.cond (.tmp 23) (.seq (.region [⟨(some 6),.mv (.const (.int .i64 4)),none⟩])
 .ret) .skip))
 (.seq (.region [⟨(some 24),.mv (.tmp 0),none⟩,⟨(some 25),.nilCheck (.tmp 24),none⟩,⟨(some 26),.faddr 5 (.tmp 25),none⟩,⟨(some 27),.load false 1 (.tmp 26),none⟩,⟨(some 28),.nilCheck (.tmp 27),none⟩,⟨(some 29),.faddr 0 (.tmp 28),none⟩,⟨(some 30),.call 113 [(.tmp 29)],none⟩,⟨(some 31),.mv (.tmp 1),none⟩,⟨(some 32),.mv (.tmp 2),none⟩,⟨(some 33),.call 226 [(.tmp 30),(.tmp 31),(.tmp 32)],none⟩,⟨(some 6),.mv (.tmp 33),none⟩])
 .ret))))))⟩
theorem k151 : compFn Tryz.prog Tryz.f151 = some c151 := by kernel_rfl
-- (*croft/guard.Guard).Check$1
def c152 : AFunc := ⟨[],(.seq (.region [⟨(some 3),.box 5 (.tmp 0),none⟩])
 (.seq (.region [⟨(some 4),.load false 1 (.tmp 1),none⟩,⟨(some 5),.load true 5 (.tmp 3),none⟩,⟨(some 6),.mkSlice 1 5 [(.int .u64 0),(.int .u64 0),(.int .u32 0),(.int .i64 0),(.int .u8 0)] [(0,5,(.tmp 5))],none⟩,⟨(some 7),.appendC 5 40 (.tmp 4) (.tmp 6),none⟩,⟨none,.store 1 (.tmp 1) (.tmp 7),none⟩])
 (.draw [⟨⟨(some 8),.load false 1 (.tmp 2),none⟩,0,0⟩,⟨⟨(some 9),.nilCheck (.tmp 8),none⟩,0,0⟩,⟨⟨(some 10),.faddr 0 (.tmp 9),none⟩,0,0⟩,⟨⟨(some 11),.load false 1 (.tmp 10),none⟩,0,0⟩,⟨⟨(some 12),.faddr 0 (.tmp 3),none⟩,0,0⟩,⟨⟨(some 13),.load false 1 (.tmp 12),none⟩,0,0⟩,⟨⟨(some 14),.load false 1 (.tmp 2),none⟩,0,0⟩,⟨⟨(some 15),.nilCheck (.tmp 14),none⟩,0,0⟩,⟨⟨(some 16),.faddr 3 (.tmp 15),none⟩,0,0⟩,⟨⟨(some 17),.load false 1 (.tmp 16),none⟩,0,0⟩,⟨⟨(some 18),.call 47 [(.tmp 11),(.tmp 13),(.tmp 17)],none⟩,0,1⟩])))⟩
theorem k152 : compFn Tryz.prog Tryz.f152 = some c152 := by kernel_rfl
-- (*croft/guard.Guard).all
def c153 : AFunc := ⟨[.tmp 2],(.seq (.region [⟨(some 2),.mv (.const (.slice none 0 0)),none⟩])
 (.seq (.draw [⟨⟨(some 4),.mv (.tmp 0),none⟩,0,0⟩,⟨⟨(some 5),.nilCheck (.tmp 4),none⟩,0,0⟩,⟨⟨(some 6),.faddr 4 (.tmp 5),none⟩,0,0⟩,⟨⟨(some 7),.load false 1 (.tmp 6),none⟩,0,0⟩,⟨⟨(some 8),.call 227 [(.tmp 7)],none⟩,0,1⟩,⟨⟨(some 9),.mv (.tmp 0),none⟩,0,1⟩,⟨⟨(some 10),.nilCheck (.tmp 9),none⟩,0,1⟩,⟨⟨(some 11),.faddr 5 (.tmp 10),none⟩,0,1⟩,⟨⟨(some 12),.load false 1 (.tmp 11),none⟩,0,1⟩,⟨⟨(some 13),.appendC 1 8 (.tmp 8) (.tmp 12),none⟩,1,2⟩,⟨⟨(some 3),.mv (.tmp 13),none⟩,2,2⟩])
 (.seq (.region [⟨(some 14),.mv (.tmp 3),none⟩,⟨(some 15),.call 228 [(.tmp 14),(.const (.func 229 [] []))],none⟩])
 (.seq (.region [⟨(some 16),.mv (.tmp 3),none⟩,⟨(some 2),.mv (.tmp 16),none⟩])
 .ret))))⟩
theorem k153 : compFn Tryz.prog Tryz.f153 = some c153 := by kernel_rfl
-- (*croft/guard.Guard).wrong
def c154 : AFunc := ⟨[.tmp 4],(.seq (.region [⟨(some 2),.box 1 (.tmp 0),none⟩,⟨(some 3),.box 1 (.tmp 1),none⟩,⟨(some 4),.mv (.const .nilFunc),none⟩])
 (.seq (.region [⟨(some 5),.makeFunc 231 [] [(.tmp 2),(.tmp 3)],none⟩,⟨(some 4),.mv (.tmp 5),none⟩])
 .ret))⟩
theorem k154 : compFn Tryz.prog Tryz.f154 = some c154 := by kernel_rfl
-- (*croft/guard.Guard).Free
def c155 : AFunc := ⟨[.tmp 4],(.seq (.region [⟨(some 4),.mv (.const (.int .i64 0)),none⟩])
 (.seq (.seq (.region [⟨(some 8),.mv (.tmp 1),none⟩,⟨(some 9),.bin .eql (.tmp 8) (.const (.int .u64 0)),none⟩])
 (.cond (.tmp 9) (.seq (.region [⟨(some 4),.mv (.const (.int .i64 0)),none⟩])
 .ret) .skip))
 (.seq (.region [⟨(some 11),.mv (.tmp 0),none⟩,⟨(some 12),.mv (.tmp 1),none⟩,⟨(some 13),.call 146 [(.tmp 11),(.tmp 12)],none⟩,⟨(some 10),.mv (.tmp 13),none⟩,⟨(some 14),.extract (.tmp 10) 0,none⟩,⟨(some 15),.extract (.tmp 10) 1,none⟩,⟨(some 5),.mv (.tmp 14),none⟩,⟨(some 6),.mv (.tmp 15),none⟩])
 (.seq (.seq (.region [⟨(some 16),.mv (.tmp 6),none⟩,⟨(some 17),.bin .neq (.tmp 16) (.const (.int .i64 0)),none⟩])
 (.cond (.tmp 17) (.seq (.region [⟨(some 18),.mv (.tmp 6),none⟩,⟨(some 4),.mv (.tmp 18),none⟩])
 .ret) .skip))
 (.seq (.region [⟨(some 19),.mv (.tmp 0),none⟩,⟨(some 20),.nilCheck (.tmp 19),none⟩,⟨(some 21),.faddr 4 (.tmp 20),none⟩,⟨(some 22),.load false 1 (.tmp 21),none⟩,⟨(some 23),.mv (.tmp 5),none⟩,⟨(some 24),.iaddrS 1 (.tmp 22) (.tmp 23),none⟩,⟨(some 25),.load false 1 (.tmp 24),none⟩,⟨(some 7),.mv (.tmp 25),none⟩])
 (.seq (.region [⟨(some 26),.mv (.tmp 0),none⟩,⟨(some 27),.mv (.tmp 0),none⟩,⟨(some 28),.nilCheck (.tmp 27),none⟩,⟨(some 29),.faddr 4 (.tmp 28),none⟩,⟨(some 30),.load false 1 (.tmp 29),none⟩,⟨(some 31),.mv (.tmp 5),none⟩,⟨(some 32),.mv (.tmp 5),none⟩,⟨(some 33),.bin .add (.tmp 32) (.const (.int .i64 1)),none⟩,⟨(some 34),.call 232 [(.tmp 30),(.tmp 31),(.tmp 33)],none⟩,⟨(some 35),.nilCheck (.tmp 26),none⟩,⟨(some 36),.faddr 4 (.tmp 35),none⟩,⟨none,.store 1 (.tmp 36) (.tmp 34),none⟩])
 (.seq (.region [⟨(some 37),.mv (.tmp 7),none⟩,⟨(some 38),.nilCheck (.tmp 37),none⟩,⟨(some 39),.faddr 4 (.tmp 38),none⟩,⟨none,.store 1 (.tmp 39) (.const (.bool true)),none⟩])
 (.seq (.draw [⟨⟨(some 40),.mv (.tmp 0),none⟩,0,0⟩,⟨⟨(some 41),.mv (.tmp 1),none⟩,0,0⟩,⟨⟨(some 42),.mv (.tmp 7),none⟩,0,0⟩,⟨⟨(some 43),.nilCheck (.tmp 42),none⟩,0,0⟩,⟨⟨(some 44),.faddr 2 (.tmp 43),none⟩,0,0⟩,⟨⟨(some 45),.load false 1 (.tmp 44),none⟩,0,0⟩,⟨⟨(some 46),.mv (.tmp 0),none⟩,0,0⟩,⟨⟨(some 47),.nilCheck (.tmp 46),none⟩,0,0⟩,⟨⟨(some 48),.faddr 3 (.tmp 47),none⟩,0,0⟩,⟨⟨(some 49),.load false 1 (.tmp 48),none⟩,0,0⟩,⟨⟨(some 50),.call 144 [(.tmp 40),(.tmp 41),(.tmp 45),(.tmp 49)],none⟩,0,1⟩])
 (.seq (.region [⟨(some 51),.mv (.tmp 0),none⟩,⟨(some 52),.mv (.tmp 0),none⟩,⟨(some 53),.nilCheck (.tmp 52),none⟩,⟨(some 54),.faddr 5 (.tmp 53),none⟩,⟨(some 55),.load false 1 (.tmp 54),none⟩,⟨(some 56),.mv (.tmp 7),none⟩,⟨(some 57),.mkSlice 1 1 [(.ptr none)] [(0,1,(.tmp 56))],none⟩,⟨(some 58),.appendC 1 8 (.tmp 55) (.tmp 57),none⟩,⟨(some 59),.nilCheck (.tmp 51),none⟩,⟨(some 60),.faddr 5 (.tmp 59),none⟩,⟨none,.store 1 (.tmp 60) (.tmp 58),none⟩])
 (.seq (.seq (.draw [⟨⟨(some 61),.mv (.tmp 0),none⟩,0,0⟩,⟨⟨(some 62),.nilCheck (.tmp 61),none⟩,0,0⟩,⟨⟨(some 63),.faddr 5 (.tmp 62),none⟩,0,0⟩,⟨⟨(some 64),.load false 1 (.tmp 63),none⟩,0,0⟩,⟨⟨(some 65),.lenS (.tmp 64),none⟩,0,0⟩,⟨⟨(some 66),.mv (.tmp 0),none⟩,0,0⟩,⟨⟨(some 67),.nilCheck (.tmp 66),none⟩,0,0⟩,⟨⟨(some 68),.faddr 2 (.tmp 67),none⟩,0,0⟩,⟨⟨(some 69),.load false 1 (.tmp 68),none⟩,0,0⟩,⟨⟨(some 70),.bin .gtr (.tmp 65) (.tmp 69),none⟩,0,0⟩])
 (.cond (.tmp 70) (.region [⟨(some 71),.mv (.tmp 0),none⟩,⟨(some 72),.call 233 [(.tmp 71)],none⟩]) .skip))
 (.seq (.region [⟨(some 4),.mv (.const (.int .i64 0)),none⟩])
 .ret)))))))))))⟩
theorem k155 : compFn Tryz.prog Tryz.f155 = some c155 := by kernel_rfl
-- (*croft/guard.Guard).Kept
def c156 : AFunc := ⟨[.tmp 2],(.seq (.region [⟨(some 2),.mv (.const (.slice none 0 0)),none⟩])
 (.seq (.region [⟨(some 3),.mv (.const (.slice none 0 0)),none⟩])
 (.seq (.seq (.region [⟨(some 6),.mv (.tmp 0),none⟩,⟨(some 7),.nilCheck (.tmp 6),none⟩,⟨(some 8),.faddr 5 (.tmp 7),none⟩,⟨(some 9),.load false 1 (.tmp 8),none⟩,⟨(some 10),.lenS (.tmp 9),none⟩,⟨(some 11),.mv (.const (.int .i64 0)),none⟩])
 (.block 0 (.loop (.seq (.region [⟨(some 12),.bin .lss (.tmp 11) (.tmp 10),none⟩])
 (.seq (.cond (.tmp 12) .skip (.exit 0))
 (.seq (.block 1 (.seq (.region [⟨(some 13),.iaddrS 1 (.tmp 9) (.tmp 11),none⟩,⟨(some 14),.load false 1 (.tmp 13),none⟩,⟨(some 5),.mv (.tmp 14),none⟩])
 (.region [⟨(some 15),.mv (.tmp 3),none⟩,⟨(some 16),.mv (.tmp 0),none⟩,⟨(some 17),.mv (.tmp 5),none⟩,⟨(some 18),.call 145 [(.tmp 16),(.tmp 17)],none⟩,⟨(some 19),.mkSlice 1 1 [(.int .u64 0)] [(0,1,(.tmp 18))],none⟩,⟨(some 20),.appendC 1 8 (.tmp 15) (.tmp 19),none⟩,⟨(some 3),.mv (.tmp 20),none⟩])))
 (.region [⟨(some 21),.bin .add (.tmp 11) (.const (.int .i64 1)),none⟩,⟨(some 11),.mv (.tmp 21),none⟩])))))))
 (.seq (.region [⟨(some 22),.mv (.tmp 3),none⟩,⟨(some 2),.mv (.tmp 22),none⟩])
 .ret))))⟩
theorem k156 : compFn Tryz.prog Tryz.f156 = some c156 := by kernel_rfl
-- (*croft/guard.Guard).Realloc
def c157 : AFunc := ⟨[.tmp 8,.tmp 9],(.seq (.region [⟨(some 8),.mv (.const (.int .u64 0)),none⟩,⟨(some 9),.mv (.const (.int .i64 0)),none⟩])
 (.seq (.region [⟨(some 17),.mv (.tmp 0),none⟩,⟨(some 18),.mv (.tmp 1),none⟩,⟨(some 19),.call 146 [(.tmp 17),(.tmp 18)],none⟩,⟨(some 16),.mv (.tmp 19),none⟩,⟨(some 20),.extract (.tmp 16) 0,none⟩,⟨(some 21),.extract (.tmp 16) 1,none⟩,⟨(some 10),.mv (.tmp 20),none⟩,⟨(some 11),.mv (.tmp 21),none⟩])
 (.seq (.seq (.region [⟨(some 22),.mv (.tmp 11),none⟩,⟨(some 23),.bin .neq (.tmp 22) (.const (.int .i64 0)),none⟩])
 (.cond (.tmp 23) (.seq (.region [⟨(some 24),.mv (.tmp 11),none⟩,⟨(some 8),.mv (.const (.int .u64 0)),none⟩,⟨(some 9),.mv (.tmp 24),none⟩])
 .ret) .skip))
 (.seq (.region [⟨(some 25),.mv (.tmp 0),none⟩,⟨(some 26),.nilCheck (.tmp 25),none⟩,⟨(some 27),.faddr 4 (.tmp 26),none⟩,⟨(some 28),.load false 1 (.tmp 27),none⟩,⟨(some 29),.mv (.tmp 10),none⟩,⟨(some 30),.iaddrS 1 (.tmp 28) (.tmp 29),none⟩,⟨(some 31),.load false 1 (.tmp 30),none⟩,⟨(some 12),.mv (.tmp 31),none⟩])
 (.seq (.region [⟨(some 33),.mv (.tmp 0),none⟩,⟨(some 34),.mv (.tmp 2),none⟩,⟨(some 35),.mv (.tmp 12),none⟩,⟨(some 36),.nilCheck (.tmp 35),none⟩,⟨(some 37),.faddr 3 (.tmp 36),none⟩,⟨(some 38),.load false 1 (.tmp 37),none⟩,⟨(some 39),.mv (.tmp 3),none⟩,⟨(some 40),.call 40 [(.tmp 33),(.tmp 34),(.tmp 38),(.tmp 39)],none⟩,⟨(some 32),.mv (.tmp 40),none⟩,⟨(some 41),.extract (.tmp 32) 0,none⟩,⟨(some 42),.extract (.tmp 32) 1,none⟩,⟨(some 13),.mv (.tmp 41),none⟩,⟨(some 11),.mv (.tmp 42),none⟩])
 (.seq (.seq (.region [⟨(some 43),.mv (.tmp 11),none⟩,⟨(some 44),.bin .neq (.tmp 43) (.const (.int .i64 0)),none⟩])
 (.cond (.tmp 44) (.seq (.region [⟨(some 45),.mv (.tmp 11),none⟩,⟨(some 8),.mv (.const (.int .u64 0)),none⟩,⟨(some 9),.mv (.tmp 45),none⟩])
 .ret) .skip))
 (.seq (.draw [⟨⟨(some 47),.mv (.tmp 0),none⟩,0,0⟩,⟨⟨(some 48),.nilCheck (.tmp 47),none⟩,0,0⟩,⟨⟨(some 49),.faddr 0 (.tmp 48),none⟩,0,0⟩,⟨⟨(some 50),.load false 1 (.tmp 49),none⟩,0,0⟩,⟨⟨(some 51),.mv (.tmp 1),none⟩,0,0⟩,⟨⟨(some 52),.mv (.tmp 2),none⟩,0,0⟩,⟨⟨(some 53),.mv (.tmp 12),none⟩,0,0⟩,⟨⟨(some 54),.nilCheck (.tmp 53),none⟩,0,0⟩,⟨⟨(some 55),.faddr 2 (.tmp 54),none⟩,0,0⟩,⟨⟨(some 56),.load false 1 (.tmp 55),none⟩,0,0⟩,⟨⟨(some 57),.maxmin false [(.tmp 52),(.tmp 56)],none⟩,0,0⟩,⟨⟨(some 58),.call 44 [(.tmp 50),(.tmp 51),(.tmp 57)],none⟩,0,1⟩,⟨⟨(some 46),.mv (.tmp 58),none⟩,1,1⟩,⟨⟨(some 59),.extract (.tmp 46) 0,none⟩,1,1⟩,⟨⟨(some 60),.extract (.tmp 46) 1,none⟩,1,1⟩,⟨⟨(some 14),.mv (.tmp 59),none⟩,1,1⟩,⟨⟨(some 15),.mv (.tmp 60),none⟩,1,1⟩])
 (.seq (.region [⟨(some 61),.mv (.tmp 0),none⟩,⟨(some 62),.nilCheck (.tmp 61),none⟩,⟨(some 63),.faddr 0 (.tmp 62),none⟩,⟨(some 64),.load false 1 (.tmp 63),none⟩,⟨(some 65),.mv (.tmp 13),none⟩,⟨(some 66),.mv (.tmp 14),none⟩,⟨(some 67),.call 151 [(.tmp 64),(.tmp 65),(.tmp 66)],none⟩])
 (.seq (.region [⟨(some 68),.mv (.tmp 0),none⟩,⟨(some 69),.mv (.tmp 1),none⟩,⟨(some 70),.call 155 [(.tmp 68),(.tmp 69)],none⟩])
 (.seq (.region [⟨(some 71),.mv (.tmp 13),none⟩,⟨(some 8),.mv (.tmp 71),none⟩,⟨(some 9),.mv (.const (.int .i64 0)),none⟩])
 .ret))))))))))⟩
theorem k157 : compFn Tryz.prog Tryz.f157 = some c157 := by kernel_rfl
-- (*croft/malloc.Heap).Malloc
def c193 : AFunc := ⟨[.tmp 6,.tmp 7],(.seq (.region [⟨(some 6),.mv (.const (.int .u64 0)),none⟩,⟨(some 7),.mv (.const (.int .i64 0)),none⟩])
 (.seq (.region [⟨(some 8),.mv (.tmp 0),none⟩,⟨(some 9),.mv (.tmp 1),none⟩,⟨(some 10),.mv (.tmp 2),none⟩,⟨(some 11),.call 107 [(.tmp 8),(.const (.int .u64 1)),(.tmp 9),(.tmp 10)],none⟩,⟨(some 12),.extract (.tmp 11) 0,none⟩,⟨(some 13),.extract (.tmp 11) 1,none⟩,⟨(some 6),.mv (.tmp 12),none⟩,⟨(some 7),.mv (.tmp 13),none⟩])
 .ret))⟩
theorem k193 : compFn Tryz.prog Tryz.f193 = some c193 := by kernel_rfl
-- croft/mem.New
def c199 : AFunc := ⟨[.tmp 2,.tmp 3],(.seq (.region [⟨(some 1),.box 3 (.tmp 0),none⟩,⟨(some 2),.mv (.const (.ptr none)),none⟩,⟨(some 3),.mv (.const (.int .i64 0)),none⟩])
 (.seq (.seq (.region [⟨(some 4),.load true 3 (.tmp 1),none⟩,⟨(some 5),.call 260 [(.tmp 4)],none⟩,⟨(some 6),.not (.tmp 5),none⟩])
 (.cond (.tmp 6) (.seq (.region [⟨(some 2),.mv (.const (.ptr none)),none⟩,⟨(some 3),.mv (.const (.int .i64 1)),none⟩])
 .ret) .skip))
 (.seq (.draw [⟨⟨(some 7),.load true 3 (.tmp 1),none⟩,0,0⟩,⟨⟨(some 8),.faddr 2 (.tmp 1),none⟩,0,0⟩,⟨⟨(some 9),.load false 1 (.tmp 8),none⟩,0,0⟩,⟨⟨(some 10),.bin .shl (.const (.int .u64 4096)) (.tmp 9),none⟩,0,0⟩,⟨⟨(some 11),.build [(.int .u64 0),(.int .i64 0),(.int .i64 0),(.int .u64 0),(.slice none 0 0)] [(0,3,(.tmp 7)),(3,1,(.tmp 10))],none⟩,0,0⟩,⟨⟨(some 12),.box 5 (.tmp 11),none⟩,0,1⟩,⟨⟨(some 2),.mv (.tmp 12),none⟩,1,1⟩,⟨⟨(some 3),.mv (.const (.int .i64 0)),none⟩,1,1⟩])
 .ret)))⟩
theorem k199 : compFn Tryz.prog Tryz.f199 = some c199 := by kernel_rfl
-- croft/pagemap.New
def c200 : AFunc := ⟨[.tmp 2],(.seq (.region [⟨(some 2),.mv (.const (.ptr none)),none⟩])
 (.seq (.region [⟨(some 4),.mv (.tmp 0),none⟩,⟨(some 5),.maxmin false [(.tmp 4),(.const (.int .i64 8))],none⟩,⟨(some 6),.maxmin true [(.const (.int .i64 0)),(.tmp 5)],none⟩,⟨(some 7),.build [(.int .i64 0),(.slice none 0 0),(.slice none 0 0)] [(0,1,(.tmp 6))],none⟩,⟨(some 8),.box 3 (.tmp 7),none⟩,⟨(some 3),.mv (.tmp 8),none⟩])
 (.seq (.seq (.region [⟨(some 9),.mv (.tmp 3),none⟩,⟨(some 10),.nilCheck (.tmp 9),none⟩,⟨(some 11),.faddr 0 (.tmp 10),none⟩,⟨(some 12),.load false 1 (.tmp 11),none⟩,⟨(some 13),.mv (.const (.int .i64 0)),none⟩])
 (.block 0 (.loop (.seq (.region [⟨(some 14),.bin .lss (.tmp 13) (.tmp 12),none⟩])
 (.seq (.cond (.tmp 14) .skip (.exit 0))
 (.seq (.block 1 (.draw [⟨⟨(some 15),.mv (.tmp 3),none⟩,0,3⟩,⟨⟨(some 16),.mv (.tmp 3),none⟩,0,2⟩,⟨⟨(some 17),.nilCheck (.tmp 16),none⟩,0,2⟩,⟨⟨(some 18),.faddr 2 (.tmp 17),none⟩,0,2⟩,⟨⟨(some 19),.load false 1 (.tmp 18),none⟩,0,2⟩,⟨⟨(some 20),.call 261 [(.const (.int .i64 0))],none⟩,0,1⟩,⟨⟨(some 21),.mkSlice 1 1 [(.ptr none)] [(0,1,(.tmp 20))],none⟩,1,2⟩,⟨⟨(some 22),.appendC 1 8 (.tmp 19) (.tmp 21),none⟩,2,3⟩,⟨⟨(some 23),.nilCheck (.tmp 15),none⟩,3,3⟩,⟨⟨(some 24),.faddr 2 (.tmp 23),none⟩,3,3⟩,⟨⟨none,.store 1 (.tmp 24) (.tmp 22),none⟩,3,4⟩]))
 (.region [⟨(some 25),.bin .add (.tmp 13) (.const (.int .i64 1)),none⟩,⟨(some 13),.mv (.tmp 25),none⟩])))))))
 (.seq (.region [⟨(some 26),.mv (.tmp 3),none⟩,⟨(some 2),.mv (.tmp 26),none⟩])
 .ret))))⟩
theorem k200 : compFn Tryz.prog Tryz.f200 = some c200 := by kernel_rfl
-- croft/buddy.New
def c201 : AFunc := ⟨[.tmp 6],(.seq (.region [⟨(some 3),.box 3 (.tmp 0),none⟩,⟨(some 6),.mv (.const (.ptr none)),none⟩])
 (.seq (.draw [⟨⟨(some 10),.load true 3 (.tmp 3),none⟩,0,1⟩,⟨⟨(some 11),.mv (.tmp 1),none⟩,0,1⟩,⟨⟨(some 12),.mv (.tmp 2),none⟩,0,1⟩,⟨⟨(some 13),.faddr 2 (.tmp 3),none⟩,0,0⟩,⟨⟨(some 14),.load false 1 (.tmp 13),none⟩,0,0⟩,⟨⟨(some 15),.bin .add (.tmp 14) (.const (.int .i64 1)),none⟩,0,0⟩,⟨⟨(some 16),.maxmin true [(.const (.int .i64 0)),(.tmp 15)],none⟩,0,0⟩,⟨⟨(some 17),.makeSlice 1 8 [(.int .u64 0)] (.tmp 16) (.tmp 16),none⟩,0,1⟩,⟨⟨(some 18),.call 262 [(.tmp 10),(.tmp 11),(.tmp 12),(.tmp 17)],none⟩,1,2⟩,⟨⟨(some 9),.mv (.tmp 18),none⟩,2,2⟩,⟨⟨(some 19),.extract (.tmp 9) 0,none⟩,2,2⟩,⟨⟨(some 20),.extract (.tmp 9) 1,none⟩,2,2⟩,⟨⟨(some 7),.mv (.tmp 19),none⟩,2,2⟩,⟨⟨(some 8),.mv (.tmp 20),none⟩,2,2⟩])
 (.seq (.region [⟨(some 21),.mv (.tmp 7),none⟩,⟨(some 6),.mv (.tmp 21),none⟩])
 .ret)))⟩
theorem k201 : compFn Tryz.prog Tryz.f201 = some c201 := by kernel_rfl
-- (*croft/malloc.Heap).malloc
def c202 : AFunc := ⟨[.cell 8 true 2,.tmp 9],(.seq (.region [⟨(some 8),.alloc [(.int .u64 0),(.int .u64 0)],none⟩,⟨(some 9),.mv (.const (.int .i64 0)),none⟩])
 (.seq (.region [⟨(some 14),.mv (.tmp 0),none⟩,⟨(some 15),.mv (.tmp 1),none⟩,⟨(some 16),.mv (.tmp 2),none⟩,⟨(some 17),.call 253 [(.tmp 14),(.tmp 15),(.tmp 16)],none⟩,⟨(some 13),.mv (.tmp 17),none⟩,⟨(some 18),.extract (.tmp 13) 0,none⟩,⟨(some 19),.extract (.tmp 13) 1,none⟩,⟨(some 10),.mv (.tmp 18),none⟩,⟨(some 11),.mv (.tmp 19),none⟩])
 (.seq (.seq (.region [⟨(some 20),.mv (.tmp 11),none⟩,⟨(some 21),.bin .neq (.tmp 20) (.const (.int .i64 0)),none⟩])
 (.cond (.tmp 21) (.seq (.region [⟨(some 22),.build [(.int .u64 0),(.int .u64 0)] [],none⟩,⟨(some 23),.mv (.tmp 11),none⟩,⟨none,.store 2 (.tmp 8) (.tmp 22),none⟩,⟨(some 9),.mv (.tmp 23),none⟩])
 .ret) .skip))
 (.seq (.region [⟨(some 25),.mv (.tmp 0),none⟩,⟨(some 26),.mv (.tmp 10),none⟩,⟨(some 27),.mv (.tmp 3),none⟩,⟨(some 28),.call 257 [(.tmp 25),(.tmp 26),(.tmp 27)],none⟩,⟨(some 24),.mv (.tmp 28),none⟩,⟨(some 29),.extract (.tmp 24) 0,none⟩,⟨(some 30),.extract (.tmp 24) 1,none⟩,⟨(some 12),.mv (.tmp 29),none⟩,⟨(some 11),.mv (.tmp 30),none⟩])
 (.seq (.seq (.region [⟨(some 31),.mv (.tmp 11),none⟩,⟨(some 32),.bin .neq (.tmp 31) (.const (.int .i64 0)),none⟩])
 (.cond (.tmp 32) (.seq (.region [⟨(some 33),.build [(.int .u64 0),(.int .u64 0)] [],none⟩,⟨(some 34),.mv (.tmp 11),none⟩,⟨none,.store 2 (.tmp 8) (.tmp 33),none⟩,⟨(some 9),.mv (.tmp 34),none⟩])
 .ret) .skip))
 (.seq (.region [⟨(some 35),.mv (.tmp 12),none⟩,⟨(some 36),.mv (.tmp 10),none⟩,⟨(some 37),.build [(.int .u64 0),(.int .u64 0)] [(0,1,(.tmp 35)),(1,1,(.tmp 36))],none⟩,⟨none,.store 2 (.tmp 8) (.tmp 37),none⟩,⟨(some 9),.mv (.const (.int .i64 0)),none⟩])
 .ret))))))⟩
theorem k202 : compFn Tryz.prog Tryz.f202 = some c202 := by kernel_rfl
-- croft/bits.IsPower[uint64]
def c209 : AFunc := ⟨[.tmp 2],(.seq (.region [⟨(some 2),.mv (.const (.bool false)),none⟩])
 (.seq (.region [⟨(some 3),.mv (.tmp 0),none⟩,⟨(some 4),.bin .neq (.tmp 3) (.const (.int .u64 0)),none⟩,⟨(some 5),.mv (.tmp 4),none⟩,⟨(some 6),.mv (.tmp 0),some (5,true)⟩,⟨(some 7),.mv (.tmp 0),some (5,true)⟩,⟨(some 8),.bin .sub (.tmp 7) (.const (.int .u64 1)),some (5,true)⟩,⟨(some 9),.bin .and (.tmp 6) (.tmp 8),some (5,true)⟩,⟨(some 10),.bin .eql (.tmp 9) (.const (.int .u64 0)),some (5,true)⟩,⟨(some 11),.pick (.tmp 5) (.tmp 10) (.const (.bool false)),none⟩,⟨(some 2),.mv (.tmp 11),none⟩])
 .ret))⟩
theorem k209 : compFn Tryz.prog Tryz.f209 = some c209 := by kernel_rfl
-- (*croft/malloc.Heap).give
def c214 : AFunc := ⟨[],(.seq (.region [⟨(some 3),.box 2 (.tmp 1),none⟩])
 (.seq (.seq (.region [⟨(some 4),.faddr 1 (.tmp 3),none⟩,⟨(some 5),.load false 1 (.tmp 4),none⟩,⟨(some 6),.bin .lss (.tmp 5) (.const (.int .u64 4096)),none⟩])
 (.cond (.tmp 6) (.seq (.draw [⟨⟨(some 7),.mv (.tmp 0),none⟩,0,0⟩,⟨⟨(some 8),.nilCheck (.tmp 7),none⟩,0,0⟩,⟨⟨(some 9),.faddr 6 (.tmp 8),none⟩,0,0⟩,⟨⟨(some 10),.load false 1 (.tmp 9),none⟩,0,0⟩,⟨⟨(some 11),.faddr 0 (.tmp 3),none⟩,0,0⟩,⟨⟨(some 12),.load false 1 (.tmp 11),none⟩,0,0⟩,⟨⟨(some 13),.call 275 [(.tmp 10),(.tmp 12)],none⟩,0,1⟩])
 .ret) .skip))
 (.draw [⟨⟨(some 14),.mv (.tmp 0),none⟩,0,1⟩,⟨⟨(some 15),.nilCheck (.tmp 14),none⟩,0,1⟩,⟨⟨(some 16),.faddr 5 (.tmp 15),none⟩,0,1⟩,⟨⟨(some 17),.load false 1 (.tmp 16),none⟩,0,1⟩,⟨⟨(some 18),.faddr 0 (.tmp 3),none⟩,0,1⟩,⟨⟨(some 19),.load false 1 (.tmp 18),none⟩,0,1⟩,⟨⟨(some 20),.faddr 1 (.tmp 3),none⟩,0,0⟩,⟨⟨(some 21),.load false 1 (.tmp 20),none⟩,0,0⟩,⟨⟨(some 22),.call 256 [(.tmp 21)],none⟩,0,1⟩,⟨⟨(some 23),.call 276 [(.tmp 17),(.tmp 19),(.tmp 22)],none⟩,1,2⟩])))⟩
theorem k214 : compFn Tryz.prog Tryz.f214 = some c214 := by kernel_rfl
-- (*croft/guard.Guard).Drain
def c215 : AFunc := ⟨[.tmp 2],(.seq (.region [⟨(some 2),.mv (.const (.int .i64 0)),none⟩])
 (.seq (.region [⟨(some 4),.mv (.tmp 0),none⟩,⟨(some 5),.nilCheck (.tmp 4),none⟩,⟨(some 6),.faddr 5 (.tmp 5),none⟩,⟨(some 7),.load false 1 (.tmp 6),none⟩,⟨(some 8),.lenS (.tmp 7),none⟩,⟨(some 3),.mv (.tmp 8),none⟩])
 (.seq (.seq (.region [⟨(some 9),.mv (.tmp 3),none⟩,⟨(some 10),.mv (.const (.int .i64 0)),none⟩])
 (.block 0 (.loop (.seq (.region [⟨(some 11),.bin .lss (.tmp 10) (.tmp 9),none⟩])
 (.seq (.cond (.tmp 11) .skip (.exit 0))
 (.seq (.block 1 (.region [⟨(some 12),.mv (.tmp 0),none⟩,⟨(some 13),.call 233 [(.tmp 12)],none⟩]))
 (.region [⟨(some 14),.bin .add (.tmp 10) (.const (.int .i64 1)),none⟩,⟨(some 10),.mv (.tmp 14),none⟩])))))))
 (.seq (.region [⟨(some 15),.mv (.tmp 3),none⟩,⟨(some 2),.mv (.tmp 15),none⟩])
 .ret))))⟩
theorem k215 : compFn Tryz.prog Tryz.f215 = some c215 := by kernel_rfl
-- slices.Repeat[[]byte,byte]
def c216 : AFunc := ⟨[.tmp 4],(.seq (.region [⟨(some 4),.mv (.const (.slice none 0 0)),none⟩])
 (.seq (.seq (.region [⟨(some 9),.mv (.tmp 1),none⟩,⟨(some 10),.bin .lss (.tmp 9) (.const (.int .i64 0)),none⟩])
 (.cond (.tmp 10) (.bad "region") .skip))
 (.seq (.region [⟨(some 13),.mv (.tmp 0),none⟩,⟨(some 14),.lenS (.tmp 13),none⟩,⟨(some 15),.conv .u64 (.tmp 14),none⟩,⟨(some 16),.mv (.tmp 1),none⟩,⟨(some 17),.conv .u64 (.tmp 16),none⟩,⟨(some 18),.call 277 [(.tmp 15),(.tmp 17)],none⟩,⟨(some 12),.mv (.tmp 18),none⟩,⟨(some 19),.extract (.tmp 12) 0,none⟩,⟨(some 20),.extract (.tmp 12) 1,none⟩,⟨(some 5),.mv (.tmp 19),none⟩,⟨(some 6),.mv (.tmp 20),none⟩])
 (.seq (.seq (.region [⟨(some 21),.mv (.tmp 5),none⟩,⟨(some 22),.bin .gtr (.tmp 21) (.const (.int .u64 0)),none⟩,⟨(some 23),.mv (.tmp 22),none⟩,⟨(some 24),.mv (.tmp 6),some (23,false)⟩,⟨(some 25),.bin .gtr (.tmp 24) (.const (.int .u64 9223372036854775807)),some (23,false)⟩,⟨(some 26),.pick (.tmp 23) (.const (.bool true)) (.tmp 25),none⟩])
 (.cond (.tmp 26) (.bad "region") .skip))
 (.seq (.region [⟨(some 28),.mv (.tmp 6),none⟩,⟨(some 29),.conv .i64 (.tmp 28),none⟩,⟨(some 30),.makeSlice 1 1 [(.int .u8 0)] (.tmp 29) (.tmp 29),none⟩,⟨(some 7),.mv (.tmp 30),none⟩])
 (.seq (.region [⟨(some 31),.mv (.tmp 7),none⟩,⟨(some 32),.mv (.tmp 0),none⟩,⟨(some 33),.copy 1 (.tmp 31) (.tmp 32),none⟩,⟨(some 8),.mv (.tmp 33),none⟩])
 (.seq (.block 0 (.loop (.seq (.seq (.region [⟨(some 34),.mv (.tmp 8),none⟩,⟨(some 35),.mv (.tmp 7),none⟩,⟨(some 36),.lenS (.tmp 35),none⟩,⟨(some 37),.bin .lss (.tmp 34) (.tmp 36),none⟩])
 (.cond (.tmp 37) .skip (.exit 0)))
 (.block 1 (.draw [⟨⟨(some 38),.mv (.tmp 8),none⟩,0,1⟩,⟨⟨(some 39),.mv (.tmp 7),none⟩,0,0⟩,⟨⟨(some 40),.mv (.tmp 8),none⟩,0,0⟩,⟨⟨(some 41),.sliceOfC 1 (.tmp 39) (some (.tmp 40)) none,none⟩,0,0⟩,⟨⟨(some 42),.mv (.tmp 7),none⟩,0,0⟩,⟨⟨(some 43),.mv (.tmp 8),none⟩,0,0⟩,⟨⟨(some 44),.sliceOfC 1 (.tmp 42) none (some (.tmp 43)),none⟩,0,0⟩,⟨⟨(some 45),.copy 1 (.tmp 41) (.tmp 44),none⟩,0,1⟩,⟨⟨(some 46),.bin .add (.tmp 38) (.tmp 45),none⟩,1,1⟩,⟨⟨(some 8),.mv (.tmp 46),none⟩,1,1⟩])))))
 (.seq (.region [⟨(some 47),.mv (.tmp 7),none⟩,⟨(some 4),.mv (.tmp 47),none⟩])
 .ret))))))))⟩
theorem k216 : compFn Tryz.prog Tryz.f216 = some c216 := by kernel_rfl
-- (*croft/guard.Guard).find$1
def c217 : AFunc := ⟨[.tmp 4],(.seq (.region [⟨(some 4),.mv (.const (.bool false)),none⟩])
 (.seq (.draw [⟨⟨(some 5),.load false 1 (.tmp 1),none⟩,0,0⟩,⟨⟨(some 6),.mv (.tmp 0),none⟩,0,0⟩,⟨⟨(some 7),.call 145 [(.tmp 5),(.tmp 6)],none⟩,0,1⟩,⟨⟨(some 8),.load false 1 (.tmp 2),none⟩,0,1⟩,⟨⟨(some 9),.bin .eql (.tmp 7) (.tmp 8),none⟩,1,1⟩,⟨⟨(some 4),.mv (.tmp 9),none⟩,1,1⟩])
 .ret))⟩
theorem k217 : compFn Tryz.prog Tryz.f217 = some c217 := by kernel_rfl
-- slices.IndexFunc[[]*croft/guard.block,*croft/guard.block]
def c218 : AFunc := ⟨[.tmp 4],(.seq (.region [⟨(some 4),.mv (.const (.int .i64 0)),none⟩])
 (.seq (.seq (.region [⟨(some 6),.mv (.tmp 0),none⟩,⟨(some 7),.lenS (.tmp 6),none⟩,⟨(some 8),.mv (.const (.int .i64 0)),none⟩])
 (.block 0 (.loop (.seq (.region [⟨(some 9),.bin .lss (.tmp 8) (.tmp 7),none⟩])
 (.seq (.cond (.tmp 9) .skip (.exit 0))
 (.seq (.block 1 (.seq (.region [⟨(some 10),.mv (.tmp 8),none⟩,⟨(some 5),.mv (.tmp 10),none⟩])
 (.seq (.region [⟨(some 11),.mv (.tmp 1),none⟩,⟨(some 12),.mv (.tmp 0),none⟩,⟨(some 13),.mv (.tmp 5),none⟩,⟨(some 14),.iaddrS 1 (.tmp 12) (.tmp 13),none⟩,⟨(some 15),.load false 1 (.tmp 14),none⟩,⟨(some 16),.callv (.tmp 11) [(.tmp 15)],none⟩])
 (.cond (.tmp 16) (.seq (.region [⟨(some 17),.mv (.tmp 5),none⟩,⟨(some 4),.mv (.tmp 17),none⟩])
 .ret) .skip))))
 (.region [⟨(some 18),.bin .add (.tmp 8) (.const (.int .i64 1)),none⟩,⟨(some 8),.mv (.tmp 18),none⟩])))))))
 (.seq (.region [⟨(some 4),.mv (.const (.int .i64 (-1))),none⟩])
 .ret)))⟩
theorem k218 : compFn Tryz.prog Tryz.f218 = some c218 := by kernel_rfl
-- slices.ContainsFunc[[]*croft/guard.block,*croft/guard.block]
def c219 : AFunc := ⟨[.tmp 4],(.seq (.region [⟨(some 4),.mv (.const (.bool false)),none⟩])
 (.seq (.region [⟨(some 5),.mv (.tmp 0),none⟩,⟨(some 6),.mv (.tmp 1),none⟩,⟨(some 7),.call 218 [(.tmp 5),(.tmp 6)],none⟩,⟨(some 8),.bin .geq (.tmp 7) (.const (.int .i64 0)),none⟩,⟨(some 4),.mv (.tmp 8),none⟩])
 .ret))⟩
theorem k219 : compFn Tryz.prog Tryz.f219 = some c219 := by kernel_rfl
-- (*croft/malloc.Heap).block
def c220 : AFunc := ⟨[.cell 4 true 2,.tmp 5],(.seq (.region [⟨(some 4),.alloc [(.int .u64 0),(.int .u64 0)],none⟩,⟨(some 5),.mv (.const (.bool false)),none⟩])
 (.seq (.seq (.region [⟨(some 13),.mv (.tmp 1),none⟩,⟨(some 14),.mv (.tmp 0),none⟩,⟨(some 15),.nilCheck (.tmp 14),none⟩,⟨(some 16),.faddr 2 (.tmp 15),none⟩,⟨(some 17),.faddr 0 (.tmp 16),none⟩,⟨(some 18),.load false 1 (.tmp 17),none⟩,⟨(some 19),.bin .lss (.tmp 13) (.tmp 18),none⟩,⟨(some 20),.mv (.tmp 19),none⟩,⟨(some 21),.mv (.tmp 1),some (20,false)⟩,⟨(some 22),.mv (.tmp 0),some (20,false)⟩,⟨(some 23),.nilCheck (.tmp 22),some (20,false)⟩,⟨(some 24),.faddr 5 (.tmp 23),some (20,false)⟩,⟨(some 25),.load false 1 (.tmp 24),some (20,false)⟩,⟨(some 26),.nilCheck (.tmp 25),some (20,false)⟩,⟨(some 27),.faddr 0 (.tmp 26),some (20,false)⟩,⟨(some 28),.call 113 [(.tmp 27)],some (20,false)⟩,⟨(some 29),.call 114 [(.tmp 28)],some (20,false)⟩,⟨(some 30),.bin .geq (.tmp 21) (.tmp 29),some (20,false)⟩,⟨(some 31),.pick (.tmp 20) (.const (.bool true)) (.tmp 30),none⟩])
 (.cond (.tmp 31) (.seq (.region [⟨(some 32),.build [(.int .u64 0),(.int .u64 0)] [],none⟩,⟨none,.store 2 (.tmp 4) (.tmp 32),none⟩,⟨(some 5),.mv (.const (.bool false)),none⟩])
 .ret) .skip))
 (.seq (.region [⟨(some 33),.mv (.tmp 1),none⟩,⟨(some 34),.mv (.tmp 0),none⟩,⟨(some 35),.nilCheck (.tmp 34),none⟩,⟨(some 36),.faddr 2 (.tmp 35),none⟩,⟨(some 37),.faddr 0 (.tmp 36),none⟩,⟨(some 38),.load false 1 (.tmp 37),none⟩,⟨(some 39),.bin .sub (.tmp 33) (.tmp 38),none⟩,⟨(some 40),.bin .quo (.tmp 39) (.const (.int .u64 4096)),none⟩,⟨(some 41),.conv .i64 (.tmp 40),none⟩,⟨(some 6),.mv (.tmp 41),none⟩])
 (.seq (.region [⟨(some 43),.mv (.tmp 0),none⟩,⟨(some 44),.nilCheck (.tmp 43),none⟩,⟨(some 45),.faddr 5 (.tmp 44),none⟩,⟨(some 46),.load false 1 (.tmp 45),none⟩,⟨(some 47),.nilCheck (.tmp 46),none⟩,⟨(some 48),.faddr 0 (.tmp 47),none⟩,⟨(some 49),.call 116 [(.tmp 48)],none⟩,⟨(some 50),.mv (.tmp 6),none⟩,⟨(some 51),.call 118 [(.tmp 49),(.tmp 50)],none⟩,⟨(some 42),.mv (.tmp 51),none⟩,⟨(some 52),.extract (.tmp 42) 0,none⟩,⟨(some 53),.extract (.tmp 42) 1,none⟩,⟨(some 7),.alloc [(.int .i64 0),(.int .i64 0),(.int .i64 0),(.int .i64 0),(.int .i64 0),(.int .i64 0),(.int .i64 0),(.int .u64 0),(.int .u64 0),(.int .u64 0),(.int .u64 0)],none⟩,⟨none,.store 11 (.tmp 7) (.tmp 52),none⟩,⟨(some 8),.mv (.tmp 53),none⟩])
 (.seq (.seq (.region [⟨(some 54),.faddr 0 (.tmp 7),none⟩,⟨(some 55),.load false 1 (.tmp 54),none⟩])
 (.block 0 (.seq (.region [⟨(some 57),.bin .eql (.tmp 55) (.const (.int .i64 4)),none⟩,⟨(some 56),.mv (.tmp 57),none⟩])
 (.cond (.tmp 56) (.seq (.region [⟨(some 58),.faddr 2 (.tmp 7),none⟩,⟨(some 59),.load false 1 (.tmp 58),none⟩,⟨(some 60),.bin .shl (.const (.int .u64 16)) (.tmp 59),none⟩,⟨(some 9),.mv (.tmp 60),none⟩])
 (.seq (.region [⟨(some 61),.mv (.tmp 1),none⟩,⟨(some 62),.mv (.tmp 9),none⟩,⟨(some 63),.bin .quo (.tmp 61) (.tmp 62),none⟩,⟨(some 64),.mv (.tmp 9),none⟩,⟨(some 65),.bin .mul (.tmp 63) (.tmp 64),none⟩,⟨(some 66),.mv (.tmp 9),none⟩,⟨(some 67),.build [(.int .u64 0),(.int .u64 0)] [(0,1,(.tmp 65)),(1,1,(.tmp 66))],none⟩,⟨(some 10),.alloc [(.int .u64 0),(.int .u64 0)],none⟩,⟨none,.store 2 (.tmp 10) (.tmp 67),none⟩])
 (.seq (.region [⟨(some 68),.faddr 0 (.tmp 10),none⟩,⟨(some 69),.load false 1 (.tmp 68),none⟩,⟨(some 70),.bin .rem (.tmp 69) (.const (.int .u64 4096)),none⟩,⟨(some 71),.mv (.tmp 9),none⟩,⟨(some 72),.bin .quo (.tmp 70) (.tmp 71),none⟩,⟨(some 11),.mv (.tmp 72),none⟩])
 (.seq (.draw [⟨⟨(some 73),.load true 2 (.tmp 10),none⟩,0,0⟩,⟨⟨(some 74),.mv (.tmp 11),none⟩,0,1⟩,⟨⟨(some 75),.bin .quo (.tmp 74) (.const (.int .u64 64)),none⟩,0,1⟩,⟨⟨(some 76),.faddr 7 (.tmp 7),none⟩,0,1⟩,⟨⟨(some 77),.iaddrA 4 1 (.tmp 76) (.tmp 75),none⟩,0,1⟩,⟨⟨(some 78),.load false 1 (.tmp 77),none⟩,0,1⟩,⟨⟨(some 79),.mv (.tmp 11),none⟩,0,1⟩,⟨⟨(some 80),.bin .rem (.tmp 79) (.const (.int .u64 64)),none⟩,0,1⟩,⟨⟨(some 81),.bin .shr (.tmp 78) (.tmp 80),none⟩,0,1⟩,⟨⟨(some 82),.bin .and (.tmp 81) (.const (.int .u64 1)),none⟩,0,1⟩,⟨⟨(some 83),.bin .eql (.tmp 82) (.const (.int .u64 1)),none⟩,0,1⟩,⟨⟨none,.store 2 (.tmp 4) (.tmp 73),none⟩,0,1⟩,⟨⟨(some 5),.mv (.tmp 83),none⟩,1,1⟩])
 .ret)))) (.seq (.seq (.region [⟨(some 85),.bin .eql (.tmp 55) (.const (.int .i64 2)),none⟩,⟨(some 84),.mv (.tmp 85),none⟩])
 (.cond (.tmp 84) .skip (.region [⟨(some 86),.bin .eql (.tmp 55) (.const (.int .i64 3)),none⟩,⟨(some 84),.mv (.tmp 86),none⟩])))
 (.cond (.tmp 84) (.seq (.region [⟨(some 87),.mv (.tmp 0),none⟩,⟨(some 88),.nilCheck (.tmp 87),none⟩,⟨(some 89),.faddr 5 (.tmp 88),none⟩,⟨(some 90),.load false 1 (.tmp 89),none⟩,⟨(some 91),.nilCheck (.tmp 90),none⟩,⟨(some 92),.faddr 0 (.tmp 91),none⟩,⟨(some 93),.call 116 [(.tmp 92)],none⟩,⟨(some 94),.mv (.tmp 6),none⟩,⟨(some 95),.call 278 [(.tmp 93),(.tmp 94)],none⟩,⟨(some 12),.mv (.tmp 95),none⟩])
 (.seq (.draw [⟨⟨(some 96),.mv (.tmp 0),none⟩,0,0⟩,⟨⟨(some 97),.nilCheck (.tmp 96),none⟩,0,0⟩,⟨⟨(some 98),.faddr 2 (.tmp 97),none⟩,0,0⟩,⟨⟨(some 99),.faddr 0 (.tmp 98),none⟩,0,0⟩,⟨⟨(some 100),.load false 1 (.tmp 99),none⟩,0,0⟩,⟨⟨(some 101),.mv (.tmp 12),none⟩,0,0⟩,⟨⟨(some 102),.conv .u64 (.tmp 101),none⟩,0,0⟩,⟨⟨(some 103),.bin .mul (.tmp 102) (.const (.int .u64 4096)),none⟩,0,0⟩,⟨⟨(some 104),.bin .add (.tmp 100) (.tmp 103),none⟩,0,0⟩,⟨⟨(some 105),.faddr 1 (.tmp 7),none⟩,0,0⟩,⟨⟨(some 106),.load false 1 (.tmp 105),none⟩,0,0⟩,⟨⟨(some 107),.bin .shl (.const (.int .u64 4096)) (.tmp 106),none⟩,0,0⟩,⟨⟨(some 108),.build [(.int .u64 0),(.int .u64 0)] [(0,1,(.tmp 104)),(1,1,(.tmp 107))],none⟩,0,0⟩,⟨⟨none,.store 2 (.tmp 4) (.tmp 108),none⟩,0,1⟩,⟨⟨(some 5),.mv (.const (.bool true)),none⟩,1,1⟩])
 .ret)) .skip))))))
 (.seq (.region [⟨(some 109),.build [(.int .u64 0),(.int .u64 0)] [],none⟩,⟨none,.store 2 (.tmp 4) (.tmp 109),none⟩,⟨(some 5),.mv (.const (.bool false)),none⟩])
 .ret))))))⟩
theorem k220 : compFn Tryz.prog Tryz.f220 = some c220 := by kernel_rfl
-- (*croft/mem.Space).Read$1
def c221 : AFunc := ⟨[],(.regionR (some 1) [⟨(some 2),.call 222 [(.tmp 1),(.tmp 0)],none⟩])⟩
theorem k221 : compFn Tryz.prog Tryz.f221 = some c221 := by kernel_rfl
-- croft/mem.caught
def c222 : AFunc := ⟨[],(.seq (.seq (.region [⟨(some 6),.mv (.tmp 0),none⟩,⟨(some 7),.eq1 false .iface (.tmp 6) (.const .nilIface),none⟩])
 (.cond (.tmp 7) .ret .skip))
 (.seq (.bad "region")
 (.seq (.seq (.region [⟨(some 13),.mv (.tmp 5),none⟩,⟨(some 14),.not (.tmp 13),none⟩])
 (.cond (.tmp 14) (.bad "region") .skip))
 (.region [⟨(some 16),.mv (.tmp 1),none⟩,⟨(some 17),.faddr 0 (.tmp 4),none⟩,⟨(some 18),.load false 1 (.tmp 17),none⟩,⟨(some 19),.nilCheck (.tmp 16),none⟩,⟨none,.store 1 (.tmp 19) (.tmp 18),none⟩]))))⟩
theorem k222 : compFn Tryz.prog Tryz.f222 = some c222 := by kernel_rfl
-- (*croft/mem.Space).look
def c223 : AFunc := ⟨[],(.seq (.region [⟨(some 6),.mv (.tmp 2),none⟩,⟨(some 7),.bin .neq (.tmp 6) (.const (.int .u64 0)),none⟩,⟨(some 8),.mv (.tmp 7),none⟩,⟨(some 9),.mv (.tmp 1),some (8,true)⟩,⟨(some 10),.mv (.tmp 0),some (8,true)⟩,⟨(some 11),.nilCheck (.tmp 10),some (8,true)⟩,⟨(some 12),.faddr 0 (.tmp 11),some (8,true)⟩,⟨(some 13),.faddr 0 (.tmp 12),some (8,true)⟩,⟨(some 14),.load false 1 (.tmp 13),some (8,true)⟩,⟨(some 15),.bin .lss (.tmp 9) (.tmp 14),some (8,true)⟩,⟨(some 16),.mv (.tmp 15),some (8,true)⟩,⟨(some 17),.mv (.tmp 1),some (16,false)⟩,⟨(some 18),.mv (.tmp 0),some (16,false)⟩,⟨(some 19),.call 114 [(.tmp 18)],some (16,false)⟩,⟨(some 20),.bin .gtr (.tmp 17) (.tmp 19),some (16,false)⟩,⟨(some 21),.pick (.tmp 16) (.const (.bool true)) (.tmp 20),some (8,true)⟩,⟨(some 22),.mv (.tmp 21),some (8,true)⟩,⟨(some 23),.mv (.tmp 2),some (22,false)⟩,⟨(some 24),.mv (.tmp 0),some (22,false)⟩,⟨(some 25),.call 114 [(.tmp 24)],some (22,false)⟩,⟨(some 26),.mv (.tmp 1),some (22,false)⟩,⟨(some 27),.bin .sub (.tmp 25) (.tmp 26),some (22,false)⟩,⟨(some 28),.bin .gtr (.tmp 23) (.tmp 27),some (22,false)⟩,⟨(some 29),.pick (.tmp 22) (.const (.bool true)) (.tmp 28),some (8,true)⟩,⟨(some 30),.pick (.tmp 8) (.tmp 29) (.const (.bool false)),none⟩])
 (.cond (.tmp 30) (.bad "region") .skip))⟩
theorem k223 : compFn Tryz.prog Tryz.f223 = some c223 := by kernel_rfl
-- (*croft/mem.Space).get
def c224 : AFunc := ⟨[],(.block 0 (.loop (.seq (.seq (.region [⟨(some 8),.mv (.tmp 2),none⟩,⟨(some 9),.lenS (.tmp 8),none⟩,⟨(some 10),.bin .gtr (.tmp 9) (.const (.int .i64 0)),none⟩])
 (.cond (.tmp 10) .skip (.exit 0)))
 (.block 1 (.seq (.region [⟨(some 11),.mv (.tmp 1),none⟩,⟨(some 12),.mv (.tmp 0),none⟩,⟨(some 13),.nilCheck (.tmp 12),none⟩,⟨(some 14),.faddr 0 (.tmp 13),none⟩,⟨(some 15),.faddr 0 (.tmp 14),none⟩,⟨(some 16),.load false 1 (.tmp 15),none⟩,⟨(some 17),.bin .sub (.tmp 11) (.tmp 16),none⟩,⟨(some 6),.mv (.tmp 17),none⟩])
 (.seq (.draw [⟨⟨(some 18),.mv (.tmp 2),none⟩,0,0⟩,⟨⟨(some 19),.mv (.tmp 0),none⟩,0,0⟩,⟨⟨(some 20),.nilCheck (.tmp 19),none⟩,0,0⟩,⟨⟨(some 21),.faddr 4 (.tmp 20),none⟩,0,0⟩,⟨⟨(some 22),.load false 1 (.tmp 21),none⟩,0,0⟩,⟨⟨(some 23),.mv (.tmp 6),none⟩,0,0⟩,⟨⟨(some 24),.mv (.tmp 0),none⟩,0,0⟩,⟨⟨(some 25),.nilCheck (.tmp 24),none⟩,0,0⟩,⟨⟨(some 26),.faddr 3 (.tmp 25),none⟩,0,0⟩,⟨⟨(some 27),.load false 1 (.tmp 26),none⟩,0,0⟩,⟨⟨(some 28),.bin .quo (.tmp 23) (.tmp 27),none⟩,0,0⟩,⟨⟨(some 29),.iaddrS 1 (.tmp 22) (.tmp 28),none⟩,0,0⟩,⟨⟨(some 30),.load false 1 (.tmp 29),none⟩,0,0⟩,⟨⟨(some 31),.mv (.tmp 6),none⟩,0,0⟩,⟨⟨(some 32),.mv (.tmp 0),none⟩,0,0⟩,⟨⟨(some 33),.nilCheck (.tmp 32),none⟩,0,0⟩,⟨⟨(some 34),.faddr 3 (.tmp 33),none⟩,0,0⟩,⟨⟨(some 35),.load false 1 (.tmp 34),none⟩,0,0⟩,⟨⟨(some 36),.bin .rem (.tmp 31) (.tmp 35),none⟩,0,0⟩,⟨⟨(some 37),.sliceOfC 1 (.tmp 30) (some (.tmp 36)) none,none⟩,0,0⟩,⟨⟨(some 38),.copy 1 (.tmp 18) (.tmp 37),none⟩,0,1⟩,⟨⟨(some 7),.mv (.tmp 38),none⟩,1,1⟩])
 (.seq (.region [⟨(some 39),.mv (.tmp 2),none⟩,⟨(some 40),.mv (.tmp 7),none⟩,⟨(some 41),.sliceOfC 1 (.tmp 39) (some (.tmp 40)) none,none⟩,⟨(some 2),.mv (.tmp 41),none⟩])
 (.region [⟨(some 42),.mv (.tmp 1),none⟩,⟨(some 43),.mv (.tmp 7),none⟩,⟨(some 44),.conv .u64 (.tmp 43),none⟩,⟨(some 45),.bin .add (.tmp 42) (.tmp 44),none⟩,⟨(some 1),.mv (.tmp 45),none⟩]))))))))⟩
theorem k224 : compFn Tryz.prog Tryz.f224 = some c224 := by kernel_rfl
-- (*croft/guard.Guard).kind
def c225 : AFunc := ⟨[.tmp 6],(.seq (.region [⟨(some 6),.mv (.const (.int .i64 0)),none⟩])
 (.seq (.seq (.region [⟨(some 8),.mv (.tmp 0),none⟩,⟨(some 9),.mv (.tmp 1),none⟩,⟨(some 10),.call 145 [(.tmp 8),(.tmp 9)],none⟩,⟨(some 7),.mv (.tmp 10),none⟩])
 (.block 0 (.seq (.region [⟨(some 12),.mv (.tmp 2),none⟩,⟨(some 13),.mv (.tmp 7),none⟩,⟨(some 14),.bin .lss (.tmp 12) (.tmp 13),none⟩,⟨(some 11),.mv (.tmp 14),none⟩])
 (.cond (.tmp 11) (.seq (.region [⟨(some 6),.mv (.const (.int .i64 1)),none⟩])
 .ret) (.seq (.region [⟨(some 16),.mv (.tmp 2),none⟩,⟨(some 17),.mv (.tmp 7),none⟩,⟨(some 18),.bin .sub (.tmp 16) (.tmp 17),none⟩,⟨(some 19),.mv (.tmp 1),none⟩,⟨(some 20),.nilCheck (.tmp 19),none⟩,⟨(some 21),.faddr 2 (.tmp 20),none⟩,⟨(some 22),.load false 1 (.tmp 21),none⟩,⟨(some 23),.bin .geq (.tmp 18) (.tmp 22),none⟩,⟨(some 15),.mv (.tmp 23),none⟩])
 (.cond (.tmp 15) (.seq (.region [⟨(some 6),.mv (.const (.int .i64 2)),none⟩])
 .ret) (.seq (.region [⟨(some 25),.mv (.tmp 1),none⟩,⟨(some 26),.nilCheck (.tmp 25),none⟩,⟨(some 27),.faddr 4 (.tmp 26),none⟩,⟨(some 28),.load false 1 (.tmp 27),none⟩,⟨(some 24),.mv (.tmp 28),none⟩])
 (.cond (.tmp 24) (.seq (.region [⟨(some 6),.mv (.const (.int .i64 3)),none⟩])
 .ret) .skip))))))))
 (.seq (.region [⟨(some 6),.mv (.const (.int .i64 4)),none⟩])
 .ret)))⟩
theorem k225 : compFn Tryz.prog Tryz.f225 = some c225 := by kernel_rfl
-- (*croft/mem.Space).Write
def c226 : AFunc := ⟨[.cell 6 false 1],(.seq (.region [⟨(some 6),.alloc [(.int .i64 0)],none⟩])
 (.seq (.region [⟨(some 7),.makeFunc 279 [] [(.tmp 6)],none⟩,⟨none,.deferv (.tmp 7) [],none⟩])
 (.seq (.region [⟨(some 8),.mv (.tmp 0),none⟩,⟨(some 9),.mv (.tmp 1),none⟩,⟨(some 10),.mv (.tmp 2),none⟩,⟨(some 11),.lenS (.tmp 10),none⟩,⟨(some 12),.conv .u64 (.tmp 11),none⟩,⟨(some 13),.call 223 [(.tmp 8),(.tmp 9),(.tmp 12)],none⟩])
 (.seq (.region [⟨(some 14),.mv (.tmp 0),none⟩,⟨(some 15),.mv (.tmp 1),none⟩,⟨(some 16),.mv (.tmp 2),none⟩,⟨(some 17),.call 280 [(.tmp 14),(.tmp 15),(.tmp 16)],none⟩])
 (.seq (.region [⟨none,.store 1 (.tmp 6) (.const (.int .i64 0)),none⟩])
 .ret)))))⟩
theorem k226 : compFn Tryz.prog Tryz.f226 = some c226 := by kernel_rfl
-- slices.Clone[[]*croft/guard.block,*croft/guard.block]
def c227 : AFunc := ⟨[.tmp 2],(.seq (.region [⟨(some 2),.mv (.const (.slice none 0 0)),none⟩])
 (.seq (.seq (.region [⟨(some 3),.mv (.tmp 0),none⟩,⟨(some 4),.eq1 false .slice (.tmp 3) (.const (.slice none 0 0)),none⟩])
 (.cond (.tmp 4) (.seq (.region [⟨(some 2),.mv (.const (.slice none 0 0)),none⟩])
 .ret) .skip))
 (.seq (.region [⟨(some 5),.mkSlice 0 1 [(.ptr none)] [],none⟩,⟨(some 6),.mv (.tmp 0),none⟩,⟨(some 7),.appendC 1 8 (.tmp 5) (.tmp 6),none⟩,⟨(some 2),.mv (.tmp 7),none⟩])
 .ret)))⟩
theorem k227 : compFn Tryz.prog Tryz.f227 = some c227 := by kernel_rfl
-- slices.SortStableFunc[[]*croft/guard.block,*croft/guard.block]
def c228 : AFunc := ⟨[],(.region [⟨(some 4),.mv (.tmp 0),none⟩,⟨(some 5),.mv (.tmp 0),none⟩,⟨(some 6),.lenS (.tmp 5),none⟩,⟨(some 7),.mv (.tmp 1),none⟩,⟨(some 8),.call 281 [(.tmp 4),(.tmp 6),(.tmp 7)],none⟩])⟩
theorem k228 : compFn Tryz.prog Tryz.f228 = some c228 := by kernel_rfl
-- (*croft/guard.Guard).all$1
def c229 : AFunc := ⟨[.tmp 4],(.seq (.region [⟨(some 4),.mv (.const (.int .i64 0)),none⟩])
 (.seq (.draw [⟨⟨(some 5),.mv (.tmp 0),none⟩,0,0⟩,⟨⟨(some 6),.nilCheck (.tmp 5),none⟩,0,0⟩,⟨⟨(some 7),.faddr 0 (.tmp 6),none⟩,0,0⟩,⟨⟨(some 8),.load false 1 (.tmp 7),none⟩,0,0⟩,⟨⟨(some 9),.mv (.tmp 1),none⟩,0,0⟩,⟨⟨(some 10),.nilCheck (.tmp 9),none⟩,0,0⟩,⟨⟨(some 11),.faddr 0 (.tmp 10),none⟩,0,0⟩,⟨⟨(some 12),.load false 1 (.tmp 11),none⟩,0,0⟩,⟨⟨(some 13),.call 230 [(.tmp 8),(.tmp 12)],none⟩,0,1⟩,⟨⟨(some 4),.mv (.tmp 13),none⟩,1,1⟩])
 .ret))⟩
theorem k229 : compFn Tryz.prog Tryz.f229 = some c229 := by kernel_rfl
-- cmp.Compare[uint64]
def c230 : AFunc := ⟨[.tmp 4],(.seq (.region [⟨(some 4),.mv (.const (.int .i64 0)),none⟩])
 (.seq (.region [⟨(some 7),.mv (.tmp 0),none⟩,⟨(some 8),.call 282 [(.tmp 7)],none⟩,⟨(some 5),.mv (.tmp 8),none⟩])
 (.seq (.region [⟨(some 9),.mv (.tmp 1),none⟩,⟨(some 10),.call 282 [(.tmp 9)],none⟩,⟨(some 6),.mv (.tmp 10),none⟩])
 (.seq (.seq (.region [⟨(some 11),.mv (.tmp 5),none⟩])
 (.cond (.tmp 11) (.seq (.seq (.region [⟨(some 12),.mv (.tmp 6),none⟩])
 (.cond (.tmp 12) (.seq (.region [⟨(some 4),.mv (.const (.int .i64 0)),none⟩])
 .ret) .skip))
 (.seq (.region [⟨(some 4),.mv (.const (.int .i64 (-1))),none⟩])
 .ret)) .skip))
 (.seq (.seq (.region [⟨(some 13),.mv (.tmp 6),none⟩])
 (.cond (.tmp 13) (.seq (.region [⟨(some 4),.mv (.const (.int .i64 1)),none⟩])
 .ret) .skip))
 (.seq (.seq (.region [⟨(some 14),.mv (.tmp 0),none⟩,⟨(some 15),.mv (.tmp 1),none⟩,⟨(some 16),.bin .lss (.tmp 14) (.tmp 15),none⟩])
 (.cond (.tmp 16) (.seq (.region [⟨(some 4),.mv (.const (.int .i64 (-1))),none⟩])
 .ret) .skip))
 (.seq (.seq (.region [⟨(some 17),.mv (.tmp 0),none⟩,⟨(some 18),.mv (.tmp 1),none⟩,⟨(some 19),.bin .gtr (.tmp 17) (.tmp 18),none⟩])
 (.cond (.tmp 19) (.seq (.region [⟨(some 4),.mv (.const (.int .i64 1)),none⟩])
 .ret) .skip))
 (.seq (.region [⟨(some 4),.mv (.const (.int .i64 0)),none⟩])
 .ret))))))))⟩
theorem k230 : compFn Tryz.prog Tryz.f230 = some c230 := by kernel_rfl
-- (*croft/guard.Guard).wrong$1
def c231 : AFunc := ⟨[],(.seq (.draw [⟨⟨(some 11),.load false 1 (.tmp 1),none⟩,0,0⟩,⟨⟨(some 12),.nilCheck (.tmp 11),none⟩,0,0⟩,⟨⟨(some 13),.faddr 0 (.tmp 12),none⟩,0,0⟩,⟨⟨(some 14),.load false 1 (.tmp 13),none⟩,0,0⟩,⟨⟨(some 15),.load false 1 (.tmp 2),none⟩,0,0⟩,⟨⟨(some 16),.nilCheck (.tmp 15),none⟩,0,0⟩,⟨⟨(some 17),.faddr 0 (.tmp 16),none⟩,0,0⟩,⟨⟨(some 18),.load false 1 (.tmp 17),none⟩,0,0⟩,⟨⟨(some 19),.load false 1 (.tmp 2),none⟩,0,0⟩,⟨⟨(some 20),.nilCheck (.tmp 19),none⟩,0,0⟩,⟨⟨(some 21),.faddr 1 (.tmp 20),none⟩,0,0⟩,⟨⟨(some 22),.load false 1 (.tmp 21),none⟩,0,0⟩,⟨⟨(some 23),.call 44 [(.tmp 14),(.tmp 18),(.tmp 22)],none⟩,0,1⟩,⟨⟨(some 10),.mv (.tmp 23),none⟩,1,1⟩,⟨⟨(some 24),.extract (.tmp 10) 0,none⟩,1,1⟩,⟨⟨(some 25),.extract (.tmp 10) 1,none⟩,1,1⟩,⟨⟨(some 4),.mv (.tmp 24),none⟩,1,1⟩,⟨⟨(some 5),.mv (.tmp 25),none⟩,1,1⟩])
 (.seq (.region [⟨(some 26),.mv (.tmp 4),none⟩,⟨(some 27),.lenS (.tmp 26),none⟩,⟨(some 28),.mv (.const (.int .i64 0)),none⟩])
 (.block 0 (.loop (.seq (.region [⟨(some 29),.bin .lss (.tmp 28) (.tmp 27),none⟩])
 (.seq (.cond (.tmp 29) .skip (.exit 0))
 (.seq (.block 1 (.seq (.region [⟨(some 30),.mv (.tmp 28),none⟩,⟨(some 31),.iaddrS 1 (.tmp 26) (.tmp 28),none⟩,⟨(some 32),.load false 1 (.tmp 31),none⟩,⟨(some 6),.mv (.tmp 30),none⟩,⟨(some 7),.mv (.tmp 32),none⟩])
 (.seq (.region [⟨(some 33),.load false 1 (.tmp 2),none⟩,⟨(some 34),.nilCheck (.tmp 33),none⟩,⟨(some 35),.faddr 0 (.tmp 34),none⟩,⟨(some 36),.load false 1 (.tmp 35),none⟩,⟨(some 37),.mv (.tmp 6),none⟩,⟨(some 38),.conv .u64 (.tmp 37),none⟩,⟨(some 39),.bin .add (.tmp 36) (.tmp 38),none⟩,⟨(some 8),.mv (.tmp 39),none⟩])
 (.seq (.region [⟨(some 40),.load false 1 (.tmp 1),none⟩,⟨(some 41),.load false 1 (.tmp 2),none⟩,⟨(some 42),.mv (.tmp 8),none⟩,⟨(some 43),.call 225 [(.tmp 40),(.tmp 41),(.tmp 42)],none⟩,⟨(some 9),.mv (.tmp 43),none⟩])
 (.seq (.draw [⟨⟨(some 44),.mv (.tmp 7),none⟩,0,0⟩,⟨⟨(some 45),.load false 1 (.tmp 1),none⟩,0,0⟩,⟨⟨(some 46),.nilCheck (.tmp 45),none⟩,0,0⟩,⟨⟨(some 47),.faddr 3 (.tmp 46),none⟩,0,0⟩,⟨⟨(some 48),.load false 1 (.tmp 47),none⟩,0,0⟩,⟨⟨(some 49),.bin .neq (.tmp 44) (.tmp 48),none⟩,0,0⟩,⟨⟨(some 50),.mv (.tmp 49),none⟩,0,0⟩,⟨⟨(some 51),.mv (.tmp 9),some (50,true)⟩,0,0⟩,⟨⟨(some 52),.bin .neq (.tmp 51) (.const (.int .i64 4)),some (50,true)⟩,0,0⟩,⟨⟨(some 53),.pick (.tmp 50) (.tmp 52) (.const (.bool false)),none⟩,0,0⟩,⟨⟨(some 54),.mv (.tmp 53),none⟩,0,0⟩,⟨⟨(some 55),.mv (.tmp 0),some (54,true)⟩,0,1⟩,⟨⟨(some 56),.mv (.tmp 8),some (54,true)⟩,0,1⟩,⟨⟨(some 57),.load false 1 (.tmp 1),some (54,true)⟩,0,0⟩,⟨⟨(some 58),.load false 1 (.tmp 2),some (54,true)⟩,0,0⟩,⟨⟨(some 59),.call 145 [(.tmp 57),(.tmp 58)],some (54,true)⟩,0,1⟩,⟨⟨(some 60),.load false 1 (.tmp 2),some (54,true)⟩,0,1⟩,⟨⟨(some 61),.nilCheck (.tmp 60),some (54,true)⟩,0,1⟩,⟨⟨(some 62),.faddr 3 (.tmp 61),some (54,true)⟩,0,1⟩,⟨⟨(some 63),.load false 1 (.tmp 62),some (54,true)⟩,0,1⟩,⟨⟨(some 64),.mv (.tmp 9),some (54,true)⟩,0,1⟩,⟨⟨(some 65),.mv (.tmp 7),some (54,true)⟩,0,1⟩,⟨⟨(some 66),.build [(.int .u64 0),(.int .u64 0),(.int .u32 0),(.int .i64 0),(.int .u8 0)] [(0,1,(.tmp 56)),(1,1,(.tmp 59)),(2,1,(.tmp 63)),(3,1,(.tmp 64)),(4,1,(.tmp 65))],some (54,true)⟩,1,1⟩,⟨⟨(some 67),.callv (.tmp 55) [(.tmp 66)],some (54,true)⟩,1,2⟩,⟨⟨(some 68),.not (.tmp 67),some (54,true)⟩,2,2⟩,⟨⟨(some 69),.pick (.tmp 54) (.tmp 68) (.const (.bool false)),none⟩,2,2⟩])
 (.cond (.tmp 69) .ret .skip))))))
 (.region [⟨(some 70),.bin .add (.tmp 28) (.const (.int .i64 1)),none⟩,⟨(some 28),.mv (.tmp 70),none⟩]))))))))⟩
theorem k231 : compFn Tryz.prog Tryz.f231 = some c231 := by kernel_rfl
-- slices.Delete[[]*croft/guard.block,*croft/guard.block]
def c232 : AFunc := ⟨[.tmp 6],(.seq (.region [⟨(some 6),.mv (.const (.slice none 0 0)),none⟩])
 (.seq (.region [⟨(some 8),.mv (.tmp 0),none⟩,⟨(some 9),.mv (.tmp 1),none⟩,⟨(some 10),.mv (.tmp 2),none⟩,⟨(some 11),.mv (.tmp 0),none⟩,⟨(some 12),.lenS (.tmp 11),none⟩,⟨(some 13),.slice3 1 (.tmp 8) (.tmp 9) (.tmp 10) (.tmp 12),none⟩])
 (.seq (.seq (.region [⟨(some 14),.mv (.tmp 1),none⟩,⟨(some 15),.mv (.tmp 2),none⟩,⟨(some 16),.bin .eql (.tmp 14) (.tmp 15),none⟩])
 (.cond (.tmp 16) (.seq (.region [⟨(some 17),.mv (.tmp 0),none⟩,⟨(some 6),.mv (.tmp 17),none⟩])
 .ret) .skip))
 (.seq (.region [⟨(some 18),.mv (.tmp 0),none⟩,⟨(some 19),.lenS (.tmp 18),none⟩,⟨(some 7),.mv (.tmp 19),none⟩])
 (.seq (.draw [⟨⟨(some 20),.mv (.tmp 0),none⟩,0,0⟩,⟨⟨(some 21),.mv (.tmp 1),none⟩,0,0⟩,⟨⟨(some 22),.sliceOfC 1 (.tmp 20) none (some (.tmp 21)),none⟩,0,0⟩,⟨⟨(some 23),.mv (.tmp 0),none⟩,0,0⟩,⟨⟨(some 24),.mv (.tmp 2),none⟩,0,0⟩,⟨⟨(some 25),.sliceOfC 1 (.tmp 23) (some (.tmp 24)) none,none⟩,0,0⟩,⟨⟨(some 26),.appendC 1 8 (.tmp 22) (.tmp 25),none⟩,0,1⟩,⟨⟨(some 0),.mv (.tmp 26),none⟩,1,1⟩])
 (.seq (.region [⟨(some 27),.mv (.tmp 0),none⟩,⟨(some 28),.mv (.tmp 0),none⟩,⟨(some 29),.lenS (.tmp 28),none⟩,⟨(some 30),.mv (.tmp 7),none⟩,⟨(some 31),.sliceOfC 1 (.tmp 27) (some (.tmp 29)) (some (.tmp 30)),none⟩,⟨none,.clearS [(.ptr none)] (.tmp 31),none⟩])
 (.seq (.region [⟨(some 32),.mv (.tmp 0),none⟩,⟨(some 6),.mv (.tmp 32),none⟩])
 .ret)))))))⟩
theorem k232 : compFn Tryz.prog Tryz.f232 = some c232 := by kernel_rfl
-- (*croft/guard.Guard).leave
def c233 : AFunc := ⟨[],(.seq (.region [⟨(some 1),.box 1 (.tmp 0),none⟩])
 (.seq (.region [⟨(some 4),.load false 1 (.tmp 1),none⟩,⟨(some 5),.nilCheck (.tmp 4),none⟩,⟨(some 6),.faddr 5 (.tmp 5),none⟩,⟨(some 7),.load false 1 (.tmp 6),none⟩,⟨(some 8),.iaddrS 1 (.tmp 7) (.const (.int .i64 0)),none⟩,⟨(some 9),.load false 1 (.tmp 8),none⟩,⟨(some 2),.mv (.tmp 9),none⟩])
 (.seq (.draw [⟨⟨(some 10),.load false 1 (.tmp 1),none⟩,0,0⟩,⟨⟨(some 11),.load false 1 (.tmp 1),none⟩,0,0⟩,⟨⟨(some 12),.nilCheck (.tmp 11),none⟩,0,0⟩,⟨⟨(some 13),.faddr 5 (.tmp 12),none⟩,0,0⟩,⟨⟨(some 14),.load false 1 (.tmp 13),none⟩,0,0⟩,⟨⟨(some 15),.sliceOfC 1 (.tmp 14) (some (.const (.int .i64 1))) none,none⟩,0,0⟩,⟨⟨(some 16),.nilCheck (.tmp 10),none⟩,0,0⟩,⟨⟨(some 17),.faddr 5 (.tmp 16),none⟩,0,0⟩,⟨⟨none,.store 1 (.tmp 17) (.tmp 15),none⟩,0,1⟩])
 (.seq (.seq (.region [⟨(some 18),.load false 1 (.tmp 1),none⟩,⟨(some 19),.mv (.tmp 2),none⟩,⟨(some 20),.call 154 [(.tmp 18),(.tmp 19)],none⟩])
 (.block 0 (.rangeFunc (.tmp 20) [21] (.region [⟨(some 3),.alloc [(.int .u64 0),(.int .u64 0),(.int .u32 0),(.int .i64 0),(.int .u8 0)],none⟩,⟨none,.store 5 (.tmp 3) (.tmp 21),none⟩])
 (.block 1 (.draw [⟨⟨(some 22),.load false 1 (.tmp 1),none⟩,0,2⟩,⟨⟨(some 23),.load false 1 (.tmp 1),none⟩,0,1⟩,⟨⟨(some 24),.nilCheck (.tmp 23),none⟩,0,1⟩,⟨⟨(some 25),.faddr 6 (.tmp 24),none⟩,0,1⟩,⟨⟨(some 26),.load false 1 (.tmp 25),none⟩,0,1⟩,⟨⟨(some 27),.load true 5 (.tmp 3),none⟩,0,0⟩,⟨⟨(some 28),.mkSlice 1 5 [(.int .u64 0),(.int .u64 0),(.int .u32 0),(.int .i64 0),(.int .u8 0)] [(0,5,(.tmp 27))],none⟩,0,1⟩,⟨⟨(some 29),.appendC 5 40 (.tmp 26) (.tmp 28),none⟩,1,2⟩,⟨⟨(some 30),.nilCheck (.tmp 22),none⟩,2,2⟩,⟨⟨(some 31),.faddr 6 (.tmp 30),none⟩,2,2⟩,⟨⟨none,.store 1 (.tmp 31) (.tmp 29),none⟩,2,3⟩])))))
 (.draw [⟨⟨(some 32),.load false 1 (.tmp 1),none⟩,0,0⟩,⟨⟨(some 33),.nilCheck (.tmp 32),none⟩,0,0⟩,⟨⟨(some 34),.faddr 0 (.tmp 33),none⟩,0,0⟩,⟨⟨(some 35),.load false 1 (.tmp 34),none⟩,0,0⟩,⟨⟨(some 36),.mv (.tmp 2),none⟩,0,0⟩,⟨⟨(some 37),.nilCheck (.tmp 36),none⟩,0,0⟩,⟨⟨(some 38),.faddr 0 (.tmp 37),none⟩,0,0⟩,⟨⟨(some 39),.load false 1 (.tmp 38),none⟩,0,0⟩,⟨⟨(some 40),.call 132 [(.tmp 35),(.tmp 39)],none⟩,0,1⟩])))))⟩
theorem k233 : compFn Tryz.prog Tryz.f233 = some c233 := by kernel_rfl
-- math/bits.Mul64
def c236 : AFunc := ⟨[.tmp 4,.tmp 5],(.seq (.region [⟨(some 4),.mv (.const (.int .u64 0)),none⟩,⟨(some 5),.mv (.const (.int .u64 0)),none⟩])
 (.seq (.region [⟨(some 14),.mv (.tmp 0),none⟩,⟨(some 15),.bin .and (.tmp 14) (.const (.int .u64 4294967295)),none⟩,⟨(some 6),.mv (.tmp 15),none⟩])
 (.seq (.region [⟨(some 16),.mv (.tmp 0),none⟩,⟨(some 17),.bin .shr (.tmp 16) (.const (.int .u64 32)),none⟩,⟨(some 7),.mv (.tmp 17),none⟩])
 (.seq (.region [⟨(some 18),.mv (.tmp 1),none⟩,⟨(some 19),.bin .and (.tmp 18) (.const (.int .u64 4294967295)),none⟩,⟨(some 8),.mv (.tmp 19),none⟩])
 (.seq (.region [⟨(some 20),.mv (.tmp 1),none⟩,⟨(some 21),.bin .shr (.tmp 20) (.const (.int .u64 32)),none⟩,⟨(some 9),.mv (.tmp 21),none⟩])
 (.seq (.region [⟨(some 22),.mv (.tmp 6),none⟩,⟨(some 23),.mv (.tmp 8),none⟩,⟨(some 24),.bin .mul (.tmp 22) (.tmp 23),none⟩,⟨(some 10),.mv (.tmp 24),none⟩])
 (.seq (.region [⟨(some 25),.mv (.tmp 7),none⟩,⟨(some 26),.mv (.tmp 8),none⟩,⟨(some 27),.bin .mul (.tmp 25) (.tmp 26),none⟩,⟨(some 28),.mv (.tmp 10),none⟩,⟨(some 29),.bin .shr (.tmp 28) (.const (.int .u64 32)),none⟩,⟨(some 30),.bin .add (.tmp 27) (.tmp 29),none⟩,⟨(some 11),.mv (.tmp 30),none⟩])
 (.seq (.region [⟨(some 31),.mv (.tmp 11),none⟩,⟨(some 32),.bin .and (.tmp 31) (.const (.int .u64 4294967295)),none⟩,⟨(some 12),.mv (.tmp 32),none⟩])
 (.seq (.region [⟨(some 33),.mv (.tmp 11),none⟩,⟨(some 34),.bin .shr (.tmp 33) (.const (.int .u64 32)),none⟩,⟨(some 13),.mv (.tmp 34),none⟩])
 (.seq (.region [⟨(some 35),.mv (.tmp 12),none⟩,⟨(some 36),.mv (.tmp 6),none⟩,⟨(some 37),.mv (.tmp 9),none⟩,⟨(some 38),.bin .mul (.tmp 36) (.tmp 37),none⟩,⟨(some 39),.bin .add (.tmp 35) (.tmp 38),none⟩,⟨(some 12),.mv (.tmp 39),none⟩])
 (.seq (.region [⟨(some 40),.mv (.tmp 7),none⟩,⟨(some 41),.mv (.tmp 9),none⟩,⟨(some 42),.bin .mul (.tmp 40) (.tmp 41),none⟩,⟨(some 43),.mv (.tmp 13),none⟩,⟨(some 44),.bin .add (.tmp 42) (.tmp 43),none⟩,⟨(some 45),.mv (.tmp 12),none⟩,⟨(some 46),.bin .shr (.tmp 45) (.const (.int .u64 32)),none⟩,⟨(some 47),.bin .add (.tmp 44) (.tmp 46),none⟩,⟨(some 4),.mv (.tmp 47),none⟩])
 (.seq (.region [⟨(some 48),.mv (.tmp 0),none⟩,⟨(some 49),.mv (.tmp 1),none⟩,⟨(some 50),.bin .mul (.tmp 48) (.tmp 49),none⟩,⟨(some 5),.mv (.tmp 50),none⟩])
 .ret))))))))))))⟩
theorem k236 : compFn Tryz.prog Tryz.f236 = some c236 := by kernel_rfl
-- (*croft/mem.Space).SetWord
def c238 : AFunc := ⟨[.cell 6 false 1],(.seq (.region [⟨(some 6),.alloc [(.int .i64 0)],none⟩])
 (.seq (.region [⟨(some 9),.makeFunc 286 [] [(.tmp 6)],none⟩,⟨none,.deferv (.tmp 9) [],none⟩])
 (.seq (.region [⟨(some 10),.mv (.tmp 0),none⟩,⟨(some 11),.mv (.tmp 1),none⟩,⟨(some 12),.call 223 [(.tmp 10),(.tmp 11),(.const (.int .u64 8))],none⟩])
 (.seq (.region [⟨(some 7),.alloc [(.int .u8 0),(.int .u8 0),(.int .u8 0),(.int .u8 0),(.int .u8 0),(.int .u8 0),(.int .u8 0),(.int .u8 0)],none⟩])
 (.seq (.seq (.region [⟨(some 13),.mv (.const (.int .i64 0)),none⟩])
 (.block 0 (.loop (.seq (.region [⟨(some 14),.bin .lss (.tmp 13) (.const (.int .i64 8)),none⟩])
 (.seq (.cond (.tmp 14) .skip (.exit 0))
 (.seq (.block 1 (.seq (.region [⟨(some 15),.mv (.tmp 13),none⟩,⟨(some 8),.mv (.tmp 15),none⟩])
 (.region [⟨(some 16),.mv (.tmp 8),none⟩,⟨(some 17),.mv (.tmp 2),none⟩,⟨(some 18),.mv (.tmp 8),none⟩,⟨(some 19),.bin .mul (.const (.int .i64 8)) (.tmp 18),none⟩,⟨(some 20),.bin .shr (.tmp 17) (.tmp 19),none⟩,⟨(some 21),.conv .u8 (.tmp 20),none⟩,⟨(some 22),.iaddrA 8 1 (.tmp 7) (.tmp 16),none⟩,⟨none,.store 1 (.tmp 22) (.tmp 21),none⟩])))
 (.region [⟨(some 23),.bin .add (.tmp 13) (.const (.int .i64 1)),none⟩,⟨(some 13),.mv (.tmp 23),none⟩])))))))
 (.seq (.region [⟨(some 24),.mv (.tmp 0),none⟩,⟨(some 25),.mv (.tmp 1),none⟩,⟨(some 26),.sliceArr 8 1 (.tmp 7) none none,none⟩,⟨(some 27),.call 280 [(.tmp 24),(.tmp 25),(.tmp 26)],none⟩])
 (.seq (.region [⟨none,.store 1 (.tmp 6) (.const (.int .i64 0)),none⟩])
 .ret)))))))⟩
theorem k238 : compFn Tryz.prog Tryz.f238 = some c238 := by kernel_rfl
-- (*croft/mem.Space).Word
def c243 : AFunc := ⟨[.tmp 4,.cell 5 false 1],(.seq (.region [⟨(some 4),.mv (.const (.int .u64 0)),none⟩,⟨(some 5),.alloc [(.int .i64 0)],none⟩])
 (.seq (.region [⟨(some 8),.makeFunc 297 [] [(.tmp 5)],none⟩,⟨none,.deferv (.tmp 8) [],none⟩])
 (.seq (.region [⟨(some 9),.mv (.tmp 0),none⟩,⟨(some 10),.mv (.tmp 1),none⟩,⟨(some 11),.call 223 [(.tmp 9),(.tmp 10),(.const (.int .u64 8))],none⟩])
 (.seq (.region [⟨(some 6),.alloc [(.int .u8 0),(.int .u8 0),(.int .u8 0),(.int .u8 0),(.int .u8 0),(.int .u8 0),(.int .u8 0),(.int .u8 0)],none⟩])
 (.seq (.region [⟨(some 12),.mv (.tmp 0),none⟩,⟨(some 13),.mv (.tmp 1),none⟩,⟨(some 14),.sliceArr 8 1 (.tmp 6) none none,none⟩,⟨(some 15),.call 224 [(.tmp 12),(.tmp 13),(.tmp 14)],none⟩])
 (.seq (.seq (.region [⟨(some 16),.mv (.const (.int .i64 0)),none⟩])
 (.block 0 (.loop (.seq (.region [⟨(some 17),.bin .lss (.tmp 16) (.const (.int .i64 8)),none⟩])
 (.seq (.cond (.tmp 17) .skip (.exit 0))
 (.seq (.block 1 (.seq (.region [⟨(some 18),.mv (.tmp 16),none⟩,⟨(some 7),.mv (.tmp 18),none⟩])
 (.region [⟨(some 19),.mv (.tmp 4),none⟩,⟨(some 20),.mv (.tmp 7),none⟩,⟨(some 21),.iaddrA 8 1 (.tmp 6) (.tmp 20),none⟩,⟨(some 22),.load false 1 (.tmp 21),none⟩,⟨(some 23),.conv .u64 (.tmp 22),none⟩,⟨(some 24),.mv (.tmp 7),none⟩,⟨(some 25),.bin .mul (.const (.int .i64 8)) (.tmp 24),none⟩,⟨(some 26),.bin .shl (.tmp 23) (.tmp 25),none⟩,⟨(some 27),.bin .or (.tmp 19) (.tmp 26),none⟩,⟨(some 4),.mv (.tmp 27),none⟩])))
 (.region [⟨(some 28),.bin .add (.tmp 16) (.const (.int .i64 1)),none⟩,⟨(some 16),.mv (.tmp 28),none⟩])))))))
 (.seq (.region [⟨(some 29),.mv (.tmp 4),none⟩,⟨(some 4),.mv (.tmp 29),none⟩,⟨none,.store 1 (.tmp 5) (.const (.int .i64 0)),none⟩])
 .ret)))))))⟩
theorem k243 : compFn Tryz.prog Tryz.f243 = some c243 := by kernel_rfl
-- croft/bits.Ceil[uint64]
def c251 : AFunc := ⟨[.tmp 2,.tmp 3],(.seq (.region [⟨(some 2),.mv (.const (.int .u64 0)),none⟩,⟨(some 3),.mv (.const (.bool false)),none⟩])
 (.seq (.seq (.region [⟨(some 5),.mv (.tmp 0),none⟩,⟨(some 6),.bin .leq (.tmp 5) (.const (.int .u64 1)),none⟩])
 (.cond (.tmp 6) (.seq (.region [⟨(some 2),.mv (.const (.int .u64 1)),none⟩,⟨(some 3),.mv (.const (.bool true)),none⟩])
 .ret) .skip))
 (.seq (.region [⟨(some 7),.conv .u64 (.const (.int .i64 1)),none⟩,⟨(some 8),.mv (.tmp 0),none⟩,⟨(some 9),.bin .sub (.tmp 8) (.const (.int .u64 1)),none⟩,⟨(some 10),.call 303 [(.tmp 9)],none⟩,⟨(some 11),.bin .add (.tmp 10) (.const (.int .i64 1)),none⟩,⟨(some 12),.bin .shl (.tmp 7) (.tmp 11),none⟩,⟨(some 4),.mv (.tmp 12),none⟩])
 (.seq (.region [⟨(some 13),.mv (.tmp 4),none⟩,⟨(some 14),.mv (.tmp 4),none⟩,⟨(some 15),.bin .neq (.tmp 14) (.const (.int .u64 0)),none⟩,⟨(some 2),.mv (.tmp 13),none⟩,⟨(some 3),.mv (.tmp 15),none⟩])
 .ret))))⟩
theorem k251 : compFn Tryz.prog Tryz.f251 = some c251 := by kernel_rfl
-- (*croft/malloc.Heap).round
def c253 : AFunc := ⟨[.tmp 6,.tmp 7],(.seq (.region [⟨(some 6),.mv (.const (.int .u64 0)),none⟩,⟨(some 7),.mv (.const (.int .i64 0)),none⟩])
 (.seq (.seq (.region [⟨(some 10),.mv (.tmp 2),none⟩,⟨(some 11),.call 209 [(.tmp 10)],none⟩,⟨(some 12),.not (.tmp 11),none⟩])
 (.cond (.tmp 12) (.seq (.region [⟨(some 6),.mv (.const (.int .u64 0)),none⟩,⟨(some 7),.mv (.const (.int .i64 1)),none⟩])
 .ret) .skip))
 (.seq (.region [⟨(some 14),.mv (.tmp 1),none⟩,⟨(some 15),.mv (.tmp 2),none⟩,⟨(some 16),.maxmin true [(.tmp 14),(.tmp 15),(.const (.int .u64 16))],none⟩,⟨(some 17),.call 251 [(.tmp 16)],none⟩,⟨(some 13),.mv (.tmp 17),none⟩,⟨(some 18),.extract (.tmp 13) 0,none⟩,⟨(some 19),.extract (.tmp 13) 1,none⟩,⟨(some 8),.mv (.tmp 18),none⟩,⟨(some 9),.mv (.tmp 19),none⟩])
 (.seq (.seq (.region [⟨(some 20),.mv (.tmp 9),none⟩,⟨(some 21),.not (.tmp 20),none⟩,⟨(some 22),.mv (.tmp 21),none⟩,⟨(some 23),.mv (.tmp 8),some (22,false)⟩,⟨(some 24),.mv (.tmp 0),some (22,false)⟩,⟨(some 25),.call 304 [(.tmp 24)],some (22,false)⟩,⟨(some 26),.bin .gtr (.tmp 23) (.tmp 25),some (22,false)⟩,⟨(some 27),.pick (.tmp 22) (.const (.bool true)) (.tmp 26),none⟩])
 (.cond (.tmp 27) (.seq (.region [⟨(some 6),.mv (.const (.int .u64 0)),none⟩,⟨(some 7),.mv (.const (.int .i64 3)),none⟩])
 .ret) .skip))
 (.seq (.region [⟨(some 28),.mv (.tmp 8),none⟩,⟨(some 6),.mv (.tmp 28),none⟩,⟨(some 7),.mv (.const (.int .i64 0)),none⟩])
 .ret)))))⟩
theorem k253 : compFn Tryz.prog Tryz.f253 = some c253 := by kernel_rfl
-- croft/malloc.order
def c256 : AFunc := ⟨[.tmp 2],(.seq (.region [⟨(some 2),.mv (.const (.int .i64 0)),none⟩])
 (.seq (.region [⟨(some 3),.mv (.tmp 0),none⟩,⟨(some 4),.bin .quo (.tmp 3) (.const (.int .u64 4096)),none⟩,⟨(some 5),.call 303 [(.tmp 4)],none⟩,⟨(some 2),.mv (.tmp 5),none⟩])
 .ret))⟩
theorem k256 : compFn Tryz.prog Tryz.f256 = some c256 := by kernel_rfl
-- (*croft/malloc.Heap).take
def c257 : AFunc := ⟨[.tmp 6,.tmp 7],(.seq (.region [⟨(some 6),.mv (.const (.int .u64 0)),none⟩,⟨(some 7),.mv (.const (.int .i64 0)),none⟩])
 (.seq (.seq (.region [⟨(some 14),.mv (.tmp 1),none⟩,⟨(some 15),.bin .lss (.tmp 14) (.const (.int .u64 4096)),none⟩])
 (.cond (.tmp 15) (.seq (.draw [⟨⟨(some 17),.mv (.tmp 0),none⟩,0,1⟩,⟨⟨(some 18),.nilCheck (.tmp 17),none⟩,0,1⟩,⟨⟨(some 19),.faddr 6 (.tmp 18),none⟩,0,1⟩,⟨⟨(some 20),.load false 1 (.tmp 19),none⟩,0,1⟩,⟨⟨(some 21),.mv (.tmp 1),none⟩,0,0⟩,⟨⟨(some 22),.call 308 [(.tmp 21)],none⟩,0,1⟩,⟨⟨(some 23),.mv (.tmp 2),none⟩,0,1⟩,⟨⟨(some 24),.call 307 [(.tmp 20),(.tmp 22),(.tmp 23)],none⟩,1,2⟩,⟨⟨(some 16),.mv (.tmp 24),none⟩,2,2⟩,⟨⟨(some 25),.extract (.tmp 16) 0,none⟩,2,2⟩,⟨⟨(some 26),.extract (.tmp 16) 1,none⟩,2,2⟩,⟨⟨(some 27),.extract (.tmp 16) 2,none⟩,2,2⟩,⟨⟨(some 8),.mv (.tmp 25),none⟩,2,2⟩,⟨⟨(some 9),.mv (.tmp 26),none⟩,2,2⟩,⟨⟨(some 10),.mv (.tmp 27),none⟩,2,2⟩])
 (.seq (.region [⟨(some 28),.mv (.tmp 8),none⟩,⟨(some 29),.mv (.tmp 10),none⟩,⟨(some 6),.mv (.tmp 28),none⟩,⟨(some 7),.mv (.tmp 29),none⟩])
 .ret)) .skip))
 (.seq (.draw [⟨⟨(some 31),.mv (.tmp 0),none⟩,0,1⟩,⟨⟨(some 32),.nilCheck (.tmp 31),none⟩,0,1⟩,⟨⟨(some 33),.faddr 5 (.tmp 32),none⟩,0,1⟩,⟨⟨(some 34),.load false 1 (.tmp 33),none⟩,0,1⟩,⟨⟨(some 35),.mv (.tmp 1),none⟩,0,0⟩,⟨⟨(some 36),.call 256 [(.tmp 35)],none⟩,0,1⟩,⟨⟨(some 37),.mv (.tmp 2),none⟩,0,1⟩,⟨⟨(some 38),.call 309 [(.tmp 34),(.tmp 36),(.tmp 37)],none⟩,1,2⟩,⟨⟨(some 30),.mv (.tmp 38),none⟩,2,2⟩,⟨⟨(some 39),.extract (.tmp 30) 0,none⟩,2,2⟩,⟨⟨(some 40),.extract (.tmp 30) 1,none⟩,2,2⟩,⟨⟨(some 41),.extract (.tmp 30) 2,none⟩,2,2⟩,⟨⟨(some 11),.mv (.tmp 39),none⟩,2,2⟩,⟨⟨(some 12),.mv (.tmp 40),none⟩,2,2⟩,⟨⟨(some 13),.mv (.tmp 41),none⟩,2,2⟩])
 (.seq (.region [⟨(some 42),.mv (.tmp 11),none⟩,⟨(some 43),.mv (.tmp 13),none⟩,⟨(some 6),.mv (.tmp 42),none⟩,⟨(some 7),.mv (.tmp 43),none⟩])
 .ret))))⟩
theorem k257 : compFn Tryz.prog Tryz.f257 = some c257 := by kernel_rfl
-- croft/mem.may
def c260 : AFunc := ⟨[.tmp 2],(.seq (.region [⟨(some 1),.box 3 (.tmp 0),none⟩,⟨(some 2),.mv (.const (.bool false)),none⟩])
 (.seq (.seq (.region [⟨(some 4),.faddr 2 (.tmp 1),none⟩,⟨(some 5),.load false 1 (.tmp 4),none⟩,⟨(some 6),.bin .lss (.tmp 5) (.const (.int .i64 0)),none⟩,⟨(some 7),.mv (.tmp 6),none⟩,⟨(some 8),.faddr 2 (.tmp 1),some (7,false)⟩,⟨(some 9),.load false 1 (.tmp 8),some (7,false)⟩,⟨(some 10),.bin .gtr (.tmp 9) (.const (.int .i64 8)),some (7,false)⟩,⟨(some 11),.pick (.tmp 7) (.const (.bool true)) (.tmp 10),none⟩,⟨(some 12),.mv (.tmp 11),none⟩,⟨(some 13),.faddr 1 (.tmp 1),some (12,false)⟩,⟨(some 14),.load false 1 (.tmp 13),some (12,false)⟩,⟨(some 15),.bin .lss (.tmp 14) (.const (.int .i64 1)),some (12,false)⟩,⟨(some 16),.pick (.tmp 12) (.const (.bool true)) (.tmp 15),none⟩,⟨(some 17),.mv (.tmp 16),none⟩,⟨(some 18),.faddr 1 (.tmp 1),some (17,false)⟩,⟨(some 19),.load false 1 (.tmp 18),some (17,false)⟩,⟨(some 20),.bin .gtr (.tmp 19) (.const (.int .i64 64)),some (17,false)⟩,⟨(some 21),.pick (.tmp 17) (.const (.bool true)) (.tmp 20),none⟩,⟨(some 22),.mv (.tmp 21),none⟩,⟨(some 23),.faddr 1 (.tmp 1),some (22,false)⟩,⟨(some 24),.load false 1 (.tmp 23),some (22,false)⟩,⟨(some 25),.faddr 2 (.tmp 1),some (22,false)⟩,⟨(some 26),.load false 1 (.tmp 25),some (22,false)⟩,⟨(some 27),.bin .shl (.tmp 24) (.tmp 26),some (22,false)⟩,⟨(some 28),.bin .gtr (.tmp 27) (.const (.int .i64 1024)),some (22,false)⟩,⟨(some 29),.pick (.tmp 22) (.const (.bool true)) (.tmp 28),none⟩])
 (.cond (.tmp 29) (.seq (.region [⟨(some 2),.mv (.const (.bool false)),none⟩])
 .ret) .skip))
 (.seq (.region [⟨(some 30),.faddr 2 (.tmp 1),none⟩,⟨(some 31),.load false 1 (.tmp 30),none⟩,⟨(some 32),.bin .shl (.const (.int .u64 4096)) (.tmp 31),none⟩,⟨(some 3),.mv (.tmp 32),none⟩])
 (.seq (.region [⟨(some 33),.faddr 0 (.tmp 1),none⟩,⟨(some 34),.load false 1 (.tmp 33),none⟩,⟨(some 35),.bin .neq (.tmp 34) (.const (.int .u64 0)),none⟩,⟨(some 36),.mv (.tmp 35),none⟩,⟨(some 37),.faddr 0 (.tmp 1),some (36,true)⟩,⟨(some 38),.load false 1 (.tmp 37),some (36,true)⟩,⟨(some 39),.mv (.tmp 3),some (36,true)⟩,⟨(some 40),.bin .rem (.tmp 38) (.tmp 39),some (36,true)⟩,⟨(some 41),.bin .eql (.tmp 40) (.const (.int .u64 0)),some (36,true)⟩,⟨(some 42),.pick (.tmp 36) (.tmp 41) (.const (.bool false)),none⟩,⟨(some 43),.mv (.tmp 42),none⟩,⟨(some 44),.faddr 0 (.tmp 1),some (43,true)⟩,⟨(some 45),.load false 1 (.tmp 44),some (43,true)⟩,⟨(some 46),.bin .leq (.tmp 45) (.const (.int .u64 9223372036854775808)),some (43,true)⟩,⟨(some 47),.pick (.tmp 43) (.tmp 46) (.const (.bool false)),none⟩,⟨(some 48),.mv (.tmp 47),none⟩,⟨(some 49),.mv (.tmp 3),some (48,true)⟩,⟨(some 50),.faddr 1 (.tmp 1),some (48,true)⟩,⟨(some 51),.load false 1 (.tmp 50),some (48,true)⟩,⟨(some 52),.conv .u64 (.tmp 51),some (48,true)⟩,⟨(some 53),.bin .mul (.tmp 49) (.tmp 52),some (48,true)⟩,⟨(some 54),.faddr 0 (.tmp 1),some (48,true)⟩,⟨(some 55),.load false 1 (.tmp 54),some (48,true)⟩,⟨(some 56),.bin .sub (.const (.int .u64 9223372036854775808)) (.tmp 55),some (48,true)⟩,⟨(some 57),.bin .leq (.tmp 53) (.tmp 56),some (48,true)⟩,⟨(some 58),.pick (.tmp 48) (.tmp 57) (.const (.bool false)),none⟩,⟨(some 2),.mv (.tmp 58),none⟩])
 .ret))))⟩
theorem k260 : compFn Tryz.prog Tryz.f260 = some c260 := by kernel_rfl
-- croft/bits.NewSet
def c261 : AFunc := ⟨[.tmp 2],(.seq (.region [⟨(some 2),.mv (.const (.ptr none)),none⟩])
 (.seq (.region [⟨(some 3),.mv (.tmp 0),none⟩,⟨(some 4),.call 311 [(.const (.slice none 0 0)),(.tmp 3)],none⟩,⟨(some 2),.mv (.tmp 4),none⟩])
 .ret))⟩
theorem k261 : compFn Tryz.prog Tryz.f261 = some c261 := by kernel_rfl
-- croft/buddy.Open
def c262 : AFunc := ⟨[.tmp 8,.tmp 9],(.seq (.region [⟨(some 4),.box 3 (.tmp 0),none⟩,⟨(some 8),.mv (.const (.ptr none)),none⟩,⟨(some 9),.mv (.const (.int .i64 0)),none⟩])
 (.seq (.seq (.region [⟨(some 13),.mv (.tmp 3),none⟩,⟨(some 14),.lenS (.tmp 13),none⟩,⟨(some 15),.faddr 2 (.tmp 4),none⟩,⟨(some 16),.load false 1 (.tmp 15),none⟩,⟨(some 17),.bin .add (.tmp 16) (.const (.int .i64 1)),none⟩,⟨(some 18),.bin .neq (.tmp 14) (.tmp 17),none⟩])
 (.cond (.tmp 18) (.seq (.region [⟨(some 8),.mv (.const (.ptr none)),none⟩,⟨(some 9),.mv (.const (.int .i64 7)),none⟩])
 .ret) .skip))
 (.seq (.region [⟨(some 19),.load true 3 (.tmp 4),none⟩,⟨(some 20),.mv (.tmp 1),none⟩,⟨(some 21),.mv (.tmp 2),none⟩,⟨(some 22),.build [(.int .u64 0),(.int .i64 0),(.int .i64 0),(.ptr none),(.ptr none),(.slice none 0 0)] [(0,3,(.tmp 19)),(3,1,(.tmp 20)),(4,1,(.tmp 21))],none⟩,⟨(some 23),.box 6 (.tmp 22),none⟩,⟨(some 10),.mv (.tmp 23),none⟩])
 (.seq (.seq (.region [⟨(some 24),.mv (.tmp 3),none⟩,⟨(some 25),.lenS (.tmp 24),none⟩,⟨(some 26),.mv (.const (.int .i64 0)),none⟩])
 (.block 0 (.loop (.seq (.region [⟨(some 27),.bin .lss (.tmp 26) (.tmp 25),none⟩])
 (.seq (.cond (.tmp 27) .skip (.exit 0))
 (.seq (.block 1 (.seq (.region [⟨(some 28),.iaddrS 1 (.tmp 24) (.tmp 26),none⟩,⟨(some 29),.load false 1 (.tmp 28),none⟩,⟨(some 12),.mv (.tmp 29),none⟩])
 (.draw [⟨⟨(some 30),.mv (.tmp 10),none⟩,0,3⟩,⟨⟨(some 31),.mv (.tmp 10),none⟩,0,2⟩,⟨⟨(some 32),.nilCheck (.tmp 31),none⟩,0,2⟩,⟨⟨(some 33),.faddr 5 (.tmp 32),none⟩,0,2⟩,⟨⟨(some 34),.load false 1 (.tmp 33),none⟩,0,2⟩,⟨⟨(some 35),.mv (.tmp 1),none⟩,0,0⟩,⟨⟨(some 36),.mv (.tmp 12),none⟩,0,0⟩,⟨⟨(some 37),.call 312 [(.tmp 35),(.tmp 36)],none⟩,0,1⟩,⟨⟨(some 38),.mkSlice 1 1 [(.ptr none)] [(0,1,(.tmp 37))],none⟩,1,2⟩,⟨⟨(some 39),.appendC 1 8 (.tmp 34) (.tmp 38),none⟩,2,3⟩,⟨⟨(some 40),.nilCheck (.tmp 30),none⟩,3,3⟩,⟨⟨(some 41),.faddr 5 (.tmp 40),none⟩,3,3⟩,⟨⟨none,.store 1 (.tmp 41) (.tmp 39),none⟩,3,4⟩])))
 (.region [⟨(some 42),.bin .add (.tmp 26) (.const (.int .i64 1)),none⟩,⟨(some 26),.mv (.tmp 42),none⟩])))))))
 (.seq (.region [⟨(some 43),.mv (.tmp 10),none⟩,⟨(some 8),.mv (.tmp 43),none⟩,⟨(some 9),.mv (.const (.int .i64 0)),none⟩])
 .ret)))))⟩
theorem k262 : compFn Tryz.prog Tryz.f262 = some c262 := by kernel_rfl
-- (*croft/slab.Slab).Give
def c275 : AFunc := ⟨[.tmp 4],(.seq (.region [⟨(some 4),.mv (.const (.int .i64 0)),none⟩])
 (.seq (.region [⟨(some 13),.mv (.tmp 0),none⟩,⟨(some 14),.mv (.tmp 1),none⟩,⟨(some 15),.call 322 [(.tmp 13),(.tmp 14)],none⟩,⟨(some 12),.mv (.tmp 15),none⟩,⟨(some 16),.extract (.tmp 12) 0,none⟩,⟨(some 17),.extract (.tmp 12) 1,none⟩,⟨(some 18),.extract (.tmp 12) 2,none⟩,⟨(some 19),.extract (.tmp 12) 3,none⟩,⟨(some 7),.alloc [(.int .i64 0),(.int .i64 0),(.int .i64 0),(.int .i64 0),(.int .i64 0),(.int .i64 0),(.int .i64 0),(.int .u64 0),(.int .u64 0),(.int .u64 0),(.int .u64 0)],none⟩,⟨(some 5),.mv (.tmp 16),none⟩,⟨(some 6),.mv (.tmp 17),none⟩,⟨none,.store 11 (.tmp 7) (.tmp 18),none⟩,⟨(some 8),.mv (.tmp 19),none⟩])
 (.seq (.seq (.region [⟨(some 20),.mv (.tmp 8),none⟩,⟨(some 21),.not (.tmp 20),none⟩])
 (.cond (.tmp 21) (.seq (.region [⟨(some 4),.mv (.const (.int .i64 1)),none⟩])
 .ret) .skip))
 (.seq (.region [⟨(some 22),.mv (.tmp 0),none⟩,⟨(some 23),.nilCheck (.tmp 22),none⟩,⟨(some 24),.faddr 0 (.tmp 23),none⟩,⟨(some 25),.load false 1 (.tmp 24),none⟩,⟨(some 26),.nilCheck (.tmp 25),none⟩,⟨(some 27),.faddr 0 (.tmp 26),none⟩,⟨(some 28),.call 116 [(.tmp 27)],none⟩,⟨(some 9),.mv (.tmp 28),none⟩])
 (.seq (.region [⟨(some 29),.mv (.tmp 9),none⟩,⟨(some 30),.mv (.tmp 5),none⟩,⟨(some 31),.mv (.tmp 6),none⟩,⟨(some 32),.call 323 [(.tmp 29),(.tmp 30),(.tmp 31),(.const (.bool false))],none⟩])
 (.seq (.region [⟨(some 33),.mv (.tmp 0),none⟩,⟨(some 34),.call 324 [(.tmp 33)],none⟩,⟨(some 35),.mv (.tmp 5),none⟩,⟨(some 36),.conv .u64 (.tmp 35),none⟩,⟨(some 37),.bin .mul (.const (.int .u64 4096)) (.tmp 36),none⟩,⟨(some 38),.bin .add (.tmp 34) (.tmp 37),none⟩,⟨(some 10),.mv (.tmp 38),none⟩])
 (.seq (.block 0 (.seq (.block 3 (.seq (.block 2 (.seq (.block 1 (.seq (.seq (.seq (.region [⟨(some 40),.faddr 3 (.tmp 7),none⟩,⟨(some 41),.load false 1 (.tmp 40),none⟩,⟨(some 42),.bin .eql (.tmp 41) (.const (.int .i64 1)),none⟩,⟨(some 39),.mv (.tmp 42),none⟩])
 (.cond (.tmp 39) (.exit 1) .skip))
 (.seq (.region [⟨(some 44),.faddr 6 (.tmp 7),none⟩,⟨(some 45),.load false 1 (.tmp 44),none⟩,⟨(some 46),.bin .lss (.tmp 45) (.const (.int .i64 0)),none⟩,⟨(some 43),.mv (.tmp 46),none⟩])
 (.cond (.tmp 43) (.exit 2) .skip)))
 (.exit 3)))
 (.seq (.seq (.region [⟨(some 47),.mv (.tmp 0),none⟩,⟨(some 48),.mv (.tmp 5),none⟩,⟨(some 49),.faddr 2 (.tmp 7),none⟩,⟨(some 50),.load false 1 (.tmp 49),none⟩,⟨(some 51),.call 325 [(.tmp 47),(.tmp 48),(.tmp 50)],none⟩])
 (.seq (.region [⟨(some 52),.mv (.tmp 9),none⟩,⟨(some 53),.mv (.tmp 5),none⟩,⟨(some 54),.call 326 [(.tmp 52),(.tmp 53),(.const (.int .i64 0)),(.const (.int .i64 2))],none⟩])
 (.seq (.region [⟨(some 55),.mv (.tmp 0),none⟩,⟨(some 56),.nilCheck (.tmp 55),none⟩,⟨(some 57),.faddr 0 (.tmp 56),none⟩,⟨(some 58),.load false 1 (.tmp 57),none⟩,⟨(some 59),.mv (.tmp 10),none⟩,⟨(some 60),.call 276 [(.tmp 58),(.tmp 59),(.const (.int .i64 0))],none⟩,⟨(some 4),.mv (.tmp 60),none⟩])
 .ret)))
 (.exit 0))))
 (.region [⟨(some 61),.mv (.tmp 0),none⟩,⟨(some 62),.mv (.tmp 5),none⟩,⟨(some 63),.faddr 2 (.tmp 7),none⟩,⟨(some 64),.load false 1 (.tmp 63),none⟩,⟨(some 65),.call 327 [(.tmp 61),(.tmp 62),(.tmp 64)],none⟩])))
 (.seq (.seq (.region [⟨(some 11),.mv (.const (.int .u64 0)),none⟩])
 (.seq (.seq (.region [⟨(some 66),.faddr 6 (.tmp 7),none⟩,⟨(some 67),.load false 1 (.tmp 66),none⟩,⟨(some 68),.bin .geq (.tmp 67) (.const (.int .i64 0)),none⟩])
 (.cond (.tmp 68) (.draw [⟨⟨(some 69),.mv (.tmp 10),none⟩,0,0⟩,⟨⟨(some 70),.faddr 6 (.tmp 7),none⟩,0,0⟩,⟨⟨(some 71),.load false 1 (.tmp 70),none⟩,0,0⟩,⟨⟨(some 72),.conv .u64 (.tmp 71),none⟩,0,0⟩,⟨⟨(some 73),.faddr 2 (.tmp 7),none⟩,0,0⟩,⟨⟨(some 74),.load false 1 (.tmp 73),none⟩,0,0⟩,⟨⟨(some 75),.iaddrA 8 1 (.glob 1) (.tmp 74),none⟩,0,0⟩,⟨⟨(some 76),.load false 1 (.tmp 75),none⟩,0,0⟩,⟨⟨(some 77),.bin .mul (.tmp 72) (.tmp 76),none⟩,0,0⟩,⟨⟨(some 78),.bin .add (.tmp 69) (.tmp 77),none⟩,0,0⟩,⟨⟨(some 11),.mv (.tmp 78),none⟩,0,0⟩]) .skip))
 (.seq (.region [⟨(some 79),.mv (.tmp 0),none⟩,⟨(some 80),.nilCheck (.tmp 79),none⟩,⟨(some 81),.faddr 0 (.tmp 80),none⟩,⟨(some 82),.load false 1 (.tmp 81),none⟩,⟨(some 83),.nilCheck (.tmp 82),none⟩,⟨(some 84),.faddr 0 (.tmp 83),none⟩,⟨(some 85),.call 113 [(.tmp 84)],none⟩,⟨(some 86),.mv (.tmp 1),none⟩,⟨(some 87),.mv (.tmp 11),none⟩,⟨(some 88),.call 238 [(.tmp 85),(.tmp 86),(.tmp 87)],none⟩])
 (.region [⟨(some 89),.mv (.tmp 9),none⟩,⟨(some 90),.mv (.tmp 5),none⟩,⟨(some 91),.mv (.tmp 6),none⟩,⟨(some 92),.call 328 [(.tmp 89),(.tmp 90),(.tmp 91)],none⟩]))))
 (.exit 0))))
 (.seq (.region [⟨(some 4),.mv (.const (.int .i64 0)),none⟩])
 .ret))))))))⟩
theorem k275 : compFn Tryz.prog Tryz.f275 = some c275 := by kernel_rfl
-- (*croft/region.Pool).Give
def c276 : AFunc := ⟨[.tmp 6],(.seq (.region [⟨(some 6),.mv (.const (.int .i64 0)),none⟩])
 (.seq (.region [⟨(some 7),.mv (.tmp 0),none⟩,⟨(some 8),.nilCheck (.tmp 7),none⟩,⟨(some 9),.faddr 0 (.tmp 8),none⟩,⟨(some 10),.faddr 2 (.tmp 9),none⟩,⟨(some 11),.load false 1 (.tmp 10),none⟩,⟨(some 12),.mv (.tmp 1),none⟩,⟨(some 13),.mv (.tmp 2),none⟩,⟨(some 14),.call 329 [(.tmp 11),(.tmp 12),(.tmp 13)],none⟩,⟨(some 6),.mv (.tmp 14),none⟩])
 .ret))⟩
theorem k276 : compFn Tryz.prog Tryz.f276 = some c276 := by kernel_rfl
-- math/bits.Mul
def c277 : AFunc := ⟨[.tmp 4,.tmp 5],(.seq (.region [⟨(some 4),.mv (.const (.int .u64 0)),none⟩,⟨(some 5),.mv (.const (.int .u64 0)),none⟩])
 (.seq (.cond (.const (.bool false)) (.seq (.region [⟨(some 11),.mv (.tmp 0),none⟩,⟨(some 12),.conv .u32 (.tmp 11),none⟩,⟨(some 13),.mv (.tmp 1),none⟩,⟨(some 14),.conv .u32 (.tmp 13),none⟩,⟨(some 15),.call 330 [(.tmp 12),(.tmp 14)],none⟩,⟨(some 10),.mv (.tmp 15),none⟩,⟨(some 16),.extract (.tmp 10) 0,none⟩,⟨(some 17),.extract (.tmp 10) 1,none⟩,⟨(some 6),.mv (.tmp 16),none⟩,⟨(some 7),.mv (.tmp 17),none⟩])
 (.seq (.region [⟨(some 18),.mv (.tmp 6),none⟩,⟨(some 19),.conv .u64 (.tmp 18),none⟩,⟨(some 20),.mv (.tmp 7),none⟩,⟨(some 21),.conv .u64 (.tmp 20),none⟩,⟨(some 4),.mv (.tmp 19),none⟩,⟨(some 5),.mv (.tmp 21),none⟩])
 .ret)) .skip)
 (.seq (.region [⟨(some 23),.mv (.tmp 0),none⟩,⟨(some 24),.mv (.tmp 1),none⟩,⟨(some 25),.call 236 [(.tmp 23),(.tmp 24)],none⟩,⟨(some 22),.mv (.tmp 25),none⟩,⟨(some 26),.extract (.tmp 22) 0,none⟩,⟨(some 27),.extract (.tmp 22) 1,none⟩,⟨(some 8),.mv (.tmp 26),none⟩,⟨(some 9),.mv (.tmp 27),none⟩])
 (.seq (.region [⟨(some 28),.mv (.tmp 8),none⟩,⟨(some 29),.mv (.tmp 9),none⟩,⟨(some 4),.mv (.tmp 28),none⟩,⟨(some 5),.mv (.tmp 29),none⟩])
 .ret))))⟩
theorem k277 : compFn Tryz.prog Tryz.f277 = some c277 := by kernel_rfl
-- (*croft/pagemap.Map).Head
def c278 : AFunc := ⟨[.tmp 4],(.seq (.region [⟨(some 4),.mv (.const (.int .i64 0)),none⟩])
 (.seq (.region [⟨(some 8),.mv (.tmp 0),none⟩,⟨(some 9),.mv (.tmp 1),none⟩,⟨(some 10),.call 118 [(.tmp 8),(.tmp 9)],none⟩,⟨(some 7),.mv (.tmp 10),none⟩,⟨(some 11),.extract (.tmp 7) 0,none⟩,⟨(some 12),.extract (.tmp 7) 1,none⟩,⟨(some 5),.alloc [(.int .i64 0),(.int .i64 0),(.int .i64 0),(.int .i64 0),(.int .i64 0),(.int .i64 0),(.int .i64 0),(.int .u64 0),(.int .u64 0),(.int .u64 0),(.int .u64 0)],none⟩,⟨none,.store 11 (.tmp 5) (.tmp 11),none⟩,⟨(some 6),.mv (.tmp 12),none⟩])
 (.seq (.seq (.region [⟨(some 13),.mv (.tmp 6),none⟩,⟨(some 14),.not (.tmp 13),none⟩])
 (.cond (.tmp 14) (.seq (.region [⟨(some 4),.mv (.const (.int .i64 (-1))),none⟩])
 .ret) .skip))
 (.seq (.draw [⟨⟨(some 15),.mv (.tmp 1),none⟩,0,0⟩,⟨⟨(some 16),.faddr 1 (.tmp 5),none⟩,0,0⟩,⟨⟨(some 17),.load false 1 (.tmp 16),none⟩,0,0⟩,⟨⟨(some 18),.bin .shr (.tmp 15) (.tmp 17),none⟩,0,0⟩,⟨⟨(some 19),.faddr 1 (.tmp 5),none⟩,0,0⟩,⟨⟨(some 20),.load false 1 (.tmp 19),none⟩,0,0⟩,⟨⟨(some 21),.bin .shl (.tmp 18) (.tmp 20),none⟩,0,0⟩,⟨⟨(some 4),.mv (.tmp 21),none⟩,0,0⟩])
 .ret))))⟩
theorem k278 : compFn Tryz.prog Tryz.f278 = some c278 := by kernel_rfl
-- (*croft/mem.Space).Write$1
def c279 : AFunc := ⟨[],(.regionR (some 1) [⟨(some 2),.call 222 [(.tmp 1),(.tmp 0)],none⟩])⟩
theorem k279 : compFn Tryz.prog Tryz.f279 = some c279 := by kernel_rfl
-- (*croft/mem.Space).put
def c280 : AFunc := ⟨[],(.block 0 (.loop (.seq (.seq (.region [⟨(some 8),.mv (.tmp 2),none⟩,⟨(some 9),.lenS (.tmp 8),none⟩,⟨(some 10),.bin .gtr (.tmp 9) (.const (.int .i64 0)),none⟩])
 (.cond (.tmp 10) .skip (.exit 0)))
 (.block 1 (.seq (.region [⟨(some 11),.mv (.tmp 1),none⟩,⟨(some 12),.mv (.tmp 0),none⟩,⟨(some 13),.nilCheck (.tmp 12),none⟩,⟨(some 14),.faddr 0 (.tmp 13),none⟩,⟨(some 15),.faddr 0 (.tmp 14),none⟩,⟨(some 16),.load false 1 (.tmp 15),none⟩,⟨(some 17),.bin .sub (.tmp 11) (.tmp 16),none⟩,⟨(some 6),.mv (.tmp 17),none⟩])
 (.seq (.draw [⟨⟨(some 18),.mv (.tmp 0),none⟩,0,0⟩,⟨⟨(some 19),.nilCheck (.tmp 18),none⟩,0,0⟩,⟨⟨(some 20),.faddr 4 (.tmp 19),none⟩,0,0⟩,⟨⟨(some 21),.load false 1 (.tmp 20),none⟩,0,0⟩,⟨⟨(some 22),.mv (.tmp 6),none⟩,0,0⟩,⟨⟨(some 23),.mv (.tmp 0),none⟩,0,0⟩,⟨⟨(some 24),.nilCheck (.tmp 23),none⟩,0,0⟩,⟨⟨(some 25),.faddr 3 (.tmp 24),none⟩,0,0⟩,⟨⟨(some 26),.load false 1 (.tmp 25),none⟩,0,0⟩,⟨⟨(some 27),.bin .quo (.tmp 22) (.tmp 26),none⟩,0,0⟩,⟨⟨(some 28),.iaddrS 1 (.tmp 21) (.tmp 27),none⟩,0,0⟩,⟨⟨(some 29),.load false 1 (.tmp 28),none⟩,0,0⟩,⟨⟨(some 30),.mv (.tmp 6),none⟩,0,0⟩,⟨⟨(some 31),.mv (.tmp 0),none⟩,0,0⟩,⟨⟨(some 32),.nilCheck (.tmp 31),none⟩,0,0⟩,⟨⟨(some 33),.faddr 3 (.tmp 32),none⟩,0,0⟩,⟨⟨(some 34),.load false 1 (.tmp 33),none⟩,0,0⟩,⟨⟨(some 35),.bin .rem (.tmp 30) (.tmp 34),none⟩,0,0⟩,⟨⟨(some 36),.sliceOfC 1 (.tmp 29) (some (.tmp 35)) none,none⟩,0,0⟩,⟨⟨(some 37),.mv (.tmp 2),none⟩,0,0⟩,⟨⟨(some 38),.copy 1 (.tmp 36) (.tmp 37),none⟩,0,1⟩,⟨⟨(some 7),.mv (.tmp 38),none⟩,1,1⟩])
 (.seq (.region [⟨(some 39),.mv (.tmp 2),none⟩,⟨(some 40),.mv (.tmp 7),none⟩,⟨(some 41),.sliceOfC 1 (.tmp 39) (some (.tmp 40)) none,none⟩,⟨(some 2),.mv (.tmp 41),none⟩])
 (.region [⟨(some 42),.mv (.tmp 1),none⟩,⟨(some 43),.mv (.tmp 7),none⟩,⟨(some 44),.conv .u64 (.tmp 43),none⟩,⟨(some 45),.bin .add (.tmp 42) (.tmp 44),none⟩,⟨(some 1),.mv (.tmp 45),none⟩]))))))))⟩
theorem k280 : compFn Tryz.prog Tryz.f280 = some c280 := by kernel_rfl
-- slices.stableCmpFunc[*croft/guard.block]
def c281 : AFunc := ⟨[],(.seq (.region [⟨(some 6),.mv (.const (.int .i64 20)),none⟩])
 (.seq (.region [⟨(some 10),.mv (.tmp 6),none⟩,⟨(some 7),.mv (.const (.int .i64 0)),none⟩,⟨(some 8),.mv (.tmp 10),none⟩])
 (.seq (.block 0 (.loop (.seq (.seq (.region [⟨(some 11),.mv (.tmp 8),none⟩,⟨(some 12),.mv (.tmp 1),none⟩,⟨(some 13),.bin .leq (.tmp 11) (.tmp 12),none⟩])
 (.cond (.tmp 13) .skip (.exit 0)))
 (.block 1 (.seq (.region [⟨(some 14),.mv (.tmp 0),none⟩,⟨(some 15),.mv (.tmp 7),none⟩,⟨(some 16),.mv (.tmp 8),none⟩,⟨(some 17),.mv (.tmp 2),none⟩,⟨(some 18),.call 331 [(.tmp 14),(.tmp 15),(.tmp 16),(.tmp 17)],none⟩])
 (.seq (.region [⟨(some 19),.mv (.tmp 8),none⟩,⟨(some 7),.mv (.tmp 19),none⟩])
 (.region [⟨(some 20),.mv (.tmp 8),none⟩,⟨(some 21),.mv (.tmp 6),none⟩,⟨(some 22),.bin .add (.tmp 20) (.tmp 21),none⟩,⟨(some 8),.mv (.tmp 22),none⟩])))))))
 (.seq (.region [⟨(some 23),.mv (.tmp 0),none⟩,⟨(some 24),.mv (.tmp 7),none⟩,⟨(some 25),.mv (.tmp 1),none⟩,⟨(some 26),.mv (.tmp 2),none⟩,⟨(some 27),.call 331 [(.tmp 23),(.tmp 24),(.tmp 25),(.tmp 26)],none⟩])
 (.block 2 (.loop (.seq (.seq (.region [⟨(some 28),.mv (.tmp 6),none⟩,⟨(some 29),.mv (.tmp 1),none⟩,⟨(some 30),.bin .lss (.tmp 28) (.tmp 29),none⟩])
 (.cond (.tmp 30) .skip (.exit 2)))
 (.block 3 (.seq (.region [⟨(some 31),.mv (.tmp 6),none⟩,⟨(some 32),.bin .mul (.const (.int .i64 2)) (.tmp 31),none⟩,⟨(some 7),.mv (.const (.int .i64 0)),none⟩,⟨(some 8),.mv (.tmp 32),none⟩])
 (.seq (.block 4 (.loop (.seq (.seq (.region [⟨(some 33),.mv (.tmp 8),none⟩,⟨(some 34),.mv (.tmp 1),none⟩,⟨(some 35),.bin .leq (.tmp 33) (.tmp 34),none⟩])
 (.cond (.tmp 35) .skip (.exit 4)))
 (.block 5 (.seq (.region [⟨(some 36),.mv (.tmp 0),none⟩,⟨(some 37),.mv (.tmp 7),none⟩,⟨(some 38),.mv (.tmp 7),none⟩,⟨(some 39),.mv (.tmp 6),none⟩,⟨(some 40),.bin .add (.tmp 38) (.tmp 39),none⟩,⟨(some 41),.mv (.tmp 8),none⟩,⟨(some 42),.mv (.tmp 2),none⟩,⟨(some 43),.call 332 [(.tmp 36),(.tmp 37),(.tmp 40),(.tmp 41),(.tmp 42)],none⟩])
 (.seq (.region [⟨(some 44),.mv (.tmp 8),none⟩,⟨(some 7),.mv (.tmp 44),none⟩])
 (.region [⟨(some 45),.mv (.tmp 8),none⟩,⟨(some 46),.mv (.tmp 6),none⟩,⟨(some 47),.bin .mul (.const (.int .i64 2)) (.tmp 46),none⟩,⟨(some 48),.bin .add (.tmp 45) (.tmp 47),none⟩,⟨(some 8),.mv (.tmp 48),none⟩])))))))
 (.seq (.seq (.region [⟨(some 49),.mv (.tmp 7),none⟩,⟨(some 50),.mv (.tmp 6),none⟩,⟨(some 51),.bin .add (.tmp 49) (.tmp 50),none⟩,⟨(some 9),.mv (.tmp 51),none⟩])
 (.seq (.region [⟨(some 52),.mv (.tmp 9),none⟩,⟨(some 53),.mv (.tmp 1),none⟩,⟨(some 54),.bin .lss (.tmp 52) (.tmp 53),none⟩])
 (.cond (.tmp 54) (.region [⟨(some 55),.mv (.tmp 0),none⟩,⟨(some 56),.mv (.tmp 7),none⟩,⟨(some 57),.mv (.tmp 9),none⟩,⟨(some 58),.mv (.tmp 1),none⟩,⟨(some 59),.mv (.tmp 2),none⟩,⟨(some 60),.call 332 [(.tmp 55),(.tmp 56),(.tmp 57),(.tmp 58),(.tmp 59)],none⟩]) .skip)))
 (.region [⟨(some 61),.mv (.tmp 6),none⟩,⟨(some 62),.bin .mul (.tmp 61) (.const (.int .i64 2)),none⟩,⟨(some 6),.mv (.tmp 62),none⟩]))))))))))))⟩
theorem k281 : compFn Tryz.prog Tryz.f281 = some c281 := by kernel_rfl
-- cmp.isNaN[uint64]
def c282 : AFunc := ⟨[.tmp 2],(.seq (.region [⟨(some 2),.mv (.const (.bool false)),none⟩])
 (.seq (.region [⟨(some 3),.mv (.tmp 0),none⟩,⟨(some 4),.mv (.tmp 0),none⟩,⟨(some 5),.bin .neq (.tmp 3) (.tmp 4),none⟩,⟨(some 2),.mv (.tmp 5),none⟩])
 .ret))⟩
theorem k282 : compFn Tryz.prog Tryz.f282 = some c282 := by kernel_rfl
-- (*croft/mem.Space).SetWord$1
def c286 : AFunc := ⟨[],(.regionR (some 1) [⟨(some 2),.call 222 [(.tmp 1),(.tmp 0)],none⟩])⟩
theorem k286 : compFn Tryz.prog Tryz.f286 = some c286 := by kernel_rfl
-- math/bits.Len64
def c296 : AFunc := ⟨[.tmp 2],(.seq (.region [⟨(some 2),.mv (.const (.int .i64 0)),none⟩])
 (.seq (.seq (.region [⟨(some 3),.mv (.tmp 0),none⟩,⟨(some 4),.bin .geq (.tmp 3) (.const (.int .u64 4294967296)),none⟩])
 (.cond (.tmp 4) (.seq (.region [⟨(some 5),.mv (.tmp 0),none⟩,⟨(some 6),.bin .shr (.tmp 5) (.const (.int .u64 32)),none⟩,⟨(some 0),.mv (.tmp 6),none⟩])
 (.region [⟨(some 2),.mv (.const (.int .i64 32)),none⟩])) .skip))
 (.seq (.seq (.region [⟨(some 7),.mv (.tmp 0),none⟩,⟨(some 8),.bin .geq (.tmp 7) (.const (.int .u64 65536)),none⟩])
 (.cond (.tmp 8) (.seq (.region [⟨(some 9),.mv (.tmp 0),none⟩,⟨(some 10),.bin .shr (.tmp 9) (.const (.int .u64 16)),none⟩,⟨(some 0),.mv (.tmp 10),none⟩])
 (.region [⟨(some 11),.mv (.tmp 2),none⟩,⟨(some 12),.bin .add (.tmp 11) (.const (.int .i64 16)),none⟩,⟨(some 2),.mv (.tmp 12),none⟩])) .skip))
 (.seq (.seq (.region [⟨(some 13),.mv (.tmp 0),none⟩,⟨(some 14),.bin .geq (.tmp 13) (.const (.int .u64 256)),none⟩])
 (.cond (.tmp 14) (.seq (.region [⟨(some 15),.mv (.tmp 0),none⟩,⟨(some 16),.bin .shr (.tmp 15) (.const (.int .u64 8)),none⟩,⟨(some 0),.mv (.tmp 16),none⟩])
 (.region [⟨(some 17),.mv (.tmp 2),none⟩,⟨(some 18),.bin .add (.tmp 17) (.const (.int .i64 8)),none⟩,⟨(some 2),.mv (.tmp 18),none⟩])) .skip))
 (.seq (.region [⟨(some 19),.mv (.tmp 2),none⟩,⟨(some 20),.mv (.tmp 0),none⟩,⟨(some 21),.conv .u8 (.tmp 20),none⟩,⟨(some 22),.indexS (.const (.str [0,1,2,2,3,3,3,3,4,4,4,4,4,4,4,4,5,5,5,5,5,5,5,5,5,5,5,5,5,5,5,5,6,6,6,6,6,6,6,6,6,6,6,6,6,6,6,6,6,6,6,6,6,6,6,6,6,6,6,6,6,6,6,6,7,7,7,7,7,7,7,7,7,7,7,7,7,7,7,7,7,7,7,7,7,7,7,7,7,7,7,7,7,7,7,7,7,7,7,7,7,7,7,7,7,7,7,7,7,7,7,7,7,7,7,7,7,7,7,7,7,7,7,7,7,7,7,7,8,8,8,8,8,8,8,8,8,8,8,8,8,8,8,8,8,8,8,8,8,8,8,8,8,8,8,8,8,8,8,8,8,8,8,8,8,8,8,8,8,8,8,8,8,8,8,8,8,8,8,8,8,8,8,8,8,8,8,8,8,8,8,8,8,8,8,8,8,8,8,8,8,8,8,8,8,8,8,8,8,8,8,8,8,8,8,8,8,8,8,8,8,8,8,8,8,8,8,8,8,8,8,8,8,8,8,8,8,8,8,8,8,8,8,8,8,8,8,8,8,8,8,8,8,8,8,8])) (.tmp 21),none⟩,⟨(some 23),.conv .i64 (.tmp 22),none⟩,⟨(some 24),.bin .add (.tmp 19) (.tmp 23),none⟩,⟨(some 2),.mv (.tmp 24),none⟩])
 .ret)))))⟩
theorem k296 : compFn Tryz.prog Tryz.f296 = some c296 := by kernel_rfl
-- (*croft/mem.Space).Word$1
def c297 : AFunc := ⟨[],(.regionR (some 1) [⟨(some 2),.call 222 [(.tmp 1),(.tmp 0)],none⟩])⟩
theorem k297 : compFn Tryz.prog Tryz.f297 = some c297 := by kernel_rfl
-- croft/bits.Log[uint64]
def c303 : AFunc := ⟨[.tmp 2],(.seq (.region [⟨(some 2),.mv (.const (.int .i64 0)),none⟩])
 (.seq (.region [⟨(some 3),.mv (.tmp 0),none⟩,⟨(some 4),.call 296 [(.tmp 3)],none⟩,⟨(some 5),.bin .sub (.tmp 4) (.const (.int .i64 1)),none⟩,⟨(some 2),.mv (.tmp 5),none⟩])
 .ret))⟩
theorem k303 : compFn Tryz.prog Tryz.f303 = some c303 := by kernel_rfl
-- (*croft/malloc.Heap).region
def c304 : AFunc := ⟨[.tmp 2],(.seq (.region [⟨(some 2),.mv (.const (.int .u64 0)),none⟩])
 (.seq (.region [⟨(some 3),.mv (.tmp 0),none⟩,⟨(some 4),.nilCheck (.tmp 3),none⟩,⟨(some 5),.faddr 2 (.tmp 4),none⟩,⟨(some 6),.faddr 2 (.tmp 5),none⟩,⟨(some 7),.load false 1 (.tmp 6),none⟩,⟨(some 8),.bin .shl (.const (.int .u64 4096)) (.tmp 7),none⟩,⟨(some 2),.mv (.tmp 8),none⟩])
 .ret))⟩
theorem k304 : compFn Tryz.prog Tryz.f304 = some c304 := by kernel_rfl
-- (*croft/buddy.Buddy).live
def c305 : AFunc := ⟨[.tmp 6,.tmp 7],(.seq (.region [⟨(some 6),.mv (.const (.int .i64 0)),none⟩,⟨(some 7),.mv (.const (.bool false)),none⟩])
 (.seq (.region [⟨(some 13),.mv (.tmp 0),none⟩,⟨(some 14),.mv (.tmp 1),none⟩,⟨(some 15),.call 364 [(.tmp 13),(.tmp 14)],none⟩,⟨(some 12),.mv (.tmp 15),none⟩,⟨(some 16),.extract (.tmp 12) 0,none⟩,⟨(some 17),.extract (.tmp 12) 1,none⟩,⟨(some 8),.mv (.tmp 16),none⟩,⟨(some 9),.mv (.tmp 17),none⟩])
 (.seq (.seq (.region [⟨(some 18),.mv (.tmp 9),none⟩,⟨(some 19),.not (.tmp 18),none⟩])
 (.cond (.tmp 19) (.seq (.region [⟨(some 6),.mv (.const (.int .i64 0)),none⟩,⟨(some 7),.mv (.const (.bool false)),none⟩])
 .ret) .skip))
 (.seq (.region [⟨(some 21),.mv (.tmp 0),none⟩,⟨(some 22),.nilCheck (.tmp 21),none⟩,⟨(some 23),.faddr 4 (.tmp 22),none⟩,⟨(some 24),.load false 1 (.tmp 23),none⟩,⟨(some 25),.mv (.tmp 8),none⟩,⟨(some 26),.call 118 [(.tmp 24),(.tmp 25)],none⟩,⟨(some 20),.mv (.tmp 26),none⟩,⟨(some 27),.extract (.tmp 20) 0,none⟩,⟨(some 28),.extract (.tmp 20) 1,none⟩,⟨(some 10),.alloc [(.int .i64 0),(.int .i64 0),(.int .i64 0),(.int .i64 0),(.int .i64 0),(.int .i64 0),(.int .i64 0),(.int .u64 0),(.int .u64 0),(.int .u64 0),(.int .u64 0)],none⟩,⟨none,.store 11 (.tmp 10) (.tmp 27),none⟩,⟨(some 11),.mv (.tmp 28),none⟩])
 (.seq (.draw [⟨⟨(some 29),.mv (.tmp 8),none⟩,0,0⟩,⟨⟨(some 30),.faddr 0 (.tmp 10),none⟩,0,0⟩,⟨⟨(some 31),.load false 1 (.tmp 30),none⟩,0,0⟩,⟨⟨(some 32),.bin .eql (.tmp 31) (.const (.int .i64 2)),none⟩,0,0⟩,⟨⟨(some 33),.mv (.tmp 32),none⟩,0,0⟩,⟨⟨(some 34),.faddr 1 (.tmp 10),some (33,true)⟩,0,0⟩,⟨⟨(some 35),.load false 1 (.tmp 34),some (33,true)⟩,0,0⟩,⟨⟨(some 36),.mv (.tmp 2),some (33,true)⟩,0,0⟩,⟨⟨(some 37),.bin .eql (.tmp 35) (.tmp 36),some (33,true)⟩,0,0⟩,⟨⟨(some 38),.pick (.tmp 33) (.tmp 37) (.const (.bool false)),none⟩,0,0⟩,⟨⟨(some 6),.mv (.tmp 29),none⟩,0,0⟩,⟨⟨(some 7),.mv (.tmp 38),none⟩,0,0⟩])
 .ret)))))⟩
theorem k305 : compFn Tryz.prog Tryz.f305 = some c305 := by kernel_rfl
-- (*croft/buddy.Buddy).cut
def c306 : AFunc := ⟨[],(.seq (.seq (.region [⟨(some 9),.mv (.tmp 2),none⟩,⟨(some 10),.bin .sub (.tmp 9) (.const (.int .i64 1)),none⟩,⟨(some 8),.mv (.tmp 10),none⟩])
 (.block 0 (.loop (.seq (.seq (.region [⟨(some 11),.mv (.tmp 8),none⟩,⟨(some 12),.mv (.tmp 3),none⟩,⟨(some 13),.bin .geq (.tmp 11) (.tmp 12),none⟩])
 (.cond (.tmp 13) .skip (.exit 0)))
 (.seq (.block 1 (.seq (.region [⟨(some 16),.mv (.tmp 0),none⟩,⟨(some 17),.mv (.tmp 1),none⟩,⟨(some 18),.mv (.tmp 8),none⟩,⟨(some 19),.bin .shl (.const (.int .i64 1)) (.tmp 18),none⟩,⟨(some 20),.bin .add (.tmp 17) (.tmp 19),none⟩,⟨(some 21),.mv (.tmp 8),none⟩,⟨(some 22),.call 365 [(.tmp 16),(.tmp 20),(.tmp 21)],none⟩])
 (.region [⟨(some 23),.mv (.tmp 0),none⟩,⟨(some 24),.mv (.tmp 1),none⟩,⟨(some 25),.mv (.tmp 8),none⟩,⟨(some 26),.bin .shl (.const (.int .i64 1)) (.tmp 25),none⟩,⟨(some 27),.bin .add (.tmp 24) (.tmp 26),none⟩,⟨(some 28),.mv (.tmp 8),none⟩,⟨(some 29),.call 366 [(.tmp 23),(.tmp 27),(.tmp 28)],none⟩])))
 (.region [⟨(some 14),.mv (.tmp 8),none⟩,⟨(some 15),.bin .sub (.tmp 14) (.const (.int .i64 1)),none⟩,⟨(some 8),.mv (.tmp 15),none⟩]))))))
 (.region [⟨(some 30),.mv (.tmp 0),none⟩,⟨(some 31),.nilCheck (.tmp 30),none⟩,⟨(some 32),.faddr 4 (.tmp 31),none⟩,⟨(some 33),.load false 1 (.tmp 32),none⟩,⟨(some 34),.mv (.tmp 1),none⟩,⟨(some 35),.mv (.tmp 3),none⟩,⟨(some 36),.call 326 [(.tmp 33),(.tmp 34),(.tmp 35),(.const (.int .i64 2))],none⟩]))⟩
theorem k306 : compFn Tryz.prog Tryz.f306 = some c306 := by kernel_rfl
-- (*croft/slab.Slab).Take
def c307 : AFunc := ⟨[.tmp 6,.tmp 7,.tmp 8],(.seq (.region [⟨(some 6),.mv (.const (.int .u64 0)),none⟩,⟨(some 7),.mv (.const (.bool false)),none⟩,⟨(some 8),.mv (.const (.int .i64 0)),none⟩])
 (.seq (.seq (.region [⟨(some 20),.mv (.tmp 1),none⟩,⟨(some 21),.bin .lss (.tmp 20) (.const (.int .i64 0)),none⟩,⟨(some 22),.mv (.tmp 21),none⟩,⟨(some 23),.mv (.tmp 1),some (22,false)⟩,⟨(some 24),.bin .geq (.tmp 23) (.const (.int .i64 8)),some (22,false)⟩,⟨(some 25),.pick (.tmp 22) (.const (.bool true)) (.tmp 24),none⟩])
 (.cond (.tmp 25) (.seq (.region [⟨(some 6),.mv (.const (.int .u64 0)),none⟩,⟨(some 7),.mv (.const (.bool false)),none⟩,⟨(some 8),.mv (.const (.int .i64 1)),none⟩])
 .ret) .skip))
 (.seq (.region [⟨(some 26),.mv (.tmp 0),none⟩,⟨(some 27),.mv (.tmp 1),none⟩,⟨(some 28),.nilCheck (.tmp 26),none⟩,⟨(some 29),.faddr 1 (.tmp 28),none⟩,⟨(some 30),.iaddrA 8 1 (.tmp 29) (.tmp 27),none⟩,⟨(some 31),.load false 1 (.tmp 30),none⟩,⟨(some 9),.mv (.tmp 31),none⟩])
 (.seq (.seq (.region [⟨(some 32),.mv (.tmp 9),none⟩,⟨(some 33),.bin .lss (.tmp 32) (.const (.int .i64 0)),none⟩])
 (.cond (.tmp 33) (.seq (.region [⟨(some 35),.mv (.tmp 0),none⟩,⟨(some 36),.nilCheck (.tmp 35),none⟩,⟨(some 37),.faddr 0 (.tmp 36),none⟩,⟨(some 38),.load false 1 (.tmp 37),none⟩,⟨(some 39),.mv (.tmp 2),none⟩,⟨(some 40),.call 309 [(.tmp 38),(.const (.int .i64 0)),(.tmp 39)],none⟩,⟨(some 34),.mv (.tmp 40),none⟩,⟨(some 41),.extract (.tmp 34) 0,none⟩,⟨(some 42),.extract (.tmp 34) 1,none⟩,⟨(some 43),.extract (.tmp 34) 2,none⟩,⟨(some 10),.mv (.tmp 41),none⟩,⟨(some 11),.mv (.tmp 42),none⟩,⟨(some 12),.mv (.tmp 43),none⟩])
 (.seq (.seq (.region [⟨(some 44),.mv (.tmp 12),none⟩,⟨(some 45),.bin .neq (.tmp 44) (.const (.int .i64 0)),none⟩])
 (.cond (.tmp 45) (.seq (.region [⟨(some 46),.mv (.tmp 12),none⟩,⟨(some 6),.mv (.const (.int .u64 0)),none⟩,⟨(some 7),.mv (.const (.bool false)),none⟩,⟨(some 8),.mv (.tmp 46),none⟩])
 .ret) .skip))
 (.region [⟨(some 47),.mv (.tmp 0),none⟩,⟨(some 48),.mv (.tmp 10),none⟩,⟨(some 49),.mv (.tmp 1),none⟩,⟨(some 50),.call 367 [(.tmp 47),(.tmp 48),(.tmp 49)],none⟩,⟨(some 51),.mv (.tmp 11),none⟩,⟨(some 9),.mv (.tmp 50),none⟩,⟨(some 7),.mv (.tmp 51),none⟩]))) .skip))
 (.seq (.region [⟨(some 52),.mv (.tmp 0),none⟩,⟨(some 53),.nilCheck (.tmp 52),none⟩,⟨(some 54),.faddr 0 (.tmp 53),none⟩,⟨(some 55),.load false 1 (.tmp 54),none⟩,⟨(some 56),.nilCheck (.tmp 55),none⟩,⟨(some 57),.faddr 0 (.tmp 56),none⟩,⟨(some 58),.call 116 [(.tmp 57)],none⟩,⟨(some 13),.mv (.tmp 58),none⟩])
 (.seq (.region [⟨(some 60),.mv (.tmp 13),none⟩,⟨(some 61),.mv (.tmp 9),none⟩,⟨(some 62),.call 118 [(.tmp 60),(.tmp 61)],none⟩,⟨(some 59),.mv (.tmp 62),none⟩,⟨(some 63),.extract (.tmp 59) 0,none⟩,⟨(some 64),.extract (.tmp 59) 1,none⟩,⟨(some 14),.alloc [(.int .i64 0),(.int .i64 0),(.int .i64 0),(.int .i64 0),(.int .i64 0),(.int .i64 0),(.int .i64 0),(.int .u64 0),(.int .u64 0),(.int .u64 0),(.int .u64 0)],none⟩,⟨none,.store 11 (.tmp 14) (.tmp 63),none⟩,⟨(some 15),.mv (.tmp 64),none⟩])
 (.seq (.region [⟨(some 65),.mv (.tmp 0),none⟩,⟨(some 66),.call 324 [(.tmp 65)],none⟩,⟨(some 67),.mv (.tmp 9),none⟩,⟨(some 68),.conv .u64 (.tmp 67),none⟩,⟨(some 69),.bin .mul (.const (.int .u64 4096)) (.tmp 68),none⟩,⟨(some 70),.bin .add (.tmp 66) (.tmp 69),none⟩,⟨(some 16),.mv (.tmp 70),none⟩])
 (.seq (.draw [⟨⟨(some 71),.mv (.tmp 16),none⟩,0,0⟩,⟨⟨(some 72),.faddr 6 (.tmp 14),none⟩,0,0⟩,⟨⟨(some 73),.load false 1 (.tmp 72),none⟩,0,0⟩,⟨⟨(some 74),.conv .u64 (.tmp 73),none⟩,0,0⟩,⟨⟨(some 75),.mv (.tmp 1),none⟩,0,0⟩,⟨⟨(some 76),.iaddrA 8 1 (.glob 1) (.tmp 75),none⟩,0,0⟩,⟨⟨(some 77),.load false 1 (.tmp 76),none⟩,0,0⟩,⟨⟨(some 78),.bin .mul (.tmp 74) (.tmp 77),none⟩,0,0⟩,⟨⟨(some 79),.bin .add (.tmp 71) (.tmp 78),none⟩,0,0⟩,⟨⟨(some 6),.mv (.tmp 79),none⟩,0,0⟩])
 (.seq (.region [⟨(some 81),.mv (.tmp 0),none⟩,⟨(some 82),.nilCheck (.tmp 81),none⟩,⟨(some 83),.faddr 0 (.tmp 82),none⟩,⟨(some 84),.load false 1 (.tmp 83),none⟩,⟨(some 85),.nilCheck (.tmp 84),none⟩,⟨(some 86),.faddr 0 (.tmp 85),none⟩,⟨(some 87),.call 113 [(.tmp 86)],none⟩,⟨(some 88),.mv (.tmp 6),none⟩,⟨(some 89),.call 243 [(.tmp 87),(.tmp 88)],none⟩,⟨(some 80),.mv (.tmp 89),none⟩,⟨(some 90),.extract (.tmp 80) 0,none⟩,⟨(some 91),.extract (.tmp 80) 1,none⟩,⟨(some 17),.mv (.tmp 90),none⟩,⟨(some 18),.mv (.tmp 91),none⟩])
 (.seq (.region [⟨(some 19),.mv (.const (.int .i64 (-1))),none⟩])
 (.seq (.seq (.region [⟨(some 92),.mv (.tmp 17),none⟩,⟨(some 93),.bin .neq (.tmp 92) (.const (.int .u64 0)),none⟩])
 (.cond (.tmp 93) (.region [⟨(some 94),.mv (.tmp 17),none⟩,⟨(some 95),.mv (.tmp 16),none⟩,⟨(some 96),.bin .sub (.tmp 94) (.tmp 95),none⟩,⟨(some 97),.mv (.tmp 1),none⟩,⟨(some 98),.iaddrA 8 1 (.glob 1) (.tmp 97),none⟩,⟨(some 99),.load false 1 (.tmp 98),none⟩,⟨(some 100),.bin .quo (.tmp 96) (.tmp 99),none⟩,⟨(some 101),.conv .i64 (.tmp 100),none⟩,⟨(some 19),.mv (.tmp 101),none⟩]) .skip))
 (.seq (.region [⟨(some 102),.mv (.tmp 13),none⟩,⟨(some 103),.mv (.tmp 9),none⟩,⟨(some 104),.faddr 6 (.tmp 14),none⟩,⟨(some 105),.load false 1 (.tmp 104),none⟩,⟨(some 106),.call 323 [(.tmp 102),(.tmp 103),(.tmp 105),(.const (.bool true))],none⟩])
 (.seq (.region [⟨(some 107),.mv (.tmp 13),none⟩,⟨(some 108),.mv (.tmp 9),none⟩,⟨(some 109),.mv (.tmp 19),none⟩,⟨(some 110),.call 328 [(.tmp 107),(.tmp 108),(.tmp 109)],none⟩])
 (.seq (.seq (.region [⟨(some 111),.mv (.tmp 19),none⟩,⟨(some 112),.bin .lss (.tmp 111) (.const (.int .i64 0)),none⟩])
 (.cond (.tmp 112) (.region [⟨(some 113),.mv (.tmp 0),none⟩,⟨(some 114),.mv (.tmp 9),none⟩,⟨(some 115),.mv (.tmp 1),none⟩,⟨(some 116),.call 325 [(.tmp 113),(.tmp 114),(.tmp 115)],none⟩]) .skip))
 (.seq (.region [⟨(some 117),.mv (.tmp 6),none⟩,⟨(some 118),.mv (.tmp 7),none⟩,⟨(some 6),.mv (.tmp 117),none⟩,⟨(some 7),.mv (.tmp 118),none⟩,⟨(some 8),.mv (.const (.int .i64 0)),none⟩])
 .ret)))))))))))))))⟩
theorem k307 : compFn Tryz.prog Tryz.f307 = some c307 := by kernel_rfl
-- croft/malloc.class
def c308 : AFunc := ⟨[.tmp 2],(.seq (.region [⟨(some 2),.mv (.const (.int .i64 0)),none⟩])
 (.seq (.region [⟨(some 3),.mv (.tmp 0),none⟩,⟨(some 4),.bin .quo (.tmp 3) (.const (.int .u64 16)),none⟩,⟨(some 5),.call 303 [(.tmp 4)],none⟩,⟨(some 2),.mv (.tmp 5),none⟩])
 .ret))⟩
theorem k308 : compFn Tryz.prog Tryz.f308 = some c308 := by kernel_rfl
-- (*croft/region.Pool).Need
def c309 : AFunc := ⟨[.tmp 6,.tmp 7,.tmp 8],(.seq (.region [⟨(some 6),.mv (.const (.int .u64 0)),none⟩,⟨(some 7),.mv (.const (.bool false)),none⟩,⟨(some 8),.mv (.const (.int .i64 0)),none⟩])
 (.seq (.region [⟨(some 12),.mv (.tmp 0),none⟩,⟨(some 13),.nilCheck (.tmp 12),none⟩,⟨(some 14),.faddr 0 (.tmp 13),none⟩,⟨(some 15),.faddr 2 (.tmp 14),none⟩,⟨(some 16),.load false 1 (.tmp 15),none⟩,⟨(some 17),.mv (.tmp 1),none⟩,⟨(some 18),.call 368 [(.tmp 16),(.tmp 17)],none⟩,⟨(some 11),.mv (.tmp 18),none⟩,⟨(some 19),.extract (.tmp 11) 0,none⟩,⟨(some 20),.extract (.tmp 11) 1,none⟩,⟨(some 6),.mv (.tmp 19),none⟩,⟨(some 8),.mv (.tmp 20),none⟩])
 (.seq (.seq (.region [⟨(some 21),.mv (.tmp 8),none⟩,⟨(some 22),.bin .neq (.tmp 21) (.const (.int .i64 2)),none⟩])
 (.cond (.tmp 22) (.seq (.region [⟨(some 23),.mv (.tmp 6),none⟩,⟨(some 24),.mv (.tmp 8),none⟩,⟨(some 6),.mv (.tmp 23),none⟩,⟨(some 7),.mv (.const (.bool false)),none⟩,⟨(some 8),.mv (.tmp 24),none⟩])
 .ret) .skip))
 (.seq (.seq (.region [⟨(some 26),.mv (.tmp 0),none⟩,⟨(some 27),.nilCheck (.tmp 26),none⟩,⟨(some 28),.faddr 0 (.tmp 27),none⟩,⟨(some 29),.faddr 0 (.tmp 28),none⟩,⟨(some 30),.load false 1 (.tmp 29),none⟩,⟨(some 31),.mv (.tmp 2),none⟩,⟨(some 32),.call 369 [(.tmp 30),(.tmp 31)],none⟩,⟨(some 25),.mv (.tmp 32),none⟩,⟨(some 33),.extract (.tmp 25) 0,none⟩,⟨(some 34),.extract (.tmp 25) 1,none⟩,⟨(some 9),.mv (.tmp 33),none⟩,⟨(some 10),.mv (.tmp 34),none⟩])
 (.seq (.region [⟨(some 35),.mv (.tmp 10),none⟩,⟨(some 36),.bin .neq (.tmp 35) (.const (.int .i64 0)),none⟩])
 (.cond (.tmp 36) (.seq (.region [⟨(some 37),.mv (.tmp 10),none⟩,⟨(some 6),.mv (.const (.int .u64 0)),none⟩,⟨(some 7),.mv (.const (.bool false)),none⟩,⟨(some 8),.mv (.tmp 37),none⟩])
 .ret) .skip)))
 (.seq (.region [⟨(some 38),.mv (.tmp 0),none⟩,⟨(some 39),.nilCheck (.tmp 38),none⟩,⟨(some 40),.faddr 0 (.tmp 39),none⟩,⟨(some 41),.faddr 1 (.tmp 40),none⟩,⟨(some 42),.load false 1 (.tmp 41),none⟩,⟨(some 43),.call 370 [(.tmp 42)],none⟩])
 (.seq (.region [⟨(some 44),.mv (.tmp 0),none⟩,⟨(some 45),.nilCheck (.tmp 44),none⟩,⟨(some 46),.faddr 0 (.tmp 45),none⟩,⟨(some 47),.faddr 2 (.tmp 46),none⟩,⟨(some 48),.load false 1 (.tmp 47),none⟩,⟨(some 49),.call 371 [(.tmp 48)],none⟩])
 (.seq (.region [⟨(some 51),.mv (.tmp 0),none⟩,⟨(some 52),.nilCheck (.tmp 51),none⟩,⟨(some 53),.faddr 0 (.tmp 52),none⟩,⟨(some 54),.faddr 2 (.tmp 53),none⟩,⟨(some 55),.load false 1 (.tmp 54),none⟩,⟨(some 56),.mv (.tmp 1),none⟩,⟨(some 57),.call 368 [(.tmp 55),(.tmp 56)],none⟩,⟨(some 50),.mv (.tmp 57),none⟩,⟨(some 58),.extract (.tmp 50) 0,none⟩,⟨(some 59),.extract (.tmp 50) 1,none⟩,⟨(some 6),.mv (.tmp 58),none⟩,⟨(some 8),.mv (.tmp 59),none⟩])
 (.seq (.region [⟨(some 60),.mv (.tmp 6),none⟩,⟨(some 61),.mv (.tmp 8),none⟩,⟨(some 62),.bin .eql (.tmp 61) (.const (.int .i64 0)),none⟩,⟨(some 63),.mv (.tmp 8),none⟩,⟨(some 6),.mv (.tmp 60),none⟩,⟨(some 7),.mv (.tmp 62),none⟩,⟨(some 8),.mv (.tmp 63),none⟩])
 .ret))))))))⟩
theorem k309 : compFn Tryz.prog Tryz.f309 = some c309 := by kernel_rfl
-- croft/bits.Of
def c311 : AFunc := ⟨[.tmp 4],(.seq (.region [⟨(some 4),.mv (.const (.ptr none)),none⟩])
 (.seq (.region [⟨(some 8),.mv (.tmp 1),none⟩,⟨(some 9),.call 372 [(.tmp 8)],none⟩,⟨(some 7),.mv (.tmp 9),none⟩,⟨(some 10),.extract (.tmp 7) 0,none⟩,⟨(some 11),.extract (.tmp 7) 1,none⟩,⟨(some 1),.mv (.tmp 10),none⟩,⟨(some 5),.mv (.tmp 11),none⟩])
 (.seq (.region [⟨(some 12),.mv (.tmp 1),none⟩,⟨(some 13),.mv (.tmp 5),none⟩,⟨(some 14),.makeSlice 1 8 [(.int .u64 0)] (.tmp 13) (.tmp 13),none⟩,⟨(some 15),.build [(.int .i64 0),(.slice none 0 0)] [(0,1,(.tmp 12)),(1,1,(.tmp 14))],none⟩,⟨(some 16),.box 2 (.tmp 15),none⟩,⟨(some 6),.mv (.tmp 16),none⟩])
 (.seq (.region [⟨(some 17),.mv (.tmp 6),none⟩,⟨(some 18),.nilCheck (.tmp 17),none⟩,⟨(some 19),.faddr 1 (.tmp 18),none⟩,⟨(some 20),.load false 1 (.tmp 19),none⟩,⟨(some 21),.mv (.tmp 0),none⟩,⟨(some 22),.copy 1 (.tmp 20) (.tmp 21),none⟩])
 (.seq (.region [⟨(some 23),.mv (.tmp 6),none⟩,⟨(some 24),.call 373 [(.tmp 23)],none⟩])
 (.seq (.region [⟨(some 25),.mv (.tmp 6),none⟩,⟨(some 4),.mv (.tmp 25),none⟩])
 .ret))))))⟩
theorem k311 : compFn Tryz.prog Tryz.f311 = some c311 := by kernel_rfl
-- croft/links.New
def c312 : AFunc := ⟨[.tmp 4],(.seq (.region [⟨(some 4),.mv (.const (.ptr none)),none⟩])
 (.seq (.region [⟨(some 5),.mv (.tmp 0),none⟩,⟨(some 6),.mv (.tmp 1),none⟩,⟨(some 7),.build [(.ptr none),(.int .u64 0)] [(0,1,(.tmp 5)),(1,1,(.tmp 6))],none⟩,⟨(some 8),.box 2 (.tmp 7),none⟩,⟨(some 4),.mv (.tmp 8),none⟩])
 .ret))⟩
theorem k312 : compFn Tryz.prog Tryz.f312 = some c312 := by kernel_rfl
-- (*croft/slab.Slab).find
def c322 : AFunc := ⟨[.tmp 4,.tmp 5,.cell 6 true 11,.tmp 7],(.seq (.region [⟨(some 4),.mv (.const (.int .i64 0)),none⟩,⟨(some 5),.mv (.const (.int .i64 0)),none⟩,⟨(some 6),.alloc [(.int .i64 0),(.int .i64 0),(.int .i64 0),(.int .i64 0),(.int .i64 0),(.int .i64 0),(.int .i64 0),(.int .u64 0),(.int .u64 0),(.int .u64 0),(.int .u64 0)],none⟩,⟨(some 7),.mv (.const (.bool false)),none⟩])
 (.seq (.region [⟨(some 11),.mv (.tmp 0),none⟩,⟨(some 12),.nilCheck (.tmp 11),none⟩,⟨(some 13),.faddr 0 (.tmp 12),none⟩,⟨(some 14),.load false 1 (.tmp 13),none⟩,⟨(some 15),.nilCheck (.tmp 14),none⟩,⟨(some 16),.faddr 0 (.tmp 15),none⟩,⟨(some 17),.call 116 [(.tmp 16)],none⟩,⟨(some 18),.mv (.tmp 0),none⟩,⟨(some 19),.call 324 [(.tmp 18)],none⟩,⟨(some 8),.mv (.tmp 17),none⟩,⟨(some 9),.mv (.tmp 19),none⟩])
 (.seq (.seq (.region [⟨(some 20),.mv (.tmp 1),none⟩,⟨(some 21),.mv (.tmp 9),none⟩,⟨(some 22),.bin .lss (.tmp 20) (.tmp 21),none⟩,⟨(some 23),.mv (.tmp 22),none⟩,⟨(some 24),.mv (.tmp 1),some (23,false)⟩,⟨(some 25),.mv (.tmp 9),some (23,false)⟩,⟨(some 26),.bin .sub (.tmp 24) (.tmp 25),some (23,false)⟩,⟨(some 27),.bin .quo (.tmp 26) (.const (.int .u64 4096)),some (23,false)⟩,⟨(some 28),.mv (.tmp 8),some (23,false)⟩,⟨(some 29),.call 117 [(.tmp 28)],some (23,false)⟩,⟨(some 30),.conv .u64 (.tmp 29),some (23,false)⟩,⟨(some 31),.bin .geq (.tmp 27) (.tmp 30),some (23,false)⟩,⟨(some 32),.pick (.tmp 23) (.const (.bool true)) (.tmp 31),none⟩])
 (.cond (.tmp 32) (.seq (.draw [⟨⟨(some 33),.load true 11 (.tmp 6),none⟩,0,0⟩,⟨⟨(some 4),.mv (.const (.int .i64 0)),none⟩,0,0⟩,⟨⟨(some 5),.mv (.const (.int .i64 0)),none⟩,0,0⟩,⟨⟨none,.store 11 (.tmp 6) (.tmp 33),none⟩,0,1⟩,⟨⟨(some 7),.mv (.const (.bool false)),none⟩,1,1⟩])
 .ret) .skip))
 (.seq (.region [⟨(some 34),.mv (.tmp 1),none⟩,⟨(some 35),.mv (.tmp 9),none⟩,⟨(some 36),.bin .sub (.tmp 34) (.tmp 35),none⟩,⟨(some 37),.bin .quo (.tmp 36) (.const (.int .u64 4096)),none⟩,⟨(some 38),.conv .i64 (.tmp 37),none⟩,⟨(some 4),.mv (.tmp 38),none⟩])
 (.seq (.region [⟨(some 40),.mv (.tmp 8),none⟩,⟨(some 41),.mv (.tmp 4),none⟩,⟨(some 42),.call 118 [(.tmp 40),(.tmp 41)],none⟩,⟨(some 39),.mv (.tmp 42),none⟩,⟨(some 43),.extract (.tmp 39) 0,none⟩,⟨(some 44),.extract (.tmp 39) 1,none⟩,⟨none,.store 11 (.tmp 6) (.tmp 43),none⟩])
 (.seq (.region [⟨(some 45),.mv (.tmp 1),none⟩,⟨(some 46),.mv (.tmp 9),none⟩,⟨(some 47),.bin .sub (.tmp 45) (.tmp 46),none⟩,⟨(some 48),.bin .rem (.tmp 47) (.const (.int .u64 4096)),none⟩,⟨(some 10),.mv (.tmp 48),none⟩])
 (.seq (.seq (.region [⟨(some 49),.faddr 0 (.tmp 6),none⟩,⟨(some 50),.load false 1 (.tmp 49),none⟩,⟨(some 51),.bin .neq (.tmp 50) (.const (.int .i64 4)),none⟩,⟨(some 52),.mv (.tmp 51),none⟩,⟨(some 53),.mv (.tmp 10),some (52,false)⟩,⟨(some 54),.faddr 2 (.tmp 6),some (52,false)⟩,⟨(some 55),.load false 1 (.tmp 54),some (52,false)⟩,⟨(some 56),.iaddrA 8 1 (.glob 1) (.tmp 55),some (52,false)⟩,⟨(some 57),.load false 1 (.tmp 56),some (52,false)⟩,⟨(some 58),.bin .rem (.tmp 53) (.tmp 57),some (52,false)⟩,⟨(some 59),.bin .neq (.tmp 58) (.const (.int .u64 0)),some (52,false)⟩,⟨(some 60),.pick (.tmp 52) (.const (.bool true)) (.tmp 59),none⟩])
 (.cond (.tmp 60) (.seq (.draw [⟨⟨(some 61),.load true 11 (.tmp 6),none⟩,0,0⟩,⟨⟨(some 4),.mv (.const (.int .i64 0)),none⟩,0,0⟩,⟨⟨(some 5),.mv (.const (.int .i64 0)),none⟩,0,0⟩,⟨⟨none,.store 11 (.tmp 6) (.tmp 61),none⟩,0,1⟩,⟨⟨(some 7),.mv (.const (.bool false)),none⟩,1,1⟩])
 .ret) .skip))
 (.seq (.region [⟨(some 62),.mv (.tmp 10),none⟩,⟨(some 63),.faddr 2 (.tmp 6),none⟩,⟨(some 64),.load false 1 (.tmp 63),none⟩,⟨(some 65),.iaddrA 8 1 (.glob 1) (.tmp 64),none⟩,⟨(some 66),.load false 1 (.tmp 65),none⟩,⟨(some 67),.bin .quo (.tmp 62) (.tmp 66),none⟩,⟨(some 68),.conv .i64 (.tmp 67),none⟩,⟨(some 5),.mv (.tmp 68),none⟩])
 (.seq (.draw [⟨⟨(some 69),.mv (.tmp 4),none⟩,0,0⟩,⟨⟨(some 70),.mv (.tmp 5),none⟩,0,0⟩,⟨⟨(some 71),.load true 11 (.tmp 6),none⟩,0,0⟩,⟨⟨(some 72),.mv (.tmp 5),none⟩,0,0⟩,⟨⟨(some 73),.bin .quo (.tmp 72) (.const (.int .i64 64)),none⟩,0,0⟩,⟨⟨(some 74),.faddr 7 (.tmp 6),none⟩,0,0⟩,⟨⟨(some 75),.iaddrA 4 1 (.tmp 74) (.tmp 73),none⟩,0,0⟩,⟨⟨(some 76),.load false 1 (.tmp 75),none⟩,0,0⟩,⟨⟨(some 77),.mv (.tmp 5),none⟩,0,0⟩,⟨⟨(some 78),.bin .rem (.tmp 77) (.const (.int .i64 64)),none⟩,0,1⟩,⟨⟨(some 79),.bin .shr (.tmp 76) (.tmp 78),none⟩,0,1⟩,⟨⟨(some 80),.bin .and (.tmp 79) (.const (.int .u64 1)),none⟩,0,1⟩,⟨⟨(some 81),.bin .eql (.tmp 80) (.const (.int .u64 1)),none⟩,0,1⟩,⟨⟨(some 4),.mv (.tmp 69),none⟩,0,0⟩,⟨⟨(some 5),.mv (.tmp 70),none⟩,0,0⟩,⟨⟨none,.store 11 (.tmp 6) (.tmp 71),none⟩,0,1⟩,⟨⟨(some 7),.mv (.tmp 81),none⟩,1,1⟩])
 .ret)))))))))⟩
theorem k322 : compFn Tryz.prog Tryz.f322 = some c322 := by kernel_rfl
end
end Go.Proofs.YtdnefddmghhgpaaGreatDoor
