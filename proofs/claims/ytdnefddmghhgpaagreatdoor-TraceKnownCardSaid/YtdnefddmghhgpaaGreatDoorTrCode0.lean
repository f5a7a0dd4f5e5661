import Derived.Test.YtdnefddmghhgpaaGreatDoorLink
set_option maxRecDepth 1000000
set_option maxHeartbeats 4000000
set_option linter.unusedVariables false
namespace Go.Proofs.YtdnefddmghhgpaaGreatDoor
open AM Go
noncomputable section
-- croft/croftlaw17.TraceKnown
def c8 : AFunc := ⟨[.tmp 0],(.seq (.region [⟨(some 0),.mv (.const (.bool false)),none⟩])
 (.seq (.region [⟨(some 24),.build [(.int .u64 0),(.int .i64 0),(.int .i64 0)] [(0,1,(.const (.int .u64 65536))),(1,1,(.const (.int .i64 1))),(2,1,(.const (.int .i64 0)))],none⟩,⟨(some 25),.call 64 [(.tmp 24)],none⟩,⟨(some 1),.mv (.tmp 25),none⟩])
 (.seq (.seq (.region [⟨(some 26),.mv (.tmp 1),none⟩,⟨(some 27),.eq1 false .ptr (.tmp 26) (.const (.ptr none)),none⟩,⟨(some 28),.mv (.tmp 27),none⟩,⟨(some 29),.call 65 [],some (28,false)⟩,⟨(some 30),.not (.tmp 29),some (28,false)⟩,⟨(some 31),.pick (.tmp 28) (.const (.bool true)) (.tmp 30),none⟩,⟨(some 32),.mv (.tmp 31),none⟩,⟨(some 33),.pick (.tmp 32) (.const (.bool true)) (.const (.bool false)),none⟩,⟨(some 34),.mv (.tmp 33),none⟩,⟨(some 35),.pick (.tmp 34) (.const (.bool true)) (.const (.bool false)),none⟩,⟨(some 36),.mv (.tmp 35),none⟩,⟨(some 37),.pick (.tmp 36) (.const (.bool true)) (.const (.bool false)),none⟩,⟨(some 38),.mv (.tmp 37),none⟩,⟨(some 39),.pick (.tmp 38) (.const (.bool true)) (.const (.bool false)),none⟩])
 (.cond (.tmp 39) (.seq (.region [⟨(some 0),.mv (.const (.bool false)),none⟩])
 .ret) .skip))
 (.seq (.region [⟨(some 40),.mv (.tmp 1),none⟩,⟨(some 41),.nilCheck (.tmp 40),none⟩,⟨(some 42),.faddr 4 (.tmp 41),none⟩,⟨(some 43),.load false 1 (.tmp 42),none⟩,⟨(some 2),.mv (.tmp 43),none⟩])
 (.seq (.region [⟨(some 45),.mv (.tmp 2),none⟩,⟨(some 46),.call 66 [(.tmp 45),(.const (.int .i64 (-1))),(.const (.int .i64 0)),(.const (.bool false))],none⟩,⟨(some 44),.mv (.tmp 46),none⟩,⟨(some 47),.extract (.tmp 44) 0,none⟩,⟨(some 48),.extract (.tmp 44) 1,none⟩,⟨(some 3),.mv (.tmp 47),none⟩,⟨(some 4),.mv (.tmp 48),none⟩])
 (.seq (.region [⟨(some 50),.mv (.tmp 2),none⟩,⟨(some 51),.call 66 [(.tmp 50),(.const (.int .i64 0)),(.const (.int .i64 0)),(.const (.bool true))],none⟩,⟨(some 49),.mv (.tmp 51),none⟩,⟨(some 52),.extract (.tmp 49) 0,none⟩,⟨(some 53),.extract (.tmp 49) 1,none⟩,⟨(some 5),.mv (.tmp 52),none⟩,⟨(some 6),.mv (.tmp 53),none⟩])
 (.seq (.region [⟨(some 55),.mv (.tmp 2),none⟩,⟨(some 56),.call 66 [(.tmp 55),(.const (.int .i64 600)),(.const (.int .i64 0)),(.const (.bool false))],none⟩,⟨(some 54),.mv (.tmp 56),none⟩,⟨(some 57),.extract (.tmp 54) 0,none⟩,⟨(some 58),.extract (.tmp 54) 1,none⟩,⟨(some 7),.mv (.tmp 57),none⟩,⟨(some 8),.mv (.tmp 58),none⟩])
 (.seq (.region [⟨(some 60),.mv (.tmp 2),none⟩,⟨(some 61),.call 67 [(.tmp 60),(.const (.int .u64 65536)),(.const (.int .i64 0))],none⟩,⟨(some 59),.mv (.tmp 61),none⟩,⟨(some 62),.extract (.tmp 59) 0,none⟩,⟨(some 63),.extract (.tmp 59) 1,none⟩,⟨(some 9),.mv (.tmp 62),none⟩,⟨(some 10),.mv (.tmp 63),none⟩])
 (.seq (.seq (.region [⟨(some 64),.mv (.tmp 3),none⟩,⟨(some 65),.bin .neq (.tmp 64) (.const (.int .u64 0)),none⟩,⟨(some 66),.mv (.tmp 65),none⟩,⟨(some 67),.mv (.tmp 4),some (66,false)⟩,⟨(some 68),.bin .neq (.tmp 67) (.const (.int .i64 1)),some (66,false)⟩,⟨(some 69),.pick (.tmp 66) (.const (.bool true)) (.tmp 68),none⟩,⟨(some 70),.mv (.tmp 69),none⟩,⟨(some 71),.mv (.tmp 5),some (70,false)⟩,⟨(some 72),.bin .neq (.tmp 71) (.const (.int .u64 0)),some (70,false)⟩,⟨(some 73),.pick (.tmp 70) (.const (.bool true)) (.tmp 72),none⟩,⟨(some 74),.mv (.tmp 73),none⟩,⟨(some 75),.mv (.tmp 6),some (74,false)⟩,⟨(some 76),.bin .neq (.tmp 75) (.const (.int .i64 2)),some (74,false)⟩,⟨(some 77),.pick (.tmp 74) (.const (.bool true)) (.tmp 76),none⟩,⟨(some 78),.mv (.tmp 77),none⟩,⟨(some 79),.mv (.tmp 7),some (78,false)⟩,⟨(some 80),.bin .neq (.tmp 79) (.const (.int .u64 0)),some (78,false)⟩,⟨(some 81),.pick (.tmp 78) (.const (.bool true)) (.tmp 80),none⟩,⟨(some 82),.mv (.tmp 81),none⟩,⟨(some 83),.mv (.tmp 8),some (82,false)⟩,⟨(some 84),.bin .neq (.tmp 83) (.const (.int .i64 3)),some (82,false)⟩,⟨(some 85),.pick (.tmp 82) (.const (.bool true)) (.tmp 84),none⟩,⟨(some 86),.mv (.tmp 85),none⟩,⟨(some 87),.mv (.tmp 9),some (86,false)⟩,⟨(some 88),.bin .neq (.tmp 87) (.const (.int .u64 0)),some (86,false)⟩,⟨(some 89),.pick (.tmp 86) (.const (.bool true)) (.tmp 88),none⟩,⟨(some 90),.mv (.tmp 89),none⟩,⟨(some 91),.mv (.tmp 10),some (90,false)⟩,⟨(some 92),.bin .neq (.tmp 91) (.const (.int .i64 1)),some (90,false)⟩,⟨(some 93),.pick (.tmp 90) (.const (.bool true)) (.tmp 92),none⟩])
 (.cond (.tmp 93) (.seq (.region [⟨(some 0),.mv (.const (.bool false)),none⟩])
 .ret) .skip))
 (.seq (.region [⟨(some 95),.mv (.tmp 2),none⟩,⟨(some 96),.call 66 [(.tmp 95),(.const (.int .i64 1)),(.const (.int .i64 8)),(.const (.bool false))],none⟩,⟨(some 94),.mv (.tmp 96),none⟩,⟨(some 97),.extract (.tmp 94) 0,none⟩,⟨(some 98),.extract (.tmp 94) 1,none⟩,⟨(some 11),.mv (.tmp 97),none⟩,⟨(some 12),.mv (.tmp 98),none⟩])
 (.seq (.region [⟨(some 100),.mv (.tmp 2),none⟩,⟨(some 101),.call 66 [(.tmp 100),(.const (.int .i64 1)),(.const (.int .i64 0)),(.const (.bool false))],none⟩,⟨(some 99),.mv (.tmp 101),none⟩,⟨(some 102),.extract (.tmp 99) 0,none⟩,⟨(some 103),.extract (.tmp 99) 1,none⟩,⟨(some 13),.mv (.tmp 102),none⟩,⟨(some 14),.mv (.tmp 103),none⟩])
 (.seq (.region [⟨(some 105),.mv (.tmp 2),none⟩,⟨(some 106),.call 66 [(.tmp 105),(.const (.int .i64 0)),(.const (.int .i64 3)),(.const (.bool false))],none⟩,⟨(some 104),.mv (.tmp 106),none⟩,⟨(some 107),.extract (.tmp 104) 0,none⟩,⟨(some 108),.extract (.tmp 104) 1,none⟩,⟨(some 15),.mv (.tmp 107),none⟩,⟨(some 16),.mv (.tmp 108),none⟩])
 (.seq (.seq (.region [⟨(some 109),.mv (.tmp 2),none⟩,⟨(some 110),.mv (.tmp 11),none⟩,⟨(some 111),.mv (.tmp 13),none⟩,⟨(some 112),.call 68 [(.tmp 109),(.tmp 110),(.const (.int .i64 0)),(.tmp 111)],none⟩,⟨(some 113),.bin .neq (.tmp 112) (.const (.int .i64 0)),none⟩,⟨(some 114),.mv (.tmp 113),none⟩,⟨(some 115),.mv (.tmp 2),some (114,false)⟩,⟨(some 116),.mv (.tmp 11),some (114,false)⟩,⟨(some 117),.call 68 [(.tmp 115),(.tmp 116),(.const (.int .i64 1)),(.const (.int .u64 0))],some (114,false)⟩,⟨(some 118),.bin .neq (.tmp 117) (.const (.int .i64 1)),some (114,false)⟩,⟨(some 119),.pick (.tmp 114) (.const (.bool true)) (.tmp 118),none⟩,⟨(some 120),.mv (.tmp 119),none⟩,⟨(some 121),.mv (.tmp 2),some (120,false)⟩,⟨(some 122),.mv (.tmp 11),some (120,false)⟩,⟨(some 123),.call 68 [(.tmp 121),(.tmp 122),(.const (.int .i64 0)),(.const (.int .u64 65537))],some (120,false)⟩,⟨(some 124),.bin .neq (.tmp 123) (.const (.int .i64 1)),some (120,false)⟩,⟨(some 125),.pick (.tmp 120) (.const (.bool true)) (.tmp 124),none⟩,⟨(some 126),.mv (.tmp 125),none⟩,⟨(some 127),.mv (.tmp 2),some (126,false)⟩,⟨(some 128),.mv (.tmp 13),some (126,false)⟩,⟨(some 129),.mv (.tmp 11),some (126,false)⟩,⟨(some 130),.call 68 [(.tmp 127),(.tmp 128),(.const (.int .i64 0)),(.tmp 129)],some (126,false)⟩,⟨(some 131),.bin .neq (.tmp 130) (.const (.int .i64 0)),some (126,false)⟩,⟨(some 132),.pick (.tmp 126) (.const (.bool true)) (.tmp 131),none⟩,⟨(some 133),.mv (.tmp 132),none⟩,⟨(some 134),.mv (.tmp 2),some (133,false)⟩,⟨(some 135),.mv (.tmp 11),some (133,false)⟩,⟨(some 136),.mkSlice 3 1 [(.int .u8 0)] [(0,1,(.const (.int .u8 1))),(1,1,(.const (.int .u8 2))),(2,1,(.const (.int .u8 3)))],some (133,false)⟩,⟨(some 137),.call 69 [(.tmp 134),(.tmp 135),(.const (.int .i64 0)),(.tmp 136)],some (133,false)⟩,⟨(some 138),.bin .neq (.tmp 137) (.const (.int .i64 0)),some (133,false)⟩,⟨(some 139),.pick (.tmp 133) (.const (.bool true)) (.tmp 138),none⟩,⟨(some 140),.mv (.tmp 139),none⟩,⟨(some 141),.mv (.tmp 2),some (140,false)⟩,⟨(some 142),.mv (.tmp 11),some (140,false)⟩,⟨(some 143),.mkSlice 3 1 [(.int .u8 0)] [(0,1,(.const (.int .u8 1))),(1,1,(.const (.int .u8 2))),(2,1,(.const (.int .u8 3)))],some (140,false)⟩,⟨(some 144),.call 69 [(.tmp 141),(.tmp 142),(.const (.int .i64 6)),(.tmp 143)],some (140,false)⟩,⟨(some 145),.bin .neq (.tmp 144) (.const (.int .i64 4)),some (140,false)⟩,⟨(some 146),.pick (.tmp 140) (.const (.bool true)) (.tmp 145),none⟩])
 (.cond (.tmp 146) (.seq (.region [⟨(some 0),.mv (.const (.bool false)),none⟩])
 .ret) .skip))
 (.seq (.region [⟨(some 148),.mv (.tmp 2),none⟩,⟨(some 149),.mv (.tmp 11),none⟩,⟨(some 150),.call 67 [(.tmp 148),(.tmp 149),(.const (.int .i64 0))],none⟩,⟨(some 147),.mv (.tmp 150),none⟩,⟨(some 151),.extract (.tmp 147) 0,none⟩,⟨(some 152),.extract (.tmp 147) 1,none⟩,⟨(some 9),.mv (.tmp 151),none⟩,⟨(some 10),.mv (.tmp 152),none⟩])
 (.seq (.region [⟨(some 154),.mv (.tmp 2),none⟩,⟨(some 155),.mv (.tmp 11),none⟩,⟨(some 156),.call 70 [(.tmp 154),(.tmp 155),(.const (.int .i64 0)),(.const (.int .i64 8))],none⟩,⟨(some 153),.mv (.tmp 156),none⟩,⟨(some 157),.extract (.tmp 153) 0,none⟩,⟨(some 158),.extract (.tmp 153) 1,none⟩,⟨(some 17),.mv (.tmp 157),none⟩,⟨(some 4),.mv (.tmp 158),none⟩])
 (.seq (.seq (.region [⟨(some 159),.mv (.tmp 9),none⟩,⟨(some 160),.mv (.tmp 13),none⟩,⟨(some 161),.bin .neq (.tmp 159) (.tmp 160),none⟩,⟨(some 162),.mv (.tmp 161),none⟩,⟨(some 163),.mv (.tmp 10),some (162,false)⟩,⟨(some 164),.bin .neq (.tmp 163) (.const (.int .i64 0)),some (162,false)⟩,⟨(some 165),.pick (.tmp 162) (.const (.bool true)) (.tmp 164),none⟩,⟨(some 166),.mv (.tmp 165),none⟩,⟨(some 167),.mv (.tmp 4),some (166,false)⟩,⟨(some 168),.bin .neq (.tmp 167) (.const (.int .i64 0)),some (166,false)⟩,⟨(some 169),.pick (.tmp 166) (.const (.bool true)) (.tmp 168),none⟩,⟨(some 170),.mv (.tmp 169),none⟩,⟨(some 171),.mv (.tmp 17),some (170,false)⟩,⟨(some 172),.mkSlice 8 1 [(.int .u8 0)] [(0,1,(.const (.int .u8 1))),(1,1,(.const (.int .u8 2))),(2,1,(.const (.int .u8 3))),(3,1,(.const (.int .u8 0))),(4,1,(.const (.int .u8 0))),(5,1,(.const (.int .u8 0))),(6,1,(.const (.int .u8 0))),(7,1,(.const (.int .u8 0)))],some (170,false)⟩,⟨(some 173),.call 71 [(.tmp 171),(.tmp 172)],some (170,false)⟩,⟨(some 174),.not (.tmp 173),some (170,false)⟩,⟨(some 175),.pick (.tmp 170) (.const (.bool true)) (.tmp 174),none⟩,⟨(some 176),.mv (.tmp 175),none⟩,⟨(some 177),.mv (.tmp 2),some (176,false)⟩,⟨(some 178),.mv (.tmp 11),some (176,false)⟩,⟨(some 179),.call 72 [(.tmp 177),(.const (.str [97])),(.tmp 178)],some (176,false)⟩,⟨(some 180),.bin .neq (.tmp 179) (.const (.int .i64 0)),some (176,false)⟩,⟨(some 181),.pick (.tmp 176) (.const (.bool true)) (.tmp 180),none⟩,⟨(some 182),.mv (.tmp 181),none⟩,⟨(some 183),.mv (.tmp 2),some (182,false)⟩,⟨(some 184),.call 72 [(.tmp 183),(.const (.str [97])),(.const (.int .u64 7))],some (182,false)⟩,⟨(some 185),.bin .neq (.tmp 184) (.const (.int .i64 1)),some (182,false)⟩,⟨(some 186),.pick (.tmp 182) (.const (.bool true)) (.tmp 185),none⟩])
 (.cond (.tmp 186) (.seq (.region [⟨(some 0),.mv (.const (.bool false)),none⟩])
 .ret) .skip))
 (.seq (.region [⟨(some 188),.mv (.tmp 2),none⟩,⟨(some 189),.mv (.tmp 15),none⟩,⟨(some 190),.call 73 [(.tmp 188),(.tmp 189)],none⟩,⟨(some 187),.mv (.tmp 190),none⟩,⟨(some 191),.extract (.tmp 187) 0,none⟩,⟨(some 192),.extract (.tmp 187) 1,none⟩,⟨(some 18),.mv (.tmp 191),none⟩,⟨(some 19),.mv (.tmp 192),none⟩])
 (.seq (.region [⟨(some 194),.mv (.tmp 2),none⟩,⟨(some 195),.mv (.tmp 13),none⟩,⟨(some 196),.call 73 [(.tmp 194),(.tmp 195)],none⟩,⟨(some 193),.mv (.tmp 196),none⟩,⟨(some 197),.extract (.tmp 193) 0,none⟩,⟨(some 198),.extract (.tmp 193) 1,none⟩,⟨(some 20),.mv (.tmp 197),none⟩,⟨(some 21),.mv (.tmp 198),none⟩])
 (.seq (.region [⟨(some 200),.mv (.tmp 2),none⟩,⟨(some 201),.call 74 [(.tmp 200),(.const (.int .i64 1))],none⟩,⟨(some 199),.mv (.tmp 201),none⟩,⟨(some 202),.extract (.tmp 199) 0,none⟩,⟨(some 203),.extract (.tmp 199) 1,none⟩,⟨(some 3),.mv (.tmp 202),none⟩])
 (.seq (.region [⟨(some 205),.mv (.tmp 2),none⟩,⟨(some 206),.call 74 [(.tmp 205),(.const (.int .i64 3))],none⟩,⟨(some 204),.mv (.tmp 206),none⟩,⟨(some 207),.extract (.tmp 204) 0,none⟩,⟨(some 208),.extract (.tmp 204) 1,none⟩,⟨(some 6),.mv (.tmp 208),none⟩])
 (.seq (.region [⟨(some 209),.mv (.tmp 2),none⟩,⟨(some 210),.call 75 [(.tmp 209)],none⟩,⟨(some 22),.alloc [(.int .i64 0),(.slice none 0 0),(.int .u64 0)],none⟩,⟨none,.store 3 (.tmp 22) (.tmp 210),none⟩])
 (.seq (.region [⟨(some 212),.mv (.tmp 2),none⟩,⟨(some 213),.call 74 [(.tmp 212),(.const (.int .i64 1))],none⟩,⟨(some 211),.mv (.tmp 213),none⟩,⟨(some 214),.extract (.tmp 211) 0,none⟩,⟨(some 215),.extract (.tmp 211) 1,none⟩,⟨(some 5),.mv (.tmp 214),none⟩])
 (.seq (.region [⟨(some 217),.mv (.tmp 2),none⟩,⟨(some 218),.call 66 [(.tmp 217),(.const (.int .i64 0)),(.const (.int .i64 1)),(.const (.bool false))],none⟩,⟨(some 216),.mv (.tmp 218),none⟩,⟨(some 219),.extract (.tmp 216) 0,none⟩,⟨(some 220),.extract (.tmp 216) 1,none⟩,⟨(some 7),.mv (.tmp 219),none⟩])
 (.seq (.region [⟨(some 222),.mv (.tmp 2),none⟩,⟨(some 223),.call 74 [(.tmp 222),(.const (.int .i64 1))],none⟩,⟨(some 221),.mv (.tmp 223),none⟩,⟨(some 224),.extract (.tmp 221) 0,none⟩,⟨(some 225),.extract (.tmp 221) 1,none⟩,⟨(some 9),.mv (.tmp 224),none⟩])
 (.seq (.seq (.region [⟨(some 226),.mv (.tmp 18),none⟩,⟨(some 227),.bin .neq (.tmp 226) (.const (.int .i64 1)),none⟩,⟨(some 228),.mv (.tmp 227),none⟩,⟨(some 229),.mv (.tmp 20),some (228,false)⟩,⟨(some 230),.bin .neq (.tmp 229) (.const (.int .i64 2)),some (228,false)⟩,⟨(some 231),.pick (.tmp 228) (.const (.bool true)) (.tmp 230),none⟩,⟨(some 232),.mv (.tmp 231),none⟩,⟨(some 233),.mv (.tmp 3),some (232,false)⟩,⟨(some 234),.mv (.tmp 15),some (232,false)⟩,⟨(some 235),.bin .neq (.tmp 233) (.tmp 234),some (232,false)⟩,⟨(some 236),.pick (.tmp 232) (.const (.bool true)) (.tmp 235),none⟩,⟨(some 237),.mv (.tmp 236),none⟩,⟨(some 238),.mv (.tmp 6),some (237,false)⟩,⟨(some 239),.bin .neq (.tmp 238) (.const (.int .i64 1)),some (237,false)⟩,⟨(some 240),.pick (.tmp 237) (.const (.bool true)) (.tmp 239),none⟩,⟨(some 241),.mv (.tmp 240),none⟩,⟨(some 242),.faddr 0 (.tmp 22),some (241,false)⟩,⟨(some 243),.load false 1 (.tmp 242),some (241,false)⟩,⟨(some 244),.bin .neq (.tmp 243) (.const (.int .i64 1)),some (241,false)⟩,⟨(some 245),.pick (.tmp 241) (.const (.bool true)) (.tmp 244),none⟩,⟨(some 246),.mv (.tmp 245),none⟩,⟨(some 247),.faddr 2 (.tmp 22),some (246,false)⟩,⟨(some 248),.load false 1 (.tmp 247),some (246,false)⟩,⟨(some 249),.bin .neq (.tmp 248) (.const (.int .u64 16)),some (246,false)⟩,⟨(some 250),.pick (.tmp 246) (.const (.bool true)) (.tmp 249),none⟩,⟨(some 251),.mv (.tmp 250),none⟩,⟨(some 252),.mv (.tmp 5),some (251,false)⟩,⟨(some 253),.bin .neq (.tmp 252) (.const (.int .u64 0)),some (251,false)⟩,⟨(some 254),.pick (.tmp 251) (.const (.bool true)) (.tmp 253),none⟩,⟨(some 255),.mv (.tmp 254),none⟩,⟨(some 256),.mv (.tmp 7),some (255,false)⟩,⟨(some 257),.mv (.tmp 15),some (255,false)⟩,⟨(some 258),.bin .neq (.tmp 256) (.tmp 257),some (255,false)⟩,⟨(some 259),.pick (.tmp 255) (.const (.bool true)) (.tmp 258),none⟩,⟨(some 260),.mv (.tmp 259),none⟩,⟨(some 261),.mv (.tmp 9),some (260,false)⟩,⟨(some 262),.bin .neq (.tmp 261) (.const (.int .u64 0)),some (260,false)⟩,⟨(some 263),.pick (.tmp 260) (.const (.bool true)) (.tmp 262),none⟩])
 (.cond (.tmp 263) (.seq (.region [⟨(some 0),.mv (.const (.bool false)),none⟩])
 .ret) .skip))
 (.seq (.seq (.region [⟨(some 264),.mv (.tmp 2),none⟩,⟨(some 265),.mv (.tmp 13),none⟩,⟨(some 266),.call 76 [(.tmp 264),(.tmp 265)],none⟩,⟨(some 267),.bin .neq (.tmp 266) (.const (.int .i64 0)),none⟩,⟨(some 268),.mv (.tmp 267),none⟩,⟨(some 269),.mv (.tmp 2),some (268,false)⟩,⟨(some 270),.call 77 [(.tmp 269),(.const (.str [97]))],some (268,false)⟩,⟨(some 271),.bin .neq (.tmp 270) (.const (.int .i64 0)),some (268,false)⟩,⟨(some 272),.pick (.tmp 268) (.const (.bool true)) (.tmp 271),none⟩,⟨(some 273),.mv (.tmp 272),none⟩,⟨(some 274),.mv (.tmp 2),some (273,false)⟩,⟨(some 275),.call 77 [(.tmp 274),(.const (.str [97]))],some (273,false)⟩,⟨(some 276),.bin .neq (.tmp 275) (.const (.int .i64 1)),some (273,false)⟩,⟨(some 277),.pick (.tmp 273) (.const (.bool true)) (.tmp 276),none⟩])
 (.cond (.tmp 277) (.seq (.region [⟨(some 0),.mv (.const (.bool false)),none⟩])
 .ret) .skip))
 (.seq (.region [⟨(some 278),.mv (.tmp 2),none⟩,⟨(some 279),.call 75 [(.tmp 278)],none⟩,⟨none,.store 3 (.tmp 22) (.tmp 279),none⟩])
 (.seq (.region [⟨(some 281),.mv (.tmp 2),none⟩,⟨(some 282),.call 74 [(.tmp 281),(.const (.int .i64 2))],none⟩,⟨(some 280),.mv (.tmp 282),none⟩,⟨(some 283),.extract (.tmp 280) 0,none⟩,⟨(some 284),.extract (.tmp 280) 1,none⟩,⟨(some 3),.mv (.tmp 283),none⟩])
 (.seq (.region [⟨(some 285),.mv (.tmp 2),none⟩,⟨(some 286),.call 75 [(.tmp 285)],none⟩,⟨(some 23),.alloc [(.int .i64 0),(.slice none 0 0),(.int .u64 0)],none⟩,⟨none,.store 3 (.tmp 23) (.tmp 286),none⟩])
 (.seq (.region [⟨(some 287),.faddr 0 (.tmp 22),none⟩,⟨(some 288),.load false 1 (.tmp 287),none⟩,⟨(some 289),.bin .eql (.tmp 288) (.const (.int .i64 1)),none⟩,⟨(some 290),.mv (.tmp 289),none⟩,⟨(some 291),.faddr 1 (.tmp 22),some (290,true)⟩,⟨(some 292),.load false 1 (.tmp 291),some (290,true)⟩,⟨(some 293),.mv (.tmp 13),some (290,true)⟩,⟨(some 294),.mkSlice 1 1 [(.int .u64 0)] [(0,1,(.tmp 293))],some (290,true)⟩,⟨(some 295),.call 78 [(.tmp 292),(.tmp 294)],some (290,true)⟩,⟨(some 296),.pick (.tmp 290) (.tmp 295) (.const (.bool false)),none⟩,⟨(some 297),.mv (.tmp 296),none⟩,⟨(some 298),.faddr 2 (.tmp 22),some (297,true)⟩,⟨(some 299),.load false 1 (.tmp 298),some (297,true)⟩,⟨(some 300),.bin .eql (.tmp 299) (.const (.int .u64 16)),some (297,true)⟩,⟨(some 301),.pick (.tmp 297) (.tmp 300) (.const (.bool false)),none⟩,⟨(some 302),.mv (.tmp 301),none⟩,⟨(some 303),.mv (.tmp 3),some (302,true)⟩,⟨(some 304),.bin .eql (.tmp 303) (.const (.int .u64 0)),some (302,true)⟩,⟨(some 305),.pick (.tmp 302) (.tmp 304) (.const (.bool false)),none⟩,⟨(some 306),.mv (.tmp 305),none⟩,⟨(some 307),.faddr 0 (.tmp 23),some (306,true)⟩,⟨(some 308),.load false 1 (.tmp 307),some (306,true)⟩,⟨(some 309),.bin .eql (.tmp 308) (.const (.int .i64 2)),some (306,true)⟩,⟨(some 310),.pick (.tmp 306) (.tmp 309) (.const (.bool false)),none⟩,⟨(some 311),.mv (.tmp 310),none⟩,⟨(some 312),.faddr 1 (.tmp 23),some (311,true)⟩,⟨(some 313),.load false 1 (.tmp 312),some (311,true)⟩,⟨(some 314),.lenS (.tmp 313),some (311,true)⟩,⟨(some 315),.bin .eql (.tmp 314) (.const (.int .i64 0)),some (311,true)⟩,⟨(some 316),.pick (.tmp 311) (.tmp 315) (.const (.bool false)),none⟩,⟨(some 317),.mv (.tmp 316),none⟩,⟨(some 318),.faddr 2 (.tmp 23),some (317,true)⟩,⟨(some 319),.load false 1 (.tmp 318),some (317,true)⟩,⟨(some 320),.bin .eql (.tmp 319) (.const (.int .u64 32)),some (317,true)⟩,⟨(some 321),.pick (.tmp 317) (.tmp 320) (.const (.bool false)),none⟩,⟨(some 322),.mv (.tmp 321),none⟩,⟨(some 323),.mv (.tmp 2),some (322,true)⟩,⟨(some 324),.call 79 [(.tmp 323)],some (322,true)⟩,⟨(some 325),.lenS (.tmp 324),some (322,true)⟩,⟨(some 326),.bin .eql (.tmp 325) (.const (.int .i64 0)),some (322,true)⟩,⟨(some 327),.pick (.tmp 322) (.tmp 326) (.const (.bool false)),none⟩,⟨(some 0),.mv (.tmp 327),none⟩])
 .ret))))))))))))))))))))))))))))))⟩
theorem k8 : compFn Tryz.prog Tryz.f8 = some c8 := by kernel_rfl
-- croft/malloc.New
def c12 : AFunc := ⟨[.tmp 2,.tmp 3],(.seq (.region [⟨(some 1),.box 3 (.tmp 0),none⟩,⟨(some 2),.mv (.const (.ptr none)),none⟩,⟨(some 3),.mv (.const (.int .i64 0)),none⟩])
 (.seq (.region [⟨(some 7),.load true 3 (.tmp 1),none⟩,⟨(some 8),.call 104 [(.tmp 7)],none⟩,⟨(some 6),.mv (.tmp 8),none⟩,⟨(some 9),.extract (.tmp 6) 0,none⟩,⟨(some 10),.extract (.tmp 6) 1,none⟩,⟨(some 4),.mv (.tmp 9),none⟩,⟨(some 5),.mv (.tmp 10),none⟩])
 (.seq (.seq (.region [⟨(some 11),.mv (.tmp 5),none⟩,⟨(some 12),.bin .neq (.tmp 11) (.const (.int .i64 0)),none⟩])
 (.cond (.tmp 12) (.seq (.region [⟨(some 13),.mv (.tmp 5),none⟩,⟨(some 2),.mv (.const (.ptr none)),none⟩,⟨(some 3),.mv (.tmp 13),none⟩])
 .ret) .skip))
 (.seq (.draw [⟨⟨(some 14),.load true 3 (.tmp 1),none⟩,0,1⟩,⟨⟨(some 15),.mv (.tmp 4),none⟩,0,1⟩,⟨⟨(some 16),.mv (.tmp 4),none⟩,0,0⟩,⟨⟨(some 17),.call 105 [(.tmp 16)],none⟩,0,1⟩,⟨⟨(some 18),.build [(.int .i32 0),(.int .u32 0),(.int .u64 0),(.int .i64 0),(.int .i64 0),(.ptr none),(.ptr none)] [(2,3,(.tmp 14)),(5,1,(.tmp 15)),(6,1,(.tmp 17))],none⟩,1,1⟩,⟨⟨(some 19),.box 7 (.tmp 18),none⟩,1,2⟩,⟨⟨(some 2),.mv (.tmp 19),none⟩,2,2⟩,⟨⟨(some 3),.mv (.const (.int .i64 0)),none⟩,2,2⟩])
 .ret))))⟩
theorem k12 : compFn Tryz.prog Tryz.f12 = some c12 := by kernel_rfl
-- (*croft/malloc.Heap).UsableSize
def c42 : AFunc := ⟨[.tmp 4,.tmp 5],(.seq (.region [⟨(some 4),.mv (.const (.int .u64 0)),none⟩,⟨(some 5),.mv (.const (.int .i64 0)),none⟩])
 (.seq (.region [⟨(some 8),.mv (.tmp 0),none⟩,⟨(some 9),.nilCheck (.tmp 8),none⟩,⟨(some 10),.faddr 0 (.tmp 9),none⟩,⟨(some 11),.call 111 [(.tmp 10)],none⟩])
 (.seq (.region [⟨(some 12),.mv (.tmp 0),none⟩,⟨(some 13),.nilCheck (.tmp 12),none⟩,⟨(some 14),.faddr 0 (.tmp 13),none⟩,⟨none,.defer 112 [(.tmp 14)],none⟩])
 (.seq (.region [⟨(some 16),.mv (.tmp 0),none⟩,⟨(some 17),.mv (.tmp 1),none⟩,⟨(some 18),.call 147 [(.tmp 16),(.tmp 17)],none⟩,⟨(some 15),.mv (.tmp 18),none⟩,⟨(some 19),.extract (.tmp 15) 0,none⟩,⟨(some 20),.extract (.tmp 15) 1,none⟩,⟨(some 6),.alloc [(.int .u64 0),(.int .u64 0)],none⟩,⟨none,.store 2 (.tmp 6) (.tmp 19),none⟩,⟨(some 7),.mv (.tmp 20),none⟩])
 (.seq (.region [⟨(some 21),.faddr 1 (.tmp 6),none⟩,⟨(some 22),.load false 1 (.tmp 21),none⟩,⟨(some 23),.mv (.tmp 7),none⟩,⟨(some 4),.mv (.tmp 22),none⟩,⟨(some 5),.mv (.tmp 23),none⟩])
 .ret)))))⟩
theorem k42 : compFn Tryz.prog Tryz.f42 = some c42 := by kernel_rfl
-- (*croft/malloc.Heap).Read
def c44 : AFunc := ⟨[.tmp 6,.tmp 7],(.seq (.region [⟨(some 6),.mv (.const (.slice none 0 0)),none⟩,⟨(some 7),.mv (.const (.int .i64 0)),none⟩])
 (.seq (.region [⟨(some 8),.mv (.tmp 0),none⟩,⟨(some 9),.nilCheck (.tmp 8),none⟩,⟨(some 10),.faddr 0 (.tmp 9),none⟩,⟨(some 11),.call 111 [(.tmp 10)],none⟩])
 (.seq (.region [⟨(some 12),.mv (.tmp 0),none⟩,⟨(some 13),.nilCheck (.tmp 12),none⟩,⟨(some 14),.faddr 0 (.tmp 13),none⟩,⟨none,.defer 112 [(.tmp 14)],none⟩])
 (.seq (.seq (.region [⟨(some 15),.mv (.tmp 2),none⟩,⟨(some 16),.bin .eql (.tmp 15) (.const (.int .u64 0)),none⟩])
 (.cond (.tmp 16) (.seq (.region [⟨(some 6),.mv (.const (.slice none 0 0)),none⟩,⟨(some 7),.mv (.const (.int .i64 0)),none⟩])
 .ret) .skip))
 (.seq (.seq (.region [⟨(some 17),.mv (.tmp 0),none⟩,⟨(some 18),.mv (.tmp 1),none⟩,⟨(some 19),.mv (.tmp 2),none⟩,⟨(some 20),.call 148 [(.tmp 17),(.tmp 18),(.tmp 19)],none⟩,⟨(some 21),.not (.tmp 20),none⟩])
 (.cond (.tmp 21) (.seq (.region [⟨(some 6),.mv (.const (.slice none 0 0)),none⟩,⟨(some 7),.mv (.const (.int .i64 4)),none⟩])
 .ret) .skip))
 (.seq (.region [⟨(some 22),.mv (.tmp 0),none⟩,⟨(some 23),.nilCheck (.tmp 22),none⟩,⟨(some 24),.faddr 5 (.tmp 23),none⟩,⟨(some 25),.load false 1 (.tmp 24),none⟩,⟨(some 26),.nilCheck (.tmp 25),none⟩,⟨(some 27),.faddr 0 (.tmp 26),none⟩,⟨(some 28),.call 113 [(.tmp 27)],none⟩,⟨(some 29),.mv (.tmp 1),none⟩,⟨(some 30),.mv (.tmp 2),none⟩,⟨(some 31),.call 149 [(.tmp 28),(.tmp 29),(.tmp 30)],none⟩,⟨(some 32),.extract (.tmp 31) 0,none⟩,⟨(some 33),.extract (.tmp 31) 1,none⟩,⟨(some 6),.mv (.tmp 32),none⟩,⟨(some 7),.mv (.tmp 33),none⟩])
 .ret))))))⟩
theorem k44 : compFn Tryz.prog Tryz.f44 = some c44 := by kernel_rfl
-- croft/croftlaw17.begin
def c64 : AFunc := ⟨[.tmp 2],(.seq (.region [⟨(some 1),.box 3 (.tmp 0),none⟩,⟨(some 2),.mv (.const (.ptr none)),none⟩])
 (.seq (.seq (.region [⟨(some 6),.load true 3 (.tmp 1),none⟩,⟨(some 7),.call 158 [(.tmp 6)],none⟩,⟨(some 8),.not (.tmp 7),none⟩])
 (.cond (.tmp 8) (.region [⟨(some 9),.build [(.int .u64 0),(.int .i64 0),(.int .i64 0)] [(0,1,(.const (.int .u64 65536))),(1,1,(.const (.int .i64 1))),(2,1,(.const (.int .i64 0)))],none⟩,⟨none,.store 3 (.tmp 1) (.tmp 9),none⟩]) .skip))
 (.seq (.region [⟨(some 11),.load true 3 (.tmp 1),none⟩,⟨(some 12),.call 12 [(.tmp 11)],none⟩,⟨(some 10),.mv (.tmp 12),none⟩,⟨(some 13),.extract (.tmp 10) 0,none⟩,⟨(some 14),.extract (.tmp 10) 1,none⟩,⟨(some 3),.mv (.tmp 13),none⟩,⟨(some 4),.mv (.tmp 14),none⟩])
 (.seq (.seq (.region [⟨(some 15),.mv (.tmp 4),none⟩,⟨(some 16),.bin .neq (.tmp 15) (.const (.int .i64 0)),none⟩,⟨(some 17),.mv (.tmp 16),none⟩,⟨(some 18),.mv (.tmp 3),some (17,false)⟩,⟨(some 19),.eq1 false .ptr (.tmp 18) (.const (.ptr none)),some (17,false)⟩,⟨(some 20),.pick (.tmp 17) (.const (.bool true)) (.tmp 19),none⟩])
 (.cond (.tmp 20) (.seq (.region [⟨(some 2),.mv (.const (.ptr none)),none⟩])
 .ret) .skip))
 (.seq (.region [⟨(some 21),.mv (.tmp 3),none⟩,⟨(some 22),.call 171 [(.tmp 21)],none⟩,⟨(some 5),.mv (.tmp 22),none⟩])
 (.seq (.seq (.region [⟨(some 23),.mv (.tmp 5),none⟩,⟨(some 24),.eq1 false .ptr (.tmp 23) (.const (.ptr none)),none⟩])
 (.cond (.tmp 24) (.seq (.region [⟨(some 2),.mv (.const (.ptr none)),none⟩])
 .ret) .skip))
 (.seq (.region [⟨(some 25),.load true 3 (.tmp 1),none⟩,⟨(some 26),.mv (.tmp 3),none⟩,⟨(some 27),.mv (.tmp 5),none⟩,⟨(some 28),.build [(.slice none 0 0),(.slice none 0 0),(.slice none 0 0)] [],none⟩,⟨(some 29),.build [(.int .u64 0),(.int .i64 0),(.int .i64 0),(.ptr none),(.ptr none),(.slice none 0 0),(.slice none 0 0),(.slice none 0 0)] [(0,3,(.tmp 25)),(3,1,(.tmp 26)),(4,1,(.tmp 27)),(5,3,(.tmp 28))],none⟩,⟨(some 30),.box 8 (.tmp 29),none⟩,⟨(some 2),.mv (.tmp 30),none⟩])
 .ret)))))))⟩
theorem k64 : compFn Tryz.prog Tryz.f64 = some c64 := by kernel_rfl
-- croft/croftlaw17.lives
def c65 : AFunc := ⟨[.tmp 0],(.seq (.region [⟨(some 0),.mv (.const (.bool false)),none⟩])
 (.seq (.region [⟨(some 9),.build [(.int .u64 0),(.int .i64 0),(.int .i64 0)] [(0,1,(.const (.int .u64 65536))),(1,1,(.const (.int .i64 1))),(2,1,(.const (.int .i64 0)))],none⟩,⟨(some 10),.call 64 [(.tmp 9)],none⟩,⟨(some 1),.mv (.tmp 10),none⟩])
 (.seq (.seq (.region [⟨(some 11),.mv (.tmp 1),none⟩,⟨(some 12),.eq1 false .ptr (.tmp 11) (.const (.ptr none)),none⟩])
 (.cond (.tmp 12) (.seq (.region [⟨(some 0),.mv (.const (.bool false)),none⟩])
 .ret) .skip))
 (.seq (.region [⟨(some 14),.mv (.tmp 1),none⟩,⟨(some 15),.nilCheck (.tmp 14),none⟩,⟨(some 16),.faddr 4 (.tmp 15),none⟩,⟨(some 17),.load false 1 (.tmp 16),none⟩,⟨(some 18),.call 66 [(.tmp 17),(.const (.int .i64 1)),(.const (.int .i64 8)),(.const (.bool false))],none⟩,⟨(some 13),.mv (.tmp 18),none⟩,⟨(some 19),.extract (.tmp 13) 0,none⟩,⟨(some 20),.extract (.tmp 13) 1,none⟩,⟨(some 2),.mv (.tmp 19),none⟩,⟨(some 3),.mv (.tmp 20),none⟩])
 (.seq (.region [⟨(some 22),.mv (.tmp 1),none⟩,⟨(some 23),.nilCheck (.tmp 22),none⟩,⟨(some 24),.faddr 4 (.tmp 23),none⟩,⟨(some 25),.load false 1 (.tmp 24),none⟩,⟨(some 26),.call 66 [(.tmp 25),(.const (.int .i64 1)),(.const (.int .i64 0)),(.const (.bool false))],none⟩,⟨(some 21),.mv (.tmp 26),none⟩,⟨(some 27),.extract (.tmp 21) 0,none⟩,⟨(some 28),.extract (.tmp 21) 1,none⟩,⟨(some 4),.mv (.tmp 27),none⟩,⟨(some 5),.mv (.tmp 28),none⟩])
 (.seq (.region [⟨(some 30),.mv (.tmp 1),none⟩,⟨(some 31),.nilCheck (.tmp 30),none⟩,⟨(some 32),.faddr 4 (.tmp 31),none⟩,⟨(some 33),.load false 1 (.tmp 32),none⟩,⟨(some 34),.call 66 [(.tmp 33),(.const (.int .i64 0)),(.const (.int .i64 3)),(.const (.bool false))],none⟩,⟨(some 29),.mv (.tmp 34),none⟩,⟨(some 35),.extract (.tmp 29) 0,none⟩,⟨(some 36),.extract (.tmp 29) 1,none⟩,⟨(some 6),.mv (.tmp 35),none⟩,⟨(some 7),.mv (.tmp 36),none⟩])
 (.seq (.seq (.region [⟨(some 37),.mv (.tmp 2),none⟩,⟨(some 38),.bin .neq (.tmp 37) (.const (.int .u64 65536)),none⟩,⟨(some 39),.mv (.tmp 38),none⟩,⟨(some 40),.mv (.tmp 4),some (39,false)⟩,⟨(some 41),.bin .neq (.tmp 40) (.const (.int .u64 65552)),some (39,false)⟩,⟨(some 42),.pick (.tmp 39) (.const (.bool true)) (.tmp 41),none⟩,⟨(some 43),.mv (.tmp 42),none⟩,⟨(some 44),.mv (.tmp 6),some (43,false)⟩,⟨(some 45),.bin .neq (.tmp 44) (.const (.int .u64 65568)),some (43,false)⟩,⟨(some 46),.pick (.tmp 43) (.const (.bool true)) (.tmp 45),none⟩,⟨(some 47),.mv (.tmp 46),none⟩,⟨(some 48),.mv (.tmp 3),some (47,false)⟩,⟨(some 49),.bin .neq (.tmp 48) (.const (.int .i64 0)),some (47,false)⟩,⟨(some 50),.pick (.tmp 47) (.const (.bool true)) (.tmp 49),none⟩,⟨(some 51),.mv (.tmp 50),none⟩,⟨(some 52),.mv (.tmp 5),some (51,false)⟩,⟨(some 53),.bin .neq (.tmp 52) (.const (.int .i64 0)),some (51,false)⟩,⟨(some 54),.pick (.tmp 51) (.const (.bool true)) (.tmp 53),none⟩,⟨(some 55),.mv (.tmp 54),none⟩,⟨(some 56),.mv (.tmp 7),some (55,false)⟩,⟨(some 57),.bin .neq (.tmp 56) (.const (.int .i64 0)),some (55,false)⟩,⟨(some 58),.pick (.tmp 55) (.const (.bool true)) (.tmp 57),none⟩,⟨(some 59),.mv (.tmp 58),none⟩,⟨(some 60),.mv (.tmp 1),some (59,false)⟩,⟨(some 61),.nilCheck (.tmp 60),some (59,false)⟩,⟨(some 62),.faddr 4 (.tmp 61),some (59,false)⟩,⟨(some 63),.load false 1 (.tmp 62),some (59,false)⟩,⟨(some 64),.mv (.tmp 2),some (59,false)⟩,⟨(some 65),.mv (.tmp 4),some (59,false)⟩,⟨(some 66),.call 68 [(.tmp 63),(.tmp 64),(.const (.int .i64 0)),(.tmp 65)],some (59,false)⟩,⟨(some 67),.bin .neq (.tmp 66) (.const (.int .i64 0)),some (59,false)⟩,⟨(some 68),.pick (.tmp 59) (.const (.bool true)) (.tmp 67),none⟩,⟨(some 69),.mv (.tmp 68),none⟩,⟨(some 70),.mv (.tmp 1),some (69,false)⟩,⟨(some 71),.nilCheck (.tmp 70),some (69,false)⟩,⟨(some 72),.faddr 4 (.tmp 71),some (69,false)⟩,⟨(some 73),.load false 1 (.tmp 72),some (69,false)⟩,⟨(some 74),.mv (.tmp 4),some (69,false)⟩,⟨(some 75),.mv (.tmp 2),some (69,false)⟩,⟨(some 76),.call 68 [(.tmp 73),(.tmp 74),(.const (.int .i64 0)),(.tmp 75)],some (69,false)⟩,⟨(some 77),.bin .neq (.tmp 76) (.const (.int .i64 0)),some (69,false)⟩,⟨(some 78),.pick (.tmp 69) (.const (.bool true)) (.tmp 77),none⟩,⟨(some 79),.mv (.tmp 78),none⟩,⟨(some 80),.mv (.tmp 1),some (79,false)⟩,⟨(some 81),.nilCheck (.tmp 80),some (79,false)⟩,⟨(some 82),.faddr 4 (.tmp 81),some (79,false)⟩,⟨(some 83),.load false 1 (.tmp 82),some (79,false)⟩,⟨(some 84),.mv (.tmp 2),some (79,false)⟩,⟨(some 85),.call 72 [(.tmp 83),(.const (.str [97])),(.tmp 84)],some (79,false)⟩,⟨(some 86),.bin .neq (.tmp 85) (.const (.int .i64 0)),some (79,false)⟩,⟨(some 87),.pick (.tmp 79) (.const (.bool true)) (.tmp 86),none⟩])
 (.cond (.tmp 87) (.seq (.region [⟨(some 0),.mv (.const (.bool false)),none⟩])
 .ret) .skip))
 (.seq (.region [⟨(some 88),.mv (.tmp 1),none⟩,⟨(some 89),.nilCheck (.tmp 88),none⟩,⟨(some 90),.faddr 4 (.tmp 89),none⟩,⟨(some 91),.load false 1 (.tmp 90),none⟩,⟨(some 92),.call 75 [(.tmp 91)],none⟩,⟨(some 8),.alloc [(.int .i64 0),(.slice none 0 0),(.int .u64 0)],none⟩,⟨none,.store 3 (.tmp 8) (.tmp 92),none⟩])
 (.seq (.region [⟨(some 93),.faddr 0 (.tmp 8),none⟩,⟨(some 94),.load false 1 (.tmp 93),none⟩,⟨(some 95),.bin .eql (.tmp 94) (.const (.int .i64 1)),none⟩,⟨(some 96),.mv (.tmp 95),none⟩,⟨(some 97),.faddr 2 (.tmp 8),some (96,true)⟩,⟨(some 98),.load false 1 (.tmp 97),some (96,true)⟩,⟨(some 99),.bin .eql (.tmp 98) (.const (.int .u64 16)),some (96,true)⟩,⟨(some 100),.pick (.tmp 96) (.tmp 99) (.const (.bool false)),none⟩,⟨(some 101),.mv (.tmp 100),none⟩,⟨(some 102),.faddr 1 (.tmp 8),some (101,true)⟩,⟨(some 103),.load false 1 (.tmp 102),some (101,true)⟩,⟨(some 104),.lenS (.tmp 103),some (101,true)⟩,⟨(some 105),.bin .eql (.tmp 104) (.const (.int .i64 0)),some (101,true)⟩,⟨(some 106),.pick (.tmp 101) (.tmp 105) (.const (.bool false)),none⟩,⟨(some 107),.mv (.tmp 106),none⟩,⟨(some 108),.mv (.tmp 1),some (107,true)⟩,⟨(some 109),.nilCheck (.tmp 108),some (107,true)⟩,⟨(some 110),.faddr 4 (.tmp 109),some (107,true)⟩,⟨(some 111),.load false 1 (.tmp 110),some (107,true)⟩,⟨(some 112),.call 79 [(.tmp 111)],some (107,true)⟩,⟨(some 113),.mv (.tmp 2),some (107,true)⟩,⟨(some 114),.mv (.tmp 4),some (107,true)⟩,⟨(some 115),.mkSlice 2 1 [(.int .u64 0)] [(0,1,(.tmp 113)),(1,1,(.tmp 114))],some (107,true)⟩,⟨(some 116),.call 78 [(.tmp 112),(.tmp 115)],some (107,true)⟩,⟨(some 117),.pick (.tmp 107) (.tmp 116) (.const (.bool false)),none⟩,⟨(some 0),.mv (.tmp 117),none⟩])
 .ret)))))))))⟩
theorem k65 : compFn Tryz.prog Tryz.f65 = some c65 := by kernel_rfl
-- (*croft/trace.Store).Make
def c66 : AFunc := ⟨[.tmp 8,.tmp 9],(.seq (.region [⟨(some 8),.mv (.const (.int .u64 0)),none⟩,⟨(some 9),.mv (.const (.int .i64 0)),none⟩])
 (.seq (.seq (.region [⟨(some 12),.mv (.tmp 1),none⟩,⟨(some 13),.bin .lss (.tmp 12) (.const (.int .i64 0)),none⟩,⟨(some 14),.mv (.tmp 13),none⟩,⟨(some 15),.mv (.tmp 2),some (14,false)⟩,⟨(some 16),.bin .lss (.tmp 15) (.const (.int .i64 0)),some (14,false)⟩,⟨(some 17),.pick (.tmp 14) (.const (.bool true)) (.tmp 16),none⟩])
 (.cond (.tmp 17) (.seq (.region [⟨(some 8),.mv (.const (.int .u64 0)),none⟩,⟨(some 9),.mv (.const (.int .i64 1)),none⟩])
 .ret) .skip))
 (.seq (.seq (.region [⟨(some 18),.mv (.tmp 1),none⟩,⟨(some 19),.bin .gtr (.tmp 18) (.const (.int .i64 1099511627776)),none⟩,⟨(some 20),.mv (.tmp 19),none⟩,⟨(some 21),.mv (.tmp 2),some (20,false)⟩,⟨(some 22),.bin .gtr (.tmp 21) (.const (.int .i64 1099511627776)),some (20,false)⟩,⟨(some 23),.pick (.tmp 20) (.const (.bool true)) (.tmp 22),none⟩])
 (.cond (.tmp 23) (.seq (.region [⟨(some 8),.mv (.const (.int .u64 0)),none⟩,⟨(some 9),.mv (.const (.int .i64 3)),none⟩])
 .ret) .skip))
 (.seq (.region [⟨(some 25),.mv (.tmp 0),none⟩,⟨(some 26),.nilCheck (.tmp 25),none⟩,⟨(some 27),.faddr 0 (.tmp 26),none⟩,⟨(some 28),.load false 1 (.tmp 27),none⟩,⟨(some 29),.mv (.tmp 1),none⟩,⟨(some 30),.conv .u64 (.tmp 29),none⟩,⟨(some 31),.bin .mul (.const (.int .u64 8)) (.tmp 30),none⟩,⟨(some 32),.mv (.tmp 2),none⟩,⟨(some 33),.conv .u64 (.tmp 32),none⟩,⟨(some 34),.bin .add (.tmp 31) (.tmp 33),none⟩,⟨(some 35),.mv (.tmp 3),none⟩,⟨(some 36),.call 162 [(.tmp 28),(.const (.int .u64 1)),(.tmp 34),(.tmp 35)],none⟩,⟨(some 24),.mv (.tmp 36),none⟩,⟨(some 37),.extract (.tmp 24) 0,none⟩,⟨(some 38),.extract (.tmp 24) 1,none⟩,⟨(some 10),.mv (.tmp 37),none⟩,⟨(some 11),.mv (.tmp 38),none⟩])
 (.seq (.seq (.region [⟨(some 39),.mv (.tmp 11),none⟩,⟨(some 40),.bin .neq (.tmp 39) (.const (.int .i64 0)),none⟩])
 (.cond (.tmp 40) (.seq (.region [⟨(some 41),.mv (.tmp 11),none⟩,⟨(some 8),.mv (.const (.int .u64 0)),none⟩,⟨(some 9),.mv (.tmp 41),none⟩])
 .ret) .skip))
 (.seq (.region [⟨(some 42),.mv (.tmp 0),none⟩,⟨(some 43),.nilCheck (.tmp 42),none⟩,⟨(some 44),.faddr 4 (.tmp 43),none⟩,⟨(some 45),.load false 1 (.tmp 44),none⟩,⟨(some 46),.bin .add (.tmp 45) (.const (.int .i64 1)),none⟩,⟨(some 47),.nilCheck (.tmp 42),none⟩,⟨(some 48),.faddr 4 (.tmp 47),none⟩,⟨none,.store 1 (.tmp 48) (.tmp 46),none⟩])
 (.seq (.draw [⟨⟨(some 49),.mv (.tmp 0),none⟩,0,1⟩,⟨⟨(some 50),.nilCheck (.tmp 49),none⟩,0,1⟩,⟨⟨(some 51),.faddr 1 (.tmp 50),none⟩,0,1⟩,⟨⟨(some 52),.load false 1 (.tmp 51),none⟩,0,1⟩,⟨⟨(some 53),.mv (.tmp 10),none⟩,0,1⟩,⟨⟨(some 54),.mv (.tmp 1),none⟩,0,0⟩,⟨⟨(some 55),.mv (.tmp 2),none⟩,0,0⟩,⟨⟨(some 56),.mv (.tmp 0),none⟩,0,0⟩,⟨⟨(some 57),.nilCheck (.tmp 56),none⟩,0,0⟩,⟨⟨(some 58),.faddr 4 (.tmp 57),none⟩,0,0⟩,⟨⟨(some 59),.load false 1 (.tmp 58),none⟩,0,0⟩,⟨⟨(some 60),.build [(.int .i64 0),(.int .i64 0),(.int .i64 0),(.bool false)] [(0,1,(.tmp 54)),(1,1,(.tmp 55)),(2,1,(.tmp 59))],none⟩,0,0⟩,⟨⟨(some 61),.box 4 (.tmp 60),none⟩,0,1⟩,⟨⟨none,.mapUpdate .int (.tmp 52) (.tmp 53) (.tmp 61),none⟩,1,2⟩])
 (.seq (.region [⟨(some 62),.mv (.tmp 10),none⟩,⟨(some 8),.mv (.tmp 62),none⟩,⟨(some 9),.mv (.const (.int .i64 0)),none⟩])
 .ret))))))))⟩
theorem k66 : compFn Tryz.prog Tryz.f66 = some c66 := by kernel_rfl
-- (*croft/trace.Store).Get
def c67 : AFunc := ⟨[.tmp 6,.tmp 7],(.seq (.region [⟨(some 6),.mv (.const (.int .u64 0)),none⟩,⟨(some 7),.mv (.const (.int .i64 0)),none⟩])
 (.seq (.region [⟨(some 11),.mv (.tmp 0),none⟩,⟨(some 12),.mv (.tmp 1),none⟩,⟨(some 13),.mv (.tmp 2),none⟩,⟨(some 14),.call 172 [(.tmp 11),(.tmp 12),(.tmp 13)],none⟩,⟨(some 10),.mv (.tmp 14),none⟩,⟨(some 15),.extract (.tmp 10) 0,none⟩,⟨(some 16),.extract (.tmp 10) 1,none⟩,⟨(some 8),.mv (.tmp 15),none⟩,⟨(some 9),.mv (.tmp 16),none⟩])
 (.seq (.seq (.region [⟨(some 17),.mv (.tmp 9),none⟩,⟨(some 18),.not (.tmp 17),none⟩])
 (.cond (.tmp 18) (.seq (.region [⟨(some 6),.mv (.const (.int .u64 0)),none⟩,⟨(some 7),.mv (.const (.int .i64 1)),none⟩])
 .ret) .skip))
 (.seq (.region [⟨(some 19),.mv (.tmp 0),none⟩,⟨(some 20),.nilCheck (.tmp 19),none⟩,⟨(some 21),.faddr 0 (.tmp 20),none⟩,⟨(some 22),.load false 1 (.tmp 21),none⟩,⟨(some 23),.mv (.tmp 8),none⟩,⟨(some 24),.call 170 [(.tmp 22),(.tmp 23)],none⟩,⟨(some 25),.extract (.tmp 24) 0,none⟩,⟨(some 26),.extract (.tmp 24) 1,none⟩,⟨(some 6),.mv (.tmp 25),none⟩,⟨(some 7),.mv (.tmp 26),none⟩])
 .ret))))⟩
theorem k67 : compFn Tryz.prog Tryz.f67 = some c67 := by kernel_rfl
-- (*croft/trace.Store).Put
def c68 : AFunc := ⟨[.tmp 8],(.seq (.region [⟨(some 8),.mv (.const (.int .i64 0)),none⟩])
 (.seq (.region [⟨(some 14),.mv (.tmp 0),none⟩,⟨(some 15),.mv (.tmp 1),none⟩,⟨(some 16),.mv (.tmp 2),none⟩,⟨(some 17),.call 172 [(.tmp 14),(.tmp 15),(.tmp 16)],none⟩,⟨(some 13),.mv (.tmp 17),none⟩,⟨(some 18),.extract (.tmp 13) 0,none⟩,⟨(some 19),.extract (.tmp 13) 1,none⟩,⟨(some 9),.mv (.tmp 18),none⟩,⟨(some 10),.mv (.tmp 19),none⟩])
 (.seq (.seq (.region [⟨(some 21),.mv (.tmp 0),none⟩,⟨(some 22),.nilCheck (.tmp 21),none⟩,⟨(some 23),.faddr 1 (.tmp 22),none⟩,⟨(some 24),.load false 1 (.tmp 23),none⟩,⟨(some 25),.mv (.tmp 3),none⟩,⟨(some 26),.lookup .int (.ptr none) true (.tmp 24) (.tmp 25),none⟩,⟨(some 20),.mv (.tmp 26),none⟩,⟨(some 27),.extract (.tmp 20) 0,none⟩,⟨(some 28),.extract (.tmp 20) 1,none⟩,⟨(some 11),.mv (.tmp 27),none⟩,⟨(some 12),.mv (.tmp 28),none⟩])
 (.seq (.region [⟨(some 29),.mv (.tmp 10),none⟩,⟨(some 30),.not (.tmp 29),none⟩,⟨(some 31),.mv (.tmp 30),none⟩,⟨(some 32),.mv (.tmp 3),some (31,false)⟩,⟨(some 33),.bin .neq (.tmp 32) (.const (.int .u64 0)),some (31,false)⟩,⟨(some 34),.mv (.tmp 33),some (31,false)⟩,⟨(some 35),.mv (.tmp 12),some (34,true)⟩,⟨(some 36),.not (.tmp 35),some (34,true)⟩,⟨(some 37),.pick (.tmp 34) (.tmp 36) (.const (.bool false)),some (31,false)⟩,⟨(some 38),.pick (.tmp 31) (.const (.bool true)) (.tmp 37),none⟩])
 (.cond (.tmp 38) (.seq (.region [⟨(some 8),.mv (.const (.int .i64 1)),none⟩])
 .ret) .skip)))
 (.seq (.region [⟨(some 39),.mv (.tmp 0),none⟩,⟨(some 40),.nilCheck (.tmp 39),none⟩,⟨(some 41),.faddr 0 (.tmp 40),none⟩,⟨(some 42),.load false 1 (.tmp 41),none⟩,⟨(some 43),.mv (.tmp 9),none⟩,⟨(some 44),.mv (.tmp 3),none⟩,⟨(some 45),.call 165 [(.tmp 42),(.tmp 43),(.tmp 44)],none⟩,⟨(some 8),.mv (.tmp 45),none⟩])
 .ret))))⟩
theorem k68 : compFn Tryz.prog Tryz.f68 = some c68 := by kernel_rfl
-- (*croft/trace.Store).Write
def c69 : AFunc := ⟨[.tmp 8],(.seq (.region [⟨(some 8),.mv (.const (.int .i64 0)),none⟩])
 (.seq (.region [⟨(some 12),.mv (.tmp 0),none⟩,⟨(some 13),.mv (.tmp 1),none⟩,⟨(some 14),.mv (.tmp 2),none⟩,⟨(some 15),.mv (.tmp 3),none⟩,⟨(some 16),.lenS (.tmp 15),none⟩,⟨(some 17),.call 173 [(.tmp 12),(.tmp 13),(.tmp 14),(.tmp 16)],none⟩,⟨(some 11),.mv (.tmp 17),none⟩,⟨(some 18),.extract (.tmp 11) 0,none⟩,⟨(some 19),.extract (.tmp 11) 1,none⟩,⟨(some 9),.mv (.tmp 18),none⟩,⟨(some 10),.mv (.tmp 19),none⟩])
 (.seq (.seq (.region [⟨(some 20),.mv (.tmp 10),none⟩,⟨(some 21),.bin .neq (.tmp 20) (.const (.int .i64 0)),none⟩])
 (.cond (.tmp 21) (.seq (.region [⟨(some 22),.mv (.tmp 10),none⟩,⟨(some 8),.mv (.tmp 22),none⟩])
 .ret) .skip))
 (.seq (.region [⟨(some 23),.mv (.tmp 0),none⟩,⟨(some 24),.nilCheck (.tmp 23),none⟩,⟨(some 25),.faddr 0 (.tmp 24),none⟩,⟨(some 26),.load false 1 (.tmp 25),none⟩,⟨(some 27),.mv (.tmp 9),none⟩,⟨(some 28),.mv (.tmp 3),none⟩,⟨(some 29),.call 151 [(.tmp 26),(.tmp 27),(.tmp 28)],none⟩,⟨(some 8),.mv (.tmp 29),none⟩])
 .ret))))⟩
theorem k69 : compFn Tryz.prog Tryz.f69 = some c69 := by kernel_rfl
-- (*croft/trace.Store).Read
def c70 : AFunc := ⟨[.tmp 8,.tmp 9],(.seq (.region [⟨(some 8),.mv (.const (.slice none 0 0)),none⟩,⟨(some 9),.mv (.const (.int .i64 0)),none⟩])
 (.seq (.region [⟨(some 13),.mv (.tmp 0),none⟩,⟨(some 14),.mv (.tmp 1),none⟩,⟨(some 15),.mv (.tmp 2),none⟩,⟨(some 16),.mv (.tmp 3),none⟩,⟨(some 17),.call 173 [(.tmp 13),(.tmp 14),(.tmp 15),(.tmp 16)],none⟩,⟨(some 12),.mv (.tmp 17),none⟩,⟨(some 18),.extract (.tmp 12) 0,none⟩,⟨(some 19),.extract (.tmp 12) 1,none⟩,⟨(some 10),.mv (.tmp 18),none⟩,⟨(some 11),.mv (.tmp 19),none⟩])
 (.seq (.seq (.region [⟨(some 20),.mv (.tmp 11),none⟩,⟨(some 21),.bin .neq (.tmp 20) (.const (.int .i64 0)),none⟩])
 (.cond (.tmp 21) (.seq (.region [⟨(some 22),.mv (.tmp 11),none⟩,⟨(some 8),.mv (.const (.slice none 0 0)),none⟩,⟨(some 9),.mv (.tmp 22),none⟩])
 .ret) .skip))
 (.seq (.region [⟨(some 23),.mv (.tmp 0),none⟩,⟨(some 24),.nilCheck (.tmp 23),none⟩,⟨(some 25),.faddr 0 (.tmp 24),none⟩,⟨(some 26),.load false 1 (.tmp 25),none⟩,⟨(some 27),.mv (.tmp 10),none⟩,⟨(some 28),.mv (.tmp 3),none⟩,⟨(some 29),.conv .u64 (.tmp 28),none⟩,⟨(some 30),.call 44 [(.tmp 26),(.tmp 27),(.tmp 29)],none⟩,⟨(some 31),.extract (.tmp 30) 0,none⟩,⟨(some 32),.extract (.tmp 30) 1,none⟩,⟨(some 8),.mv (.tmp 31),none⟩,⟨(some 9),.mv (.tmp 32),none⟩])
 .ret))))⟩
theorem k70 : compFn Tryz.prog Tryz.f70 = some c70 := by kernel_rfl
-- croft/croftref2.Same
def c71 : AFunc := ⟨[.tmp 4],(.seq (.region [⟨(some 4),.mv (.const (.bool false)),none⟩])
 (.seq (.seq (.region [⟨(some 6),.mv (.tmp 0),none⟩,⟨(some 7),.lenS (.tmp 6),none⟩,⟨(some 8),.mv (.tmp 1),none⟩,⟨(some 9),.lenS (.tmp 8),none⟩,⟨(some 10),.bin .neq (.tmp 7) (.tmp 9),none⟩])
 (.cond (.tmp 10) (.seq (.region [⟨(some 4),.mv (.const (.bool false)),none⟩])
 .ret) .skip))
 (.seq (.seq (.region [⟨(some 5),.mv (.const (.int .i64 0)),none⟩])
 (.block 0 (.loop (.seq (.seq (.region [⟨(some 11),.mv (.tmp 5),none⟩,⟨(some 12),.mv (.tmp 0),none⟩,⟨(some 13),.lenS (.tmp 12),none⟩,⟨(some 14),.bin .lss (.tmp 11) (.tmp 13),none⟩])
 (.cond (.tmp 14) .skip (.exit 0)))
 (.seq (.block 1 (.seq (.draw [⟨⟨(some 17),.mv (.tmp 0),none⟩,0,0⟩,⟨⟨(some 18),.mv (.tmp 5),none⟩,0,0⟩,⟨⟨(some 19),.iaddrS 1 (.tmp 17) (.tmp 18),none⟩,0,0⟩,⟨⟨(some 20),.load false 1 (.tmp 19),none⟩,0,0⟩,⟨⟨(some 21),.mv (.tmp 1),none⟩,0,0⟩,⟨⟨(some 22),.mv (.tmp 5),none⟩,0,0⟩,⟨⟨(some 23),.iaddrS 1 (.tmp 21) (.tmp 22),none⟩,0,0⟩,⟨⟨(some 24),.load false 1 (.tmp 23),none⟩,0,0⟩,⟨⟨(some 25),.bin .neq (.tmp 20) (.tmp 24),none⟩,0,0⟩])
 (.cond (.tmp 25) (.seq (.region [⟨(some 4),.mv (.const (.bool false)),none⟩])
 .ret) .skip)))
 (.region [⟨(some 15),.mv (.tmp 5),none⟩,⟨(some 16),.bin .add (.tmp 15) (.const (.int .i64 1)),none⟩,⟨(some 5),.mv (.tmp 16),none⟩]))))))
 (.seq (.region [⟨(some 4),.mv (.const (.bool true)),none⟩])
 .ret))))⟩
theorem k71 : compFn Tryz.prog Tryz.f71 = some c71 := by kernel_rfl
-- (*croft/trace.Store).Root
def c72 : AFunc := ⟨[.tmp 6],(.seq (.region [⟨(some 6),.mv (.const (.int .i64 0)),none⟩])
 (.seq (.seq (.region [⟨(some 10),.mv (.tmp 0),none⟩,⟨(some 11),.nilCheck (.tmp 10),none⟩,⟨(some 12),.faddr 1 (.tmp 11),none⟩,⟨(some 13),.load false 1 (.tmp 12),none⟩,⟨(some 14),.mv (.tmp 2),none⟩,⟨(some 15),.lookup .int (.ptr none) true (.tmp 13) (.tmp 14),none⟩,⟨(some 9),.mv (.tmp 15),none⟩,⟨(some 16),.extract (.tmp 9) 0,none⟩,⟨(some 17),.extract (.tmp 9) 1,none⟩,⟨(some 7),.mv (.tmp 16),none⟩,⟨(some 8),.mv (.tmp 17),none⟩])
 (.seq (.region [⟨(some 18),.mv (.tmp 8),none⟩,⟨(some 19),.not (.tmp 18),none⟩])
 (.cond (.tmp 19) (.seq (.region [⟨(some 6),.mv (.const (.int .i64 1)),none⟩])
 .ret) .skip)))
 (.seq (.region [⟨(some 20),.mv (.tmp 0),none⟩,⟨(some 21),.nilCheck (.tmp 20),none⟩,⟨(some 22),.faddr 2 (.tmp 21),none⟩,⟨(some 23),.load false 1 (.tmp 22),none⟩,⟨(some 24),.mv (.tmp 1),none⟩,⟨(some 25),.mv (.tmp 2),none⟩,⟨none,.mapUpdate .str (.tmp 23) (.tmp 24) (.tmp 25),none⟩])
 (.seq (.region [⟨(some 6),.mv (.const (.int .i64 0)),none⟩])
 .ret))))⟩
theorem k72 : compFn Tryz.prog Tryz.f72 = some c72 := by kernel_rfl
-- (*croft/trace.Store).Weak
def c73 : AFunc := ⟨[.tmp 4,.tmp 5],(.seq (.region [⟨(some 4),.mv (.const (.int .i64 0)),none⟩,⟨(some 5),.mv (.const (.int .i64 0)),none⟩])
 (.seq (.seq (.region [⟨(some 9),.mv (.tmp 0),none⟩,⟨(some 10),.nilCheck (.tmp 9),none⟩,⟨(some 11),.faddr 1 (.tmp 10),none⟩,⟨(some 12),.load false 1 (.tmp 11),none⟩,⟨(some 13),.mv (.tmp 1),none⟩,⟨(some 14),.lookup .int (.ptr none) true (.tmp 12) (.tmp 13),none⟩,⟨(some 8),.mv (.tmp 14),none⟩,⟨(some 15),.extract (.tmp 8) 0,none⟩,⟨(some 16),.extract (.tmp 8) 1,none⟩,⟨(some 6),.mv (.tmp 15),none⟩,⟨(some 7),.mv (.tmp 16),none⟩])
 (.seq (.region [⟨(some 17),.mv (.tmp 7),none⟩,⟨(some 18),.not (.tmp 17),none⟩])
 (.cond (.tmp 18) (.seq (.region [⟨(some 4),.mv (.const (.int .i64 0)),none⟩,⟨(some 5),.mv (.const (.int .i64 1)),none⟩])
 .ret) .skip)))
 (.seq (.region [⟨(some 19),.mv (.tmp 0),none⟩,⟨(some 20),.mv (.tmp 0),none⟩,⟨(some 21),.nilCheck (.tmp 20),none⟩,⟨(some 22),.faddr 3 (.tmp 21),none⟩,⟨(some 23),.load false 1 (.tmp 22),none⟩,⟨(some 24),.mv (.tmp 1),none⟩,⟨(some 25),.mkSlice 1 1 [(.int .u64 0)] [(0,1,(.tmp 24))],none⟩,⟨(some 26),.append 1 8 (.tmp 23) (.tmp 25),none⟩,⟨(some 27),.nilCheck (.tmp 19),none⟩,⟨(some 28),.faddr 3 (.tmp 27),none⟩,⟨none,.store 1 (.tmp 28) (.tmp 26),none⟩])
 (.seq (.region [⟨(some 29),.mv (.tmp 0),none⟩,⟨(some 30),.nilCheck (.tmp 29),none⟩,⟨(some 31),.faddr 3 (.tmp 30),none⟩,⟨(some 32),.load false 1 (.tmp 31),none⟩,⟨(some 33),.lenS (.tmp 32),none⟩,⟨(some 4),.mv (.tmp 33),none⟩,⟨(some 5),.mv (.const (.int .i64 0)),none⟩])
 .ret))))⟩
theorem k73 : compFn Tryz.prog Tryz.f73 = some c73 := by kernel_rfl
-- (*croft/trace.Store).Deref
def c74 : AFunc := ⟨[.tmp 4,.tmp 5],(.seq (.region [⟨(some 4),.mv (.const (.int .u64 0)),none⟩,⟨(some 5),.mv (.const (.int .i64 0)),none⟩])
 (.seq (.seq (.region [⟨(some 6),.mv (.tmp 1),none⟩,⟨(some 7),.bin .lss (.tmp 6) (.const (.int .i64 1)),none⟩,⟨(some 8),.mv (.tmp 7),none⟩,⟨(some 9),.mv (.tmp 1),some (8,false)⟩,⟨(some 10),.mv (.tmp 0),some (8,false)⟩,⟨(some 11),.nilCheck (.tmp 10),some (8,false)⟩,⟨(some 12),.faddr 3 (.tmp 11),some (8,false)⟩,⟨(some 13),.load false 1 (.tmp 12),some (8,false)⟩,⟨(some 14),.lenS (.tmp 13),some (8,false)⟩,⟨(some 15),.bin .gtr (.tmp 9) (.tmp 14),some (8,false)⟩,⟨(some 16),.pick (.tmp 8) (.const (.bool true)) (.tmp 15),none⟩])
 (.cond (.tmp 16) (.seq (.region [⟨(some 4),.mv (.const (.int .u64 0)),none⟩,⟨(some 5),.mv (.const (.int .i64 1)),none⟩])
 .ret) .skip))
 (.seq (.region [⟨(some 17),.mv (.tmp 0),none⟩,⟨(some 18),.nilCheck (.tmp 17),none⟩,⟨(some 19),.faddr 3 (.tmp 18),none⟩,⟨(some 20),.load false 1 (.tmp 19),none⟩,⟨(some 21),.mv (.tmp 1),none⟩,⟨(some 22),.bin .sub (.tmp 21) (.const (.int .i64 1)),none⟩,⟨(some 23),.iaddrS 1 (.tmp 20) (.tmp 22),none⟩,⟨(some 24),.load false 1 (.tmp 23),none⟩,⟨(some 4),.mv (.tmp 24),none⟩,⟨(some 5),.mv (.const (.int .i64 0)),none⟩])
 .ret)))⟩
theorem k74 : compFn Tryz.prog Tryz.f74 = some c74 := by kernel_rfl
-- (*croft/trace.Store).Collect
def c75 : AFunc := ⟨[.cell 2 true 3],(.seq (.region [⟨(some 2),.alloc [(.int .i64 0),(.slice none 0 0),(.int .u64 0)],none⟩])
 (.seq (.region [⟨(some 19),.mv (.tmp 0),none⟩,⟨(some 20),.nilCheck (.tmp 19),none⟩,⟨(some 21),.faddr 5 (.tmp 20),none⟩,⟨(some 22),.load false 1 (.tmp 21),none⟩,⟨none,.clearM (.tmp 22),none⟩])
 (.seq (.seq (.region [⟨(some 23),.mv (.tmp 0),none⟩,⟨(some 24),.nilCheck (.tmp 23),none⟩,⟨(some 25),.faddr 2 (.tmp 24),none⟩,⟨(some 26),.load false 1 (.tmp 25),none⟩,⟨(some 27),.rangeM (.tmp 26),none⟩])
 (.block 0 (.loop (.seq (.region [⟨(some 28),.nextM (.tmp 27),none⟩,⟨(some 29),.extract (.tmp 28) 0,none⟩])
 (.seq (.cond (.tmp 29) .skip (.exit 0))
 (.block 1 (.seq (.region [⟨(some 30),.entryM (.tmp 27),none⟩,⟨(some 31),.extract (.tmp 30) 1,none⟩,⟨(some 4),.mv (.tmp 31),none⟩])
 (.region [⟨(some 32),.mv (.tmp 0),none⟩,⟨(some 33),.mv (.tmp 4),none⟩,⟨(some 34),.call 174 [(.tmp 32),(.tmp 33)],none⟩]))))))))
 (.seq (.seq (.region [⟨(some 35),.mv (.tmp 0),none⟩,⟨(some 36),.nilCheck (.tmp 35),none⟩,⟨(some 37),.faddr 3 (.tmp 36),none⟩,⟨(some 38),.load false 1 (.tmp 37),none⟩,⟨(some 39),.lenS (.tmp 38),none⟩,⟨(some 40),.mv (.const (.int .i64 0)),none⟩])
 (.block 2 (.loop (.seq (.region [⟨(some 41),.bin .lss (.tmp 40) (.tmp 39),none⟩])
 (.seq (.cond (.tmp 41) .skip (.exit 2))
 (.seq (.block 3 (.seq (.region [⟨(some 42),.mv (.tmp 40),none⟩,⟨(some 43),.iaddrS 1 (.tmp 38) (.tmp 40),none⟩,⟨(some 44),.load false 1 (.tmp 43),none⟩,⟨(some 5),.mv (.tmp 42),none⟩,⟨(some 6),.mv (.tmp 44),none⟩])
 (.seq (.region [⟨(some 45),.mv (.tmp 0),none⟩,⟨(some 46),.nilCheck (.tmp 45),none⟩,⟨(some 47),.faddr 5 (.tmp 46),none⟩,⟨(some 48),.load false 1 (.tmp 47),none⟩,⟨(some 49),.mv (.tmp 6),none⟩,⟨(some 50),.lookup .int (.bool false) false (.tmp 48) (.tmp 49),none⟩,⟨(some 51),.not (.tmp 50),none⟩])
 (.cond (.tmp 51) (.region [⟨(some 52),.mv (.tmp 0),none⟩,⟨(some 53),.nilCheck (.tmp 52),none⟩,⟨(some 54),.faddr 3 (.tmp 53),none⟩,⟨(some 55),.load false 1 (.tmp 54),none⟩,⟨(some 56),.mv (.tmp 5),none⟩,⟨(some 57),.iaddrS 1 (.tmp 55) (.tmp 56),none⟩,⟨none,.store 1 (.tmp 57) (.const (.int .u64 0)),none⟩]) .skip))))
 (.region [⟨(some 58),.bin .add (.tmp 40) (.const (.int .i64 1)),none⟩,⟨(some 40),.mv (.tmp 58),none⟩])))))))
 (.seq (.region [⟨(some 7),.alloc [(.int .i64 0),(.slice none 0 0),(.int .u64 0)],none⟩])
 (.seq (.seq (.region [⟨(some 59),.mv (.tmp 0),none⟩,⟨(some 60),.call 79 [(.tmp 59)],none⟩,⟨(some 61),.lenS (.tmp 60),none⟩,⟨(some 62),.mv (.const (.int .i64 0)),none⟩])
 (.block 4 (.loop (.seq (.region [⟨(some 63),.bin .lss (.tmp 62) (.tmp 61),none⟩])
 (.seq (.cond (.tmp 63) .skip (.exit 4))
 (.seq (.block 5 (.seq (.region [⟨(some 64),.iaddrS 1 (.tmp 60) (.tmp 62),none⟩,⟨(some 65),.load false 1 (.tmp 64),none⟩,⟨(some 9),.mv (.tmp 65),none⟩])
 (.seq (.region [⟨(some 66),.mv (.tmp 0),none⟩,⟨(some 67),.nilCheck (.tmp 66),none⟩,⟨(some 68),.faddr 1 (.tmp 67),none⟩,⟨(some 69),.load false 1 (.tmp 68),none⟩,⟨(some 70),.mv (.tmp 9),none⟩,⟨(some 71),.lookup .int (.ptr none) false (.tmp 69) (.tmp 70),none⟩,⟨(some 10),.mv (.tmp 71),none⟩])
 (.seq (.region [⟨(some 72),.mv (.tmp 10),none⟩,⟨(some 73),.nilCheck (.tmp 72),none⟩,⟨(some 74),.faddr 3 (.tmp 73),none⟩,⟨(some 75),.load false 1 (.tmp 74),none⟩,⟨(some 76),.mv (.tmp 75),none⟩,⟨(some 77),.mv (.tmp 0),some (76,true)⟩,⟨(some 78),.nilCheck (.tmp 77),some (76,true)⟩,⟨(some 79),.faddr 5 (.tmp 78),some (76,true)⟩,⟨(some 80),.load false 1 (.tmp 79),some (76,true)⟩,⟨(some 81),.mv (.tmp 9),some (76,true)⟩,⟨(some 82),.lookup .int (.bool false) false (.tmp 80) (.tmp 81),some (76,true)⟩,⟨(some 83),.not (.tmp 82),some (76,true)⟩,⟨(some 84),.pick (.tmp 76) (.tmp 83) (.const (.bool false)),none⟩])
 (.cond (.tmp 84) (.region [⟨(some 85),.faddr 1 (.tmp 7),none⟩,⟨(some 86),.load false 1 (.tmp 85),none⟩,⟨(some 87),.mv (.tmp 9),none⟩,⟨(some 88),.mkSlice 1 1 [(.int .u64 0)] [(0,1,(.tmp 87))],none⟩,⟨(some 89),.append 1 8 (.tmp 86) (.tmp 88),none⟩,⟨(some 90),.faddr 1 (.tmp 7),none⟩,⟨none,.store 1 (.tmp 90) (.tmp 89),none⟩]) .skip)))))
 (.region [⟨(some 91),.bin .add (.tmp 62) (.const (.int .i64 1)),none⟩,⟨(some 62),.mv (.tmp 91),none⟩])))))))
 (.seq (.seq (.region [⟨(some 92),.faddr 1 (.tmp 7),none⟩,⟨(some 93),.load false 1 (.tmp 92),none⟩,⟨(some 94),.lenS (.tmp 93),none⟩,⟨(some 95),.mv (.const (.int .i64 0)),none⟩])
 (.block 6 (.loop (.seq (.region [⟨(some 96),.bin .lss (.tmp 95) (.tmp 94),none⟩])
 (.seq (.cond (.tmp 96) .skip (.exit 6))
 (.seq (.block 7 (.seq (.region [⟨(some 97),.iaddrS 1 (.tmp 93) (.tmp 95),none⟩,⟨(some 98),.load false 1 (.tmp 97),none⟩,⟨(some 12),.mv (.tmp 98),none⟩])
 (.region [⟨(some 99),.mv (.tmp 0),none⟩,⟨(some 100),.nilCheck (.tmp 99),none⟩,⟨(some 101),.faddr 1 (.tmp 100),none⟩,⟨(some 102),.load false 1 (.tmp 101),none⟩,⟨(some 103),.mv (.tmp 12),none⟩,⟨(some 104),.lookup .int (.ptr none) false (.tmp 102) (.tmp 103),none⟩,⟨(some 105),.nilCheck (.tmp 104),none⟩,⟨(some 106),.faddr 3 (.tmp 105),none⟩,⟨none,.store 1 (.tmp 106) (.const (.bool false)),none⟩])))
 (.region [⟨(some 107),.bin .add (.tmp 95) (.const (.int .i64 1)),none⟩,⟨(some 95),.mv (.tmp 107),none⟩])))))))
 (.seq (.seq (.region [⟨(some 108),.faddr 1 (.tmp 7),none⟩,⟨(some 109),.load false 1 (.tmp 108),none⟩,⟨(some 110),.lenS (.tmp 109),none⟩,⟨(some 111),.mv (.const (.int .i64 0)),none⟩])
 (.block 8 (.loop (.seq (.region [⟨(some 112),.bin .lss (.tmp 111) (.tmp 110),none⟩])
 (.seq (.cond (.tmp 112) .skip (.exit 8))
 (.seq (.block 9 (.seq (.region [⟨(some 113),.iaddrS 1 (.tmp 109) (.tmp 111),none⟩,⟨(some 114),.load false 1 (.tmp 113),none⟩,⟨(some 14),.mv (.tmp 114),none⟩])
 (.region [⟨(some 115),.mv (.tmp 0),none⟩,⟨(some 116),.mv (.tmp 14),none⟩,⟨(some 117),.call 174 [(.tmp 115),(.tmp 116)],none⟩])))
 (.region [⟨(some 118),.bin .add (.tmp 111) (.const (.int .i64 1)),none⟩,⟨(some 111),.mv (.tmp 118),none⟩])))))))
 (.seq (.seq (.region [⟨(some 119),.mv (.tmp 0),none⟩,⟨(some 120),.call 79 [(.tmp 119)],none⟩,⟨(some 121),.lenS (.tmp 120),none⟩,⟨(some 122),.mv (.const (.int .i64 0)),none⟩])
 (.block 10 (.loop (.seq (.region [⟨(some 123),.bin .lss (.tmp 122) (.tmp 121),none⟩])
 (.seq (.cond (.tmp 123) .skip (.exit 10))
 (.seq (.block 11 (.seq (.region [⟨(some 124),.iaddrS 1 (.tmp 120) (.tmp 122),none⟩,⟨(some 125),.load false 1 (.tmp 124),none⟩,⟨(some 16),.mv (.tmp 125),none⟩])
 (.seq (.seq (.region [⟨(some 126),.mv (.tmp 0),none⟩,⟨(some 127),.nilCheck (.tmp 126),none⟩,⟨(some 128),.faddr 5 (.tmp 127),none⟩,⟨(some 129),.load false 1 (.tmp 128),none⟩,⟨(some 130),.mv (.tmp 16),none⟩,⟨(some 131),.lookup .int (.bool false) false (.tmp 129) (.tmp 130),none⟩])
 (.cond (.tmp 131) (.exit 11) .skip))
 (.seq (.region [⟨(some 133),.mv (.tmp 0),none⟩,⟨(some 134),.nilCheck (.tmp 133),none⟩,⟨(some 135),.faddr 0 (.tmp 134),none⟩,⟨(some 136),.load false 1 (.tmp 135),none⟩,⟨(some 137),.mv (.tmp 16),none⟩,⟨(some 138),.call 42 [(.tmp 136),(.tmp 137)],none⟩,⟨(some 132),.mv (.tmp 138),none⟩,⟨(some 139),.extract (.tmp 132) 0,none⟩,⟨(some 140),.extract (.tmp 132) 1,none⟩,⟨(some 17),.mv (.tmp 139),none⟩,⟨(some 18),.mv (.tmp 140),none⟩])
 (.seq (.region [⟨(some 141),.mv (.tmp 0),none⟩,⟨(some 142),.nilCheck (.tmp 141),none⟩,⟨(some 143),.faddr 0 (.tmp 142),none⟩,⟨(some 144),.load false 1 (.tmp 143),none⟩,⟨(some 145),.mv (.tmp 16),none⟩,⟨(some 146),.call 132 [(.tmp 144),(.tmp 145)],none⟩])
 (.seq (.region [⟨(some 147),.mv (.tmp 0),none⟩,⟨(some 148),.nilCheck (.tmp 147),none⟩,⟨(some 149),.faddr 1 (.tmp 148),none⟩,⟨(some 150),.load false 1 (.tmp 149),none⟩,⟨(some 151),.mv (.tmp 16),none⟩,⟨none,.delete .int (.tmp 150) (.tmp 151),none⟩])
 (.seq (.region [⟨(some 152),.faddr 0 (.tmp 7),none⟩,⟨(some 153),.load false 1 (.tmp 152),none⟩,⟨(some 154),.bin .add (.tmp 153) (.const (.int .i64 1)),none⟩,⟨(some 155),.faddr 0 (.tmp 7),none⟩,⟨none,.store 1 (.tmp 155) (.tmp 154),none⟩])
 (.region [⟨(some 156),.faddr 2 (.tmp 7),none⟩,⟨(some 157),.load false 1 (.tmp 156),none⟩,⟨(some 158),.mv (.tmp 17),none⟩,⟨(some 159),.bin .add (.tmp 157) (.tmp 158),none⟩,⟨(some 160),.faddr 2 (.tmp 7),none⟩,⟨none,.store 1 (.tmp 160) (.tmp 159),none⟩]))))))))
 (.region [⟨(some 161),.bin .add (.tmp 122) (.const (.int .i64 1)),none⟩,⟨(some 122),.mv (.tmp 161),none⟩])))))))
 (.seq (.region [⟨(some 162),.load true 3 (.tmp 7),none⟩,⟨none,.store 3 (.tmp 2) (.tmp 162),none⟩])
 .ret))))))))))⟩
theorem k75 : compFn Tryz.prog Tryz.f75 = some c75 := by kernel_rfl
-- (*croft/trace.Store).Final
def c76 : AFunc := ⟨[.tmp 4],(.seq (.region [⟨(some 4),.mv (.const (.int .i64 0)),none⟩])
 (.seq (.region [⟨(some 8),.mv (.tmp 0),none⟩,⟨(some 9),.nilCheck (.tmp 8),none⟩,⟨(some 10),.faddr 1 (.tmp 9),none⟩,⟨(some 11),.load false 1 (.tmp 10),none⟩,⟨(some 12),.mv (.tmp 1),none⟩,⟨(some 13),.lookup .int (.ptr none) true (.tmp 11) (.tmp 12),none⟩,⟨(some 7),.mv (.tmp 13),none⟩,⟨(some 14),.extract (.tmp 7) 0,none⟩,⟨(some 15),.extract (.tmp 7) 1,none⟩,⟨(some 5),.mv (.tmp 14),none⟩,⟨(some 6),.mv (.tmp 15),none⟩])
 (.seq (.seq (.region [⟨(some 16),.mv (.tmp 6),none⟩,⟨(some 17),.not (.tmp 16),none⟩])
 (.cond (.tmp 17) (.seq (.region [⟨(some 4),.mv (.const (.int .i64 1)),none⟩])
 .ret) .skip))
 (.seq (.region [⟨(some 18),.mv (.tmp 5),none⟩,⟨(some 19),.nilCheck (.tmp 18),none⟩,⟨(some 20),.faddr 3 (.tmp 19),none⟩,⟨none,.store 1 (.tmp 20) (.const (.bool true)),none⟩])
 (.seq (.region [⟨(some 4),.mv (.const (.int .i64 0)),none⟩])
 .ret)))))⟩
theorem k76 : compFn Tryz.prog Tryz.f76 = some c76 := by kernel_rfl
-- (*croft/trace.Store).Unroot
def c77 : AFunc := ⟨[.tmp 4],(.seq (.region [⟨(some 4),.mv (.const (.int .i64 0)),none⟩])
 (.seq (.seq (.region [⟨(some 8),.mv (.tmp 0),none⟩,⟨(some 9),.nilCheck (.tmp 8),none⟩,⟨(some 10),.faddr 2 (.tmp 9),none⟩,⟨(some 11),.load false 1 (.tmp 10),none⟩,⟨(some 12),.mv (.tmp 1),none⟩,⟨(some 13),.lookup .str (.int .u64 0) true (.tmp 11) (.tmp 12),none⟩,⟨(some 7),.mv (.tmp 13),none⟩,⟨(some 14),.extract (.tmp 7) 0,none⟩,⟨(some 15),.extract (.tmp 7) 1,none⟩,⟨(some 5),.mv (.tmp 14),none⟩,⟨(some 6),.mv (.tmp 15),none⟩])
 (.seq (.region [⟨(some 16),.mv (.tmp 6),none⟩,⟨(some 17),.not (.tmp 16),none⟩])
 (.cond (.tmp 17) (.seq (.region [⟨(some 4),.mv (.const (.int .i64 1)),none⟩])
 .ret) .skip)))
 (.seq (.region [⟨(some 18),.mv (.tmp 0),none⟩,⟨(some 19),.nilCheck (.tmp 18),none⟩,⟨(some 20),.faddr 2 (.tmp 19),none⟩,⟨(some 21),.load false 1 (.tmp 20),none⟩,⟨(some 22),.mv (.tmp 1),none⟩,⟨none,.delete .str (.tmp 21) (.tmp 22),none⟩])
 (.seq (.region [⟨(some 4),.mv (.const (.int .i64 0)),none⟩])
 .ret))))⟩
theorem k77 : compFn Tryz.prog Tryz.f77 = some c77 := by kernel_rfl
-- croft/croftlaw17.words
def c78 : AFunc := ⟨[.tmp 4],(.seq (.region [⟨(some 4),.mv (.const (.bool false)),none⟩])
 (.seq (.seq (.region [⟨(some 6),.mv (.tmp 0),none⟩,⟨(some 7),.lenS (.tmp 6),none⟩,⟨(some 8),.mv (.tmp 1),none⟩,⟨(some 9),.lenS (.tmp 8),none⟩,⟨(some 10),.bin .neq (.tmp 7) (.tmp 9),none⟩])
 (.cond (.tmp 10) (.seq (.region [⟨(some 4),.mv (.const (.bool false)),none⟩])
 .ret) .skip))
 (.seq (.seq (.region [⟨(some 5),.mv (.const (.int .i64 0)),none⟩])
 (.block 0 (.loop (.seq (.seq (.region [⟨(some 11),.mv (.tmp 5),none⟩,⟨(some 12),.mv (.tmp 0),none⟩,⟨(some 13),.lenS (.tmp 12),none⟩,⟨(some 14),.bin .lss (.tmp 11) (.tmp 13),none⟩])
 (.cond (.tmp 14) .skip (.exit 0)))
 (.seq (.block 1 (.seq (.draw [⟨⟨(some 17),.mv (.tmp 0),none⟩,0,0⟩,⟨⟨(some 18),.mv (.tmp 5),none⟩,0,0⟩,⟨⟨(some 19),.iaddrS 1 (.tmp 17) (.tmp 18),none⟩,0,0⟩,⟨⟨(some 20),.load false 1 (.tmp 19),none⟩,0,0⟩,⟨⟨(some 21),.mv (.tmp 1),none⟩,0,0⟩,⟨⟨(some 22),.mv (.tmp 5),none⟩,0,0⟩,⟨⟨(some 23),.iaddrS 1 (.tmp 21) (.tmp 22),none⟩,0,0⟩,⟨⟨(some 24),.load false 1 (.tmp 23),none⟩,0,0⟩,⟨⟨(some 25),.bin .neq (.tmp 20) (.tmp 24),none⟩,0,0⟩])
 (.cond (.tmp 25) (.seq (.region [⟨(some 4),.mv (.const (.bool false)),none⟩])
 .ret) .skip)))
 (.region [⟨(some 15),.mv (.tmp 5),none⟩,⟨(some 16),.bin .add (.tmp 15) (.const (.int .i64 1)),none⟩,⟨(some 5),.mv (.tmp 16),none⟩]))))))
 (.seq (.region [⟨(some 4),.mv (.const (.bool true)),none⟩])
 .ret))))⟩
theorem k78 : compFn Tryz.prog Tryz.f78 = some c78 := by kernel_rfl
-- (*croft/trace.Store).Objects
def c79 : AFunc := ⟨[.tmp 2],(.seq (.region [⟨(some 1),.box 1 (.tmp 0),none⟩,⟨(some 2),.mv (.const (.slice none 0 0)),none⟩])
 (.seq (.region [⟨(some 4),.load false 1 (.tmp 1),none⟩,⟨(some 5),.nilCheck (.tmp 4),none⟩,⟨(some 6),.faddr 1 (.tmp 5),none⟩,⟨(some 7),.load false 1 (.tmp 6),none⟩,⟨(some 8),.call 175 [(.tmp 7)],none⟩,⟨(some 9),.call 166 [(.tmp 8)],none⟩,⟨(some 3),.mv (.tmp 9),none⟩])
 (.seq (.region [⟨(some 10),.mv (.tmp 3),none⟩,⟨(some 11),.makeFunc 176 [] [(.tmp 1)],none⟩,⟨(some 12),.call 168 [(.tmp 10),(.tmp 11)],none⟩])
 (.seq (.region [⟨(some 13),.mv (.tmp 3),none⟩,⟨(some 2),.mv (.tmp 13),none⟩])
 .ret))))⟩
theorem k79 : compFn Tryz.prog Tryz.f79 = some c79 := by kernel_rfl
-- croft/region.New
def c104 : AFunc := ⟨[.tmp 2,.tmp 3],(.seq (.region [⟨(some 1),.box 3 (.tmp 0),none⟩,⟨(some 2),.mv (.const (.ptr none)),none⟩,⟨(some 3),.mv (.const (.int .i64 0)),none⟩])
 (.seq (.region [⟨(some 8),.load true 3 (.tmp 1),none⟩,⟨(some 9),.call 199 [(.tmp 8)],none⟩,⟨(some 7),.mv (.tmp 9),none⟩,⟨(some 10),.extract (.tmp 7) 0,none⟩,⟨(some 11),.extract (.tmp 7) 1,none⟩,⟨(some 4),.mv (.tmp 10),none⟩,⟨(some 5),.mv (.tmp 11),none⟩])
 (.seq (.seq (.region [⟨(some 12),.mv (.tmp 5),none⟩,⟨(some 13),.bin .neq (.tmp 12) (.const (.int .i64 0)),none⟩])
 (.cond (.tmp 13) (.seq (.region [⟨(some 14),.mv (.tmp 5),none⟩,⟨(some 2),.mv (.const (.ptr none)),none⟩,⟨(some 3),.mv (.tmp 14),none⟩])
 .ret) .skip))
 (.seq (.region [⟨(some 15),.faddr 2 (.tmp 1),none⟩,⟨(some 16),.load false 1 (.tmp 15),none⟩,⟨(some 17),.call 200 [(.tmp 16)],none⟩,⟨(some 6),.mv (.tmp 17),none⟩])
 (.seq (.region [⟨(some 18),.mv (.tmp 4),none⟩,⟨(some 19),.mv (.tmp 6),none⟩,⟨(some 20),.load true 3 (.tmp 1),none⟩,⟨(some 21),.mv (.tmp 4),none⟩,⟨(some 22),.mv (.tmp 6),none⟩,⟨(some 23),.call 201 [(.tmp 20),(.tmp 21),(.tmp 22)],none⟩,⟨(some 24),.build [(.ptr none),(.ptr none),(.ptr none)] [(0,1,(.tmp 18)),(1,1,(.tmp 19)),(2,1,(.tmp 23))],none⟩,⟨(some 25),.build [(.ptr none),(.ptr none),(.ptr none)] [(0,3,(.tmp 24))],none⟩,⟨(some 26),.box 3 (.tmp 25),none⟩,⟨(some 2),.mv (.tmp 26),none⟩,⟨(some 3),.mv (.const (.int .i64 0)),none⟩])
 .ret)))))⟩
theorem k104 : compFn Tryz.prog Tryz.f104 = some c104 := by kernel_rfl
-- croft/slab.New
def c105 : AFunc := ⟨[.tmp 2],(.seq (.region [⟨(some 2),.mv (.const (.ptr none)),none⟩])
 (.seq (.region [⟨(some 5),.mv (.tmp 0),none⟩,⟨(some 6),.build [(.ptr none),(.int .i64 0),(.int .i64 0),(.int .i64 0),(.int .i64 0),(.int .i64 0),(.int .i64 0),(.int .i64 0),(.int .i64 0)] [(0,1,(.tmp 5))],none⟩,⟨(some 7),.box 9 (.tmp 6),none⟩,⟨(some 3),.mv (.tmp 7),none⟩])
 (.seq (.seq (.region [⟨(some 8),.mv (.const (.int .i64 0)),none⟩])
 (.block 0 (.loop (.seq (.region [⟨(some 9),.bin .lss (.tmp 8) (.const (.int .i64 8)),none⟩])
 (.seq (.cond (.tmp 9) .skip (.exit 0))
 (.seq (.block 1 (.seq (.region [⟨(some 10),.mv (.tmp 8),none⟩,⟨(some 4),.mv (.tmp 10),none⟩])
 (.region [⟨(some 11),.mv (.tmp 3),none⟩,⟨(some 12),.mv (.tmp 4),none⟩,⟨(some 13),.nilCheck (.tmp 11),none⟩,⟨(some 14),.faddr 1 (.tmp 13),none⟩,⟨(some 15),.iaddrA 8 1 (.tmp 14) (.tmp 12),none⟩,⟨none,.store 1 (.tmp 15) (.const (.int .i64 (-1))),none⟩])))
 (.region [⟨(some 16),.bin .add (.tmp 8) (.const (.int .i64 1)),none⟩,⟨(some 8),.mv (.tmp 16),none⟩])))))))
 (.seq (.region [⟨(some 17),.mv (.tmp 3),none⟩,⟨(some 2),.mv (.tmp 17),none⟩])
 .ret))))⟩
theorem k105 : compFn Tryz.prog Tryz.f105 = some c105 := by kernel_rfl
-- (*croft/region.ground).Space
def c113 : AFunc := ⟨[.tmp 2],(.seq (.region [⟨(some 2),.mv (.const (.ptr none)),none⟩])
 (.seq (.region [⟨(some 3),.mv (.tmp 0),none⟩,⟨(some 4),.nilCheck (.tmp 3),none⟩,⟨(some 5),.faddr 0 (.tmp 4),none⟩,⟨(some 6),.load false 1 (.tmp 5),none⟩,⟨(some 2),.mv (.tmp 6),none⟩])
 .ret))⟩
theorem k113 : compFn Tryz.prog Tryz.f113 = some c113 := by kernel_rfl
-- (*croft/mem.Space).End
def c114 : AFunc := ⟨[.tmp 2],(.seq (.region [⟨(some 2),.mv (.const (.int .u64 0)),none⟩])
 (.seq (.draw [⟨⟨(some 3),.mv (.tmp 0),none⟩,0,0⟩,⟨⟨(some 4),.nilCheck (.tmp 3),none⟩,0,0⟩,⟨⟨(some 5),.faddr 0 (.tmp 4),none⟩,0,0⟩,⟨⟨(some 6),.faddr 0 (.tmp 5),none⟩,0,0⟩,⟨⟨(some 7),.load false 1 (.tmp 6),none⟩,0,0⟩,⟨⟨(some 8),.mv (.tmp 0),none⟩,0,0⟩,⟨⟨(some 9),.nilCheck (.tmp 8),none⟩,0,0⟩,⟨⟨(some 10),.faddr 3 (.tmp 9),none⟩,0,0⟩,⟨⟨(some 11),.load false 1 (.tmp 10),none⟩,0,0⟩,⟨⟨(some 12),.mv (.tmp 0),none⟩,0,0⟩,⟨⟨(some 13),.nilCheck (.tmp 12),none⟩,0,0⟩,⟨⟨(some 14),.faddr 4 (.tmp 13),none⟩,0,0⟩,⟨⟨(some 15),.load false 1 (.tmp 14),none⟩,0,0⟩,⟨⟨(some 16),.lenS (.tmp 15),none⟩,0,0⟩,⟨⟨(some 17),.conv .u64 (.tmp 16),none⟩,0,0⟩,⟨⟨(some 18),.bin .mul (.tmp 11) (.tmp 17),none⟩,0,0⟩,⟨⟨(some 19),.bin .add (.tmp 7) (.tmp 18),none⟩,0,0⟩,⟨⟨(some 2),.mv (.tmp 19),none⟩,0,0⟩])
 .ret))⟩
theorem k114 : compFn Tryz.prog Tryz.f114 = some c114 := by kernel_rfl
-- (*croft/region.ground).Map
def c116 : AFunc := ⟨[.tmp 2],(.seq (.region [⟨(some 2),.mv (.const (.ptr none)),none⟩])
 (.seq (.region [⟨(some 3),.mv (.tmp 0),none⟩,⟨(some 4),.nilCheck (.tmp 3),none⟩,⟨(some 5),.faddr 1 (.tmp 4),none⟩,⟨(some 6),.load false 1 (.tmp 5),none⟩,⟨(some 2),.mv (.tmp 6),none⟩])
 .ret))⟩
theorem k116 : compFn Tryz.prog Tryz.f116 = some c116 := by kernel_rfl
-- (*croft/pagemap.Map).Pages
def c117 : AFunc := ⟨[.tmp 2],(.seq (.region [⟨(some 2),.mv (.const (.int .i64 0)),none⟩])
 (.seq (.region [⟨(some 3),.mv (.tmp 0),none⟩,⟨(some 4),.nilCheck (.tmp 3),none⟩,⟨(some 5),.faddr 1 (.tmp 4),none⟩,⟨(some 6),.load false 1 (.tmp 5),none⟩,⟨(some 7),.lenS (.tmp 6),none⟩,⟨(some 2),.mv (.tmp 7),none⟩])
 .ret))⟩
theorem k117 : compFn Tryz.prog Tryz.f117 = some c117 := by kernel_rfl
-- (*croft/pagemap.Map).At
def c118 : AFunc := ⟨[.cell 4 true 11,.tmp 5],(.seq (.region [⟨(some 4),.alloc [(.int .i64 0),(.int .i64 0),(.int .i64 0),(.int .i64 0),(.int .i64 0),(.int .i64 0),(.int .i64 0),(.int .u64 0),(.int .u64 0),(.int .u64 0),(.int .u64 0)],none⟩,⟨(some 5),.mv (.const (.bool false)),none⟩])
 (.seq (.seq (.region [⟨(some 6),.mv (.tmp 1),none⟩,⟨(some 7),.bin .lss (.tmp 6) (.const (.int .i64 0)),none⟩,⟨(some 8),.mv (.tmp 7),none⟩,⟨(some 9),.mv (.tmp 1),some (8,false)⟩,⟨(some 10),.mv (.tmp 0),some (8,false)⟩,⟨(some 11),.nilCheck (.tmp 10),some (8,false)⟩,⟨(some 12),.faddr 1 (.tmp 11),some (8,false)⟩,⟨(some 13),.load false 1 (.tmp 12),some (8,false)⟩,⟨(some 14),.lenS (.tmp 13),some (8,false)⟩,⟨(some 15),.bin .geq (.tmp 9) (.tmp 14),some (8,false)⟩,⟨(some 16),.pick (.tmp 8) (.const (.bool true)) (.tmp 15),none⟩])
 (.cond (.tmp 16) (.seq (.region [⟨(some 17),.build [(.int .i64 0),(.int .i64 0),(.int .i64 0),(.int .i64 0),(.int .i64 0),(.int .i64 0),(.int .i64 0),(.int .u64 0),(.int .u64 0),(.int .u64 0),(.int .u64 0)] [],none⟩,⟨none,.store 11 (.tmp 4) (.tmp 17),none⟩,⟨(some 5),.mv (.const (.bool false)),none⟩])
 .ret) .skip))
 (.seq (.region [⟨(some 18),.mv (.tmp 0),none⟩,⟨(some 19),.nilCheck (.tmp 18),none⟩,⟨(some 20),.faddr 1 (.tmp 19),none⟩,⟨(some 21),.load false 1 (.tmp 20),none⟩,⟨(some 22),.mv (.tmp 1),none⟩,⟨(some 23),.iaddrS 11 (.tmp 21) (.tmp 22),none⟩,⟨(some 24),.load true 11 (.tmp 23),none⟩,⟨none,.store 11 (.tmp 4) (.tmp 24),none⟩,⟨(some 5),.mv (.const (.bool true)),none⟩])
 .ret)))⟩
theorem k118 : compFn Tryz.prog Tryz.f118 = some c118 := by kernel_rfl
-- (*croft/malloc.Heap).Free
def c132 : AFunc := ⟨[.tmp 4],(.seq (.region [⟨(some 4),.mv (.const (.int .i64 0)),none⟩])
 (.seq (.region [⟨(some 7),.mv (.tmp 0),none⟩,⟨(some 8),.nilCheck (.tmp 7),none⟩,⟨(some 9),.faddr 0 (.tmp 8),none⟩,⟨(some 10),.call 111 [(.tmp 9)],none⟩])
 (.seq (.region [⟨(some 11),.mv (.tmp 0),none⟩,⟨(some 12),.nilCheck (.tmp 11),none⟩,⟨(some 13),.faddr 0 (.tmp 12),none⟩,⟨none,.defer 112 [(.tmp 13)],none⟩])
 (.seq (.seq (.region [⟨(some 14),.mv (.tmp 1),none⟩,⟨(some 15),.bin .eql (.tmp 14) (.const (.int .u64 0)),none⟩])
 (.cond (.tmp 15) (.seq (.region [⟨(some 4),.mv (.const (.int .i64 0)),none⟩])
 .ret) .skip))
 (.seq (.region [⟨(some 17),.mv (.tmp 0),none⟩,⟨(some 18),.mv (.tmp 1),none⟩,⟨(some 19),.call 147 [(.tmp 17),(.tmp 18)],none⟩,⟨(some 16),.mv (.tmp 19),none⟩,⟨(some 20),.extract (.tmp 16) 0,none⟩,⟨(some 21),.extract (.tmp 16) 1,none⟩,⟨(some 5),.alloc [(.int .u64 0),(.int .u64 0)],none⟩,⟨none,.store 2 (.tmp 5) (.tmp 20),none⟩,⟨(some 6),.mv (.tmp 21),none⟩])
 (.seq (.seq (.region [⟨(some 22),.mv (.tmp 6),none⟩,⟨(some 23),.bin .eql (.tmp 22) (.const (.int .i64 0)),none⟩])
 (.cond (.tmp 23) (.region [⟨(some 24),.mv (.tmp 0),none⟩,⟨(some 25),.load true 2 (.tmp 5),none⟩,⟨(some 26),.call 214 [(.tmp 24),(.tmp 25)],none⟩]) .skip))
 (.seq (.region [⟨(some 27),.mv (.tmp 6),none⟩,⟨(some 4),.mv (.tmp 27),none⟩])
 .ret)))))))⟩
theorem k132 : compFn Tryz.prog Tryz.f132 = some c132 := by kernel_rfl
-- (*croft/malloc.Heap).start
def c147 : AFunc := ⟨[.cell 4 true 2,.tmp 5],(.seq (.region [⟨(some 4),.alloc [(.int .u64 0),(.int .u64 0)],none⟩,⟨(some 5),.mv (.const (.int .i64 0)),none⟩])
 (.seq (.region [⟨(some 9),.mv (.tmp 0),none⟩,⟨(some 10),.mv (.tmp 1),none⟩,⟨(some 11),.call 220 [(.tmp 9),(.tmp 10)],none⟩,⟨(some 8),.mv (.tmp 11),none⟩,⟨(some 12),.extract (.tmp 8) 0,none⟩,⟨(some 13),.extract (.tmp 8) 1,none⟩,⟨(some 6),.alloc [(.int .u64 0),(.int .u64 0)],none⟩,⟨none,.store 2 (.tmp 6) (.tmp 12),none⟩,⟨(some 7),.mv (.tmp 13),none⟩])
 (.seq (.seq (.region [⟨(some 14),.mv (.tmp 7),none⟩,⟨(some 15),.not (.tmp 14),none⟩,⟨(some 16),.mv (.tmp 15),none⟩,⟨(some 17),.faddr 0 (.tmp 6),some (16,false)⟩,⟨(some 18),.load false 1 (.tmp 17),some (16,false)⟩,⟨(some 19),.mv (.tmp 1),some (16,false)⟩,⟨(some 20),.bin .neq (.tmp 18) (.tmp 19),some (16,false)⟩,⟨(some 21),.pick (.tmp 16) (.const (.bool true)) (.tmp 20),none⟩])
 (.cond (.tmp 21) (.seq (.region [⟨(some 22),.build [(.int .u64 0),(.int .u64 0)] [],none⟩,⟨none,.store 2 (.tmp 4) (.tmp 22),none⟩,⟨(some 5),.mv (.const (.int .i64 1)),none⟩])
 .ret) .skip))
 (.seq (.region [⟨(some 23),.load true 2 (.tmp 6),none⟩,⟨none,.store 2 (.tmp 4) (.tmp 23),none⟩,⟨(some 5),.mv (.const (.int .i64 0)),none⟩])
 .ret))))⟩
theorem k147 : compFn Tryz.prog Tryz.f147 = some c147 := by kernel_rfl
-- (*croft/malloc.Heap).within
def c148 : AFunc := ⟨[.tmp 6],(.seq (.region [⟨(some 6),.mv (.const (.bool false)),none⟩])
 (.seq (.region [⟨(some 10),.mv (.tmp 0),none⟩,⟨(some 11),.mv (.tmp 1),none⟩,⟨(some 12),.call 220 [(.tmp 10),(.tmp 11)],none⟩,⟨(some 9),.mv (.tmp 12),none⟩,⟨(some 13),.extract (.tmp 9) 0,none⟩,⟨(some 14),.extract (.tmp 9) 1,none⟩,⟨(some 7),.alloc [(.int .u64 0),(.int .u64 0)],none⟩,⟨none,.store 2 (.tmp 7) (.tmp 13),none⟩,⟨(some 8),.mv (.tmp 14),none⟩])
 (.seq (.region [⟨(some 15),.mv (.tmp 8),none⟩,⟨(some 16),.mv (.tmp 15),none⟩,⟨(some 17),.mv (.tmp 2),some (16,true)⟩,⟨(some 18),.faddr 0 (.tmp 7),some (16,true)⟩,⟨(some 19),.load false 1 (.tmp 18),some (16,true)⟩,⟨(some 20),.faddr 1 (.tmp 7),some (16,true)⟩,⟨(some 21),.load false 1 (.tmp 20),some (16,true)⟩,⟨(some 22),.bin .add (.tmp 19) (.tmp 21),some (16,true)⟩,⟨(some 23),.mv (.tmp 1),some (16,true)⟩,⟨(some 24),.bin .sub (.tmp 22) (.tmp 23),some (16,true)⟩,⟨(some 25),.bin .leq (.tmp 17) (.tmp 24),some (16,true)⟩,⟨(some 26),.pick (.tmp 16) (.tmp 25) (.const (.bool false)),none⟩,⟨(some 6),.mv (.tmp 26),none⟩])
 .ret)))⟩
theorem k148 : compFn Tryz.prog Tryz.f148 = some c148 := by kernel_rfl
-- (*croft/mem.Space).Read
def c149 : AFunc := ⟨[.tmp 6,.cell 7 false 1],(.seq (.region [⟨(some 6),.mv (.const (.slice none 0 0)),none⟩,⟨(some 7),.alloc [(.int .i64 0)],none⟩])
 (.seq (.region [⟨(some 9),.makeFunc 221 [] [(.tmp 7)],none⟩,⟨none,.deferv (.tmp 9) [],none⟩])
 (.seq (.region [⟨(some 10),.mv (.tmp 0),none⟩,⟨(some 11),.mv (.tmp 1),none⟩,⟨(some 12),.mv (.tmp 2),none⟩,⟨(some 13),.call 223 [(.tmp 10),(.tmp 11),(.tmp 12)],none⟩])
 (.seq (.region [⟨(some 14),.mv (.tmp 2),none⟩,⟨(some 15),.makeSlice 1 1 [(.int .u8 0)] (.tmp 14) (.tmp 14),none⟩,⟨(some 8),.mv (.tmp 15),none⟩])
 (.seq (.region [⟨(some 16),.mv (.tmp 0),none⟩,⟨(some 17),.mv (.tmp 1),none⟩,⟨(some 18),.mv (.tmp 8),none⟩,⟨(some 19),.call 224 [(.tmp 16),(.tmp 17),(.tmp 18)],none⟩])
 (.seq (.region [⟨(some 20),.mv (.tmp 8),none⟩,⟨(some 6),.mv (.tmp 20),none⟩,⟨none,.store 1 (.tmp 7) (.const (.int .i64 0)),none⟩])
 .ret))))))⟩
theorem k149 : compFn Tryz.prog Tryz.f149 = some c149 := by kernel_rfl
-- (*croft/malloc.Heap).Write
def c151 : AFunc := ⟨[.tmp 6],(.seq (.region [⟨(some 6),.mv (.const (.int .i64 0)),none⟩])
 (.seq (.region [⟨(some 7),.mv (.tmp 0),none⟩,⟨(some 8),.nilCheck (.tmp 7),none⟩,⟨(some 9),.faddr 0 (.tmp 8),none⟩,⟨(some 10),.call 111 [(.tmp 9)],none⟩])
 (.seq (.region [⟨(some 11),.mv (.tmp 0),none⟩,⟨(some 12),.nilCheck (.tmp 11),none⟩,⟨(some 13),.faddr 0 (.tmp 12),none⟩,⟨none,.defer 112 [(.tmp 13)],none⟩])
 (.seq (.seq (.region [⟨(some 14),.mv (.tmp 2),none⟩,⟨(some 15),.lenS (.tmp 14),none⟩,⟨(some 16),.bin .eql (.tmp 15) (.const (.int .i64 0)),none⟩])
 (.cond (.tmp 16) (.seq (.region [⟨(some 6),.mv (.const (.int .i64 0)),none⟩])
 .ret) .skip))
 (.seq (.seq (.region [⟨(some 17),.mv (.tmp 0),none⟩,⟨(some 18),.mv (.tmp 1),none⟩,⟨(some 19),.mv (.tmp 2),none⟩,⟨(some 20),.lenS (.tmp 19),none⟩,⟨(some 21),.conv .u64 (.tmp 20),none⟩,⟨(some 22),.call 148 [(.tmp 17),(.tmp 18),(.tmp 21)],none⟩,⟨(some 23),.not (.tmp 22),none⟩])
 (.cond (.tmp 23) (.seq (.region [⟨(some 6),.mv (.const (.int .i64 4)),none⟩])
 .ret) .skip))
 (.seq (.region [⟨(some 24),.mv (.tmp 0),none⟩,⟨(some 25),.nilCheck (.tmp 24),none⟩,⟨(some 26),.faddr 5 (.tmp 25),none⟩,⟨(some 27),.load false 1 (.tmp 26),none⟩,⟨(some 28),.nilCheck (.tmp 27),none⟩,⟨(some 29),.faddr 0 (.tmp 28),none⟩,⟨(some 30),.call 113 [(.tmp 29)],none⟩,⟨(some 31),.mv (.tmp 1),none⟩,⟨(some 32),.mv (.tmp 2),none⟩,⟨(some 33),.call 226 [(.tmp 30),(.tmp 31),(.tmp 32)],none⟩,⟨(some 6),.mv (.tmp 33),none⟩])
 .ret))))))⟩
theorem k151 : compFn Tryz.prog Tryz.f151 = some c151 := by kernel_rfl
-- croft/croftref2.May
def c158 : AFunc := ⟨[.tmp 2],(.seq (.region [⟨(some 1),.box 3 (.tmp 0),none⟩,⟨(some 2),.mv (.const (.bool false)),none⟩])
 (.seq (.seq (.region [⟨(some 7),.faddr 2 (.tmp 1),none⟩,⟨(some 8),.load false 1 (.tmp 7),none⟩,⟨(some 9),.bin .lss (.tmp 8) (.const (.int .i64 0)),none⟩,⟨(some 10),.mv (.tmp 9),none⟩,⟨(some 11),.faddr 2 (.tmp 1),some (10,false)⟩,⟨(some 12),.load false 1 (.tmp 11),some (10,false)⟩,⟨(some 13),.bin .gtr (.tmp 12) (.const (.int .i64 8)),some (10,false)⟩,⟨(some 14),.pick (.tmp 10) (.const (.bool true)) (.tmp 13),none⟩,⟨(some 15),.mv (.tmp 14),none⟩,⟨(some 16),.faddr 1 (.tmp 1),some (15,false)⟩,⟨(some 17),.load false 1 (.tmp 16),some (15,false)⟩,⟨(some 18),.bin .lss (.tmp 17) (.const (.int .i64 1)),some (15,false)⟩,⟨(some 19),.pick (.tmp 15) (.const (.bool true)) (.tmp 18),none⟩,⟨(some 20),.mv (.tmp 19),none⟩,⟨(some 21),.faddr 1 (.tmp 1),some (20,false)⟩,⟨(some 22),.load false 1 (.tmp 21),some (20,false)⟩,⟨(some 23),.bin .gtr (.tmp 22) (.const (.int .i64 64)),some (20,false)⟩,⟨(some 24),.pick (.tmp 20) (.const (.bool true)) (.tmp 23),none⟩])
 (.cond (.tmp 24) (.seq (.region [⟨(some 2),.mv (.const (.bool false)),none⟩])
 .ret) .skip))
 (.seq (.region [⟨(some 25),.faddr 1 (.tmp 1),none⟩,⟨(some 26),.load false 1 (.tmp 25),none⟩,⟨(some 3),.mv (.tmp 26),none⟩])
 (.seq (.region [⟨(some 4),.mv (.const (.int .u64 4096)),none⟩])
 (.seq (.seq (.region [⟨(some 5),.mv (.const (.int .i64 0)),none⟩])
 (.block 0 (.loop (.seq (.seq (.region [⟨(some 27),.mv (.tmp 5),none⟩,⟨(some 28),.faddr 2 (.tmp 1),none⟩,⟨(some 29),.load false 1 (.tmp 28),none⟩,⟨(some 30),.bin .lss (.tmp 27) (.tmp 29),none⟩])
 (.cond (.tmp 30) .skip (.exit 0)))
 (.seq (.block 1 (.seq (.region [⟨(some 33),.mv (.tmp 3),none⟩,⟨(some 34),.bin .mul (.tmp 33) (.const (.int .i64 2)),none⟩,⟨(some 3),.mv (.tmp 34),none⟩])
 (.region [⟨(some 35),.mv (.tmp 4),none⟩,⟨(some 36),.bin .mul (.tmp 35) (.const (.int .u64 2)),none⟩,⟨(some 4),.mv (.tmp 36),none⟩])))
 (.region [⟨(some 31),.mv (.tmp 5),none⟩,⟨(some 32),.bin .add (.tmp 31) (.const (.int .i64 1)),none⟩,⟨(some 5),.mv (.tmp 32),none⟩]))))))
 (.seq (.seq (.region [⟨(some 37),.mv (.tmp 3),none⟩,⟨(some 38),.bin .gtr (.tmp 37) (.const (.int .i64 1024)),none⟩,⟨(some 39),.mv (.tmp 38),none⟩,⟨(some 40),.faddr 0 (.tmp 1),some (39,false)⟩,⟨(some 41),.load false 1 (.tmp 40),some (39,false)⟩,⟨(some 42),.bin .eql (.tmp 41) (.const (.int .u64 0)),some (39,false)⟩,⟨(some 43),.pick (.tmp 39) (.const (.bool true)) (.tmp 42),none⟩,⟨(some 44),.mv (.tmp 43),none⟩,⟨(some 45),.faddr 0 (.tmp 1),some (44,false)⟩,⟨(some 46),.load false 1 (.tmp 45),some (44,false)⟩,⟨(some 47),.mv (.tmp 4),some (44,false)⟩,⟨(some 48),.bin .rem (.tmp 46) (.tmp 47),some (44,false)⟩,⟨(some 49),.bin .neq (.tmp 48) (.const (.int .u64 0)),some (44,false)⟩,⟨(some 50),.pick (.tmp 44) (.const (.bool true)) (.tmp 49),none⟩])
 (.cond (.tmp 50) (.seq (.region [⟨(some 2),.mv (.const (.bool false)),none⟩])
 .ret) .skip))
 (.seq (.region [⟨(some 51),.mv (.tmp 4),none⟩,⟨(some 52),.faddr 1 (.tmp 1),none⟩,⟨(some 53),.load false 1 (.tmp 52),none⟩,⟨(some 54),.conv .u64 (.tmp 53),none⟩,⟨(some 55),.bin .mul (.tmp 51) (.tmp 54),none⟩,⟨(some 6),.mv (.tmp 55),none⟩])
 (.seq (.region [⟨(some 56),.faddr 0 (.tmp 1),none⟩,⟨(some 57),.load false 1 (.tmp 56),none⟩,⟨(some 58),.bin .leq (.tmp 57) (.const (.int .u64 9223372036854775808)),none⟩,⟨(some 59),.mv (.tmp 58),none⟩,⟨(some 60),.faddr 0 (.tmp 1),some (59,true)⟩,⟨(some 61),.load false 1 (.tmp 60),some (59,true)⟩,⟨(some 62),.mv (.tmp 6),some (59,true)⟩,⟨(some 63),.bin .add (.tmp 61) (.tmp 62),some (59,true)⟩,⟨(some 64),.bin .leq (.tmp 63) (.const (.int .u64 9223372036854775808)),some (59,true)⟩,⟨(some 65),.pick (.tmp 59) (.tmp 64) (.const (.bool false)),none⟩,⟨(some 2),.mv (.tmp 65),none⟩])
 .ret))))))))⟩
theorem k158 : compFn Tryz.prog Tryz.f158 = some c158 := by kernel_rfl
-- (*croft/malloc.Heap).Calloc
def c162 : AFunc := ⟨[.tmp 8,.tmp 9],(.seq (.region [⟨(some 8),.mv (.const (.int .u64 0)),none⟩,⟨(some 9),.mv (.const (.int .i64 0)),none⟩])
 (.seq (.region [⟨(some 14),.mv (.tmp 0),none⟩,⟨(some 15),.nilCheck (.tmp 14),none⟩,⟨(some 16),.faddr 0 (.tmp 15),none⟩,⟨(some 17),.call 111 [(.tmp 16)],none⟩])
 (.seq (.region [⟨(some 18),.mv (.tmp 0),none⟩,⟨(some 19),.nilCheck (.tmp 18),none⟩,⟨(some 20),.faddr 0 (.tmp 19),none⟩,⟨none,.defer 112 [(.tmp 20)],none⟩])
 (.seq (.region [⟨(some 22),.mv (.tmp 1),none⟩,⟨(some 23),.mv (.tmp 2),none⟩,⟨(some 24),.call 236 [(.tmp 22),(.tmp 23)],none⟩,⟨(some 21),.mv (.tmp 24),none⟩,⟨(some 25),.extract (.tmp 21) 0,none⟩,⟨(some 26),.extract (.tmp 21) 1,none⟩,⟨(some 10),.mv (.tmp 25),none⟩,⟨(some 11),.mv (.tmp 26),none⟩])
 (.seq (.seq (.region [⟨(some 27),.mv (.tmp 10),none⟩,⟨(some 28),.bin .neq (.tmp 27) (.const (.int .u64 0)),none⟩])
 (.cond (.tmp 28) (.seq (.region [⟨(some 8),.mv (.const (.int .u64 0)),none⟩,⟨(some 9),.mv (.const (.int .i64 3)),none⟩])
 .ret) .skip))
 (.seq (.region [⟨(some 30),.mv (.tmp 0),none⟩,⟨(some 31),.mv (.tmp 11),none⟩,⟨(some 32),.mv (.tmp 3),none⟩,⟨(some 33),.call 202 [(.tmp 30),(.tmp 31),(.const (.int .u64 1)),(.tmp 32)],none⟩,⟨(some 29),.mv (.tmp 33),none⟩,⟨(some 34),.extract (.tmp 29) 0,none⟩,⟨(some 35),.extract (.tmp 29) 1,none⟩,⟨(some 12),.alloc [(.int .u64 0),(.int .u64 0)],none⟩,⟨none,.store 2 (.tmp 12) (.tmp 34),none⟩,⟨(some 13),.mv (.tmp 35),none⟩])
 (.seq (.seq (.region [⟨(some 36),.mv (.tmp 13),none⟩,⟨(some 37),.bin .neq (.tmp 36) (.const (.int .i64 0)),none⟩])
 (.cond (.tmp 37) (.seq (.region [⟨(some 38),.mv (.tmp 13),none⟩,⟨(some 8),.mv (.const (.int .u64 0)),none⟩,⟨(some 9),.mv (.tmp 38),none⟩])
 .ret) .skip))
 (.seq (.draw [⟨⟨(some 39),.mv (.tmp 0),none⟩,0,0⟩,⟨⟨(some 40),.nilCheck (.tmp 39),none⟩,0,0⟩,⟨⟨(some 41),.faddr 5 (.tmp 40),none⟩,0,0⟩,⟨⟨(some 42),.load false 1 (.tmp 41),none⟩,0,0⟩,⟨⟨(some 43),.nilCheck (.tmp 42),none⟩,0,0⟩,⟨⟨(some 44),.faddr 0 (.tmp 43),none⟩,0,0⟩,⟨⟨(some 45),.call 113 [(.tmp 44)],none⟩,0,1⟩,⟨⟨(some 46),.faddr 0 (.tmp 12),none⟩,0,1⟩,⟨⟨(some 47),.load false 1 (.tmp 46),none⟩,0,1⟩,⟨⟨(some 48),.faddr 1 (.tmp 12),none⟩,0,1⟩,⟨⟨(some 49),.load false 1 (.tmp 48),none⟩,0,1⟩,⟨⟨(some 50),.call 237 [(.tmp 45),(.tmp 47),(.tmp 49),(.const (.int .u8 0))],none⟩,1,2⟩])
 (.seq (.region [⟨(some 51),.faddr 0 (.tmp 12),none⟩,⟨(some 52),.load false 1 (.tmp 51),none⟩,⟨(some 8),.mv (.tmp 52),none⟩,⟨(some 9),.mv (.const (.int .i64 0)),none⟩])
 .ret)))))))))⟩
theorem k162 : compFn Tryz.prog Tryz.f162 = some c162 := by kernel_rfl
-- (*croft/malloc.Heap).StoreWord
def c165 : AFunc := ⟨[.tmp 6],(.seq (.region [⟨(some 6),.mv (.const (.int .i64 0)),none⟩])
 (.seq (.region [⟨(some 7),.mv (.tmp 0),none⟩,⟨(some 8),.nilCheck (.tmp 7),none⟩,⟨(some 9),.faddr 0 (.tmp 8),none⟩,⟨(some 10),.call 111 [(.tmp 9)],none⟩])
 (.seq (.region [⟨(some 11),.mv (.tmp 0),none⟩,⟨(some 12),.nilCheck (.tmp 11),none⟩,⟨(some 13),.faddr 0 (.tmp 12),none⟩,⟨none,.defer 112 [(.tmp 13)],none⟩])
 (.seq (.seq (.region [⟨(some 14),.mv (.tmp 0),none⟩,⟨(some 15),.mv (.tmp 1),none⟩,⟨(some 16),.call 148 [(.tmp 14),(.tmp 15),(.const (.int .u64 8))],none⟩,⟨(some 17),.not (.tmp 16),none⟩])
 (.cond (.tmp 17) (.seq (.region [⟨(some 6),.mv (.const (.int .i64 4)),none⟩])
 .ret) .skip))
 (.seq (.region [⟨(some 18),.mv (.tmp 0),none⟩,⟨(some 19),.nilCheck (.tmp 18),none⟩,⟨(some 20),.faddr 5 (.tmp 19),none⟩,⟨(some 21),.load false 1 (.tmp 20),none⟩,⟨(some 22),.nilCheck (.tmp 21),none⟩,⟨(some 23),.faddr 0 (.tmp 22),none⟩,⟨(some 24),.call 113 [(.tmp 23)],none⟩,⟨(some 25),.mv (.tmp 1),none⟩,⟨(some 26),.mv (.tmp 2),none⟩,⟨(some 27),.call 238 [(.tmp 24),(.tmp 25),(.tmp 26)],none⟩,⟨(some 6),.mv (.tmp 27),none⟩])
 .ret)))))⟩
theorem k165 : compFn Tryz.prog Tryz.f165 = some c165 := by kernel_rfl
-- slices.Collect[uint64]
def c166 : AFunc := ⟨[.tmp 2],(.seq (.region [⟨(some 2),.mv (.const (.slice none 0 0)),none⟩])
 (.seq (.region [⟨(some 3),.mv (.tmp 0),none⟩,⟨(some 4),.call 239 [(.const (.slice none 0 0)),(.tmp 3)],none⟩,⟨(some 2),.mv (.tmp 4),none⟩])
 .ret))⟩
theorem k166 : compFn Tryz.prog Tryz.f166 = some c166 := by kernel_rfl
-- slices.SortFunc[[]uint64,uint64]
def c168 : AFunc := ⟨[],(.seq (.region [⟨(some 5),.mv (.tmp 0),none⟩,⟨(some 6),.lenS (.tmp 5),none⟩,⟨(some 4),.mv (.tmp 6),none⟩])
 (.region [⟨(some 7),.mv (.tmp 0),none⟩,⟨(some 8),.mv (.tmp 4),none⟩,⟨(some 9),.mv (.tmp 4),none⟩,⟨(some 10),.conv .u64 (.tmp 9),none⟩,⟨(some 11),.call 242 [(.tmp 10)],none⟩,⟨(some 12),.mv (.tmp 1),none⟩,⟨(some 13),.call 241 [(.tmp 7),(.const (.int .i64 0)),(.tmp 8),(.tmp 11),(.tmp 12)],none⟩]))⟩
theorem k168 : compFn Tryz.prog Tryz.f168 = some c168 := by kernel_rfl
-- (*croft/malloc.Heap).LoadWord
def c170 : AFunc := ⟨[.tmp 4,.tmp 5],(.seq (.region [⟨(some 4),.mv (.const (.int .u64 0)),none⟩,⟨(some 5),.mv (.const (.int .i64 0)),none⟩])
 (.seq (.region [⟨(some 6),.mv (.tmp 0),none⟩,⟨(some 7),.nilCheck (.tmp 6),none⟩,⟨(some 8),.faddr 0 (.tmp 7),none⟩,⟨(some 9),.call 111 [(.tmp 8)],none⟩])
 (.seq (.region [⟨(some 10),.mv (.tmp 0),none⟩,⟨(some 11),.nilCheck (.tmp 10),none⟩,⟨(some 12),.faddr 0 (.tmp 11),none⟩,⟨none,.defer 112 [(.tmp 12)],none⟩])
 (.seq (.seq (.region [⟨(some 13),.mv (.tmp 0),none⟩,⟨(some 14),.mv (.tmp 1),none⟩,⟨(some 15),.call 148 [(.tmp 13),(.tmp 14),(.const (.int .u64 8))],none⟩,⟨(some 16),.not (.tmp 15),none⟩])
 (.cond (.tmp 16) (.seq (.region [⟨(some 4),.mv (.const (.int .u64 0)),none⟩,⟨(some 5),.mv (.const (.int .i64 4)),none⟩])
 .ret) .skip))
 (.seq (.region [⟨(some 17),.mv (.tmp 0),none⟩,⟨(some 18),.nilCheck (.tmp 17),none⟩,⟨(some 19),.faddr 5 (.tmp 18),none⟩,⟨(some 20),.load false 1 (.tmp 19),none⟩,⟨(some 21),.nilCheck (.tmp 20),none⟩,⟨(some 22),.faddr 0 (.tmp 21),none⟩,⟨(some 23),.call 113 [(.tmp 22)],none⟩,⟨(some 24),.mv (.tmp 1),none⟩,⟨(some 25),.call 243 [(.tmp 23),(.tmp 24)],none⟩,⟨(some 26),.extract (.tmp 25) 0,none⟩,⟨(some 27),.extract (.tmp 25) 1,none⟩,⟨(some 4),.mv (.tmp 26),none⟩,⟨(some 5),.mv (.tmp 27),none⟩])
 .ret)))))⟩
theorem k170 : compFn Tryz.prog Tryz.f170 = some c170 := by kernel_rfl
-- croft/trace.New
def c171 : AFunc := ⟨[.tmp 2],(.seq (.region [⟨(some 2),.mv (.const (.ptr none)),none⟩])
 (.seq (.region [⟨(some 3),.mv (.tmp 0),none⟩,⟨(some 4),.makeMap,none⟩,⟨(some 5),.makeMap,none⟩,⟨(some 6),.makeMap,none⟩,⟨(some 7),.build [(.ptr none),(.map none),(.map none),(.slice none 0 0),(.int .i64 0),(.map none)] [(0,1,(.tmp 3)),(1,1,(.tmp 4)),(2,1,(.tmp 5)),(5,1,(.tmp 6))],none⟩,⟨(some 8),.box 6 (.tmp 7),none⟩,⟨(some 2),.mv (.tmp 8),none⟩])
 .ret))⟩
theorem k171 : compFn Tryz.prog Tryz.f171 = some c171 := by kernel_rfl
-- (*croft/trace.Store).word
def c172 : AFunc := ⟨[.tmp 6,.tmp 7],(.seq (.region [⟨(some 6),.mv (.const (.int .u64 0)),none⟩,⟨(some 7),.mv (.const (.bool false)),none⟩])
 (.seq (.region [⟨(some 11),.mv (.tmp 0),none⟩,⟨(some 12),.nilCheck (.tmp 11),none⟩,⟨(some 13),.faddr 1 (.tmp 12),none⟩,⟨(some 14),.load false 1 (.tmp 13),none⟩,⟨(some 15),.mv (.tmp 1),none⟩,⟨(some 16),.lookup .int (.ptr none) true (.tmp 14) (.tmp 15),none⟩,⟨(some 10),.mv (.tmp 16),none⟩,⟨(some 17),.extract (.tmp 10) 0,none⟩,⟨(some 18),.extract (.tmp 10) 1,none⟩,⟨(some 8),.mv (.tmp 17),none⟩,⟨(some 9),.mv (.tmp 18),none⟩])
 (.seq (.draw [⟨⟨(some 19),.mv (.tmp 1),none⟩,0,0⟩,⟨⟨(some 20),.mv (.tmp 2),none⟩,0,0⟩,⟨⟨(some 21),.conv .u64 (.tmp 20),none⟩,0,0⟩,⟨⟨(some 22),.bin .mul (.const (.int .u64 8)) (.tmp 21),none⟩,0,0⟩,⟨⟨(some 23),.bin .add (.tmp 19) (.tmp 22),none⟩,0,0⟩,⟨⟨(some 24),.mv (.tmp 9),none⟩,0,0⟩,⟨⟨(some 25),.mv (.tmp 24),none⟩,0,0⟩,⟨⟨(some 26),.mv (.tmp 2),some (25,true)⟩,0,0⟩,⟨⟨(some 27),.bin .geq (.tmp 26) (.const (.int .i64 0)),some (25,true)⟩,0,0⟩,⟨⟨(some 28),.pick (.tmp 25) (.tmp 27) (.const (.bool false)),none⟩,0,0⟩,⟨⟨(some 29),.mv (.tmp 28),none⟩,0,0⟩,⟨⟨(some 30),.mv (.tmp 2),some (29,true)⟩,0,0⟩,⟨⟨(some 31),.mv (.tmp 8),some (29,true)⟩,0,0⟩,⟨⟨(some 32),.nilCheck (.tmp 31),some (29,true)⟩,0,0⟩,⟨⟨(some 33),.faddr 0 (.tmp 32),some (29,true)⟩,0,0⟩,⟨⟨(some 34),.load false 1 (.tmp 33),some (29,true)⟩,0,0⟩,⟨⟨(some 35),.bin .lss (.tmp 30) (.tmp 34),some (29,true)⟩,0,0⟩,⟨⟨(some 36),.pick (.tmp 29) (.tmp 35) (.const (.bool false)),none⟩,0,0⟩,⟨⟨(some 6),.mv (.tmp 23),none⟩,0,0⟩,⟨⟨(some 7),.mv (.tmp 36),none⟩,0,0⟩])
 .ret)))⟩
theorem k172 : compFn Tryz.prog Tryz.f172 = some c172 := by kernel_rfl
-- (*croft/trace.Store).span
def c173 : AFunc := ⟨[.tmp 8,.tmp 9],(.seq (.region [⟨(some 8),.mv (.const (.int .u64 0)),none⟩,⟨(some 9),.mv (.const (.int .i64 0)),none⟩])
 (.seq (.region [⟨(some 13),.mv (.tmp 0),none⟩,⟨(some 14),.nilCheck (.tmp 13),none⟩,⟨(some 15),.faddr 1 (.tmp 14),none⟩,⟨(some 16),.load false 1 (.tmp 15),none⟩,⟨(some 17),.mv (.tmp 1),none⟩,⟨(some 18),.lookup .int (.ptr none) true (.tmp 16) (.tmp 17),none⟩,⟨(some 12),.mv (.tmp 18),none⟩,⟨(some 19),.extract (.tmp 12) 0,none⟩,⟨(some 20),.extract (.tmp 12) 1,none⟩,⟨(some 10),.mv (.tmp 19),none⟩,⟨(some 11),.mv (.tmp 20),none⟩])
 (.seq (.block 0 (.seq (.region [⟨(some 22),.mv (.tmp 11),none⟩,⟨(some 23),.not (.tmp 22),none⟩,⟨(some 21),.mv (.tmp 23),none⟩])
 (.cond (.tmp 21) (.seq (.region [⟨(some 8),.mv (.const (.int .u64 0)),none⟩,⟨(some 9),.mv (.const (.int .i64 1)),none⟩])
 .ret) (.seq (.region [⟨(some 25),.mv (.tmp 2),none⟩,⟨(some 26),.bin .lss (.tmp 25) (.const (.int .i64 0)),none⟩,⟨(some 27),.mv (.tmp 26),none⟩,⟨(some 28),.mv (.tmp 3),some (27,false)⟩,⟨(some 29),.bin .lss (.tmp 28) (.const (.int .i64 0)),some (27,false)⟩,⟨(some 30),.pick (.tmp 27) (.const (.bool true)) (.tmp 29),none⟩,⟨(some 31),.mv (.tmp 30),none⟩,⟨(some 32),.mv (.tmp 2),some (31,false)⟩,⟨(some 33),.mv (.tmp 10),some (31,false)⟩,⟨(some 34),.nilCheck (.tmp 33),some (31,false)⟩,⟨(some 35),.faddr 1 (.tmp 34),some (31,false)⟩,⟨(some 36),.load false 1 (.tmp 35),some (31,false)⟩,⟨(some 37),.bin .gtr (.tmp 32) (.tmp 36),some (31,false)⟩,⟨(some 38),.pick (.tmp 31) (.const (.bool true)) (.tmp 37),none⟩,⟨(some 39),.mv (.tmp 38),none⟩,⟨(some 40),.mv (.tmp 3),some (39,false)⟩,⟨(some 41),.mv (.tmp 10),some (39,false)⟩,⟨(some 42),.nilCheck (.tmp 41),some (39,false)⟩,⟨(some 43),.faddr 1 (.tmp 42),some (39,false)⟩,⟨(some 44),.load false 1 (.tmp 43),some (39,false)⟩,⟨(some 45),.mv (.tmp 2),some (39,false)⟩,⟨(some 46),.bin .sub (.tmp 44) (.tmp 45),some (39,false)⟩,⟨(some 47),.bin .gtr (.tmp 40) (.tmp 46),some (39,false)⟩,⟨(some 48),.pick (.tmp 39) (.const (.bool true)) (.tmp 47),none⟩,⟨(some 24),.mv (.tmp 48),none⟩])
 (.cond (.tmp 24) (.seq (.region [⟨(some 8),.mv (.const (.int .u64 0)),none⟩,⟨(some 9),.mv (.const (.int .i64 4)),none⟩])
 .ret) .skip)))))
 (.seq (.region [⟨(some 49),.mv (.tmp 1),none⟩,⟨(some 50),.mv (.tmp 10),none⟩,⟨(some 51),.nilCheck (.tmp 50),none⟩,⟨(some 52),.faddr 0 (.tmp 51),none⟩,⟨(some 53),.load false 1 (.tmp 52),none⟩,⟨(some 54),.conv .u64 (.tmp 53),none⟩,⟨(some 55),.bin .mul (.const (.int .u64 8)) (.tmp 54),none⟩,⟨(some 56),.bin .add (.tmp 49) (.tmp 55),none⟩,⟨(some 57),.mv (.tmp 2),none⟩,⟨(some 58),.conv .u64 (.tmp 57),none⟩,⟨(some 59),.bin .add (.tmp 56) (.tmp 58),none⟩,⟨(some 8),.mv (.tmp 59),none⟩,⟨(some 9),.mv (.const (.int .i64 0)),none⟩])
 .ret))))⟩
theorem k173 : compFn Tryz.prog Tryz.f173 = some c173 := by kernel_rfl
-- (*croft/trace.Store).mark
def c174 : AFunc := ⟨[],(.seq (.region [⟨(some 11),.mv (.tmp 1),none⟩,⟨(some 12),.mkSlice 1 1 [(.int .u64 0)] [(0,1,(.tmp 11))],none⟩,⟨(some 4),.mv (.tmp 12),none⟩])
 (.block 0 (.loop (.seq (.seq (.region [⟨(some 13),.mv (.tmp 4),none⟩,⟨(some 14),.lenS (.tmp 13),none⟩,⟨(some 15),.bin .gtr (.tmp 14) (.const (.int .i64 0)),none⟩])
 (.cond (.tmp 15) .skip (.exit 0)))
 (.block 1 (.seq (.region [⟨(some 16),.mv (.tmp 4),none⟩,⟨(some 17),.mv (.tmp 4),none⟩,⟨(some 18),.lenS (.tmp 17),none⟩,⟨(some 19),.bin .sub (.tmp 18) (.const (.int .i64 1)),none⟩,⟨(some 20),.iaddrS 1 (.tmp 16) (.tmp 19),none⟩,⟨(some 21),.load false 1 (.tmp 20),none⟩,⟨(some 5),.mv (.tmp 21),none⟩])
 (.seq (.region [⟨(some 22),.mv (.tmp 4),none⟩,⟨(some 23),.mv (.tmp 4),none⟩,⟨(some 24),.lenS (.tmp 23),none⟩,⟨(some 25),.bin .sub (.tmp 24) (.const (.int .i64 1)),none⟩,⟨(some 26),.sliceOf 1 (.tmp 22) none (some (.tmp 25)),none⟩,⟨(some 4),.mv (.tmp 26),none⟩])
 (.seq (.region [⟨(some 28),.mv (.tmp 0),none⟩,⟨(some 29),.nilCheck (.tmp 28),none⟩,⟨(some 30),.faddr 1 (.tmp 29),none⟩,⟨(some 31),.load false 1 (.tmp 30),none⟩,⟨(some 32),.mv (.tmp 5),none⟩,⟨(some 33),.lookup .int (.ptr none) true (.tmp 31) (.tmp 32),none⟩,⟨(some 27),.mv (.tmp 33),none⟩,⟨(some 34),.extract (.tmp 27) 0,none⟩,⟨(some 35),.extract (.tmp 27) 1,none⟩,⟨(some 6),.mv (.tmp 34),none⟩,⟨(some 7),.mv (.tmp 35),none⟩])
 (.seq (.seq (.region [⟨(some 36),.mv (.tmp 7),none⟩,⟨(some 37),.not (.tmp 36),none⟩,⟨(some 38),.mv (.tmp 37),none⟩,⟨(some 39),.mv (.tmp 0),some (38,false)⟩,⟨(some 40),.nilCheck (.tmp 39),some (38,false)⟩,⟨(some 41),.faddr 5 (.tmp 40),some (38,false)⟩,⟨(some 42),.load false 1 (.tmp 41),some (38,false)⟩,⟨(some 43),.mv (.tmp 5),some (38,false)⟩,⟨(some 44),.lookup .int (.bool false) false (.tmp 42) (.tmp 43),some (38,false)⟩,⟨(some 45),.pick (.tmp 38) (.const (.bool true)) (.tmp 44),none⟩])
 (.cond (.tmp 45) (.exit 1) .skip))
 (.seq (.region [⟨(some 46),.mv (.tmp 0),none⟩,⟨(some 47),.nilCheck (.tmp 46),none⟩,⟨(some 48),.faddr 5 (.tmp 47),none⟩,⟨(some 49),.load false 1 (.tmp 48),none⟩,⟨(some 50),.mv (.tmp 5),none⟩,⟨none,.mapUpdate .int (.tmp 49) (.tmp 50) (.const (.bool true)),none⟩])
 (.seq (.region [⟨(some 51),.mv (.tmp 6),none⟩,⟨(some 52),.nilCheck (.tmp 51),none⟩,⟨(some 53),.faddr 0 (.tmp 52),none⟩,⟨(some 54),.load false 1 (.tmp 53),none⟩,⟨(some 55),.mv (.const (.int .i64 0)),none⟩])
 (.block 2 (.loop (.seq (.region [⟨(some 56),.bin .lss (.tmp 55) (.tmp 54),none⟩])
 (.seq (.cond (.tmp 56) .skip (.exit 2))
 (.seq (.block 3 (.seq (.region [⟨(some 57),.mv (.tmp 55),none⟩,⟨(some 8),.mv (.tmp 57),none⟩])
 (.seq (.region [⟨(some 59),.mv (.tmp 0),none⟩,⟨(some 60),.nilCheck (.tmp 59),none⟩,⟨(some 61),.faddr 0 (.tmp 60),none⟩,⟨(some 62),.load false 1 (.tmp 61),none⟩,⟨(some 63),.mv (.tmp 5),none⟩,⟨(some 64),.mv (.tmp 8),none⟩,⟨(some 65),.conv .u64 (.tmp 64),none⟩,⟨(some 66),.bin .mul (.const (.int .u64 8)) (.tmp 65),none⟩,⟨(some 67),.bin .add (.tmp 63) (.tmp 66),none⟩,⟨(some 68),.call 170 [(.tmp 62),(.tmp 67)],none⟩,⟨(some 58),.mv (.tmp 68),none⟩,⟨(some 69),.extract (.tmp 58) 0,none⟩,⟨(some 70),.extract (.tmp 58) 1,none⟩,⟨(some 9),.mv (.tmp 69),none⟩,⟨(some 10),.mv (.tmp 70),none⟩])
 (.seq (.region [⟨(some 71),.mv (.tmp 9),none⟩,⟨(some 72),.bin .neq (.tmp 71) (.const (.int .u64 0)),none⟩])
 (.cond (.tmp 72) (.region [⟨(some 73),.mv (.tmp 4),none⟩,⟨(some 74),.mv (.tmp 9),none⟩,⟨(some 75),.mkSlice 1 1 [(.int .u64 0)] [(0,1,(.tmp 74))],none⟩,⟨(some 76),.append 1 8 (.tmp 73) (.tmp 75),none⟩,⟨(some 4),.mv (.tmp 76),none⟩]) .skip)))))
 (.region [⟨(some 77),.bin .add (.tmp 55) (.const (.int .i64 1)),none⟩,⟨(some 55),.mv (.tmp 77),none⟩])))))))))))))))))⟩
theorem k174 : compFn Tryz.prog Tryz.f174 = some c174 := by kernel_rfl
-- maps.Keys[map[uint64]*croft/trace.object,uint64,*croft/trace.object]
def c175 : AFunc := ⟨[.tmp 2],(.seq (.region [⟨(some 1),.box 1 (.tmp 0),none⟩,⟨(some 2),.mv (.const .nilFunc),none⟩])
 (.seq (.region [⟨(some 3),.makeFunc 244 [] [(.tmp 1)],none⟩,⟨(some 2),.mv (.tmp 3),none⟩])
 .ret))⟩
theorem k175 : compFn Tryz.prog Tryz.f175 = some c175 := by kernel_rfl
-- (*croft/trace.Store).Objects$1
def c176 : AFunc := ⟨[.tmp 5],(.seq (.region [⟨(some 5),.mv (.const (.int .i64 0)),none⟩])
 (.seq (.draw [⟨⟨(some 6),.load false 1 (.tmp 2),none⟩,0,0⟩,⟨⟨(some 7),.nilCheck (.tmp 6),none⟩,0,0⟩,⟨⟨(some 8),.faddr 1 (.tmp 7),none⟩,0,0⟩,⟨⟨(some 9),.load false 1 (.tmp 8),none⟩,0,0⟩,⟨⟨(some 10),.mv (.tmp 0),none⟩,0,0⟩,⟨⟨(some 11),.lookup .int (.ptr none) false (.tmp 9) (.tmp 10),none⟩,0,0⟩,⟨⟨(some 12),.nilCheck (.tmp 11),none⟩,0,0⟩,⟨⟨(some 13),.faddr 2 (.tmp 12),none⟩,0,0⟩,⟨⟨(some 14),.load false 1 (.tmp 13),none⟩,0,0⟩,⟨⟨(some 15),.load false 1 (.tmp 2),none⟩,0,0⟩,⟨⟨(some 16),.nilCheck (.tmp 15),none⟩,0,0⟩,⟨⟨(some 17),.faddr 1 (.tmp 16),none⟩,0,0⟩,⟨⟨(some 18),.load false 1 (.tmp 17),none⟩,0,0⟩,⟨⟨(some 19),.mv (.tmp 1),none⟩,0,0⟩,⟨⟨(some 20),.lookup .int (.ptr none) false (.tmp 18) (.tmp 19),none⟩,0,0⟩,⟨⟨(some 21),.nilCheck (.tmp 20),none⟩,0,0⟩,⟨⟨(some 22),.faddr 2 (.tmp 21),none⟩,0,0⟩,⟨⟨(some 23),.load false 1 (.tmp 22),none⟩,0,0⟩,⟨⟨(some 24),.bin .sub (.tmp 14) (.tmp 23),none⟩,0,0⟩,⟨⟨(some 5),.mv (.tmp 24),none⟩,0,0⟩])
 .ret))⟩
theorem k176 : compFn Tryz.prog Tryz.f176 = some c176 := by kernel_rfl
-- croft/mem.New
def c199 : AFunc := ⟨[.tmp 2,.tmp 3],(.seq (.region [⟨(some 1),.box 3 (.tmp 0),none⟩,⟨(some 2),.mv (.const (.ptr none)),none⟩,⟨(some 3),.mv (.const (.int .i64 0)),none⟩])
 (.seq (.seq (.region [⟨(some 4),.load true 3 (.tmp 1),none⟩,⟨(some 5),.call 260 [(.tmp 4)],none⟩,⟨(some 6),.not (.tmp 5),none⟩])
 (.cond (.tmp 6) (.seq (.region [⟨(some 2),.mv (.const (.ptr none)),none⟩,⟨(some 3),.mv (.const (.int .i64 1)),none⟩])
 .ret) .skip))
 (.seq (.draw [⟨⟨(some 7),.load true 3 (.tmp 1),none⟩,0,0⟩,⟨⟨(some 8),.faddr 2 (.tmp 1),none⟩,0,0⟩,⟨⟨(some 9),.load false 1 (.tmp 8),none⟩,0,0⟩,⟨⟨(some 10),.bin .shl (.const (.int .u64 4096)) (.tmp 9),none⟩,0,0⟩,⟨⟨(some 11),.build [(.int .u64 0),(.int .i64 0),(.int .i64 0),(.int .u64 0),(.slice none 0 0)] [(0,3,(.tmp 7)),(3,1,(.tmp 10))],none⟩,0,0⟩,⟨⟨(some 12),.box 5 (.tmp 11),none⟩,0,1⟩,⟨⟨(some 2),.mv (.tmp 12),none⟩,1,1⟩,⟨⟨(some 3),.mv (.const (.int .i64 0)),none⟩,1,1⟩])
 .ret)))⟩
theorem k199 : compFn Tryz.prog Tryz.f199 = some c199 := by kernel_rfl
-- croft/pagemap.New
def c200 : AFunc := ⟨[.tmp 2],(.seq (.region [⟨(some 2),.mv (.const (.ptr none)),none⟩])
 (.seq (.region [⟨(some 4),.mv (.tmp 0),none⟩,⟨(some 5),.maxmin false [(.tmp 4),(.const (.int .i64 8))],none⟩,⟨(some 6),.maxmin true [(.const (.int .i64 0)),(.tmp 5)],none⟩,⟨(some 7),.build [(.int .i64 0),(.slice none 0 0),(.slice none 0 0)] [(0,1,(.tmp 6))],none⟩,⟨(some 8),.box 3 (.tmp 7),none⟩,⟨(some 3),.mv (.tmp 8),none⟩])
 (.seq (.seq (.region [⟨(some 9),.mv (.tmp 3),none⟩,⟨(some 10),.nilCheck (.tmp 9),none⟩,⟨(some 11),.faddr 0 (.tmp 10),none⟩,⟨(some 12),.load false 1 (.tmp 11),none⟩,⟨(some 13),.mv (.const (.int .i64 0)),none⟩])
 (.block 0 (.loop (.seq (.region [⟨(some 14),.bin .lss (.tmp 13) (.tmp 12),none⟩])
 (.seq (.cond (.tmp 14) .skip (.exit 0))
 (.seq (.block 1 (.draw [⟨⟨(some 15),.mv (.tmp 3),none⟩,0,3⟩,⟨⟨(some 16),.mv (.tmp 3),none⟩,0,2⟩,⟨⟨(some 17),.nilCheck (.tmp 16),none⟩,0,2⟩,⟨⟨(some 18),.faddr 2 (.tmp 17),none⟩,0,2⟩,⟨⟨(some 19),.load false 1 (.tmp 18),none⟩,0,2⟩,⟨⟨(some 20),.call 261 [(.const (.int .i64 0))],none⟩,0,1⟩,⟨⟨(some 21),.mkSlice 1 1 [(.ptr none)] [(0,1,(.tmp 20))],none⟩,1,2⟩,⟨⟨(some 22),.append 1 8 (.tmp 19) (.tmp 21),none⟩,2,3⟩,⟨⟨(some 23),.nilCheck (.tmp 15),none⟩,3,3⟩,⟨⟨(some 24),.faddr 2 (.tmp 23),none⟩,3,3⟩,⟨⟨none,.store 1 (.tmp 24) (.tmp 22),none⟩,3,4⟩]))
 (.region [⟨(some 25),.bin .add (.tmp 13) (.const (.int .i64 1)),none⟩,⟨(some 13),.mv (.tmp 25),none⟩])))))))
 (.seq (.region [⟨(some 26),.mv (.tmp 3),none⟩,⟨(some 2),.mv (.tmp 26),none⟩])
 .ret))))⟩
theorem k200 : compFn Tryz.prog Tryz.f200 = some c200 := by kernel_rfl
-- croft/buddy.New
def c201 : AFunc := ⟨[.tmp 6],(.seq (.region [⟨(some 3),.box 3 (.tmp 0),none⟩,⟨(some 6),.mv (.const (.ptr none)),none⟩])
 (.seq (.draw [⟨⟨(some 10),.load true 3 (.tmp 3),none⟩,0,1⟩,⟨⟨(some 11),.mv (.tmp 1),none⟩,0,1⟩,⟨⟨(some 12),.mv (.tmp 2),none⟩,0,1⟩,⟨⟨(some 13),.faddr 2 (.tmp 3),none⟩,0,0⟩,⟨⟨(some 14),.load false 1 (.tmp 13),none⟩,0,0⟩,⟨⟨(some 15),.bin .add (.tmp 14) (.const (.int .i64 1)),none⟩,0,0⟩,⟨⟨(some 16),.maxmin true [(.const (.int .i64 0)),(.tmp 15)],none⟩,0,0⟩,⟨⟨(some 17),.makeSlice 1 8 [(.int .u64 0)] (.tmp 16) (.tmp 16),none⟩,0,1⟩,⟨⟨(some 18),.call 262 [(.tmp 10),(.tmp 11),(.tmp 12),(.tmp 17)],none⟩,1,2⟩,⟨⟨(some 9),.mv (.tmp 18),none⟩,2,2⟩,⟨⟨(some 19),.extract (.tmp 9) 0,none⟩,2,2⟩,⟨⟨(some 20),.extract (.tmp 9) 1,none⟩,2,2⟩,⟨⟨(some 7),.mv (.tmp 19),none⟩,2,2⟩,⟨⟨(some 8),.mv (.tmp 20),none⟩,2,2⟩])
 (.seq (.region [⟨(some 21),.mv (.tmp 7),none⟩,⟨(some 6),.mv (.tmp 21),none⟩])
 .ret)))⟩
theorem k201 : compFn Tryz.prog Tryz.f201 = some c201 := by kernel_rfl
-- (*croft/malloc.Heap).malloc
def c202 : AFunc := ⟨[.cell 8 true 2,.tmp 9],(.seq (.region [⟨(some 8),.alloc [(.int .u64 0),(.int .u64 0)],none⟩,⟨(some 9),.mv (.const (.int .i64 0)),none⟩])
 (.seq (.region [⟨(some 14),.mv (.tmp 0),none⟩,⟨(some 15),.mv (.tmp 1),none⟩,⟨(some 16),.mv (.tmp 2),none⟩,⟨(some 17),.call 253 [(.tmp 14),(.tmp 15),(.tmp 16)],none⟩,⟨(some 13),.mv (.tmp 17),none⟩,⟨(some 18),.extract (.tmp 13) 0,none⟩,⟨(some 19),.extract (.tmp 13) 1,none⟩,⟨(some 10),.mv (.tmp 18),none⟩,⟨(some 11),.mv (.tmp 19),none⟩])
 (.seq (.seq (.region [⟨(some 20),.mv (.tmp 11),none⟩,⟨(some 21),.bin .neq (.tmp 20) (.const (.int .i64 0)),none⟩])
 (.cond (.tmp 21) (.seq (.region [⟨(some 22),.build [(.int .u64 0),(.int .u64 0)] [],none⟩,⟨(some 23),.mv (.tmp 11),none⟩,⟨none,.store 2 (.tmp 8) (.tmp 22),none⟩,⟨(some 9),.mv (.tmp 23),none⟩])
 .ret) .skip))
 (.seq (.region [⟨(some 25),.mv (.tmp 0),none⟩,⟨(some 26),.mv (.tmp 10),none⟩,⟨(some 27),.mv (.tmp 3),none⟩,⟨(some 28),.call 257 [(.tmp 25),(.tmp 26),(.tmp 27)],none⟩,⟨(some 24),.mv (.tmp 28),none⟩,⟨(some 29),.extract (.tmp 24) 0,none⟩,⟨(some 30),.extract (.tmp 24) 1,none⟩,⟨(some 12),.mv (.tmp 29),none⟩,⟨(some 11),.mv (.tmp 30),none⟩])
 (.seq (.seq (.region [⟨(some 31),.mv (.tmp 11),none⟩,⟨(some 32),.bin .neq (.tmp 31) (.const (.int .i64 0)),none⟩])
 (.cond (.tmp 32) (.seq (.region [⟨(some 33),.build [(.int .u64 0),(.int .u64 0)] [],none⟩,⟨(some 34),.mv (.tmp 11),none⟩,⟨none,.store 2 (.tmp 8) (.tmp 33),none⟩,⟨(some 9),.mv (.tmp 34),none⟩])
 .ret) .skip))
 (.seq (.region [⟨(some 35),.mv (.tmp 12),none⟩,⟨(some 36),.mv (.tmp 10),none⟩,⟨(some 37),.build [(.int .u64 0),(.int .u64 0)] [(0,1,(.tmp 35)),(1,1,(.tmp 36))],none⟩,⟨none,.store 2 (.tmp 8) (.tmp 37),none⟩,⟨(some 9),.mv (.const (.int .i64 0)),none⟩])
 .ret))))))⟩
theorem k202 : compFn Tryz.prog Tryz.f202 = some c202 := by kernel_rfl
-- croft/bits.IsPower[uint64]
def c209 : AFunc := ⟨[.tmp 2],(.seq (.region [⟨(some 2),.mv (.const (.bool false)),none⟩])
 (.seq (.region [⟨(some 3),.mv (.tmp 0),none⟩,⟨(some 4),.bin .neq (.tmp 3) (.const (.int .u64 0)),none⟩,⟨(some 5),.mv (.tmp 4),none⟩,⟨(some 6),.mv (.tmp 0),some (5,true)⟩,⟨(some 7),.mv (.tmp 0),some (5,true)⟩,⟨(some 8),.bin .sub (.tmp 7) (.const (.int .u64 1)),some (5,true)⟩,⟨(some 9),.bin .and (.tmp 6) (.tmp 8),some (5,true)⟩,⟨(some 10),.bin .eql (.tmp 9) (.const (.int .u64 0)),some (5,true)⟩,⟨(some 11),.pick (.tmp 5) (.tmp 10) (.const (.bool false)),none⟩,⟨(some 2),.mv (.tmp 11),none⟩])
 .ret))⟩
theorem k209 : compFn Tryz.prog Tryz.f209 = some c209 := by kernel_rfl
-- (*croft/malloc.Heap).give
def c214 : AFunc := ⟨[],(.seq (.region [⟨(some 3),.box 2 (.tmp 1),none⟩])
 (.seq (.seq (.region [⟨(some 4),.faddr 1 (.tmp 3),none⟩,⟨(some 5),.load false 1 (.tmp 4),none⟩,⟨(some 6),.bin .lss (.tmp 5) (.const (.int .u64 4096)),none⟩])
 (.cond (.tmp 6) (.seq (.draw [⟨⟨(some 7),.mv (.tmp 0),none⟩,0,0⟩,⟨⟨(some 8),.nilCheck (.tmp 7),none⟩,0,0⟩,⟨⟨(some 9),.faddr 6 (.tmp 8),none⟩,0,0⟩,⟨⟨(some 10),.load false 1 (.tmp 9),none⟩,0,0⟩,⟨⟨(some 11),.faddr 0 (.tmp 3),none⟩,0,0⟩,⟨⟨(some 12),.load false 1 (.tmp 11),none⟩,0,0⟩,⟨⟨(some 13),.call 275 [(.tmp 10),(.tmp 12)],none⟩,0,1⟩])
 .ret) .skip))
 (.draw [⟨⟨(some 14),.mv (.tmp 0),none⟩,0,1⟩,⟨⟨(some 15),.nilCheck (.tmp 14),none⟩,0,1⟩,⟨⟨(some 16),.faddr 5 (.tmp 15),none⟩,0,1⟩,⟨⟨(some 17),.load false 1 (.tmp 16),none⟩,0,1⟩,⟨⟨(some 18),.faddr 0 (.tmp 3),none⟩,0,1⟩,⟨⟨(some 19),.load false 1 (.tmp 18),none⟩,0,1⟩,⟨⟨(some 20),.faddr 1 (.tmp 3),none⟩,0,0⟩,⟨⟨(some 21),.load false 1 (.tmp 20),none⟩,0,0⟩,⟨⟨(some 22),.call 256 [(.tmp 21)],none⟩,0,1⟩,⟨⟨(some 23),.call 276 [(.tmp 17),(.tmp 19),(.tmp 22)],none⟩,1,2⟩])))⟩
theorem k214 : compFn Tryz.prog Tryz.f214 = some c214 := by kernel_rfl
-- (*croft/malloc.Heap).block
def c220 : AFunc := ⟨[.cell 4 true 2,.tmp 5],(.seq (.region [⟨(some 4),.alloc [(.int .u64 0),(.int .u64 0)],none⟩,⟨(some 5),.mv (.const (.bool false)),none⟩])
 (.seq (.seq (.region [⟨(some 13),.mv (.tmp 1),none⟩,⟨(some 14),.mv (.tmp 0),none⟩,⟨(some 15),.nilCheck (.tmp 14),none⟩,⟨(some 16),.faddr 2 (.tmp 15),none⟩,⟨(some 17),.faddr 0 (.tmp 16),none⟩,⟨(some 18),.load false 1 (.tmp 17),none⟩,⟨(some 19),.bin .lss (.tmp 13) (.tmp 18),none⟩,⟨(some 20),.mv (.tmp 19),none⟩,⟨(some 21),.mv (.tmp 1),some (20,false)⟩,⟨(some 22),.mv (.tmp 0),some (20,false)⟩,⟨(some 23),.nilCheck (.tmp 22),some (20,false)⟩,⟨(some 24),.faddr 5 (.tmp 23),some (20,false)⟩,⟨(some 25),.load false 1 (.tmp 24),some (20,false)⟩,⟨(some 26),.nilCheck (.tmp 25),some (20,false)⟩,⟨(some 27),.faddr 0 (.tmp 26),some (20,false)⟩,⟨(some 28),.call 113 [(.tmp 27)],some (20,false)⟩,⟨(some 29),.call 114 [(.tmp 28)],some (20,false)⟩,⟨(some 30),.bin .geq (.tmp 21) (.tmp 29),some (20,false)⟩,⟨(some 31),.pick (.tmp 20) (.const (.bool true)) (.tmp 30),none⟩])
 (.cond (.tmp 31) (.seq (.region [⟨(some 32),.build [(.int .u64 0),(.int .u64 0)] [],none⟩,⟨none,.store 2 (.tmp 4) (.tmp 32),none⟩,⟨(some 5),.mv (.const (.bool false)),none⟩])
 .ret) .skip))
 (.seq (.region [⟨(some 33),.mv (.tmp 1),none⟩,⟨(some 34),.mv (.tmp 0),none⟩,⟨(some 35),.nilCheck (.tmp 34),none⟩,⟨(some 36),.faddr 2 (.tmp 35),none⟩,⟨(some 37),.faddr 0 (.tmp 36),none⟩,⟨(some 38),.load false 1 (.tmp 37),none⟩,⟨(some 39),.bin .sub (.tmp 33) (.tmp 38),none⟩,⟨(some 40),.bin .quo (.tmp 39) (.const (.int .u64 4096)),none⟩,⟨(some 41),.conv .i64 (.tmp 40),none⟩,⟨(some 6),.mv (.tmp 41),none⟩])
 (.seq (.region [⟨(some 43),.mv (.tmp 0),none⟩,⟨(some 44),.nilCheck (.tmp 43),none⟩,⟨(some 45),.faddr 5 (.tmp 44),none⟩,⟨(some 46),.load false 1 (.tmp 45),none⟩,⟨(some 47),.nilCheck (.tmp 46),none⟩,⟨(some 48),.faddr 0 (.tmp 47),none⟩,⟨(some 49),.call 116 [(.tmp 48)],none⟩,⟨(some 50),.mv (.tmp 6),none⟩,⟨(some 51),.call 118 [(.tmp 49),(.tmp 50)],none⟩,⟨(some 42),.mv (.tmp 51),none⟩,⟨(some 52),.extract (.tmp 42) 0,none⟩,⟨(some 53),.extract (.tmp 42) 1,none⟩,⟨(some 7),.alloc [(.int .i64 0),(.int .i64 0),(.int .i64 0),(.int .i64 0),(.int .i64 0),(.int .i64 0),(.int .i64 0),(.int .u64 0),(.int .u64 0),(.int .u64 0),(.int .u64 0)],none⟩,⟨none,.store 11 (.tmp 7) (.tmp 52),none⟩,⟨(some 8),.mv (.tmp 53),none⟩])
 (.seq (.seq (.region [⟨(some 54),.faddr 0 (.tmp 7),none⟩,⟨(some 55),.load false 1 (.tmp 54),none⟩])
 (.block 0 (.seq (.region [⟨(some 57),.bin .eql (.tmp 55) (.const (.int .i64 4)),none⟩,⟨(some 56),.mv (.tmp 57),none⟩])
 (.cond (.tmp 56) (.seq (.region [⟨(some 58),.faddr 2 (.tmp 7),none⟩,⟨(some 59),.load false 1 (.tmp 58),none⟩,⟨(some 60),.bin .shl (.const (.int .u64 16)) (.tmp 59),none⟩,⟨(some 9),.mv (.tmp 60),none⟩])
 (.seq (.region [⟨(some 61),.mv (.tmp 1),none⟩,⟨(some 62),.mv (.tmp 9),none⟩,⟨(some 63),.bin .quo (.tmp 61) (.tmp 62),none⟩,⟨(some 64),.mv (.tmp 9),none⟩,⟨(some 65),.bin .mul (.tmp 63) (.tmp 64),none⟩,⟨(some 66),.mv (.tmp 9),none⟩,⟨(some 67),.build [(.int .u64 0),(.int .u64 0)] [(0,1,(.tmp 65)),(1,1,(.tmp 66))],none⟩,⟨(some 10),.alloc [(.int .u64 0),(.int .u64 0)],none⟩,⟨none,.store 2 (.tmp 10) (.tmp 67),none⟩])
 (.seq (.region [⟨(some 68),.faddr 0 (.tmp 10),none⟩,⟨(some 69),.load false 1 (.tmp 68),none⟩,⟨(some 70),.bin .rem (.tmp 69) (.const (.int .u64 4096)),none⟩,⟨(some 71),.mv (.tmp 9),none⟩,⟨(some 72),.bin .quo (.tmp 70) (.tmp 71),none⟩,⟨(some 11),.mv (.tmp 72),none⟩])
 (.seq (.draw [⟨⟨(some 73),.load true 2 (.tmp 10),none⟩,0,0⟩,⟨⟨(some 74),.mv (.tmp 11),none⟩,0,1⟩,⟨⟨(some 75),.bin .quo (.tmp 74) (.const (.int .u64 64)),none⟩,0,1⟩,⟨⟨(some 76),.faddr 7 (.tmp 7),none⟩,0,1⟩,⟨⟨(some 77),.iaddrA 4 1 (.tmp 76) (.tmp 75),none⟩,0,1⟩,⟨⟨(some 78),.load false 1 (.tmp 77),none⟩,0,1⟩,⟨⟨(some 79),.mv (.tmp 11),none⟩,0,1⟩,⟨⟨(some 80),.bin .rem (.tmp 79) (.const (.int .u64 64)),none⟩,0,1⟩,⟨⟨(some 81),.bin .shr (.tmp 78) (.tmp 80),none⟩,0,1⟩,⟨⟨(some 82),.bin .and (.tmp 81) (.const (.int .u64 1)),none⟩,0,1⟩,⟨⟨(some 83),.bin .eql (.tmp 82) (.const (.int .u64 1)),none⟩,0,1⟩,⟨⟨none,.store 2 (.tmp 4) (.tmp 73),none⟩,0,1⟩,⟨⟨(some 5),.mv (.tmp 83),none⟩,1,1⟩])
 .ret)))) (.seq (.seq (.region [⟨(some 85),.bin .eql (.tmp 55) (.const (.int .i64 2)),none⟩,⟨(some 84),.mv (.tmp 85),none⟩])
 (.cond (.tmp 84) .skip (.region [⟨(some 86),.bin .eql (.tmp 55) (.const (.int .i64 3)),none⟩,⟨(some 84),.mv (.tmp 86),none⟩])))
 (.cond (.tmp 84) (.seq (.region [⟨(some 87),.mv (.tmp 0),none⟩,⟨(some 88),.nilCheck (.tmp 87),none⟩,⟨(some 89),.faddr 5 (.tmp 88),none⟩,⟨(some 90),.load false 1 (.tmp 89),none⟩,⟨(some 91),.nilCheck (.tmp 90),none⟩,⟨(some 92),.faddr 0 (.tmp 91),none⟩,⟨(some 93),.call 116 [(.tmp 92)],none⟩,⟨(some 94),.mv (.tmp 6),none⟩,⟨(some 95),.call 278 [(.tmp 93),(.tmp 94)],none⟩,⟨(some 12),.mv (.tmp 95),none⟩])
 (.seq (.draw [⟨⟨(some 96),.mv (.tmp 0),none⟩,0,0⟩,⟨⟨(some 97),.nilCheck (.tmp 96),none⟩,0,0⟩,⟨⟨(some 98),.faddr 2 (.tmp 97),none⟩,0,0⟩,⟨⟨(some 99),.faddr 0 (.tmp 98),none⟩,0,0⟩,⟨⟨(some 100),.load false 1 (.tmp 99),none⟩,0,0⟩,⟨⟨(some 101),.mv (.tmp 12),none⟩,0,0⟩,⟨⟨(some 102),.conv .u64 (.tmp 101),none⟩,0,0⟩,⟨⟨(some 103),.bin .mul (.tmp 102) (.const (.int .u64 4096)),none⟩,0,0⟩,⟨⟨(some 104),.bin .add (.tmp 100) (.tmp 103),none⟩,0,0⟩,⟨⟨(some 105),.faddr 1 (.tmp 7),none⟩,0,0⟩,⟨⟨(some 106),.load false 1 (.tmp 105),none⟩,0,0⟩,⟨⟨(some 107),.bin .shl (.const (.int .u64 4096)) (.tmp 106),none⟩,0,0⟩,⟨⟨(some 108),.build [(.int .u64 0),(.int .u64 0)] [(0,1,(.tmp 104)),(1,1,(.tmp 107))],none⟩,0,0⟩,⟨⟨none,.store 2 (.tmp 4) (.tmp 108),none⟩,0,1⟩,⟨⟨(some 5),.mv (.const (.bool true)),none⟩,1,1⟩])
 .ret)) .skip))))))
 (.seq (.region [⟨(some 109),.build [(.int .u64 0),(.int .u64 0)] [],none⟩,⟨none,.store 2 (.tmp 4) (.tmp 109),none⟩,⟨(some 5),.mv (.const (.bool false)),none⟩])
 .ret))))))⟩
theorem k220 : compFn Tryz.prog Tryz.f220 = some c220 := by kernel_rfl
-- (*croft/mem.Space).Read$1
def c221 : AFunc := ⟨[],(.regionR (some 1) [⟨(some 2),.call 222 [(.tmp 1),(.tmp 0)],none⟩])⟩
theorem k221 : compFn Tryz.prog Tryz.f221 = some c221 := by kernel_rfl
-- croft/mem.caught
def c222 : AFunc := ⟨[],(.seq (.seq (.region [⟨(some 6),.mv (.tmp 0),none⟩,⟨(some 7),.eq1 false .iface (.tmp 6) (.const .nilIface),none⟩])
 (.cond (.tmp 7) .ret .skip))
 (.seq (.bad "region")
 (.seq (.seq (.region [⟨(some 13),.mv (.tmp 5),none⟩,⟨(some 14),.not (.tmp 13),none⟩])
 (.cond (.tmp 14) (.bad "region") .skip))
 (.region [⟨(some 16),.mv (.tmp 1),none⟩,⟨(some 17),.faddr 0 (.tmp 4),none⟩,⟨(some 18),.load false 1 (.tmp 17),none⟩,⟨(some 19),.nilCheck (.tmp 16),none⟩,⟨none,.store 1 (.tmp 19) (.tmp 18),none⟩]))))⟩
theorem k222 : compFn Tryz.prog Tryz.f222 = some c222 := by kernel_rfl
-- (*croft/mem.Space).look
def c223 : AFunc := ⟨[],(.seq (.region [⟨(some 6),.mv (.tmp 2),none⟩,⟨(some 7),.bin .neq (.tmp 6) (.const (.int .u64 0)),none⟩,⟨(some 8),.mv (.tmp 7),none⟩,⟨(some 9),.mv (.tmp 1),some (8,true)⟩,⟨(some 10),.mv (.tmp 0),some (8,true)⟩,⟨(some 11),.nilCheck (.tmp 10),some (8,true)⟩,⟨(some 12),.faddr 0 (.tmp 11),some (8,true)⟩,⟨(some 13),.faddr 0 (.tmp 12),some (8,true)⟩,⟨(some 14),.load false 1 (.tmp 13),some (8,true)⟩,⟨(some 15),.bin .lss (.tmp 9) (.tmp 14),some (8,true)⟩,⟨(some 16),.mv (.tmp 15),some (8,true)⟩,⟨(some 17),.mv (.tmp 1),some (16,false)⟩,⟨(some 18),.mv (.tmp 0),some (16,false)⟩,⟨(some 19),.call 114 [(.tmp 18)],some (16,false)⟩,⟨(some 20),.bin .gtr (.tmp 17) (.tmp 19),some (16,false)⟩,⟨(some 21),.pick (.tmp 16) (.const (.bool true)) (.tmp 20),some (8,true)⟩,⟨(some 22),.mv (.tmp 21),some (8,true)⟩,⟨(some 23),.mv (.tmp 2),some (22,false)⟩,⟨(some 24),.mv (.tmp 0),some (22,false)⟩,⟨(some 25),.call 114 [(.tmp 24)],some (22,false)⟩,⟨(some 26),.mv (.tmp 1),some (22,false)⟩,⟨(some 27),.bin .sub (.tmp 25) (.tmp 26),some (22,false)⟩,⟨(some 28),.bin .gtr (.tmp 23) (.tmp 27),some (22,false)⟩,⟨(some 29),.pick (.tmp 22) (.const (.bool true)) (.tmp 28),some (8,true)⟩,⟨(some 30),.pick (.tmp 8) (.tmp 29) (.const (.bool false)),none⟩])
 (.cond (.tmp 30) (.bad "region") .skip))⟩
theorem k223 : compFn Tryz.prog Tryz.f223 = some c223 := by kernel_rfl
-- (*croft/mem.Space).get
def c224 : AFunc := ⟨[],(.block 0 (.loop (.seq (.seq (.region [⟨(some 8),.mv (.tmp 2),none⟩,⟨(some 9),.lenS (.tmp 8),none⟩,⟨(some 10),.bin .gtr (.tmp 9) (.const (.int .i64 0)),none⟩])
 (.cond (.tmp 10) .skip (.exit 0)))
 (.block 1 (.seq (.region [⟨(some 11),.mv (.tmp 1),none⟩,⟨(some 12),.mv (.tmp 0),none⟩,⟨(some 13),.nilCheck (.tmp 12),none⟩,⟨(some 14),.faddr 0 (.tmp 13),none⟩,⟨(some 15),.faddr 0 (.tmp 14),none⟩,⟨(some 16),.load false 1 (.tmp 15),none⟩,⟨(some 17),.bin .sub (.tmp 11) (.tmp 16),none⟩,⟨(some 6),.mv (.tmp 17),none⟩])
 (.seq (.draw [⟨⟨(some 18),.mv (.tmp 2),none⟩,0,0⟩,⟨⟨(some 19),.mv (.tmp 0),none⟩,0,0⟩,⟨⟨(some 20),.nilCheck (.tmp 19),none⟩,0,0⟩,⟨⟨(some 21),.faddr 4 (.tmp 20),none⟩,0,0⟩,⟨⟨(some 22),.load false 1 (.tmp 21),none⟩,0,0⟩,⟨⟨(some 23),.mv (.tmp 6),none⟩,0,0⟩,⟨⟨(some 24),.mv (.tmp 0),none⟩,0,0⟩,⟨⟨(some 25),.nilCheck (.tmp 24),none⟩,0,0⟩,⟨⟨(some 26),.faddr 3 (.tmp 25),none⟩,0,0⟩,⟨⟨(some 27),.load false 1 (.tmp 26),none⟩,0,0⟩,⟨⟨(some 28),.bin .quo (.tmp 23) (.tmp 27),none⟩,0,0⟩,⟨⟨(some 29),.iaddrS 1 (.tmp 22) (.tmp 28),none⟩,0,0⟩,⟨⟨(some 30),.load false 1 (.tmp 29),none⟩,0,0⟩,⟨⟨(some 31),.mv (.tmp 6),none⟩,0,0⟩,⟨⟨(some 32),.mv (.tmp 0),none⟩,0,0⟩,⟨⟨(some 33),.nilCheck (.tmp 32),none⟩,0,0⟩,⟨⟨(some 34),.faddr 3 (.tmp 33),none⟩,0,0⟩,⟨⟨(some 35),.load false 1 (.tmp 34),none⟩,0,0⟩,⟨⟨(some 36),.bin .rem (.tmp 31) (.tmp 35),none⟩,0,0⟩,⟨⟨(some 37),.sliceOf 1 (.tmp 30) (some (.tmp 36)) none,none⟩,0,0⟩,⟨⟨(some 38),.copy 1 (.tmp 18) (.tmp 37),none⟩,0,1⟩,⟨⟨(some 7),.mv (.tmp 38),none⟩,1,1⟩])
 (.seq (.region [⟨(some 39),.mv (.tmp 2),none⟩,⟨(some 40),.mv (.tmp 7),none⟩,⟨(some 41),.sliceOf 1 (.tmp 39) (some (.tmp 40)) none,none⟩,⟨(some 2),.mv (.tmp 41),none⟩])
 (.region [⟨(some 42),.mv (.tmp 1),none⟩,⟨(some 43),.mv (.tmp 7),none⟩,⟨(some 44),.conv .u64 (.tmp 43),none⟩,⟨(some 45),.bin .add (.tmp 42) (.tmp 44),none⟩,⟨(some 1),.mv (.tmp 45),none⟩]))))))))⟩
theorem k224 : compFn Tryz.prog Tryz.f224 = some c224 := by kernel_rfl
-- (*croft/mem.Space).Write
def c226 : AFunc := ⟨[.cell 6 false 1],(.seq (.region [⟨(some 6),.alloc [(.int .i64 0)],none⟩])
 (.seq (.region [⟨(some 7),.makeFunc 279 [] [(.tmp 6)],none⟩,⟨none,.deferv (.tmp 7) [],none⟩])
 (.seq (.region [⟨(some 8),.mv (.tmp 0),none⟩,⟨(some 9),.mv (.tmp 1),none⟩,⟨(some 10),.mv (.tmp 2),none⟩,⟨(some 11),.lenS (.tmp 10),none⟩,⟨(some 12),.conv .u64 (.tmp 11),none⟩,⟨(some 13),.call 223 [(.tmp 8),(.tmp 9),(.tmp 12)],none⟩])
 (.seq (.region [⟨(some 14),.mv (.tmp 0),none⟩,⟨(some 15),.mv (.tmp 1),none⟩,⟨(some 16),.mv (.tmp 2),none⟩,⟨(some 17),.call 280 [(.tmp 14),(.tmp 15),(.tmp 16)],none⟩])
 (.seq (.region [⟨none,.store 1 (.tmp 6) (.const (.int .i64 0)),none⟩])
 .ret)))))⟩
theorem k226 : compFn Tryz.prog Tryz.f226 = some c226 := by kernel_rfl
-- math/bits.Mul64
def c236 : AFunc := ⟨[.tmp 4,.tmp 5],(.seq (.region [⟨(some 4),.mv (.const (.int .u64 0)),none⟩,⟨(some 5),.mv (.const (.int .u64 0)),none⟩])
 (.seq (.region [⟨(some 14),.mv (.tmp 0),none⟩,⟨(some 15),.bin .and (.tmp 14) (.const (.int .u64 4294967295)),none⟩,⟨(some 6),.mv (.tmp 15),none⟩])
 (.seq (.region [⟨(some 16),.mv (.tmp 0),none⟩,⟨(some 17),.bin .shr (.tmp 16) (.const (.int .u64 32)),none⟩,⟨(some 7),.mv (.tmp 17),none⟩])
 (.seq (.region [⟨(some 18),.mv (.tmp 1),none⟩,⟨(some 19),.bin .and (.tmp 18) (.const (.int .u64 4294967295)),none⟩,⟨(some 8),.mv (.tmp 19),none⟩])
 (.seq (.region [⟨(some 20),.mv (.tmp 1),none⟩,⟨(some 21),.bin .shr (.tmp 20) (.const (.int .u64 32)),none⟩,⟨(some 9),.mv (.tmp 21),none⟩])
 (.seq (.region [⟨(some 22),.mv (.tmp 6),none⟩,⟨(some 23),.mv (.tmp 8),none⟩,⟨(some 24),.bin .mul (.tmp 22) (.tmp 23),none⟩,⟨(some 10),.mv (.tmp 24),none⟩])
 (.seq (.region [⟨(some 25),.mv (.tmp 7),none⟩,⟨(some 26),.mv (.tmp 8),none⟩,⟨(some 27),.bin .mul (.tmp 25) (.tmp 26),none⟩,⟨(some 28),.mv (.tmp 10),none⟩,⟨(some 29),.bin .shr (.tmp 28) (.const (.int .u64 32)),none⟩,⟨(some 30),.bin .add (.tmp 27) (.tmp 29),none⟩,⟨(some 11),.mv (.tmp 30),none⟩])
 (.seq (.region [⟨(some 31),.mv (.tmp 11),none⟩,⟨(some 32),.bin .and (.tmp 31) (.const (.int .u64 4294967295)),none⟩,⟨(some 12),.mv (.tmp 32),none⟩])
 (.seq (.region [⟨(some 33),.mv (.tmp 11),none⟩,⟨(some 34),.bin .shr (.tmp 33) (.const (.int .u64 32)),none⟩,⟨(some 13),.mv (.tmp 34),none⟩])
 (.seq (.region [⟨(some 35),.mv (.tmp 12),none⟩,⟨(some 36),.mv (.tmp 6),none⟩,⟨(some 37),.mv (.tmp 9),none⟩,⟨(some 38),.bin .mul (.tmp 36) (.tmp 37),none⟩,⟨(some 39),.bin .add (.tmp 35) (.tmp 38),none⟩,⟨(some 12),.mv (.tmp 39),none⟩])
 (.seq (.region [⟨(some 40),.mv (.tmp 7),none⟩,⟨(some 41),.mv (.tmp 9),none⟩,⟨(some 42),.bin .mul (.tmp 40) (.tmp 41),none⟩,⟨(some 43),.mv (.tmp 13),none⟩,⟨(some 44),.bin .add (.tmp 42) (.tmp 43),none⟩,⟨(some 45),.mv (.tmp 12),none⟩,⟨(some 46),.bin .shr (.tmp 45) (.const (.int .u64 32)),none⟩,⟨(some 47),.bin .add (.tmp 44) (.tmp 46),none⟩,⟨(some 4),.mv (.tmp 47),none⟩])
 (.seq (.region [⟨(some 48),.mv (.tmp 0),none⟩,⟨(some 49),.mv (.tmp 1),none⟩,⟨(some 50),.bin .mul (.tmp 48) (.tmp 49),none⟩,⟨(some 5),.mv (.tmp 50),none⟩])
 .ret))))))))))))⟩
theorem k236 : compFn Tryz.prog Tryz.f236 = some c236 := by kernel_rfl
-- (*croft/mem.Space).Fill
def c237 : AFunc := ⟨[.cell 8 false 1],(.seq (.region [⟨(some 8),.alloc [(.int .i64 0)],none⟩])
 (.seq (.region [⟨(some 9),.makeFunc 284 [] [(.tmp 8)],none⟩,⟨none,.deferv (.tmp 9) [],none⟩])
 (.seq (.region [⟨(some 10),.mv (.tmp 0),none⟩,⟨(some 11),.mv (.tmp 1),none⟩,⟨(some 12),.mv (.tmp 2),none⟩,⟨(some 13),.call 223 [(.tmp 10),(.tmp 11),(.tmp 12)],none⟩])
 (.seq (.block 0 (.loop (.seq (.seq (.region [⟨(some 14),.mv (.tmp 2),none⟩,⟨(some 15),.bin .gtr (.tmp 14) (.const (.int .u64 0)),none⟩])
 (.cond (.tmp 15) .skip (.exit 0)))
 (.seq (.block 1 (.seq (.region [⟨(some 18),.mv (.tmp 0),none⟩,⟨(some 19),.mv (.tmp 1),none⟩,⟨(some 20),.call 285 [(.tmp 18),(.tmp 19)],none⟩,⟨(some 21),.mv (.tmp 3),none⟩,⟨(some 22),.nilCheck (.tmp 20),none⟩,⟨none,.store 1 (.tmp 22) (.tmp 21),none⟩])
 (.region [⟨(some 23),.mv (.tmp 1),none⟩,⟨(some 24),.bin .add (.tmp 23) (.const (.int .u64 1)),none⟩,⟨(some 1),.mv (.tmp 24),none⟩])))
 (.region [⟨(some 16),.mv (.tmp 2),none⟩,⟨(some 17),.bin .sub (.tmp 16) (.const (.int .u64 1)),none⟩,⟨(some 2),.mv (.tmp 17),none⟩])))))
 (.seq (.region [⟨none,.store 1 (.tmp 8) (.const (.int .i64 0)),none⟩])
 .ret)))))⟩
theorem k237 : compFn Tryz.prog Tryz.f237 = some c237 := by kernel_rfl
-- (*croft/mem.Space).SetWord
def c238 : AFunc := ⟨[.cell 6 false 1],(.seq (.region [⟨(some 6),.alloc [(.int .i64 0)],none⟩])
 (.seq (.region [⟨(some 9),.makeFunc 286 [] [(.tmp 6)],none⟩,⟨none,.deferv (.tmp 9) [],none⟩])
 (.seq (.region [⟨(some 10),.mv (.tmp 0),none⟩,⟨(some 11),.mv (.tmp 1),none⟩,⟨(some 12),.call 223 [(.tmp 10),(.tmp 11),(.const (.int .u64 8))],none⟩])
 (.seq (.region [⟨(some 7),.alloc [(.int .u8 0),(.int .u8 0),(.int .u8 0),(.int .u8 0),(.int .u8 0),(.int .u8 0),(.int .u8 0),(.int .u8 0)],none⟩])
 (.seq (.seq (.region [⟨(some 13),.mv (.const (.int .i64 0)),none⟩])
 (.block 0 (.loop (.seq (.region [⟨(some 14),.bin .lss (.tmp 13) (.const (.int .i64 8)),none⟩])
 (.seq (.cond (.tmp 14) .skip (.exit 0))
 (.seq (.block 1 (.seq (.region [⟨(some 15),.mv (.tmp 13),none⟩,⟨(some 8),.mv (.tmp 15),none⟩])
 (.region [⟨(some 16),.mv (.tmp 8),none⟩,⟨(some 17),.mv (.tmp 2),none⟩,⟨(some 18),.mv (.tmp 8),none⟩,⟨(some 19),.bin .mul (.const (.int .i64 8)) (.tmp 18),none⟩,⟨(some 20),.bin .shr (.tmp 17) (.tmp 19),none⟩,⟨(some 21),.conv .u8 (.tmp 20),none⟩,⟨(some 22),.iaddrA 8 1 (.tmp 7) (.tmp 16),none⟩,⟨none,.store 1 (.tmp 22) (.tmp 21),none⟩])))
 (.region [⟨(some 23),.bin .add (.tmp 13) (.const (.int .i64 1)),none⟩,⟨(some 13),.mv (.tmp 23),none⟩])))))))
 (.seq (.region [⟨(some 24),.mv (.tmp 0),none⟩,⟨(some 25),.mv (.tmp 1),none⟩,⟨(some 26),.sliceArr 8 1 (.tmp 7) none none,none⟩,⟨(some 27),.call 280 [(.tmp 24),(.tmp 25),(.tmp 26)],none⟩])
 (.seq (.region [⟨none,.store 1 (.tmp 6) (.const (.int .i64 0)),none⟩])
 .ret)))))))⟩
theorem k238 : compFn Tryz.prog Tryz.f238 = some c238 := by kernel_rfl
-- slices.AppendSeq[[]uint64,uint64]
def c239 : AFunc := ⟨[.tmp 4],(.seq (.region [⟨(some 2),.box 1 (.tmp 0),none⟩,⟨(some 4),.mv (.const (.slice none 0 0)),none⟩])
 (.seq (.seq (.region [⟨(some 6),.mv (.tmp 1),none⟩])
 (.block 0 (.rangeFunc (.tmp 6) [7] (.region [⟨(some 5),.mv (.tmp 7),none⟩])
 (.block 1 (.region [⟨(some 8),.load false 1 (.tmp 2),none⟩,⟨(some 9),.mv (.tmp 5),none⟩,⟨(some 10),.mkSlice 1 1 [(.int .u64 0)] [(0,1,(.tmp 9))],none⟩,⟨(some 11),.append 1 8 (.tmp 8) (.tmp 10),none⟩,⟨none,.store 1 (.tmp 2) (.tmp 11),none⟩])))))
 (.seq (.region [⟨(some 12),.load false 1 (.tmp 2),none⟩,⟨(some 4),.mv (.tmp 12),none⟩])
 .ret)))⟩
theorem k239 : compFn Tryz.prog Tryz.f239 = some c239 := by kernel_rfl
-- slices.pdqsortCmpFunc[uint64]
def c241 : AFunc := ⟨[],(.seq (.region [⟨(some 10),.mv (.const (.bool true)),none⟩])
 (.seq (.region [⟨(some 11),.mv (.const (.bool true)),none⟩])
 (.block 0 (.loop (.block 1 (.seq (.region [⟨(some 21),.mv (.tmp 2),none⟩,⟨(some 22),.mv (.tmp 1),none⟩,⟨(some 23),.bin .sub (.tmp 21) (.tmp 22),none⟩,⟨(some 12),.mv (.tmp 23),none⟩])
 (.seq (.seq (.region [⟨(some 24),.mv (.tmp 12),none⟩,⟨(some 25),.bin .leq (.tmp 24) (.const (.int .i64 12)),none⟩])
 (.cond (.tmp 25) (.seq (.region [⟨(some 26),.mv (.tmp 0),none⟩,⟨(some 27),.mv (.tmp 1),none⟩,⟨(some 28),.mv (.tmp 2),none⟩,⟨(some 29),.mv (.tmp 4),none⟩,⟨(some 30),.call 287 [(.tmp 26),(.tmp 27),(.tmp 28),(.tmp 29)],none⟩])
 .ret) .skip))
 (.seq (.seq (.region [⟨(some 31),.mv (.tmp 3),none⟩,⟨(some 32),.bin .eql (.tmp 31) (.const (.int .i64 0)),none⟩])
 (.cond (.tmp 32) (.seq (.region [⟨(some 33),.mv (.tmp 0),none⟩,⟨(some 34),.mv (.tmp 1),none⟩,⟨(some 35),.mv (.tmp 2),none⟩,⟨(some 36),.mv (.tmp 4),none⟩,⟨(some 37),.call 288 [(.tmp 33),(.tmp 34),(.tmp 35),(.tmp 36)],none⟩])
 .ret) .skip))
 (.seq (.seq (.region [⟨(some 38),.mv (.tmp 10),none⟩,⟨(some 39),.not (.tmp 38),none⟩])
 (.cond (.tmp 39) (.seq (.region [⟨(some 40),.mv (.tmp 0),none⟩,⟨(some 41),.mv (.tmp 1),none⟩,⟨(some 42),.mv (.tmp 2),none⟩,⟨(some 43),.mv (.tmp 4),none⟩,⟨(some 44),.call 289 [(.tmp 40),(.tmp 41),(.tmp 42),(.tmp 43)],none⟩])
 (.region [⟨(some 45),.mv (.tmp 3),none⟩,⟨(some 46),.bin .sub (.tmp 45) (.const (.int .i64 1)),none⟩,⟨(some 3),.mv (.tmp 46),none⟩])) .skip))
 (.seq (.region [⟨(some 48),.mv (.tmp 0),none⟩,⟨(some 49),.mv (.tmp 1),none⟩,⟨(some 50),.mv (.tmp 2),none⟩,⟨(some 51),.mv (.tmp 4),none⟩,⟨(some 52),.call 290 [(.tmp 48),(.tmp 49),(.tmp 50),(.tmp 51)],none⟩,⟨(some 47),.mv (.tmp 52),none⟩,⟨(some 53),.extract (.tmp 47) 0,none⟩,⟨(some 54),.extract (.tmp 47) 1,none⟩,⟨(some 13),.mv (.tmp 53),none⟩,⟨(some 14),.mv (.tmp 54),none⟩])
 (.seq (.seq (.region [⟨(some 55),.mv (.tmp 14),none⟩,⟨(some 56),.bin .eql (.tmp 55) (.const (.int .i64 2)),none⟩])
 (.cond (.tmp 56) (.seq (.region [⟨(some 57),.mv (.tmp 0),none⟩,⟨(some 58),.mv (.tmp 1),none⟩,⟨(some 59),.mv (.tmp 2),none⟩,⟨(some 60),.mv (.tmp 4),none⟩,⟨(some 61),.call 291 [(.tmp 57),(.tmp 58),(.tmp 59),(.tmp 60)],none⟩])
 (.seq (.region [⟨(some 62),.mv (.tmp 2),none⟩,⟨(some 63),.bin .sub (.tmp 62) (.const (.int .i64 1)),none⟩,⟨(some 64),.mv (.tmp 13),none⟩,⟨(some 65),.mv (.tmp 1),none⟩,⟨(some 66),.bin .sub (.tmp 64) (.tmp 65),none⟩,⟨(some 67),.bin .sub (.tmp 63) (.tmp 66),none⟩,⟨(some 13),.mv (.tmp 67),none⟩])
 (.region [⟨(some 14),.mv (.const (.int .i64 1)),none⟩]))) .skip))
 (.seq (.seq (.region [⟨(some 68),.mv (.tmp 10),none⟩,⟨(some 69),.mv (.tmp 68),none⟩,⟨(some 70),.mv (.tmp 11),some (69,true)⟩,⟨(some 71),.pick (.tmp 69) (.tmp 70) (.const (.bool false)),none⟩,⟨(some 72),.mv (.tmp 71),none⟩,⟨(some 73),.mv (.tmp 14),some (72,true)⟩,⟨(some 74),.bin .eql (.tmp 73) (.const (.int .i64 1)),some (72,true)⟩,⟨(some 75),.pick (.tmp 72) (.tmp 74) (.const (.bool false)),none⟩])
 (.cond (.tmp 75) (.seq (.region [⟨(some 76),.mv (.tmp 0),none⟩,⟨(some 77),.mv (.tmp 1),none⟩,⟨(some 78),.mv (.tmp 2),none⟩,⟨(some 79),.mv (.tmp 4),none⟩,⟨(some 80),.call 292 [(.tmp 76),(.tmp 77),(.tmp 78),(.tmp 79)],none⟩])
 (.cond (.tmp 80) .ret .skip)) .skip))
 (.seq (.seq (.draw [⟨⟨(some 81),.mv (.tmp 1),none⟩,0,0⟩,⟨⟨(some 82),.bin .gtr (.tmp 81) (.const (.int .i64 0)),none⟩,0,0⟩,⟨⟨(some 83),.mv (.tmp 82),none⟩,0,0⟩,⟨⟨(some 84),.mv (.tmp 4),some (83,true)⟩,0,0⟩,⟨⟨(some 85),.mv (.tmp 0),some (83,true)⟩,0,0⟩,⟨⟨(some 86),.mv (.tmp 1),some (83,true)⟩,0,0⟩,⟨⟨(some 87),.bin .sub (.tmp 86) (.const (.int .i64 1)),some (83,true)⟩,0,0⟩,⟨⟨(some 88),.iaddrS 1 (.tmp 85) (.tmp 87),some (83,true)⟩,0,0⟩,⟨⟨(some 89),.load false 1 (.tmp 88),some (83,true)⟩,0,0⟩,⟨⟨(some 90),.mv (.tmp 0),some (83,true)⟩,0,0⟩,⟨⟨(some 91),.mv (.tmp 13),some (83,true)⟩,0,0⟩,⟨⟨(some 92),.iaddrS 1 (.tmp 90) (.tmp 91),some (83,true)⟩,0,0⟩,⟨⟨(some 93),.load false 1 (.tmp 92),some (83,true)⟩,0,0⟩,⟨⟨(some 94),.callv (.tmp 84) [(.tmp 89),(.tmp 93)],some (83,true)⟩,0,1⟩,⟨⟨(some 95),.bin .lss (.tmp 94) (.const (.int .i64 0)),some (83,true)⟩,1,1⟩,⟨⟨(some 96),.not (.tmp 95),some (83,true)⟩,1,1⟩,⟨⟨(some 97),.pick (.tmp 83) (.tmp 96) (.const (.bool false)),none⟩,1,1⟩])
 (.cond (.tmp 97) (.seq (.region [⟨(some 98),.mv (.tmp 0),none⟩,⟨(some 99),.mv (.tmp 1),none⟩,⟨(some 100),.mv (.tmp 2),none⟩,⟨(some 101),.mv (.tmp 13),none⟩,⟨(some 102),.mv (.tmp 4),none⟩,⟨(some 103),.call 293 [(.tmp 98),(.tmp 99),(.tmp 100),(.tmp 101),(.tmp 102)],none⟩,⟨(some 15),.mv (.tmp 103),none⟩])
 (.seq (.region [⟨(some 104),.mv (.tmp 15),none⟩,⟨(some 1),.mv (.tmp 104),none⟩])
 (.exit 1))) .skip))
 (.seq (.region [⟨(some 106),.mv (.tmp 0),none⟩,⟨(some 107),.mv (.tmp 1),none⟩,⟨(some 108),.mv (.tmp 2),none⟩,⟨(some 109),.mv (.tmp 13),none⟩,⟨(some 110),.mv (.tmp 4),none⟩,⟨(some 111),.call 294 [(.tmp 106),(.tmp 107),(.tmp 108),(.tmp 109),(.tmp 110)],none⟩,⟨(some 105),.mv (.tmp 111),none⟩,⟨(some 112),.extract (.tmp 105) 0,none⟩,⟨(some 113),.extract (.tmp 105) 1,none⟩,⟨(some 16),.mv (.tmp 112),none⟩,⟨(some 17),.mv (.tmp 113),none⟩])
 (.seq (.region [⟨(some 114),.mv (.tmp 17),none⟩,⟨(some 11),.mv (.tmp 114),none⟩])
 (.seq (.region [⟨(some 115),.mv (.tmp 16),none⟩,⟨(some 116),.mv (.tmp 1),none⟩,⟨(some 117),.bin .sub (.tmp 115) (.tmp 116),none⟩,⟨(some 118),.mv (.tmp 2),none⟩,⟨(some 119),.mv (.tmp 16),none⟩,⟨(some 120),.bin .sub (.tmp 118) (.tmp 119),none⟩,⟨(some 18),.mv (.tmp 117),none⟩,⟨(some 19),.mv (.tmp 120),none⟩])
 (.seq (.region [⟨(some 121),.mv (.tmp 12),none⟩,⟨(some 122),.bin .quo (.tmp 121) (.const (.int .i64 8)),none⟩,⟨(some 20),.mv (.tmp 122),none⟩])
 (.seq (.region [⟨(some 123),.mv (.tmp 18),none⟩,⟨(some 124),.mv (.tmp 19),none⟩,⟨(some 125),.bin .lss (.tmp 123) (.tmp 124),none⟩])
 (.cond (.tmp 125) (.seq (.region [⟨(some 126),.mv (.tmp 18),none⟩,⟨(some 127),.mv (.tmp 20),none⟩,⟨(some 128),.bin .geq (.tmp 126) (.tmp 127),none⟩,⟨(some 10),.mv (.tmp 128),none⟩])
 (.seq (.region [⟨(some 129),.mv (.tmp 0),none⟩,⟨(some 130),.mv (.tmp 1),none⟩,⟨(some 131),.mv (.tmp 16),none⟩,⟨(some 132),.mv (.tmp 3),none⟩,⟨(some 133),.mv (.tmp 4),none⟩,⟨(some 134),.call 241 [(.tmp 129),(.tmp 130),(.tmp 131),(.tmp 132),(.tmp 133)],none⟩])
 (.region [⟨(some 135),.mv (.tmp 16),none⟩,⟨(some 136),.bin .add (.tmp 135) (.const (.int .i64 1)),none⟩,⟨(some 1),.mv (.tmp 136),none⟩]))) (.seq (.region [⟨(some 137),.mv (.tmp 19),none⟩,⟨(some 138),.mv (.tmp 20),none⟩,⟨(some 139),.bin .geq (.tmp 137) (.tmp 138),none⟩,⟨(some 10),.mv (.tmp 139),none⟩])
 (.seq (.region [⟨(some 140),.mv (.tmp 0),none⟩,⟨(some 141),.mv (.tmp 16),none⟩,⟨(some 142),.bin .add (.tmp 141) (.const (.int .i64 1)),none⟩,⟨(some 143),.mv (.tmp 2),none⟩,⟨(some 144),.mv (.tmp 3),none⟩,⟨(some 145),.mv (.tmp 4),none⟩,⟨(some 146),.call 241 [(.tmp 140),(.tmp 142),(.tmp 143),(.tmp 144),(.tmp 145)],none⟩])
 (.region [⟨(some 147),.mv (.tmp 16),none⟩,⟨(some 2),.mv (.tmp 147),none⟩]))))))))))))))))))))))⟩
theorem k241 : compFn Tryz.prog Tryz.f241 = some c241 := by kernel_rfl
-- math/bits.Len
def c242 : AFunc := ⟨[.tmp 2],(.seq (.region [⟨(some 2),.mv (.const (.int .i64 0)),none⟩])
 (.seq (.cond (.const (.bool false)) (.seq (.region [⟨(some 3),.mv (.tmp 0),none⟩,⟨(some 4),.conv .u32 (.tmp 3),none⟩,⟨(some 5),.call 295 [(.tmp 4)],none⟩,⟨(some 2),.mv (.tmp 5),none⟩])
 .ret) .skip)
 (.seq (.region [⟨(some 6),.mv (.tmp 0),none⟩,⟨(some 7),.call 296 [(.tmp 6)],none⟩,⟨(some 2),.mv (.tmp 7),none⟩])
 .ret)))⟩
theorem k242 : compFn Tryz.prog Tryz.f242 = some c242 := by kernel_rfl
-- (*croft/mem.Space).Word
def c243 : AFunc := ⟨[.tmp 4,.cell 5 false 1],(.seq (.region [⟨(some 4),.mv (.const (.int .u64 0)),none⟩,⟨(some 5),.alloc [(.int .i64 0)],none⟩])
 (.seq (.region [⟨(some 8),.makeFunc 297 [] [(.tmp 5)],none⟩,⟨none,.deferv (.tmp 8) [],none⟩])
 (.seq (.region [⟨(some 9),.mv (.tmp 0),none⟩,⟨(some 10),.mv (.tmp 1),none⟩,⟨(some 11),.call 223 [(.tmp 9),(.tmp 10),(.const (.int .u64 8))],none⟩])
 (.seq (.region [⟨(some 6),.alloc [(.int .u8 0),(.int .u8 0),(.int .u8 0),(.int .u8 0),(.int .u8 0),(.int .u8 0),(.int .u8 0),(.int .u8 0)],none⟩])
 (.seq (.region [⟨(some 12),.mv (.tmp 0),none⟩,⟨(some 13),.mv (.tmp 1),none⟩,⟨(some 14),.sliceArr 8 1 (.tmp 6) none none,none⟩,⟨(some 15),.call 224 [(.tmp 12),(.tmp 13),(.tmp 14)],none⟩])
 (.seq (.seq (.region [⟨(some 16),.mv (.const (.int .i64 0)),none⟩])
 (.block 0 (.loop (.seq (.region [⟨(some 17),.bin .lss (.tmp 16) (.const (.int .i64 8)),none⟩])
 (.seq (.cond (.tmp 17) .skip (.exit 0))
 (.seq (.block 1 (.seq (.region [⟨(some 18),.mv (.tmp 16),none⟩,⟨(some 7),.mv (.tmp 18),none⟩])
 (.region [⟨(some 19),.mv (.tmp 4),none⟩,⟨(some 20),.mv (.tmp 7),none⟩,⟨(some 21),.iaddrA 8 1 (.tmp 6) (.tmp 20),none⟩,⟨(some 22),.load false 1 (.tmp 21),none⟩,⟨(some 23),.conv .u64 (.tmp 22),none⟩,⟨(some 24),.mv (.tmp 7),none⟩,⟨(some 25),.bin .mul (.const (.int .i64 8)) (.tmp 24),none⟩,⟨(some 26),.bin .shl (.tmp 23) (.tmp 25),none⟩,⟨(some 27),.bin .or (.tmp 19) (.tmp 26),none⟩,⟨(some 4),.mv (.tmp 27),none⟩])))
 (.region [⟨(some 28),.bin .add (.tmp 16) (.const (.int .i64 1)),none⟩,⟨(some 16),.mv (.tmp 28),none⟩])))))))
 (.seq (.region [⟨(some 29),.mv (.tmp 4),none⟩,⟨(some 4),.mv (.tmp 29),none⟩,⟨none,.store 1 (.tmp 5) (.const (.int .i64 0)),none⟩])
 .ret)))))))⟩
theorem k243 : compFn Tryz.prog Tryz.f243 = some c243 := by kernel_rfl
-- maps.Keys[map[uint64]*croft/trace.object,uint64,*croft/trace.object]$1
def c244 : AFunc := ⟨[],(.seq (.region [⟨(some 4),.load false 1 (.tmp 1),none⟩,⟨(some 5),.rangeM (.tmp 4),none⟩])
 (.block 0 (.loop (.seq (.region [⟨(some 6),.nextM (.tmp 5),none⟩,⟨(some 7),.extract (.tmp 6) 0,none⟩])
 (.seq (.cond (.tmp 7) .skip (.exit 0))
 (.block 1 (.seq (.region [⟨(some 8),.entryM (.tmp 5),none⟩,⟨(some 9),.extract (.tmp 8) 0,none⟩,⟨(some 3),.mv (.tmp 9),none⟩])
 (.seq (.region [⟨(some 10),.mv (.tmp 0),none⟩,⟨(some 11),.mv (.tmp 3),none⟩,⟨(some 12),.callv (.tmp 10) [(.tmp 11)],none⟩,⟨(some 13),.not (.tmp 12),none⟩])
 (.cond (.tmp 13) .ret .skip)))))))))⟩
theorem k244 : compFn Tryz.prog Tryz.f244 = some c244 := by kernel_rfl
-- croft/bits.Ceil[uint64]
def c251 : AFunc := ⟨[.tmp 2,.tmp 3],(.seq (.region [⟨(some 2),.mv (.const (.int .u64 0)),none⟩,⟨(some 3),.mv (.const (.bool false)),none⟩])
 (.seq (.seq (.region [⟨(some 5),.mv (.tmp 0),none⟩,⟨(some 6),.bin .leq (.tmp 5) (.const (.int .u64 1)),none⟩])
 (.cond (.tmp 6) (.seq (.region [⟨(some 2),.mv (.const (.int .u64 1)),none⟩,⟨(some 3),.mv (.const (.bool true)),none⟩])
 .ret) .skip))
 (.seq (.region [⟨(some 7),.conv .u64 (.const (.int .i64 1)),none⟩,⟨(some 8),.mv (.tmp 0),none⟩,⟨(some 9),.bin .sub (.tmp 8) (.const (.int .u64 1)),none⟩,⟨(some 10),.call 303 [(.tmp 9)],none⟩,⟨(some 11),.bin .add (.tmp 10) (.const (.int .i64 1)),none⟩,⟨(some 12),.bin .shl (.tmp 7) (.tmp 11),none⟩,⟨(some 4),.mv (.tmp 12),none⟩])
 (.seq (.region [⟨(some 13),.mv (.tmp 4),none⟩,⟨(some 14),.mv (.tmp 4),none⟩,⟨(some 15),.bin .neq (.tmp 14) (.const (.int .u64 0)),none⟩,⟨(some 2),.mv (.tmp 13),none⟩,⟨(some 3),.mv (.tmp 15),none⟩])
 .ret))))⟩
theorem k251 : compFn Tryz.prog Tryz.f251 = some c251 := by kernel_rfl
-- (*croft/malloc.Heap).round
def c253 : AFunc := ⟨[.tmp 6,.tmp 7],(.seq (.region [⟨(some 6),.mv (.const (.int .u64 0)),none⟩,⟨(some 7),.mv (.const (.int .i64 0)),none⟩])
 (.seq (.seq (.region [⟨(some 10),.mv (.tmp 2),none⟩,⟨(some 11),.call 209 [(.tmp 10)],none⟩,⟨(some 12),.not (.tmp 11),none⟩])
 (.cond (.tmp 12) (.seq (.region [⟨(some 6),.mv (.const (.int .u64 0)),none⟩,⟨(some 7),.mv (.const (.int .i64 1)),none⟩])
 .ret) .skip))
 (.seq (.region [⟨(some 14),.mv (.tmp 1),none⟩,⟨(some 15),.mv (.tmp 2),none⟩,⟨(some 16),.maxmin true [(.tmp 14),(.tmp 15),(.const (.int .u64 16))],none⟩,⟨(some 17),.call 251 [(.tmp 16)],none⟩,⟨(some 13),.mv (.tmp 17),none⟩,⟨(some 18),.extract (.tmp 13) 0,none⟩,⟨(some 19),.extract (.tmp 13) 1,none⟩,⟨(some 8),.mv (.tmp 18),none⟩,⟨(some 9),.mv (.tmp 19),none⟩])
 (.seq (.seq (.region [⟨(some 20),.mv (.tmp 9),none⟩,⟨(some 21),.not (.tmp 20),none⟩,⟨(some 22),.mv (.tmp 21),none⟩,⟨(some 23),.mv (.tmp 8),some (22,false)⟩,⟨(some 24),.mv (.tmp 0),some (22,false)⟩,⟨(some 25),.call 304 [(.tmp 24)],some (22,false)⟩,⟨(some 26),.bin .gtr (.tmp 23) (.tmp 25),some (22,false)⟩,⟨(some 27),.pick (.tmp 22) (.const (.bool true)) (.tmp 26),none⟩])
 (.cond (.tmp 27) (.seq (.region [⟨(some 6),.mv (.const (.int .u64 0)),none⟩,⟨(some 7),.mv (.const (.int .i64 3)),none⟩])
 .ret) .skip))
 (.seq (.region [⟨(some 28),.mv (.tmp 8),none⟩,⟨(some 6),.mv (.tmp 28),none⟩,⟨(some 7),.mv (.const (.int .i64 0)),none⟩])
 .ret)))))⟩
theorem k253 : compFn Tryz.prog Tryz.f253 = some c253 := by kernel_rfl
-- croft/malloc.order
def c256 : AFunc := ⟨[.tmp 2],(.seq (.region [⟨(some 2),.mv (.const (.int .i64 0)),none⟩])
 (.seq (.region [⟨(some 3),.mv (.tmp 0),none⟩,⟨(some 4),.bin .quo (.tmp 3) (.const (.int .u64 4096)),none⟩,⟨(some 5),.call 303 [(.tmp 4)],none⟩,⟨(some 2),.mv (.tmp 5),none⟩])
 .ret))⟩
theorem k256 : compFn Tryz.prog Tryz.f256 = some c256 := by kernel_rfl
-- (*croft/malloc.Heap).take
def c257 : AFunc := ⟨[.tmp 6,.tmp 7],(.seq (.region [⟨(some 6),.mv (.const (.int .u64 0)),none⟩,⟨(some 7),.mv (.const (.int .i64 0)),none⟩])
 (.seq (.seq (.region [⟨(some 14),.mv (.tmp 1),none⟩,⟨(some 15),.bin .lss (.tmp 14) (.const (.int .u64 4096)),none⟩])
 (.cond (.tmp 15) (.seq (.draw [⟨⟨(some 17),.mv (.tmp 0),none⟩,0,1⟩,⟨⟨(some 18),.nilCheck (.tmp 17),none⟩,0,1⟩,⟨⟨(some 19),.faddr 6 (.tmp 18),none⟩,0,1⟩,⟨⟨(some 20),.load false 1 (.tmp 19),none⟩,0,1⟩,⟨⟨(some 21),.mv (.tmp 1),none⟩,0,0⟩,⟨⟨(some 22),.call 308 [(.tmp 21)],none⟩,0,1⟩,⟨⟨(some 23),.mv (.tmp 2),none⟩,0,1⟩,⟨⟨(some 24),.call 307 [(.tmp 20),(.tmp 22),(.tmp 23)],none⟩,1,2⟩,⟨⟨(some 16),.mv (.tmp 24),none⟩,2,2⟩,⟨⟨(some 25),.extract (.tmp 16) 0,none⟩,2,2⟩,⟨⟨(some 26),.extract (.tmp 16) 1,none⟩,2,2⟩,⟨⟨(some 27),.extract (.tmp 16) 2,none⟩,2,2⟩,⟨⟨(some 8),.mv (.tmp 25),none⟩,2,2⟩,⟨⟨(some 9),.mv (.tmp 26),none⟩,2,2⟩,⟨⟨(some 10),.mv (.tmp 27),none⟩,2,2⟩])
 (.seq (.region [⟨(some 28),.mv (.tmp 8),none⟩,⟨(some 29),.mv (.tmp 10),none⟩,⟨(some 6),.mv (.tmp 28),none⟩,⟨(some 7),.mv (.tmp 29),none⟩])
 .ret)) .skip))
 (.seq (.draw [⟨⟨(some 31),.mv (.tmp 0),none⟩,0,1⟩,⟨⟨(some 32),.nilCheck (.tmp 31),none⟩,0,1⟩,⟨⟨(some 33),.faddr 5 (.tmp 32),none⟩,0,1⟩,⟨⟨(some 34),.load false 1 (.tmp 33),none⟩,0,1⟩,⟨⟨(some 35),.mv (.tmp 1),none⟩,0,0⟩,⟨⟨(some 36),.call 256 [(.tmp 35)],none⟩,0,1⟩,⟨⟨(some 37),.mv (.tmp 2),none⟩,0,1⟩,⟨⟨(some 38),.call 309 [(.tmp 34),(.tmp 36),(.tmp 37)],none⟩,1,2⟩,⟨⟨(some 30),.mv (.tmp 38),none⟩,2,2⟩,⟨⟨(some 39),.extract (.tmp 30) 0,none⟩,2,2⟩,⟨⟨(some 40),.extract (.tmp 30) 1,none⟩,2,2⟩,⟨⟨(some 41),.extract (.tmp 30) 2,none⟩,2,2⟩,⟨⟨(some 11),.mv (.tmp 39),none⟩,2,2⟩,⟨⟨(some 12),.mv (.tmp 40),none⟩,2,2⟩,⟨⟨(some 13),.mv (.tmp 41),none⟩,2,2⟩])
 (.seq (.region [⟨(some 42),.mv (.tmp 11),none⟩,⟨(some 43),.mv (.tmp 13),none⟩,⟨(some 6),.mv (.tmp 42),none⟩,⟨(some 7),.mv (.tmp 43),none⟩])
 .ret))))⟩
theorem k257 : compFn Tryz.prog Tryz.f257 = some c257 := by kernel_rfl
-- croft/mem.may
def c260 : AFunc := ⟨[.tmp 2],(.seq (.region [⟨(some 1),.box 3 (.tmp 0),none⟩,⟨(some 2),.mv (.const (.bool false)),none⟩])
 (.seq (.seq (.region [⟨(some 4),.faddr 2 (.tmp 1),none⟩,⟨(some 5),.load false 1 (.tmp 4),none⟩,⟨(some 6),.bin .lss (.tmp 5) (.const (.int .i64 0)),none⟩,⟨(some 7),.mv (.tmp 6),none⟩,⟨(some 8),.faddr 2 (.tmp 1),some (7,false)⟩,⟨(some 9),.load false 1 (.tmp 8),some (7,false)⟩,⟨(some 10),.bin .gtr (.tmp 9) (.const (.int .i64 8)),some (7,false)⟩,⟨(some 11),.pick (.tmp 7) (.const (.bool true)) (.tmp 10),none⟩,⟨(some 12),.mv (.tmp 11),none⟩,⟨(some 13),.faddr 1 (.tmp 1),some (12,false)⟩,⟨(some 14),.load false 1 (.tmp 13),some (12,false)⟩,⟨(some 15),.bin .lss (.tmp 14) (.const (.int .i64 1)),some (12,false)⟩,⟨(some 16),.pick (.tmp 12) (.const (.bool true)) (.tmp 15),none⟩,⟨(some 17),.mv (.tmp 16),none⟩,⟨(some 18),.faddr 1 (.tmp 1),some (17,false)⟩,⟨(some 19),.load false 1 (.tmp 18),some (17,false)⟩,⟨(some 20),.bin .gtr (.tmp 19) (.const (.int .i64 64)),some (17,false)⟩,⟨(some 21),.pick (.tmp 17) (.const (.bool true)) (.tmp 20),none⟩,⟨(some 22),.mv (.tmp 21),none⟩,⟨(some 23),.faddr 1 (.tmp 1),some (22,false)⟩,⟨(some 24),.load false 1 (.tmp 23),some (22,false)⟩,⟨(some 25),.faddr 2 (.tmp 1),some (22,false)⟩,⟨(some 26),.load false 1 (.tmp 25),some (22,false)⟩,⟨(some 27),.bin .shl (.tmp 24) (.tmp 26),some (22,false)⟩,⟨(some 28),.bin .gtr (.tmp 27) (.const (.int .i64 1024)),some (22,false)⟩,⟨(some 29),.pick (.tmp 22) (.const (.bool true)) (.tmp 28),none⟩])
 (.cond (.tmp 29) (.seq (.region [⟨(some 2),.mv (.const (.bool false)),none⟩])
 .ret) .skip))
 (.seq (.region [⟨(some 30),.faddr 2 (.tmp 1),none⟩,⟨(some 31),.load false 1 (.tmp 30),none⟩,⟨(some 32),.bin .shl (.const (.int .u64 4096)) (.tmp 31),none⟩,⟨(some 3),.mv (.tmp 32),none⟩])
 (.seq (.region [⟨(some 33),.faddr 0 (.tmp 1),none⟩,⟨(some 34),.load false 1 (.tmp 33),none⟩,⟨(some 35),.bin .neq (.tmp 34) (.const (.int .u64 0)),none⟩,⟨(some 36),.mv (.tmp 35),none⟩,⟨(some 37),.faddr 0 (.tmp 1),some (36,true)⟩,⟨(some 38),.load false 1 (.tmp 37),some (36,true)⟩,⟨(some 39),.mv (.tmp 3),some (36,true)⟩,⟨(some 40),.bin .rem (.tmp 38) (.tmp 39),some (36,true)⟩,⟨(some 41),.bin .eql (.tmp 40) (.const (.int .u64 0)),some (36,true)⟩,⟨(some 42),.pick (.tmp 36) (.tmp 41) (.const (.bool false)),none⟩,⟨(some 43),.mv (.tmp 42),none⟩,⟨(some 44),.faddr 0 (.tmp 1),some (43,true)⟩,⟨(some 45),.load false 1 (.tmp 44),some (43,true)⟩,⟨(some 46),.bin .leq (.tmp 45) (.const (.int .u64 9223372036854775808)),some (43,true)⟩,⟨(some 47),.pick (.tmp 43) (.tmp 46) (.const (.bool false)),none⟩,⟨(some 48),.mv (.tmp 47),none⟩,⟨(some 49),.mv (.tmp 3),some (48,true)⟩,⟨(some 50),.faddr 1 (.tmp 1),some (48,true)⟩,⟨(some 51),.load false 1 (.tmp 50),some (48,true)⟩,⟨(some 52),.conv .u64 (.tmp 51),some (48,true)⟩,⟨(some 53),.bin .mul (.tmp 49) (.tmp 52),some (48,true)⟩,⟨(some 54),.faddr 0 (.tmp 1),some (48,true)⟩,⟨(some 55),.load false 1 (.tmp 54),some (48,true)⟩,⟨(some 56),.bin .sub (.const (.int .u64 9223372036854775808)) (.tmp 55),some (48,true)⟩,⟨(some 57),.bin .leq (.tmp 53) (.tmp 56),some (48,true)⟩,⟨(some 58),.pick (.tmp 48) (.tmp 57) (.const (.bool false)),none⟩,⟨(some 2),.mv (.tmp 58),none⟩])
 .ret))))⟩
theorem k260 : compFn Tryz.prog Tryz.f260 = some c260 := by kernel_rfl
-- croft/bits.NewSet
def c261 : AFunc := ⟨[.tmp 2],(.seq (.region [⟨(some 2),.mv (.const (.ptr none)),none⟩])
 (.seq (.region [⟨(some 3),.mv (.tmp 0),none⟩,⟨(some 4),.call 311 [(.const (.slice none 0 0)),(.tmp 3)],none⟩,⟨(some 2),.mv (.tmp 4),none⟩])
 .ret))⟩
theorem k261 : compFn Tryz.prog Tryz.f261 = some c261 := by kernel_rfl
-- croft/buddy.Open
def c262 : AFunc := ⟨[.tmp 8,.tmp 9],(.seq (.region [⟨(some 4),.box 3 (.tmp 0),none⟩,⟨(some 8),.mv (.const (.ptr none)),none⟩,⟨(some 9),.mv (.const (.int .i64 0)),none⟩])
 (.seq (.seq (.region [⟨(some 13),.mv (.tmp 3),none⟩,⟨(some 14),.lenS (.tmp 13),none⟩,⟨(some 15),.faddr 2 (.tmp 4),none⟩,⟨(some 16),.load false 1 (.tmp 15),none⟩,⟨(some 17),.bin .add (.tmp 16) (.const (.int .i64 1)),none⟩,⟨(some 18),.bin .neq (.tmp 14) (.tmp 17),none⟩])
 (.cond (.tmp 18) (.seq (.region [⟨(some 8),.mv (.const (.ptr none)),none⟩,⟨(some 9),.mv (.const (.int .i64 7)),none⟩])
 .ret) .skip))
 (.seq (.region [⟨(some 19),.load true 3 (.tmp 4),none⟩,⟨(some 20),.mv (.tmp 1),none⟩,⟨(some 21),.mv (.tmp 2),none⟩,⟨(some 22),.build [(.int .u64 0),(.int .i64 0),(.int .i64 0),(.ptr none),(.ptr none),(.slice none 0 0)] [(0,3,(.tmp 19)),(3,1,(.tmp 20)),(4,1,(.tmp 21))],none⟩,⟨(some 23),.box 6 (.tmp 22),none⟩,⟨(some 10),.mv (.tmp 23),none⟩])
 (.seq (.seq (.region [⟨(some 24),.mv (.tmp 3),none⟩,⟨(some 25),.lenS (.tmp 24),none⟩,⟨(some 26),.mv (.const (.int .i64 0)),none⟩])
 (.block 0 (.loop (.seq (.region [⟨(some 27),.bin .lss (.tmp 26) (.tmp 25),none⟩])
 (.seq (.cond (.tmp 27) .skip (.exit 0))
 (.seq (.block 1 (.seq (.region [⟨(some 28),.iaddrS 1 (.tmp 24) (.tmp 26),none⟩,⟨(some 29),.load false 1 (.tmp 28),none⟩,⟨(some 12),.mv (.tmp 29),none⟩])
 (.draw [⟨⟨(some 30),.mv (.tmp 10),none⟩,0,3⟩,⟨⟨(some 31),.mv (.tmp 10),none⟩,0,2⟩,⟨⟨(some 32),.nilCheck (.tmp 31),none⟩,0,2⟩,⟨⟨(some 33),.faddr 5 (.tmp 32),none⟩,0,2⟩,⟨⟨(some 34),.load false 1 (.tmp 33),none⟩,0,2⟩,⟨⟨(some 35),.mv (.tmp 1),none⟩,0,0⟩,⟨⟨(some 36),.mv (.tmp 12),none⟩,0,0⟩,⟨⟨(some 37),.call 312 [(.tmp 35),(.tmp 36)],none⟩,0,1⟩,⟨⟨(some 38),.mkSlice 1 1 [(.ptr none)] [(0,1,(.tmp 37))],none⟩,1,2⟩,⟨⟨(some 39),.append 1 8 (.tmp 34) (.tmp 38),none⟩,2,3⟩,⟨⟨(some 40),.nilCheck (.tmp 30),none⟩,3,3⟩,⟨⟨(some 41),.faddr 5 (.tmp 40),none⟩,3,3⟩,⟨⟨none,.store 1 (.tmp 41) (.tmp 39),none⟩,3,4⟩])))
 (.region [⟨(some 42),.bin .add (.tmp 26) (.const (.int .i64 1)),none⟩,⟨(some 26),.mv (.tmp 42),none⟩])))))))
 (.seq (.region [⟨(some 43),.mv (.tmp 10),none⟩,⟨(some 8),.mv (.tmp 43),none⟩,⟨(some 9),.mv (.const (.int .i64 0)),none⟩])
 .ret)))))⟩
theorem k262 : compFn Tryz.prog Tryz.f262 = some c262 := by kernel_rfl
-- (*croft/slab.Slab).Give
def c275 : AFunc := ⟨[.tmp 4],(.seq (.region [⟨(some 4),.mv (.const (.int .i64 0)),none⟩])
 (.seq (.region [⟨(some 13),.mv (.tmp 0),none⟩,⟨(some 14),.mv (.tmp 1),none⟩,⟨(some 15),.call 322 [(.tmp 13),(.tmp 14)],none⟩,⟨(some 12),.mv (.tmp 15),none⟩,⟨(some 16),.extract (.tmp 12) 0,none⟩,⟨(some 17),.extract (.tmp 12) 1,none⟩,⟨(some 18),.extract (.tmp 12) 2,none⟩,⟨(some 19),.extract (.tmp 12) 3,none⟩,⟨(some 7),.alloc [(.int .i64 0),(.int .i64 0),(.int .i64 0),(.int .i64 0),(.int .i64 0),(.int .i64 0),(.int .i64 0),(.int .u64 0),(.int .u64 0),(.int .u64 0),(.int .u64 0)],none⟩,⟨(some 5),.mv (.tmp 16),none⟩,⟨(some 6),.mv (.tmp 17),none⟩,⟨none,.store 11 (.tmp 7) (.tmp 18),none⟩,⟨(some 8),.mv (.tmp 19),none⟩])
 (.seq (.seq (.region [⟨(some 20),.mv (.tmp 8),none⟩,⟨(some 21),.not (.tmp 20),none⟩])
 (.cond (.tmp 21) (.seq (.region [⟨(some 4),.mv (.const (.int .i64 1)),none⟩])
 .ret) .skip))
 (.seq (.region [⟨(some 22),.mv (.tmp 0),none⟩,⟨(some 23),.nilCheck (.tmp 22),none⟩,⟨(some 24),.faddr 0 (.tmp 23),none⟩,⟨(some 25),.load false 1 (.tmp 24),none⟩,⟨(some 26),.nilCheck (.tmp 25),none⟩,⟨(some 27),.faddr 0 (.tmp 26),none⟩,⟨(some 28),.call 116 [(.tmp 27)],none⟩,⟨(some 9),.mv (.tmp 28),none⟩])
 (.seq (.region [⟨(some 29),.mv (.tmp 9),none⟩,⟨(some 30),.mv (.tmp 5),none⟩,⟨(some 31),.mv (.tmp 6),none⟩,⟨(some 32),.call 323 [(.tmp 29),(.tmp 30),(.tmp 31),(.const (.bool false))],none⟩])
 (.seq (.region [⟨(some 33),.mv (.tmp 0),none⟩,⟨(some 34),.call 324 [(.tmp 33)],none⟩,⟨(some 35),.mv (.tmp 5),none⟩,⟨(some 36),.conv .u64 (.tmp 35),none⟩,⟨(some 37),.bin .mul (.const (.int .u64 4096)) (.tmp 36),none⟩,⟨(some 38),.bin .add (.tmp 34) (.tmp 37),none⟩,⟨(some 10),.mv (.tmp 38),none⟩])
 (.seq (.block 0 (.seq (.block 3 (.seq (.block 2 (.seq (.block 1 (.seq (.seq (.seq (.region [⟨(some 40),.faddr 3 (.tmp 7),none⟩,⟨(some 41),.load false 1 (.tmp 40),none⟩,⟨(some 42),.bin .eql (.tmp 41) (.const (.int .i64 1)),none⟩,⟨(some 39),.mv (.tmp 42),none⟩])
 (.cond (.tmp 39) (.exit 1) .skip))
 (.seq (.region [⟨(some 44),.faddr 6 (.tmp 7),none⟩,⟨(some 45),.load false 1 (.tmp 44),none⟩,⟨(some 46),.bin .lss (.tmp 45) (.const (.int .i64 0)),none⟩,⟨(some 43),.mv (.tmp 46),none⟩])
 (.cond (.tmp 43) (.exit 2) .skip)))
 (.exit 3)))
 (.seq (.seq (.region [⟨(some 47),.mv (.tmp 0),none⟩,⟨(some 48),.mv (.tmp 5),none⟩,⟨(some 49),.faddr 2 (.tmp 7),none⟩,⟨(some 50),.load false 1 (.tmp 49),none⟩,⟨(some 51),.call 325 [(.tmp 47),(.tmp 48),(.tmp 50)],none⟩])
 (.seq (.region [⟨(some 52),.mv (.tmp 9),none⟩,⟨(some 53),.mv (.tmp 5),none⟩,⟨(some 54),.call 326 [(.tmp 52),(.tmp 53),(.const (.int .i64 0)),(.const (.int .i64 2))],none⟩])
 (.seq (.region [⟨(some 55),.mv (.tmp 0),none⟩,⟨(some 56),.nilCheck (.tmp 55),none⟩,⟨(some 57),.faddr 0 (.tmp 56),none⟩,⟨(some 58),.load false 1 (.tmp 57),none⟩,⟨(some 59),.mv (.tmp 10),none⟩,⟨(some 60),.call 276 [(.tmp 58),(.tmp 59),(.const (.int .i64 0))],none⟩,⟨(some 4),.mv (.tmp 60),none⟩])
 .ret)))
 (.exit 0))))
 (.region [⟨(some 61),.mv (.tmp 0),none⟩,⟨(some 62),.mv (.tmp 5),none⟩,⟨(some 63),.faddr 2 (.tmp 7),none⟩,⟨(some 64),.load false 1 (.tmp 63),none⟩,⟨(some 65),.call 327 [(.tmp 61),(.tmp 62),(.tmp 64)],none⟩])))
 (.seq (.seq (.region [⟨(some 11),.mv (.const (.int .u64 0)),none⟩])
 (.seq (.seq (.region [⟨(some 66),.faddr 6 (.tmp 7),none⟩,⟨(some 67),.load false 1 (.tmp 66),none⟩,⟨(some 68),.bin .geq (.tmp 67) (.const (.int .i64 0)),none⟩])
 (.cond (.tmp 68) (.draw [⟨⟨(some 69),.mv (.tmp 10),none⟩,0,0⟩,⟨⟨(some 70),.faddr 6 (.tmp 7),none⟩,0,0⟩,⟨⟨(some 71),.load false 1 (.tmp 70),none⟩,0,0⟩,⟨⟨(some 72),.conv .u64 (.tmp 71),none⟩,0,0⟩,⟨⟨(some 73),.faddr 2 (.tmp 7),none⟩,0,0⟩,⟨⟨(some 74),.load false 1 (.tmp 73),none⟩,0,0⟩,⟨⟨(some 75),.iaddrA 8 1 (.glob 1) (.tmp 74),none⟩,0,0⟩,⟨⟨(some 76),.load false 1 (.tmp 75),none⟩,0,0⟩,⟨⟨(some 77),.bin .mul (.tmp 72) (.tmp 76),none⟩,0,0⟩,⟨⟨(some 78),.bin .add (.tmp 69) (.tmp 77),none⟩,0,0⟩,⟨⟨(some 11),.mv (.tmp 78),none⟩,0,0⟩]) .skip))
 (.seq (.region [⟨(some 79),.mv (.tmp 0),none⟩,⟨(some 80),.nilCheck (.tmp 79),none⟩,⟨(some 81),.faddr 0 (.tmp 80),none⟩,⟨(some 82),.load false 1 (.tmp 81),none⟩,⟨(some 83),.nilCheck (.tmp 82),none⟩,⟨(some 84),.faddr 0 (.tmp 83),none⟩,⟨(some 85),.call 113 [(.tmp 84)],none⟩,⟨(some 86),.mv (.tmp 1),none⟩,⟨(some 87),.mv (.tmp 11),none⟩,⟨(some 88),.call 238 [(.tmp 85),(.tmp 86),(.tmp 87)],none⟩])
 (.region [⟨(some 89),.mv (.tmp 9),none⟩,⟨(some 90),.mv (.tmp 5),none⟩,⟨(some 91),.mv (.tmp 6),none⟩,⟨(some 92),.call 328 [(.tmp 89),(.tmp 90),(.tmp 91)],none⟩]))))
 (.exit 0))))
 (.seq (.region [⟨(some 4),.mv (.const (.int .i64 0)),none⟩])
 .ret))))))))⟩
theorem k275 : compFn Tryz.prog Tryz.f275 = some c275 := by kernel_rfl
-- (*croft/region.Pool).Give
def c276 : AFunc := ⟨[.tmp 6],(.seq (.region [⟨(some 6),.mv (.const (.int .i64 0)),none⟩])
 (.seq (.region [⟨(some 7),.mv (.tmp 0),none⟩,⟨(some 8),.nilCheck (.tmp 7),none⟩,⟨(some 9),.faddr 0 (.tmp 8),none⟩,⟨(some 10),.faddr 2 (.tmp 9),none⟩,⟨(some 11),.load false 1 (.tmp 10),none⟩,⟨(some 12),.mv (.tmp 1),none⟩,⟨(some 13),.mv (.tmp 2),none⟩,⟨(some 14),.call 329 [(.tmp 11),(.tmp 12),(.tmp 13)],none⟩,⟨(some 6),.mv (.tmp 14),none⟩])
 .ret))⟩
theorem k276 : compFn Tryz.prog Tryz.f276 = some c276 := by kernel_rfl
-- (*croft/pagemap.Map).Head
def c278 : AFunc := ⟨[.tmp 4],(.seq (.region [⟨(some 4),.mv (.const (.int .i64 0)),none⟩])
 (.seq (.region [⟨(some 8),.mv (.tmp 0),none⟩,⟨(some 9),.mv (.tmp 1),none⟩,⟨(some 10),.call 118 [(.tmp 8),(.tmp 9)],none⟩,⟨(some 7),.mv (.tmp 10),none⟩,⟨(some 11),.extract (.tmp 7) 0,none⟩,⟨(some 12),.extract (.tmp 7) 1,none⟩,⟨(some 5),.alloc [(.int .i64 0),(.int .i64 0),(.int .i64 0),(.int .i64 0),(.int .i64 0),(.int .i64 0),(.int .i64 0),(.int .u64 0),(.int .u64 0),(.int .u64 0),(.int .u64 0)],none⟩,⟨none,.store 11 (.tmp 5) (.tmp 11),none⟩,⟨(some 6),.mv (.tmp 12),none⟩])
 (.seq (.seq (.region [⟨(some 13),.mv (.tmp 6),none⟩,⟨(some 14),.not (.tmp 13),none⟩])
 (.cond (.tmp 14) (.seq (.region [⟨(some 4),.mv (.const (.int .i64 (-1))),none⟩])
 .ret) .skip))
 (.seq (.draw [⟨⟨(some 15),.mv (.tmp 1),none⟩,0,0⟩,⟨⟨(some 16),.faddr 1 (.tmp 5),none⟩,0,0⟩,⟨⟨(some 17),.load false 1 (.tmp 16),none⟩,0,0⟩,⟨⟨(some 18),.bin .shr (.tmp 15) (.tmp 17),none⟩,0,0⟩,⟨⟨(some 19),.faddr 1 (.tmp 5),none⟩,0,0⟩,⟨⟨(some 20),.load false 1 (.tmp 19),none⟩,0,0⟩,⟨⟨(some 21),.bin .shl (.tmp 18) (.tmp 20),none⟩,0,0⟩,⟨⟨(some 4),.mv (.tmp 21),none⟩,0,0⟩])
 .ret))))⟩
theorem k278 : compFn Tryz.prog Tryz.f278 = some c278 := by kernel_rfl
-- (*croft/mem.Space).Write$1
def c279 : AFunc := ⟨[],(.regionR (some 1) [⟨(some 2),.call 222 [(.tmp 1),(.tmp 0)],none⟩])⟩
theorem k279 : compFn Tryz.prog Tryz.f279 = some c279 := by kernel_rfl
-- (*croft/mem.Space).put
def c280 : AFunc := ⟨[],(.block 0 (.loop (.seq (.seq (.region [⟨(some 8),.mv (.tmp 2),none⟩,⟨(some 9),.lenS (.tmp 8),none⟩,⟨(some 10),.bin .gtr (.tmp 9) (.const (.int .i64 0)),none⟩])
 (.cond (.tmp 10) .skip (.exit 0)))
 (.block 1 (.seq (.region [⟨(some 11),.mv (.tmp 1),none⟩,⟨(some 12),.mv (.tmp 0),none⟩,⟨(some 13),.nilCheck (.tmp 12),none⟩,⟨(some 14),.faddr 0 (.tmp 13),none⟩,⟨(some 15),.faddr 0 (.tmp 14),none⟩,⟨(some 16),.load false 1 (.tmp 15),none⟩,⟨(some 17),.bin .sub (.tmp 11) (.tmp 16),none⟩,⟨(some 6),.mv (.tmp 17),none⟩])
 (.seq (.draw [⟨⟨(some 18),.mv (.tmp 0),none⟩,0,0⟩,⟨⟨(some 19),.nilCheck (.tmp 18),none⟩,0,0⟩,⟨⟨(some 20),.faddr 4 (.tmp 19),none⟩,0,0⟩,⟨⟨(some 21),.load false 1 (.tmp 20),none⟩,0,0⟩,⟨⟨(some 22),.mv (.tmp 6),none⟩,0,0⟩,⟨⟨(some 23),.mv (.tmp 0),none⟩,0,0⟩,⟨⟨(some 24),.nilCheck (.tmp 23),none⟩,0,0⟩,⟨⟨(some 25),.faddr 3 (.tmp 24),none⟩,0,0⟩,⟨⟨(some 26),.load false 1 (.tmp 25),none⟩,0,0⟩,⟨⟨(some 27),.bin .quo (.tmp 22) (.tmp 26),none⟩,0,0⟩,⟨⟨(some 28),.iaddrS 1 (.tmp 21) (.tmp 27),none⟩,0,0⟩,⟨⟨(some 29),.load false 1 (.tmp 28),none⟩,0,0⟩,⟨⟨(some 30),.mv (.tmp 6),none⟩,0,0⟩,⟨⟨(some 31),.mv (.tmp 0),none⟩,0,0⟩,⟨⟨(some 32),.nilCheck (.tmp 31),none⟩,0,0⟩,⟨⟨(some 33),.faddr 3 (.tmp 32),none⟩,0,0⟩,⟨⟨(some 34),.load false 1 (.tmp 33),none⟩,0,0⟩,⟨⟨(some 35),.bin .rem (.tmp 30) (.tmp 34),none⟩,0,0⟩,⟨⟨(some 36),.sliceOf 1 (.tmp 29) (some (.tmp 35)) none,none⟩,0,0⟩,⟨⟨(some 37),.mv (.tmp 2),none⟩,0,0⟩,⟨⟨(some 38),.copy 1 (.tmp 36) (.tmp 37),none⟩,0,1⟩,⟨⟨(some 7),.mv (.tmp 38),none⟩,1,1⟩])
 (.seq (.region [⟨(some 39),.mv (.tmp 2),none⟩,⟨(some 40),.mv (.tmp 7),none⟩,⟨(some 41),.sliceOf 1 (.tmp 39) (some (.tmp 40)) none,none⟩,⟨(some 2),.mv (.tmp 41),none⟩])
 (.region [⟨(some 42),.mv (.tmp 1),none⟩,⟨(some 43),.mv (.tmp 7),none⟩,⟨(some 44),.conv .u64 (.tmp 43),none⟩,⟨(some 45),.bin .add (.tmp 42) (.tmp 44),none⟩,⟨(some 1),.mv (.tmp 45),none⟩]))))))))⟩
theorem k280 : compFn Tryz.prog Tryz.f280 = some c280 := by kernel_rfl
-- (*croft/mem.Space).Fill$1
def c284 : AFunc := ⟨[],(.regionR (some 1) [⟨(some 2),.call 222 [(.tmp 1),(.tmp 0)],none⟩])⟩
theorem k284 : compFn Tryz.prog Tryz.f284 = some c284 := by kernel_rfl
-- (*croft/mem.Space).byteAt
def c285 : AFunc := ⟨[.tmp 4],(.seq (.region [⟨(some 4),.mv (.const (.ptr none)),none⟩])
 (.seq (.region [⟨(some 6),.mv (.tmp 1),none⟩,⟨(some 7),.mv (.tmp 0),none⟩,⟨(some 8),.nilCheck (.tmp 7),none⟩,⟨(some 9),.faddr 0 (.tmp 8),none⟩,⟨(some 10),.faddr 0 (.tmp 9),none⟩,⟨(some 11),.load false 1 (.tmp 10),none⟩,⟨(some 12),.bin .sub (.tmp 6) (.tmp 11),none⟩,⟨(some 5),.mv (.tmp 12),none⟩])
 (.seq (.draw [⟨⟨(some 13),.mv (.tmp 0),none⟩,0,0⟩,⟨⟨(some 14),.nilCheck (.tmp 13),none⟩,0,0⟩,⟨⟨(some 15),.faddr 4 (.tmp 14),none⟩,0,0⟩,⟨⟨(some 16),.load false 1 (.tmp 15),none⟩,0,0⟩,⟨⟨(some 17),.mv (.tmp 5),none⟩,0,0⟩,⟨⟨(some 18),.mv (.tmp 0),none⟩,0,0⟩,⟨⟨(some 19),.nilCheck (.tmp 18),none⟩,0,0⟩,⟨⟨(some 20),.faddr 3 (.tmp 19),none⟩,0,0⟩,⟨⟨(some 21),.load false 1 (.tmp 20),none⟩,0,0⟩,⟨⟨(some 22),.bin .quo (.tmp 17) (.tmp 21),none⟩,0,0⟩,⟨⟨(some 23),.iaddrS 1 (.tmp 16) (.tmp 22),none⟩,0,0⟩,⟨⟨(some 24),.load false 1 (.tmp 23),none⟩,0,0⟩,⟨⟨(some 25),.mv (.tmp 5),none⟩,0,0⟩,⟨⟨(some 26),.mv (.tmp 0),none⟩,0,0⟩,⟨⟨(some 27),.nilCheck (.tmp 26),none⟩,0,0⟩,⟨⟨(some 28),.faddr 3 (.tmp 27),none⟩,0,0⟩,⟨⟨(some 29),.load false 1 (.tmp 28),none⟩,0,0⟩,⟨⟨(some 30),.bin .rem (.tmp 25) (.tmp 29),none⟩,0,0⟩,⟨⟨(some 31),.iaddrS 1 (.tmp 24) (.tmp 30),none⟩,0,0⟩,⟨⟨(some 4),.mv (.tmp 31),none⟩,0,0⟩])
 .ret)))⟩
theorem k285 : compFn Tryz.prog Tryz.f285 = some c285 := by kernel_rfl
-- (*croft/mem.Space).SetWord$1
def c286 : AFunc := ⟨[],(.regionR (some 1) [⟨(some 2),.call 222 [(.tmp 1),(.tmp 0)],none⟩])⟩
theorem k286 : compFn Tryz.prog Tryz.f286 = some c286 := by kernel_rfl
-- slices.insertionSortCmpFunc[uint64]
def c287 : AFunc := ⟨[],(.seq (.region [⟨(some 10),.mv (.tmp 1),none⟩,⟨(some 11),.bin .add (.tmp 10) (.const (.int .i64 1)),none⟩,⟨(some 8),.mv (.tmp 11),none⟩])
 (.block 0 (.loop (.seq (.seq (.region [⟨(some 12),.mv (.tmp 8),none⟩,⟨(some 13),.mv (.tmp 2),none⟩,⟨(some 14),.bin .lss (.tmp 12) (.tmp 13),none⟩])
 (.cond (.tmp 14) .skip (.exit 0)))
 (.seq (.block 1 (.seq (.region [⟨(some 17),.mv (.tmp 8),none⟩,⟨(some 9),.mv (.tmp 17),none⟩])
 (.block 2 (.loop (.seq (.seq (.draw [⟨⟨(some 18),.mv (.tmp 9),none⟩,0,0⟩,⟨⟨(some 19),.mv (.tmp 1),none⟩,0,0⟩,⟨⟨(some 20),.bin .gtr (.tmp 18) (.tmp 19),none⟩,0,0⟩,⟨⟨(some 21),.mv (.tmp 20),none⟩,0,0⟩,⟨⟨(some 22),.mv (.tmp 3),some (21,true)⟩,0,0⟩,⟨⟨(some 23),.mv (.tmp 0),some (21,true)⟩,0,0⟩,⟨⟨(some 24),.mv (.tmp 9),some (21,true)⟩,0,0⟩,⟨⟨(some 25),.iaddrS 1 (.tmp 23) (.tmp 24),some (21,true)⟩,0,0⟩,⟨⟨(some 26),.load false 1 (.tmp 25),some (21,true)⟩,0,0⟩,⟨⟨(some 27),.mv (.tmp 0),some (21,true)⟩,0,0⟩,⟨⟨(some 28),.mv (.tmp 9),some (21,true)⟩,0,0⟩,⟨⟨(some 29),.bin .sub (.tmp 28) (.const (.int .i64 1)),some (21,true)⟩,0,0⟩,⟨⟨(some 30),.iaddrS 1 (.tmp 27) (.tmp 29),some (21,true)⟩,0,0⟩,⟨⟨(some 31),.load false 1 (.tmp 30),some (21,true)⟩,0,0⟩,⟨⟨(some 32),.callv (.tmp 22) [(.tmp 26),(.tmp 31)],some (21,true)⟩,0,1⟩,⟨⟨(some 33),.bin .lss (.tmp 32) (.const (.int .i64 0)),some (21,true)⟩,1,1⟩,⟨⟨(some 34),.pick (.tmp 21) (.tmp 33) (.const (.bool false)),none⟩,1,1⟩])
 (.cond (.tmp 34) .skip (.exit 2)))
 (.seq (.block 3 (.draw [⟨⟨(some 37),.mv (.tmp 0),none⟩,0,0⟩,⟨⟨(some 38),.mv (.tmp 9),none⟩,0,0⟩,⟨⟨(some 39),.mv (.tmp 0),none⟩,0,1⟩,⟨⟨(some 40),.mv (.tmp 9),none⟩,0,1⟩,⟨⟨(some 41),.bin .sub (.tmp 40) (.const (.int .i64 1)),none⟩,0,1⟩,⟨⟨(some 42),.mv (.tmp 0),none⟩,0,0⟩,⟨⟨(some 43),.mv (.tmp 9),none⟩,0,0⟩,⟨⟨(some 44),.bin .sub (.tmp 43) (.const (.int .i64 1)),none⟩,0,0⟩,⟨⟨(some 45),.iaddrS 1 (.tmp 42) (.tmp 44),none⟩,0,0⟩,⟨⟨(some 46),.load false 1 (.tmp 45),none⟩,0,0⟩,⟨⟨(some 47),.mv (.tmp 0),none⟩,0,0⟩,⟨⟨(some 48),.mv (.tmp 9),none⟩,0,0⟩,⟨⟨(some 49),.iaddrS 1 (.tmp 47) (.tmp 48),none⟩,0,0⟩,⟨⟨(some 50),.load false 1 (.tmp 49),none⟩,0,0⟩,⟨⟨(some 51),.iaddrS 1 (.tmp 37) (.tmp 38),none⟩,0,0⟩,⟨⟨none,.store 1 (.tmp 51) (.tmp 46),none⟩,0,1⟩,⟨⟨(some 52),.iaddrS 1 (.tmp 39) (.tmp 41),none⟩,1,1⟩,⟨⟨none,.store 1 (.tmp 52) (.tmp 50),none⟩,1,2⟩]))
 (.region [⟨(some 35),.mv (.tmp 9),none⟩,⟨(some 36),.bin .sub (.tmp 35) (.const (.int .i64 1)),none⟩,⟨(some 9),.mv (.tmp 36),none⟩])))))))
 (.region [⟨(some 15),.mv (.tmp 8),none⟩,⟨(some 16),.bin .add (.tmp 15) (.const (.int .i64 1)),none⟩,⟨(some 8),.mv (.tmp 16),none⟩]))))))⟩
theorem k287 : compFn Tryz.prog Tryz.f287 = some c287 := by kernel_rfl
-- slices.heapSortCmpFunc[uint64]
def c288 : AFunc := ⟨[],(.seq (.region [⟨(some 13),.mv (.tmp 1),none⟩,⟨(some 8),.mv (.tmp 13),none⟩])
 (.seq (.region [⟨(some 9),.mv (.const (.int .i64 0)),none⟩])
 (.seq (.region [⟨(some 14),.mv (.tmp 2),none⟩,⟨(some 15),.mv (.tmp 1),none⟩,⟨(some 16),.bin .sub (.tmp 14) (.tmp 15),none⟩,⟨(some 10),.mv (.tmp 16),none⟩])
 (.seq (.seq (.region [⟨(some 17),.mv (.tmp 10),none⟩,⟨(some 18),.bin .sub (.tmp 17) (.const (.int .i64 1)),none⟩,⟨(some 19),.bin .quo (.tmp 18) (.const (.int .i64 2)),none⟩,⟨(some 11),.mv (.tmp 19),none⟩])
 (.block 0 (.loop (.seq (.seq (.region [⟨(some 20),.mv (.tmp 11),none⟩,⟨(some 21),.bin .geq (.tmp 20) (.const (.int .i64 0)),none⟩])
 (.cond (.tmp 21) .skip (.exit 0)))
 (.seq (.block 1 (.region [⟨(some 24),.mv (.tmp 0),none⟩,⟨(some 25),.mv (.tmp 11),none⟩,⟨(some 26),.mv (.tmp 10),none⟩,⟨(some 27),.mv (.tmp 8),none⟩,⟨(some 28),.mv (.tmp 3),none⟩,⟨(some 29),.call 333 [(.tmp 24),(.tmp 25),(.tmp 26),(.tmp 27),(.tmp 28)],none⟩]))
 (.region [⟨(some 22),.mv (.tmp 11),none⟩,⟨(some 23),.bin .sub (.tmp 22) (.const (.int .i64 1)),none⟩,⟨(some 11),.mv (.tmp 23),none⟩]))))))
 (.seq (.region [⟨(some 30),.mv (.tmp 10),none⟩,⟨(some 31),.bin .sub (.tmp 30) (.const (.int .i64 1)),none⟩,⟨(some 12),.mv (.tmp 31),none⟩])
 (.block 2 (.loop (.seq (.seq (.region [⟨(some 32),.mv (.tmp 12),none⟩,⟨(some 33),.bin .geq (.tmp 32) (.const (.int .i64 0)),none⟩])
 (.cond (.tmp 33) .skip (.exit 2)))
 (.seq (.block 3 (.seq (.draw [⟨⟨(some 36),.mv (.tmp 0),none⟩,0,0⟩,⟨⟨(some 37),.mv (.tmp 8),none⟩,0,0⟩,⟨⟨(some 38),.mv (.tmp 0),none⟩,0,1⟩,⟨⟨(some 39),.mv (.tmp 8),none⟩,0,1⟩,⟨⟨(some 40),.mv (.tmp 12),none⟩,0,1⟩,⟨⟨(some 41),.bin .add (.tmp 39) (.tmp 40),none⟩,0,1⟩,⟨⟨(some 42),.mv (.tmp 0),none⟩,0,0⟩,⟨⟨(some 43),.mv (.tmp 8),none⟩,0,0⟩,⟨⟨(some 44),.mv (.tmp 12),none⟩,0,0⟩,⟨⟨(some 45),.bin .add (.tmp 43) (.tmp 44),none⟩,0,0⟩,⟨⟨(some 46),.iaddrS 1 (.tmp 42) (.tmp 45),none⟩,0,0⟩,⟨⟨(some 47),.load false 1 (.tmp 46),none⟩,0,0⟩,⟨⟨(some 48),.mv (.tmp 0),none⟩,0,0⟩,⟨⟨(some 49),.mv (.tmp 8),none⟩,0,0⟩,⟨⟨(some 50),.iaddrS 1 (.tmp 48) (.tmp 49),none⟩,0,0⟩,⟨⟨(some 51),.load false 1 (.tmp 50),none⟩,0,0⟩,⟨⟨(some 52),.iaddrS 1 (.tmp 36) (.tmp 37),none⟩,0,0⟩,⟨⟨none,.store 1 (.tmp 52) (.tmp 47),none⟩,0,1⟩,⟨⟨(some 53),.iaddrS 1 (.tmp 38) (.tmp 41),none⟩,1,1⟩,⟨⟨none,.store 1 (.tmp 53) (.tmp 51),none⟩,1,2⟩])
 (.region [⟨(some 54),.mv (.tmp 0),none⟩,⟨(some 55),.mv (.tmp 9),none⟩,⟨(some 56),.mv (.tmp 12),none⟩,⟨(some 57),.mv (.tmp 8),none⟩,⟨(some 58),.mv (.tmp 3),none⟩,⟨(some 59),.call 333 [(.tmp 54),(.tmp 55),(.tmp 56),(.tmp 57),(.tmp 58)],none⟩])))
 (.region [⟨(some 34),.mv (.tmp 12),none⟩,⟨(some 35),.bin .sub (.tmp 34) (.const (.int .i64 1)),none⟩,⟨(some 12),.mv (.tmp 35),none⟩]))))))))))⟩
theorem k288 : compFn Tryz.prog Tryz.f288 = some c288 := by kernel_rfl
-- slices.breakPatternsCmpFunc[uint64]
def c289 : AFunc := ⟨[],(.seq (.region [⟨(some 13),.mv (.tmp 2),none⟩,⟨(some 14),.mv (.tmp 1),none⟩,⟨(some 15),.bin .sub (.tmp 13) (.tmp 14),none⟩,⟨(some 8),.mv (.tmp 15),none⟩])
 (.seq (.region [⟨(some 16),.mv (.tmp 8),none⟩,⟨(some 17),.bin .geq (.tmp 16) (.const (.int .i64 8)),none⟩])
 (.cond (.tmp 17) (.seq (.region [⟨(some 18),.mv (.tmp 8),none⟩,⟨(some 19),.conv .u64 (.tmp 18),none⟩,⟨(some 9),.alloc [(.int .u64 0)],none⟩,⟨none,.store 1 (.tmp 9) (.tmp 19),none⟩])
 (.seq (.region [⟨(some 20),.mv (.tmp 8),none⟩,⟨(some 21),.call 334 [(.tmp 20)],none⟩,⟨(some 10),.mv (.tmp 21),none⟩])
 (.seq (.region [⟨(some 22),.mv (.tmp 1),none⟩,⟨(some 23),.mv (.tmp 8),none⟩,⟨(some 24),.bin .quo (.tmp 23) (.const (.int .i64 4)),none⟩,⟨(some 25),.bin .mul (.tmp 24) (.const (.int .i64 2)),none⟩,⟨(some 26),.bin .add (.tmp 22) (.tmp 25),none⟩,⟨(some 27),.bin .sub (.tmp 26) (.const (.int .i64 1)),none⟩,⟨(some 11),.mv (.tmp 27),none⟩])
 (.block 0 (.loop (.seq (.seq (.region [⟨(some 28),.mv (.tmp 11),none⟩,⟨(some 29),.mv (.tmp 1),none⟩,⟨(some 30),.mv (.tmp 8),none⟩,⟨(some 31),.bin .quo (.tmp 30) (.const (.int .i64 4)),none⟩,⟨(some 32),.bin .mul (.tmp 31) (.const (.int .i64 2)),none⟩,⟨(some 33),.bin .add (.tmp 29) (.tmp 32),none⟩,⟨(some 34),.bin .add (.tmp 33) (.const (.int .i64 1)),none⟩,⟨(some 35),.bin .leq (.tmp 28) (.tmp 34),none⟩])
 (.cond (.tmp 35) .skip (.exit 0)))
 (.seq (.block 1 (.seq (.region [⟨(some 38),.call 335 [(.tmp 9)],none⟩,⟨(some 39),.mv (.tmp 10),none⟩,⟨(some 40),.bin .sub (.tmp 39) (.const (.int .u64 1)),none⟩,⟨(some 41),.bin .and (.tmp 38) (.tmp 40),none⟩,⟨(some 42),.conv .i64 (.tmp 41),none⟩,⟨(some 12),.mv (.tmp 42),none⟩])
 (.seq (.seq (.region [⟨(some 43),.mv (.tmp 12),none⟩,⟨(some 44),.mv (.tmp 8),none⟩,⟨(some 45),.bin .geq (.tmp 43) (.tmp 44),none⟩])
 (.cond (.tmp 45) (.region [⟨(some 46),.mv (.tmp 12),none⟩,⟨(some 47),.mv (.tmp 8),none⟩,⟨(some 48),.bin .sub (.tmp 46) (.tmp 47),none⟩,⟨(some 12),.mv (.tmp 48),none⟩]) .skip))
 (.draw [⟨⟨(some 49),.mv (.tmp 0),none⟩,0,0⟩,⟨⟨(some 50),.mv (.tmp 11),none⟩,0,0⟩,⟨⟨(some 51),.mv (.tmp 0),none⟩,0,1⟩,⟨⟨(some 52),.mv (.tmp 1),none⟩,0,1⟩,⟨⟨(some 53),.mv (.tmp 12),none⟩,0,1⟩,⟨⟨(some 54),.bin .add (.tmp 52) (.tmp 53),none⟩,0,1⟩,⟨⟨(some 55),.mv (.tmp 0),none⟩,0,0⟩,⟨⟨(some 56),.mv (.tmp 1),none⟩,0,0⟩,⟨⟨(some 57),.mv (.tmp 12),none⟩,0,0⟩,⟨⟨(some 58),.bin .add (.tmp 56) (.tmp 57),none⟩,0,0⟩,⟨⟨(some 59),.iaddrS 1 (.tmp 55) (.tmp 58),none⟩,0,0⟩,⟨⟨(some 60),.load false 1 (.tmp 59),none⟩,0,0⟩,⟨⟨(some 61),.mv (.tmp 0),none⟩,0,0⟩,⟨⟨(some 62),.mv (.tmp 11),none⟩,0,0⟩,⟨⟨(some 63),.iaddrS 1 (.tmp 61) (.tmp 62),none⟩,0,0⟩,⟨⟨(some 64),.load false 1 (.tmp 63),none⟩,0,0⟩,⟨⟨(some 65),.iaddrS 1 (.tmp 49) (.tmp 50),none⟩,0,0⟩,⟨⟨none,.store 1 (.tmp 65) (.tmp 60),none⟩,0,1⟩,⟨⟨(some 66),.iaddrS 1 (.tmp 51) (.tmp 54),none⟩,1,1⟩,⟨⟨none,.store 1 (.tmp 66) (.tmp 64),none⟩,1,2⟩]))))
 (.region [⟨(some 36),.mv (.tmp 11),none⟩,⟨(some 37),.bin .add (.tmp 36) (.const (.int .i64 1)),none⟩,⟨(some 11),.mv (.tmp 37),none⟩])))))))) .skip)))⟩
theorem k289 : compFn Tryz.prog Tryz.f289 = some c289 := by kernel_rfl
-- slices.choosePivotCmpFunc[uint64]
def c290 : AFunc := ⟨[.tmp 8,.tmp 9],(.seq (.region [⟨(some 8),.mv (.const (.int .i64 0)),none⟩,⟨(some 9),.mv (.const (.int .i64 0)),none⟩])
 (.seq (.region [⟨(some 15),.mv (.tmp 2),none⟩,⟨(some 16),.mv (.tmp 1),none⟩,⟨(some 17),.bin .sub (.tmp 15) (.tmp 16),none⟩,⟨(some 10),.mv (.tmp 17),none⟩])
 (.seq (.region [⟨(some 11),.alloc [(.int .i64 0)],none⟩])
 (.seq (.region [⟨(some 18),.mv (.tmp 1),none⟩,⟨(some 19),.mv (.tmp 10),none⟩,⟨(some 20),.bin .quo (.tmp 19) (.const (.int .i64 4)),none⟩,⟨(some 21),.bin .mul (.tmp 20) (.const (.int .i64 1)),none⟩,⟨(some 22),.bin .add (.tmp 18) (.tmp 21),none⟩,⟨(some 12),.mv (.tmp 22),none⟩])
 (.seq (.region [⟨(some 23),.mv (.tmp 1),none⟩,⟨(some 24),.mv (.tmp 10),none⟩,⟨(some 25),.bin .quo (.tmp 24) (.const (.int .i64 4)),none⟩,⟨(some 26),.bin .mul (.tmp 25) (.const (.int .i64 2)),none⟩,⟨(some 27),.bin .add (.tmp 23) (.tmp 26),none⟩,⟨(some 13),.mv (.tmp 27),none⟩])
 (.seq (.region [⟨(some 28),.mv (.tmp 1),none⟩,⟨(some 29),.mv (.tmp 10),none⟩,⟨(some 30),.bin .quo (.tmp 29) (.const (.int .i64 4)),none⟩,⟨(some 31),.bin .mul (.tmp 30) (.const (.int .i64 3)),none⟩,⟨(some 32),.bin .add (.tmp 28) (.tmp 31),none⟩,⟨(some 14),.mv (.tmp 32),none⟩])
 (.seq (.seq (.region [⟨(some 33),.mv (.tmp 10),none⟩,⟨(some 34),.bin .geq (.tmp 33) (.const (.int .i64 8)),none⟩])
 (.cond (.tmp 34) (.seq (.seq (.region [⟨(some 35),.mv (.tmp 10),none⟩,⟨(some 36),.bin .geq (.tmp 35) (.const (.int .i64 50)),none⟩])
 (.cond (.tmp 36) (.seq (.region [⟨(some 37),.mv (.tmp 0),none⟩,⟨(some 38),.mv (.tmp 12),none⟩,⟨(some 39),.mv (.tmp 3),none⟩,⟨(some 40),.call 336 [(.tmp 37),(.tmp 38),(.tmp 11),(.tmp 39)],none⟩,⟨(some 12),.mv (.tmp 40),none⟩])
 (.seq (.region [⟨(some 41),.mv (.tmp 0),none⟩,⟨(some 42),.mv (.tmp 13),none⟩,⟨(some 43),.mv (.tmp 3),none⟩,⟨(some 44),.call 336 [(.tmp 41),(.tmp 42),(.tmp 11),(.tmp 43)],none⟩,⟨(some 13),.mv (.tmp 44),none⟩])
 (.region [⟨(some 45),.mv (.tmp 0),none⟩,⟨(some 46),.mv (.tmp 14),none⟩,⟨(some 47),.mv (.tmp 3),none⟩,⟨(some 48),.call 336 [(.tmp 45),(.tmp 46),(.tmp 11),(.tmp 47)],none⟩,⟨(some 14),.mv (.tmp 48),none⟩]))) .skip))
 (.region [⟨(some 49),.mv (.tmp 0),none⟩,⟨(some 50),.mv (.tmp 12),none⟩,⟨(some 51),.mv (.tmp 13),none⟩,⟨(some 52),.mv (.tmp 14),none⟩,⟨(some 53),.mv (.tmp 3),none⟩,⟨(some 54),.call 337 [(.tmp 49),(.tmp 50),(.tmp 51),(.tmp 52),(.tmp 11),(.tmp 53)],none⟩,⟨(some 13),.mv (.tmp 54),none⟩])) .skip))
 (.seq (.region [⟨(some 55),.load false 1 (.tmp 11),none⟩])
 (.block 0 (.seq (.region [⟨(some 58),.bin .eql (.tmp 55) (.const (.int .i64 0)),none⟩,⟨(some 57),.mv (.tmp 58),none⟩])
 (.cond (.tmp 57) (.seq (.region [⟨(some 59),.mv (.tmp 13),none⟩,⟨(some 8),.mv (.tmp 59),none⟩,⟨(some 9),.mv (.const (.int .i64 1)),none⟩])
 .ret) (.seq (.region [⟨(some 61),.bin .eql (.tmp 55) (.const (.int .i64 12)),none⟩,⟨(some 60),.mv (.tmp 61),none⟩])
 (.cond (.tmp 60) (.seq (.region [⟨(some 62),.mv (.tmp 13),none⟩,⟨(some 8),.mv (.tmp 62),none⟩,⟨(some 9),.mv (.const (.int .i64 2)),none⟩])
 .ret) (.seq (.region [⟨(some 56),.mv (.tmp 13),none⟩,⟨(some 8),.mv (.tmp 56),none⟩,⟨(some 9),.mv (.const (.int .i64 0)),none⟩])
 .ret))))))))))))))⟩
theorem k290 : compFn Tryz.prog Tryz.f290 = some c290 := by kernel_rfl
-- slices.reverseRangeCmpFunc[uint64]
def c291 : AFunc := ⟨[],(.seq (.region [⟨(some 10),.mv (.tmp 1),none⟩,⟨(some 8),.mv (.tmp 10),none⟩])
 (.seq (.region [⟨(some 11),.mv (.tmp 2),none⟩,⟨(some 12),.bin .sub (.tmp 11) (.const (.int .i64 1)),none⟩,⟨(some 9),.mv (.tmp 12),none⟩])
 (.block 0 (.loop (.seq (.seq (.region [⟨(some 13),.mv (.tmp 8),none⟩,⟨(some 14),.mv (.tmp 9),none⟩,⟨(some 15),.bin .lss (.tmp 13) (.tmp 14),none⟩])
 (.cond (.tmp 15) .skip (.exit 0)))
 (.block 1 (.seq (.draw [⟨⟨(some 16),.mv (.tmp 0),none⟩,0,0⟩,⟨⟨(some 17),.mv (.tmp 8),none⟩,0,0⟩,⟨⟨(some 18),.mv (.tmp 0),none⟩,0,1⟩,⟨⟨(some 19),.mv (.tmp 9),none⟩,0,1⟩,⟨⟨(some 20),.mv (.tmp 0),none⟩,0,0⟩,⟨⟨(some 21),.mv (.tmp 9),none⟩,0,0⟩,⟨⟨(some 22),.iaddrS 1 (.tmp 20) (.tmp 21),none⟩,0,0⟩,⟨⟨(some 23),.load false 1 (.tmp 22),none⟩,0,0⟩,⟨⟨(some 24),.mv (.tmp 0),none⟩,0,0⟩,⟨⟨(some 25),.mv (.tmp 8),none⟩,0,0⟩,⟨⟨(some 26),.iaddrS 1 (.tmp 24) (.tmp 25),none⟩,0,0⟩,⟨⟨(some 27),.load false 1 (.tmp 26),none⟩,0,0⟩,⟨⟨(some 28),.iaddrS 1 (.tmp 16) (.tmp 17),none⟩,0,0⟩,⟨⟨none,.store 1 (.tmp 28) (.tmp 23),none⟩,0,1⟩,⟨⟨(some 29),.iaddrS 1 (.tmp 18) (.tmp 19),none⟩,1,1⟩,⟨⟨none,.store 1 (.tmp 29) (.tmp 27),none⟩,1,2⟩])
 (.seq (.region [⟨(some 30),.mv (.tmp 8),none⟩,⟨(some 31),.bin .add (.tmp 30) (.const (.int .i64 1)),none⟩,⟨(some 8),.mv (.tmp 31),none⟩])
 (.region [⟨(some 32),.mv (.tmp 9),none⟩,⟨(some 33),.bin .sub (.tmp 32) (.const (.int .i64 1)),none⟩,⟨(some 9),.mv (.tmp 33),none⟩])))))))))⟩
theorem k291 : compFn Tryz.prog Tryz.f291 = some c291 := by kernel_rfl
-- slices.partialInsertionSortCmpFunc[uint64]
def c292 : AFunc := ⟨[.tmp 8],(.seq (.region [⟨(some 8),.mv (.const (.bool false)),none⟩])
 (.seq (.region [⟨(some 13),.mv (.tmp 1),none⟩,⟨(some 14),.bin .add (.tmp 13) (.const (.int .i64 1)),none⟩,⟨(some 9),.mv (.tmp 14),none⟩])
 (.seq (.seq (.region [⟨(some 10),.mv (.const (.int .i64 0)),none⟩])
 (.block 0 (.loop (.seq (.seq (.region [⟨(some 15),.mv (.tmp 10),none⟩,⟨(some 16),.bin .lss (.tmp 15) (.const (.int .i64 5)),none⟩])
 (.cond (.tmp 16) .skip (.exit 0)))
 (.seq (.block 1 (.seq (.block 2 (.loop (.seq (.seq (.draw [⟨⟨(some 19),.mv (.tmp 9),none⟩,0,0⟩,⟨⟨(some 20),.mv (.tmp 2),none⟩,0,0⟩,⟨⟨(some 21),.bin .lss (.tmp 19) (.tmp 20),none⟩,0,0⟩,⟨⟨(some 22),.mv (.tmp 21),none⟩,0,0⟩,⟨⟨(some 23),.mv (.tmp 3),some (22,true)⟩,0,0⟩,⟨⟨(some 24),.mv (.tmp 0),some (22,true)⟩,0,0⟩,⟨⟨(some 25),.mv (.tmp 9),some (22,true)⟩,0,0⟩,⟨⟨(some 26),.iaddrS 1 (.tmp 24) (.tmp 25),some (22,true)⟩,0,0⟩,⟨⟨(some 27),.load false 1 (.tmp 26),some (22,true)⟩,0,0⟩,⟨⟨(some 28),.mv (.tmp 0),some (22,true)⟩,0,0⟩,⟨⟨(some 29),.mv (.tmp 9),some (22,true)⟩,0,0⟩,⟨⟨(some 30),.bin .sub (.tmp 29) (.const (.int .i64 1)),some (22,true)⟩,0,0⟩,⟨⟨(some 31),.iaddrS 1 (.tmp 28) (.tmp 30),some (22,true)⟩,0,0⟩,⟨⟨(some 32),.load false 1 (.tmp 31),some (22,true)⟩,0,0⟩,⟨⟨(some 33),.callv (.tmp 23) [(.tmp 27),(.tmp 32)],some (22,true)⟩,0,1⟩,⟨⟨(some 34),.bin .lss (.tmp 33) (.const (.int .i64 0)),some (22,true)⟩,1,1⟩,⟨⟨(some 35),.not (.tmp 34),some (22,true)⟩,1,1⟩,⟨⟨(some 36),.pick (.tmp 22) (.tmp 35) (.const (.bool false)),none⟩,1,1⟩])
 (.cond (.tmp 36) .skip (.exit 2)))
 (.block 3 (.region [⟨(some 37),.mv (.tmp 9),none⟩,⟨(some 38),.bin .add (.tmp 37) (.const (.int .i64 1)),none⟩,⟨(some 9),.mv (.tmp 38),none⟩])))))
 (.seq (.seq (.region [⟨(some 39),.mv (.tmp 9),none⟩,⟨(some 40),.mv (.tmp 2),none⟩,⟨(some 41),.bin .eql (.tmp 39) (.tmp 40),none⟩])
 (.cond (.tmp 41) (.seq (.region [⟨(some 8),.mv (.const (.bool true)),none⟩])
 .ret) .skip))
 (.seq (.seq (.region [⟨(some 42),.mv (.tmp 2),none⟩,⟨(some 43),.mv (.tmp 1),none⟩,⟨(some 44),.bin .sub (.tmp 42) (.tmp 43),none⟩,⟨(some 45),.bin .lss (.tmp 44) (.const (.int .i64 50)),none⟩])
 (.cond (.tmp 45) (.seq (.region [⟨(some 8),.mv (.const (.bool false)),none⟩])
 .ret) .skip))
 (.seq (.draw [⟨⟨(some 46),.mv (.tmp 0),none⟩,0,0⟩,⟨⟨(some 47),.mv (.tmp 9),none⟩,0,0⟩,⟨⟨(some 48),.mv (.tmp 0),none⟩,0,1⟩,⟨⟨(some 49),.mv (.tmp 9),none⟩,0,1⟩,⟨⟨(some 50),.bin .sub (.tmp 49) (.const (.int .i64 1)),none⟩,0,1⟩,⟨⟨(some 51),.mv (.tmp 0),none⟩,0,0⟩,⟨⟨(some 52),.mv (.tmp 9),none⟩,0,0⟩,⟨⟨(some 53),.bin .sub (.tmp 52) (.const (.int .i64 1)),none⟩,0,0⟩,⟨⟨(some 54),.iaddrS 1 (.tmp 51) (.tmp 53),none⟩,0,0⟩,⟨⟨(some 55),.load false 1 (.tmp 54),none⟩,0,0⟩,⟨⟨(some 56),.mv (.tmp 0),none⟩,0,0⟩,⟨⟨(some 57),.mv (.tmp 9),none⟩,0,0⟩,⟨⟨(some 58),.iaddrS 1 (.tmp 56) (.tmp 57),none⟩,0,0⟩,⟨⟨(some 59),.load false 1 (.tmp 58),none⟩,0,0⟩,⟨⟨(some 60),.iaddrS 1 (.tmp 46) (.tmp 47),none⟩,0,0⟩,⟨⟨none,.store 1 (.tmp 60) (.tmp 55),none⟩,0,1⟩,⟨⟨(some 61),.iaddrS 1 (.tmp 48) (.tmp 50),none⟩,1,1⟩,⟨⟨none,.store 1 (.tmp 61) (.tmp 59),none⟩,1,2⟩])
 (.seq (.seq (.region [⟨(some 62),.mv (.tmp 9),none⟩,⟨(some 63),.mv (.tmp 1),none⟩,⟨(some 64),.bin .sub (.tmp 62) (.tmp 63),none⟩,⟨(some 65),.bin .geq (.tmp 64) (.const (.int .i64 2)),none⟩])
 (.cond (.tmp 65) (.seq (.region [⟨(some 66),.mv (.tmp 9),none⟩,⟨(some 67),.bin .sub (.tmp 66) (.const (.int .i64 1)),none⟩,⟨(some 11),.mv (.tmp 67),none⟩])
 (.block 4 (.loop (.seq (.seq (.region [⟨(some 68),.mv (.tmp 11),none⟩,⟨(some 69),.bin .geq (.tmp 68) (.const (.int .i64 1)),none⟩])
 (.cond (.tmp 69) .skip (.exit 4)))
 (.seq (.block 5 (.seq (.seq (.draw [⟨⟨(some 72),.mv (.tmp 3),none⟩,0,0⟩,⟨⟨(some 73),.mv (.tmp 0),none⟩,0,0⟩,⟨⟨(some 74),.mv (.tmp 11),none⟩,0,0⟩,⟨⟨(some 75),.iaddrS 1 (.tmp 73) (.tmp 74),none⟩,0,0⟩,⟨⟨(some 76),.load false 1 (.tmp 75),none⟩,0,0⟩,⟨⟨(some 77),.mv (.tmp 0),none⟩,0,0⟩,⟨⟨(some 78),.mv (.tmp 11),none⟩,0,0⟩,⟨⟨(some 79),.bin .sub (.tmp 78) (.const (.int .i64 1)),none⟩,0,0⟩,⟨⟨(some 80),.iaddrS 1 (.tmp 77) (.tmp 79),none⟩,0,0⟩,⟨⟨(some 81),.load false 1 (.tmp 80),none⟩,0,0⟩,⟨⟨(some 82),.callv (.tmp 72) [(.tmp 76),(.tmp 81)],none⟩,0,1⟩,⟨⟨(some 83),.bin .lss (.tmp 82) (.const (.int .i64 0)),none⟩,1,1⟩,⟨⟨(some 84),.not (.tmp 83),none⟩,1,1⟩])
 (.cond (.tmp 84) (.exit 4) .skip))
 (.draw [⟨⟨(some 85),.mv (.tmp 0),none⟩,0,0⟩,⟨⟨(some 86),.mv (.tmp 11),none⟩,0,0⟩,⟨⟨(some 87),.mv (.tmp 0),none⟩,0,1⟩,⟨⟨(some 88),.mv (.tmp 11),none⟩,0,1⟩,⟨⟨(some 89),.bin .sub (.tmp 88) (.const (.int .i64 1)),none⟩,0,1⟩,⟨⟨(some 90),.mv (.tmp 0),none⟩,0,0⟩,⟨⟨(some 91),.mv (.tmp 11),none⟩,0,0⟩,⟨⟨(some 92),.bin .sub (.tmp 91) (.const (.int .i64 1)),none⟩,0,0⟩,⟨⟨(some 93),.iaddrS 1 (.tmp 90) (.tmp 92),none⟩,0,0⟩,⟨⟨(some 94),.load false 1 (.tmp 93),none⟩,0,0⟩,⟨⟨(some 95),.mv (.tmp 0),none⟩,0,0⟩,⟨⟨(some 96),.mv (.tmp 11),none⟩,0,0⟩,⟨⟨(some 97),.iaddrS 1 (.tmp 95) (.tmp 96),none⟩,0,0⟩,⟨⟨(some 98),.load false 1 (.tmp 97),none⟩,0,0⟩,⟨⟨(some 99),.iaddrS 1 (.tmp 85) (.tmp 86),none⟩,0,0⟩,⟨⟨none,.store 1 (.tmp 99) (.tmp 94),none⟩,0,1⟩,⟨⟨(some 100),.iaddrS 1 (.tmp 87) (.tmp 89),none⟩,1,1⟩,⟨⟨none,.store 1 (.tmp 100) (.tmp 98),none⟩,1,2⟩])))
 (.region [⟨(some 70),.mv (.tmp 11),none⟩,⟨(some 71),.bin .sub (.tmp 70) (.const (.int .i64 1)),none⟩,⟨(some 11),.mv (.tmp 71),none⟩])))))) .skip))
 (.seq (.region [⟨(some 101),.mv (.tmp 2),none⟩,⟨(some 102),.mv (.tmp 9),none⟩,⟨(some 103),.bin .sub (.tmp 101) (.tmp 102),none⟩,⟨(some 104),.bin .geq (.tmp 103) (.const (.int .i64 2)),none⟩])
 (.cond (.tmp 104) (.seq (.region [⟨(some 105),.mv (.tmp 9),none⟩,⟨(some 106),.bin .add (.tmp 105) (.const (.int .i64 1)),none⟩,⟨(some 12),.mv (.tmp 106),none⟩])
 (.block 6 (.loop (.seq (.seq (.region [⟨(some 107),.mv (.tmp 12),none⟩,⟨(some 108),.mv (.tmp 2),none⟩,⟨(some 109),.bin .lss (.tmp 107) (.tmp 108),none⟩])
 (.cond (.tmp 109) .skip (.exit 6)))
 (.seq (.block 7 (.seq (.seq (.draw [⟨⟨(some 112),.mv (.tmp 3),none⟩,0,0⟩,⟨⟨(some 113),.mv (.tmp 0),none⟩,0,0⟩,⟨⟨(some 114),.mv (.tmp 12),none⟩,0,0⟩,⟨⟨(some 115),.iaddrS 1 (.tmp 113) (.tmp 114),none⟩,0,0⟩,⟨⟨(some 116),.load false 1 (.tmp 115),none⟩,0,0⟩,⟨⟨(some 117),.mv (.tmp 0),none⟩,0,0⟩,⟨⟨(some 118),.mv (.tmp 12),none⟩,0,0⟩,⟨⟨(some 119),.bin .sub (.tmp 118) (.const (.int .i64 1)),none⟩,0,0⟩,⟨⟨(some 120),.iaddrS 1 (.tmp 117) (.tmp 119),none⟩,0,0⟩,⟨⟨(some 121),.load false 1 (.tmp 120),none⟩,0,0⟩,⟨⟨(some 122),.callv (.tmp 112) [(.tmp 116),(.tmp 121)],none⟩,0,1⟩,⟨⟨(some 123),.bin .lss (.tmp 122) (.const (.int .i64 0)),none⟩,1,1⟩,⟨⟨(some 124),.not (.tmp 123),none⟩,1,1⟩])
 (.cond (.tmp 124) (.exit 6) .skip))
 (.draw [⟨⟨(some 125),.mv (.tmp 0),none⟩,0,0⟩,⟨⟨(some 126),.mv (.tmp 12),none⟩,0,0⟩,⟨⟨(some 127),.mv (.tmp 0),none⟩,0,1⟩,⟨⟨(some 128),.mv (.tmp 12),none⟩,0,1⟩,⟨⟨(some 129),.bin .sub (.tmp 128) (.const (.int .i64 1)),none⟩,0,1⟩,⟨⟨(some 130),.mv (.tmp 0),none⟩,0,0⟩,⟨⟨(some 131),.mv (.tmp 12),none⟩,0,0⟩,⟨⟨(some 132),.bin .sub (.tmp 131) (.const (.int .i64 1)),none⟩,0,0⟩,⟨⟨(some 133),.iaddrS 1 (.tmp 130) (.tmp 132),none⟩,0,0⟩,⟨⟨(some 134),.load false 1 (.tmp 133),none⟩,0,0⟩,⟨⟨(some 135),.mv (.tmp 0),none⟩,0,0⟩,⟨⟨(some 136),.mv (.tmp 12),none⟩,0,0⟩,⟨⟨(some 137),.iaddrS 1 (.tmp 135) (.tmp 136),none⟩,0,0⟩,⟨⟨(some 138),.load false 1 (.tmp 137),none⟩,0,0⟩,⟨⟨(some 139),.iaddrS 1 (.tmp 125) (.tmp 126),none⟩,0,0⟩,⟨⟨none,.store 1 (.tmp 139) (.tmp 134),none⟩,0,1⟩,⟨⟨(some 140),.iaddrS 1 (.tmp 127) (.tmp 129),none⟩,1,1⟩,⟨⟨none,.store 1 (.tmp 140) (.tmp 138),none⟩,1,2⟩])))
 (.region [⟨(some 110),.mv (.tmp 12),none⟩,⟨(some 111),.bin .add (.tmp 110) (.const (.int .i64 1)),none⟩,⟨(some 12),.mv (.tmp 111),none⟩])))))) .skip))))))))
 (.region [⟨(some 17),.mv (.tmp 10),none⟩,⟨(some 18),.bin .add (.tmp 17) (.const (.int .i64 1)),none⟩,⟨(some 10),.mv (.tmp 18),none⟩]))))))
 (.seq (.region [⟨(some 8),.mv (.const (.bool false)),none⟩])
 .ret))))⟩
theorem k292 : compFn Tryz.prog Tryz.f292 = some c292 := by kernel_rfl
-- slices.partitionEqualCmpFunc[uint64]
def c293 : AFunc := ⟨[.tmp 10],(.seq (.region [⟨(some 10),.mv (.const (.int .i64 0)),none⟩])
 (.seq (.draw [⟨⟨(some 13),.mv (.tmp 0),none⟩,0,0⟩,⟨⟨(some 14),.mv (.tmp 1),none⟩,0,0⟩,⟨⟨(some 15),.mv (.tmp 0),none⟩,0,1⟩,⟨⟨(some 16),.mv (.tmp 3),none⟩,0,1⟩,⟨⟨(some 17),.mv (.tmp 0),none⟩,0,0⟩,⟨⟨(some 18),.mv (.tmp 3),none⟩,0,0⟩,⟨⟨(some 19),.iaddrS 1 (.tmp 17) (.tmp 18),none⟩,0,0⟩,⟨⟨(some 20),.load false 1 (.tmp 19),none⟩,0,0⟩,⟨⟨(some 21),.mv (.tmp 0),none⟩,0,0⟩,⟨⟨(some 22),.mv (.tmp 1),none⟩,0,0⟩,⟨⟨(some 23),.iaddrS 1 (.tmp 21) (.tmp 22),none⟩,0,0⟩,⟨⟨(some 24),.load false 1 (.tmp 23),none⟩,0,0⟩,⟨⟨(some 25),.iaddrS 1 (.tmp 13) (.tmp 14),none⟩,0,0⟩,⟨⟨none,.store 1 (.tmp 25) (.tmp 20),none⟩,0,1⟩,⟨⟨(some 26),.iaddrS 1 (.tmp 15) (.tmp 16),none⟩,1,1⟩,⟨⟨none,.store 1 (.tmp 26) (.tmp 24),none⟩,1,2⟩])
 (.seq (.region [⟨(some 27),.mv (.tmp 1),none⟩,⟨(some 28),.bin .add (.tmp 27) (.const (.int .i64 1)),none⟩,⟨(some 29),.mv (.tmp 2),none⟩,⟨(some 30),.bin .sub (.tmp 29) (.const (.int .i64 1)),none⟩,⟨(some 11),.mv (.tmp 28),none⟩,⟨(some 12),.mv (.tmp 30),none⟩])
 (.seq (.block 0 (.loop (.block 1 (.seq (.block 2 (.loop (.seq (.seq (.draw [⟨⟨(some 31),.mv (.tmp 11),none⟩,0,0⟩,⟨⟨(some 32),.mv (.tmp 12),none⟩,0,0⟩,⟨⟨(some 33),.bin .leq (.tmp 31) (.tmp 32),none⟩,0,0⟩,⟨⟨(some 34),.mv (.tmp 33),none⟩,0,0⟩,⟨⟨(some 35),.mv (.tmp 4),some (34,true)⟩,0,0⟩,⟨⟨(some 36),.mv (.tmp 0),some (34,true)⟩,0,0⟩,⟨⟨(some 37),.mv (.tmp 1),some (34,true)⟩,0,0⟩,⟨⟨(some 38),.iaddrS 1 (.tmp 36) (.tmp 37),some (34,true)⟩,0,0⟩,⟨⟨(some 39),.load false 1 (.tmp 38),some (34,true)⟩,0,0⟩,⟨⟨(some 40),.mv (.tmp 0),some (34,true)⟩,0,0⟩,⟨⟨(some 41),.mv (.tmp 11),some (34,true)⟩,0,0⟩,⟨⟨(some 42),.iaddrS 1 (.tmp 40) (.tmp 41),some (34,true)⟩,0,0⟩,⟨⟨(some 43),.load false 1 (.tmp 42),some (34,true)⟩,0,0⟩,⟨⟨(some 44),.callv (.tmp 35) [(.tmp 39),(.tmp 43)],some (34,true)⟩,0,1⟩,⟨⟨(some 45),.bin .lss (.tmp 44) (.const (.int .i64 0)),some (34,true)⟩,1,1⟩,⟨⟨(some 46),.not (.tmp 45),some (34,true)⟩,1,1⟩,⟨⟨(some 47),.pick (.tmp 34) (.tmp 46) (.const (.bool false)),none⟩,1,1⟩])
 (.cond (.tmp 47) .skip (.exit 2)))
 (.block 3 (.region [⟨(some 48),.mv (.tmp 11),none⟩,⟨(some 49),.bin .add (.tmp 48) (.const (.int .i64 1)),none⟩,⟨(some 11),.mv (.tmp 49),none⟩])))))
 (.seq (.block 4 (.loop (.seq (.seq (.draw [⟨⟨(some 50),.mv (.tmp 11),none⟩,0,0⟩,⟨⟨(some 51),.mv (.tmp 12),none⟩,0,0⟩,⟨⟨(some 52),.bin .leq (.tmp 50) (.tmp 51),none⟩,0,0⟩,⟨⟨(some 53),.mv (.tmp 52),none⟩,0,0⟩,⟨⟨(some 54),.mv (.tmp 4),some (53,true)⟩,0,0⟩,⟨⟨(some 55),.mv (.tmp 0),some (53,true)⟩,0,0⟩,⟨⟨(some 56),.mv (.tmp 1),some (53,true)⟩,0,0⟩,⟨⟨(some 57),.iaddrS 1 (.tmp 55) (.tmp 56),some (53,true)⟩,0,0⟩,⟨⟨(some 58),.load false 1 (.tmp 57),some (53,true)⟩,0,0⟩,⟨⟨(some 59),.mv (.tmp 0),some (53,true)⟩,0,0⟩,⟨⟨(some 60),.mv (.tmp 12),some (53,true)⟩,0,0⟩,⟨⟨(some 61),.iaddrS 1 (.tmp 59) (.tmp 60),some (53,true)⟩,0,0⟩,⟨⟨(some 62),.load false 1 (.tmp 61),some (53,true)⟩,0,0⟩,⟨⟨(some 63),.callv (.tmp 54) [(.tmp 58),(.tmp 62)],some (53,true)⟩,0,1⟩,⟨⟨(some 64),.bin .lss (.tmp 63) (.const (.int .i64 0)),some (53,true)⟩,1,1⟩,⟨⟨(some 65),.pick (.tmp 53) (.tmp 64) (.const (.bool false)),none⟩,1,1⟩])
 (.cond (.tmp 65) .skip (.exit 4)))
 (.block 5 (.region [⟨(some 66),.mv (.tmp 12),none⟩,⟨(some 67),.bin .sub (.tmp 66) (.const (.int .i64 1)),none⟩,⟨(some 12),.mv (.tmp 67),none⟩])))))
 (.seq (.seq (.region [⟨(some 68),.mv (.tmp 11),none⟩,⟨(some 69),.mv (.tmp 12),none⟩,⟨(some 70),.bin .gtr (.tmp 68) (.tmp 69),none⟩])
 (.cond (.tmp 70) (.exit 0) .skip))
 (.seq (.draw [⟨⟨(some 71),.mv (.tmp 0),none⟩,0,0⟩,⟨⟨(some 72),.mv (.tmp 11),none⟩,0,0⟩,⟨⟨(some 73),.mv (.tmp 0),none⟩,0,1⟩,⟨⟨(some 74),.mv (.tmp 12),none⟩,0,1⟩,⟨⟨(some 75),.mv (.tmp 0),none⟩,0,0⟩,⟨⟨(some 76),.mv (.tmp 12),none⟩,0,0⟩,⟨⟨(some 77),.iaddrS 1 (.tmp 75) (.tmp 76),none⟩,0,0⟩,⟨⟨(some 78),.load false 1 (.tmp 77),none⟩,0,0⟩,⟨⟨(some 79),.mv (.tmp 0),none⟩,0,0⟩,⟨⟨(some 80),.mv (.tmp 11),none⟩,0,0⟩,⟨⟨(some 81),.iaddrS 1 (.tmp 79) (.tmp 80),none⟩,0,0⟩,⟨⟨(some 82),.load false 1 (.tmp 81),none⟩,0,0⟩,⟨⟨(some 83),.iaddrS 1 (.tmp 71) (.tmp 72),none⟩,0,0⟩,⟨⟨none,.store 1 (.tmp 83) (.tmp 78),none⟩,0,1⟩,⟨⟨(some 84),.iaddrS 1 (.tmp 73) (.tmp 74),none⟩,1,1⟩,⟨⟨none,.store 1 (.tmp 84) (.tmp 82),none⟩,1,2⟩])
 (.seq (.region [⟨(some 85),.mv (.tmp 11),none⟩,⟨(some 86),.bin .add (.tmp 85) (.const (.int .i64 1)),none⟩,⟨(some 11),.mv (.tmp 86),none⟩])
 (.region [⟨(some 87),.mv (.tmp 12),none⟩,⟨(some 88),.bin .sub (.tmp 87) (.const (.int .i64 1)),none⟩,⟨(some 12),.mv (.tmp 88),none⟩])))))))))
 (.seq (.region [⟨(some 89),.mv (.tmp 11),none⟩,⟨(some 10),.mv (.tmp 89),none⟩])
 .ret)))))⟩
theorem k293 : compFn Tryz.prog Tryz.f293 = some c293 := by kernel_rfl
-- slices.partitionCmpFunc[uint64]
def c294 : AFunc := ⟨[.tmp 10,.tmp 11],(.seq (.region [⟨(some 10),.mv (.const (.int .i64 0)),none⟩,⟨(some 11),.mv (.const (.bool false)),none⟩])
 (.seq (.draw [⟨⟨(some 14),.mv (.tmp 0),none⟩,0,0⟩,⟨⟨(some 15),.mv (.tmp 1),none⟩,0,0⟩,⟨⟨(some 16),.mv (.tmp 0),none⟩,0,1⟩,⟨⟨(some 17),.mv (.tmp 3),none⟩,0,1⟩,⟨⟨(some 18),.mv (.tmp 0),none⟩,0,0⟩,⟨⟨(some 19),.mv (.tmp 3),none⟩,0,0⟩,⟨⟨(some 20),.iaddrS 1 (.tmp 18) (.tmp 19),none⟩,0,0⟩,⟨⟨(some 21),.load false 1 (.tmp 20),none⟩,0,0⟩,⟨⟨(some 22),.mv (.tmp 0),none⟩,0,0⟩,⟨⟨(some 23),.mv (.tmp 1),none⟩,0,0⟩,⟨⟨(some 24),.iaddrS 1 (.tmp 22) (.tmp 23),none⟩,0,0⟩,⟨⟨(some 25),.load false 1 (.tmp 24),none⟩,0,0⟩,⟨⟨(some 26),.iaddrS 1 (.tmp 14) (.tmp 15),none⟩,0,0⟩,⟨⟨none,.store 1 (.tmp 26) (.tmp 21),none⟩,0,1⟩,⟨⟨(some 27),.iaddrS 1 (.tmp 16) (.tmp 17),none⟩,1,1⟩,⟨⟨none,.store 1 (.tmp 27) (.tmp 25),none⟩,1,2⟩])
 (.seq (.region [⟨(some 28),.mv (.tmp 1),none⟩,⟨(some 29),.bin .add (.tmp 28) (.const (.int .i64 1)),none⟩,⟨(some 30),.mv (.tmp 2),none⟩,⟨(some 31),.bin .sub (.tmp 30) (.const (.int .i64 1)),none⟩,⟨(some 12),.mv (.tmp 29),none⟩,⟨(some 13),.mv (.tmp 31),none⟩])
 (.seq (.block 0 (.loop (.seq (.seq (.draw [⟨⟨(some 32),.mv (.tmp 12),none⟩,0,0⟩,⟨⟨(some 33),.mv (.tmp 13),none⟩,0,0⟩,⟨⟨(some 34),.bin .leq (.tmp 32) (.tmp 33),none⟩,0,0⟩,⟨⟨(some 35),.mv (.tmp 34),none⟩,0,0⟩,⟨⟨(some 36),.mv (.tmp 4),some (35,true)⟩,0,0⟩,⟨⟨(some 37),.mv (.tmp 0),some (35,true)⟩,0,0⟩,⟨⟨(some 38),.mv (.tmp 12),some (35,true)⟩,0,0⟩,⟨⟨(some 39),.iaddrS 1 (.tmp 37) (.tmp 38),some (35,true)⟩,0,0⟩,⟨⟨(some 40),.load false 1 (.tmp 39),some (35,true)⟩,0,0⟩,⟨⟨(some 41),.mv (.tmp 0),some (35,true)⟩,0,0⟩,⟨⟨(some 42),.mv (.tmp 1),some (35,true)⟩,0,0⟩,⟨⟨(some 43),.iaddrS 1 (.tmp 41) (.tmp 42),some (35,true)⟩,0,0⟩,⟨⟨(some 44),.load false 1 (.tmp 43),some (35,true)⟩,0,0⟩,⟨⟨(some 45),.callv (.tmp 36) [(.tmp 40),(.tmp 44)],some (35,true)⟩,0,1⟩,⟨⟨(some 46),.bin .lss (.tmp 45) (.const (.int .i64 0)),some (35,true)⟩,1,1⟩,⟨⟨(some 47),.pick (.tmp 35) (.tmp 46) (.const (.bool false)),none⟩,1,1⟩])
 (.cond (.tmp 47) .skip (.exit 0)))
 (.block 1 (.region [⟨(some 48),.mv (.tmp 12),none⟩,⟨(some 49),.bin .add (.tmp 48) (.const (.int .i64 1)),none⟩,⟨(some 12),.mv (.tmp 49),none⟩])))))
 (.seq (.block 2 (.loop (.seq (.seq (.draw [⟨⟨(some 50),.mv (.tmp 12),none⟩,0,0⟩,⟨⟨(some 51),.mv (.tmp 13),none⟩,0,0⟩,⟨⟨(some 52),.bin .leq (.tmp 50) (.tmp 51),none⟩,0,0⟩,⟨⟨(some 53),.mv (.tmp 52),none⟩,0,0⟩,⟨⟨(some 54),.mv (.tmp 4),some (53,true)⟩,0,0⟩,⟨⟨(some 55),.mv (.tmp 0),some (53,true)⟩,0,0⟩,⟨⟨(some 56),.mv (.tmp 13),some (53,true)⟩,0,0⟩,⟨⟨(some 57),.iaddrS 1 (.tmp 55) (.tmp 56),some (53,true)⟩,0,0⟩,⟨⟨(some 58),.load false 1 (.tmp 57),some (53,true)⟩,0,0⟩,⟨⟨(some 59),.mv (.tmp 0),some (53,true)⟩,0,0⟩,⟨⟨(some 60),.mv (.tmp 1),some (53,true)⟩,0,0⟩,⟨⟨(some 61),.iaddrS 1 (.tmp 59) (.tmp 60),some (53,true)⟩,0,0⟩,⟨⟨(some 62),.load false 1 (.tmp 61),some (53,true)⟩,0,0⟩,⟨⟨(some 63),.callv (.tmp 54) [(.tmp 58),(.tmp 62)],some (53,true)⟩,0,1⟩,⟨⟨(some 64),.bin .lss (.tmp 63) (.const (.int .i64 0)),some (53,true)⟩,1,1⟩,⟨⟨(some 65),.not (.tmp 64),some (53,true)⟩,1,1⟩,⟨⟨(some 66),.pick (.tmp 53) (.tmp 65) (.const (.bool false)),none⟩,1,1⟩])
 (.cond (.tmp 66) .skip (.exit 2)))
 (.block 3 (.region [⟨(some 67),.mv (.tmp 13),none⟩,⟨(some 68),.bin .sub (.tmp 67) (.const (.int .i64 1)),none⟩,⟨(some 13),.mv (.tmp 68),none⟩])))))
 (.seq (.seq (.region [⟨(some 69),.mv (.tmp 12),none⟩,⟨(some 70),.mv (.tmp 13),none⟩,⟨(some 71),.bin .gtr (.tmp 69) (.tmp 70),none⟩])
 (.cond (.tmp 71) (.seq (.draw [⟨⟨(some 72),.mv (.tmp 0),none⟩,0,0⟩,⟨⟨(some 73),.mv (.tmp 13),none⟩,0,0⟩,⟨⟨(some 74),.mv (.tmp 0),none⟩,0,1⟩,⟨⟨(some 75),.mv (.tmp 1),none⟩,0,1⟩,⟨⟨(some 76),.mv (.tmp 0),none⟩,0,0⟩,⟨⟨(some 77),.mv (.tmp 1),none⟩,0,0⟩,⟨⟨(some 78),.iaddrS 1 (.tmp 76) (.tmp 77),none⟩,0,0⟩,⟨⟨(some 79),.load false 1 (.tmp 78),none⟩,0,0⟩,⟨⟨(some 80),.mv (.tmp 0),none⟩,0,0⟩,⟨⟨(some 81),.mv (.tmp 13),none⟩,0,0⟩,⟨⟨(some 82),.iaddrS 1 (.tmp 80) (.tmp 81),none⟩,0,0⟩,⟨⟨(some 83),.load false 1 (.tmp 82),none⟩,0,0⟩,⟨⟨(some 84),.iaddrS 1 (.tmp 72) (.tmp 73),none⟩,0,0⟩,⟨⟨none,.store 1 (.tmp 84) (.tmp 79),none⟩,0,1⟩,⟨⟨(some 85),.iaddrS 1 (.tmp 74) (.tmp 75),none⟩,1,1⟩,⟨⟨none,.store 1 (.tmp 85) (.tmp 83),none⟩,1,2⟩])
 (.seq (.region [⟨(some 86),.mv (.tmp 13),none⟩,⟨(some 10),.mv (.tmp 86),none⟩,⟨(some 11),.mv (.const (.bool true)),none⟩])
 .ret)) .skip))
 (.seq (.draw [⟨⟨(some 87),.mv (.tmp 0),none⟩,0,0⟩,⟨⟨(some 88),.mv (.tmp 12),none⟩,0,0⟩,⟨⟨(some 89),.mv (.tmp 0),none⟩,0,1⟩,⟨⟨(some 90),.mv (.tmp 13),none⟩,0,1⟩,⟨⟨(some 91),.mv (.tmp 0),none⟩,0,0⟩,⟨⟨(some 92),.mv (.tmp 13),none⟩,0,0⟩,⟨⟨(some 93),.iaddrS 1 (.tmp 91) (.tmp 92),none⟩,0,0⟩,⟨⟨(some 94),.load false 1 (.tmp 93),none⟩,0,0⟩,⟨⟨(some 95),.mv (.tmp 0),none⟩,0,0⟩,⟨⟨(some 96),.mv (.tmp 12),none⟩,0,0⟩,⟨⟨(some 97),.iaddrS 1 (.tmp 95) (.tmp 96),none⟩,0,0⟩,⟨⟨(some 98),.load false 1 (.tmp 97),none⟩,0,0⟩,⟨⟨(some 99),.iaddrS 1 (.tmp 87) (.tmp 88),none⟩,0,0⟩,⟨⟨none,.store 1 (.tmp 99) (.tmp 94),none⟩,0,1⟩,⟨⟨(some 100),.iaddrS 1 (.tmp 89) (.tmp 90),none⟩,1,1⟩,⟨⟨none,.store 1 (.tmp 100) (.tmp 98),none⟩,1,2⟩])
 (.seq (.region [⟨(some 101),.mv (.tmp 12),none⟩,⟨(some 102),.bin .add (.tmp 101) (.const (.int .i64 1)),none⟩,⟨(some 12),.mv (.tmp 102),none⟩])
 (.seq (.region [⟨(some 103),.mv (.tmp 13),none⟩,⟨(some 104),.bin .sub (.tmp 103) (.const (.int .i64 1)),none⟩,⟨(some 13),.mv (.tmp 104),none⟩])
 (.seq (.block 4 (.loop (.block 5 (.seq (.block 6 (.loop (.seq (.seq (.draw [⟨⟨(some 105),.mv (.tmp 12),none⟩,0,0⟩,⟨⟨(some 106),.mv (.tmp 13),none⟩,0,0⟩,⟨⟨(some 107),.bin .leq (.tmp 105) (.tmp 106),none⟩,0,0⟩,⟨⟨(some 108),.mv (.tmp 107),none⟩,0,0⟩,⟨⟨(some 109),.mv (.tmp 4),some (108,true)⟩,0,0⟩,⟨⟨(some 110),.mv (.tmp 0),some (108,true)⟩,0,0⟩,⟨⟨(some 111),.mv (.tmp 12),some (108,true)⟩,0,0⟩,⟨⟨(some 112),.iaddrS 1 (.tmp 110) (.tmp 111),some (108,true)⟩,0,0⟩,⟨⟨(some 113),.load false 1 (.tmp 112),some (108,true)⟩,0,0⟩,⟨⟨(some 114),.mv (.tmp 0),some (108,true)⟩,0,0⟩,⟨⟨(some 115),.mv (.tmp 1),some (108,true)⟩,0,0⟩,⟨⟨(some 116),.iaddrS 1 (.tmp 114) (.tmp 115),some (108,true)⟩,0,0⟩,⟨⟨(some 117),.load false 1 (.tmp 116),some (108,true)⟩,0,0⟩,⟨⟨(some 118),.callv (.tmp 109) [(.tmp 113),(.tmp 117)],some (108,true)⟩,0,1⟩,⟨⟨(some 119),.bin .lss (.tmp 118) (.const (.int .i64 0)),some (108,true)⟩,1,1⟩,⟨⟨(some 120),.pick (.tmp 108) (.tmp 119) (.const (.bool false)),none⟩,1,1⟩])
 (.cond (.tmp 120) .skip (.exit 6)))
 (.block 7 (.region [⟨(some 121),.mv (.tmp 12),none⟩,⟨(some 122),.bin .add (.tmp 121) (.const (.int .i64 1)),none⟩,⟨(some 12),.mv (.tmp 122),none⟩])))))
 (.seq (.block 8 (.loop (.seq (.seq (.draw [⟨⟨(some 123),.mv (.tmp 12),none⟩,0,0⟩,⟨⟨(some 124),.mv (.tmp 13),none⟩,0,0⟩,⟨⟨(some 125),.bin .leq (.tmp 123) (.tmp 124),none⟩,0,0⟩,⟨⟨(some 126),.mv (.tmp 125),none⟩,0,0⟩,⟨⟨(some 127),.mv (.tmp 4),some (126,true)⟩,0,0⟩,⟨⟨(some 128),.mv (.tmp 0),some (126,true)⟩,0,0⟩,⟨⟨(some 129),.mv (.tmp 13),some (126,true)⟩,0,0⟩,⟨⟨(some 130),.iaddrS 1 (.tmp 128) (.tmp 129),some (126,true)⟩,0,0⟩,⟨⟨(some 131),.load false 1 (.tmp 130),some (126,true)⟩,0,0⟩,⟨⟨(some 132),.mv (.tmp 0),some (126,true)⟩,0,0⟩,⟨⟨(some 133),.mv (.tmp 1),some (126,true)⟩,0,0⟩,⟨⟨(some 134),.iaddrS 1 (.tmp 132) (.tmp 133),some (126,true)⟩,0,0⟩,⟨⟨(some 135),.load false 1 (.tmp 134),some (126,true)⟩,0,0⟩,⟨⟨(some 136),.callv (.tmp 127) [(.tmp 131),(.tmp 135)],some (126,true)⟩,0,1⟩,⟨⟨(some 137),.bin .lss (.tmp 136) (.const (.int .i64 0)),some (126,true)⟩,1,1⟩,⟨⟨(some 138),.not (.tmp 137),some (126,true)⟩,1,1⟩,⟨⟨(some 139),.pick (.tmp 126) (.tmp 138) (.const (.bool false)),none⟩,1,1⟩])
 (.cond (.tmp 139) .skip (.exit 8)))
 (.block 9 (.region [⟨(some 140),.mv (.tmp 13),none⟩,⟨(some 141),.bin .sub (.tmp 140) (.const (.int .i64 1)),none⟩,⟨(some 13),.mv (.tmp 141),none⟩])))))
 (.seq (.seq (.region [⟨(some 142),.mv (.tmp 12),none⟩,⟨(some 143),.mv (.tmp 13),none⟩,⟨(some 144),.bin .gtr (.tmp 142) (.tmp 143),none⟩])
 (.cond (.tmp 144) (.exit 4) .skip))
 (.seq (.draw [⟨⟨(some 145),.mv (.tmp 0),none⟩,0,0⟩,⟨⟨(some 146),.mv (.tmp 12),none⟩,0,0⟩,⟨⟨(some 147),.mv (.tmp 0),none⟩,0,1⟩,⟨⟨(some 148),.mv (.tmp 13),none⟩,0,1⟩,⟨⟨(some 149),.mv (.tmp 0),none⟩,0,0⟩,⟨⟨(some 150),.mv (.tmp 13),none⟩,0,0⟩,⟨⟨(some 151),.iaddrS 1 (.tmp 149) (.tmp 150),none⟩,0,0⟩,⟨⟨(some 152),.load false 1 (.tmp 151),none⟩,0,0⟩,⟨⟨(some 153),.mv (.tmp 0),none⟩,0,0⟩,⟨⟨(some 154),.mv (.tmp 12),none⟩,0,0⟩,⟨⟨(some 155),.iaddrS 1 (.tmp 153) (.tmp 154),none⟩,0,0⟩,⟨⟨(some 156),.load false 1 (.tmp 155),none⟩,0,0⟩,⟨⟨(some 157),.iaddrS 1 (.tmp 145) (.tmp 146),none⟩,0,0⟩,⟨⟨none,.store 1 (.tmp 157) (.tmp 152),none⟩,0,1⟩,⟨⟨(some 158),.iaddrS 1 (.tmp 147) (.tmp 148),none⟩,1,1⟩,⟨⟨none,.store 1 (.tmp 158) (.tmp 156),none⟩,1,2⟩])
 (.seq (.region [⟨(some 159),.mv (.tmp 12),none⟩,⟨(some 160),.bin .add (.tmp 159) (.const (.int .i64 1)),none⟩,⟨(some 12),.mv (.tmp 160),none⟩])
 (.region [⟨(some 161),.mv (.tmp 13),none⟩,⟨(some 162),.bin .sub (.tmp 161) (.const (.int .i64 1)),none⟩,⟨(some 13),.mv (.tmp 162),none⟩])))))))))
 (.seq (.draw [⟨⟨(some 163),.mv (.tmp 0),none⟩,0,0⟩,⟨⟨(some 164),.mv (.tmp 13),none⟩,0,0⟩,⟨⟨(some 165),.mv (.tmp 0),none⟩,0,1⟩,⟨⟨(some 166),.mv (.tmp 1),none⟩,0,1⟩,⟨⟨(some 167),.mv (.tmp 0),none⟩,0,0⟩,⟨⟨(some 168),.mv (.tmp 1),none⟩,0,0⟩,⟨⟨(some 169),.iaddrS 1 (.tmp 167) (.tmp 168),none⟩,0,0⟩,⟨⟨(some 170),.load false 1 (.tmp 169),none⟩,0,0⟩,⟨⟨(some 171),.mv (.tmp 0),none⟩,0,0⟩,⟨⟨(some 172),.mv (.tmp 13),none⟩,0,0⟩,⟨⟨(some 173),.iaddrS 1 (.tmp 171) (.tmp 172),none⟩,0,0⟩,⟨⟨(some 174),.load false 1 (.tmp 173),none⟩,0,0⟩,⟨⟨(some 175),.iaddrS 1 (.tmp 163) (.tmp 164),none⟩,0,0⟩,⟨⟨none,.store 1 (.tmp 175) (.tmp 170),none⟩,0,1⟩,⟨⟨(some 176),.iaddrS 1 (.tmp 165) (.tmp 166),none⟩,1,1⟩,⟨⟨none,.store 1 (.tmp 176) (.tmp 174),none⟩,1,2⟩])
 (.seq (.region [⟨(some 177),.mv (.tmp 13),none⟩,⟨(some 10),.mv (.tmp 177),none⟩,⟨(some 11),.mv (.const (.bool false)),none⟩])
 .ret))))))))))))⟩
theorem k294 : compFn Tryz.prog Tryz.f294 = some c294 := by kernel_rfl
end
end Go.Proofs.YtdnefddmghhgpaaGreatDoor
