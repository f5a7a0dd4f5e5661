import Derived.Test.YtdnefddmghhgpaaGreatDoorLink
set_option maxRecDepth 1000000
set_option maxHeartbeats 4000000
set_option linter.unusedVariables false
namespace Go.Proofs.YtdnefddmghhgpaaGreatDoor
open AM Go
noncomputable section
-- croft/croftlaw18.CountKnown
def c9 : AFunc := ⟨[.tmp 0],(.seq (.region [⟨(some 0),.mv (.const (.bool false)),none⟩])
 (.seq (.seq (.region [⟨(some 17),.call 80 [],none⟩,⟨(some 18),.not (.tmp 17),none⟩])
 (.cond (.tmp 18) (.seq (.region [⟨(some 0),.mv (.const (.bool false)),none⟩])
 .ret) .skip))
 (.seq (.region [⟨(some 20),.build [(.int .u64 0),(.int .i64 0),(.int .i64 0)] [(0,1,(.const (.int .u64 65536))),(1,1,(.const (.int .i64 1))),(2,1,(.const (.int .i64 0)))],none⟩,⟨(some 21),.call 12 [(.tmp 20)],none⟩,⟨(some 19),.mv (.tmp 21),none⟩,⟨(some 22),.extract (.tmp 19) 0,none⟩,⟨(some 23),.extract (.tmp 19) 1,none⟩,⟨(some 1),.mv (.tmp 22),none⟩,⟨(some 2),.mv (.tmp 23),none⟩])
 (.seq (.seq (.region [⟨(some 24),.mv (.tmp 2),none⟩,⟨(some 25),.bin .neq (.tmp 24) (.const (.int .i64 0)),none⟩])
 (.cond (.tmp 25) (.seq (.region [⟨(some 0),.mv (.const (.bool false)),none⟩])
 .ret) .skip))
 (.seq (.region [⟨(some 26),.mv (.tmp 1),none⟩,⟨(some 27),.call 81 [(.tmp 26)],none⟩,⟨(some 3),.mv (.tmp 27),none⟩])
 (.seq (.region [⟨(some 29),.mv (.tmp 3),none⟩,⟨(some 30),.call 82 [(.tmp 29),(.const (.int .i64 (-1))),(.const (.int .i64 0)),(.const (.bool false))],none⟩,⟨(some 28),.mv (.tmp 30),none⟩,⟨(some 31),.extract (.tmp 28) 0,none⟩,⟨(some 32),.extract (.tmp 28) 1,none⟩,⟨(some 2),.mv (.tmp 32),none⟩])
 (.seq (.region [⟨(some 34),.mv (.tmp 3),none⟩,⟨(some 35),.call 82 [(.tmp 34),(.const (.int .i64 0)),(.const (.int .i64 0)),(.const (.bool true))],none⟩,⟨(some 33),.mv (.tmp 35),none⟩,⟨(some 36),.extract (.tmp 33) 0,none⟩,⟨(some 37),.extract (.tmp 33) 1,none⟩,⟨(some 4),.mv (.tmp 36),none⟩,⟨(some 5),.mv (.tmp 37),none⟩])
 (.seq (.region [⟨(some 39),.mv (.tmp 3),none⟩,⟨(some 40),.call 82 [(.tmp 39),(.const (.int .i64 600)),(.const (.int .i64 0)),(.const (.bool false))],none⟩,⟨(some 38),.mv (.tmp 40),none⟩,⟨(some 41),.extract (.tmp 38) 0,none⟩,⟨(some 42),.extract (.tmp 38) 1,none⟩,⟨(some 6),.mv (.tmp 41),none⟩,⟨(some 7),.mv (.tmp 42),none⟩])
 (.seq (.region [⟨(some 44),.mv (.tmp 3),none⟩,⟨(some 45),.call 83 [(.tmp 44),(.const (.int .u64 65536))],none⟩,⟨(some 43),.mv (.tmp 45),none⟩,⟨(some 46),.extract (.tmp 43) 0,none⟩,⟨(some 47),.extract (.tmp 43) 1,none⟩,⟨(some 8),.mv (.tmp 46),none⟩,⟨(some 9),.mv (.tmp 47),none⟩])
 (.seq (.seq (.region [⟨(some 48),.mv (.tmp 2),none⟩,⟨(some 49),.bin .neq (.tmp 48) (.const (.int .i64 1)),none⟩,⟨(some 50),.mv (.tmp 49),none⟩,⟨(some 51),.mv (.tmp 5),some (50,false)⟩,⟨(some 52),.bin .neq (.tmp 51) (.const (.int .i64 2)),some (50,false)⟩,⟨(some 53),.pick (.tmp 50) (.const (.bool true)) (.tmp 52),none⟩,⟨(some 54),.mv (.tmp 53),none⟩,⟨(some 55),.mv (.tmp 7),some (54,false)⟩,⟨(some 56),.bin .neq (.tmp 55) (.const (.int .i64 3)),some (54,false)⟩,⟨(some 57),.pick (.tmp 54) (.const (.bool true)) (.tmp 56),none⟩,⟨(some 58),.mv (.tmp 57),none⟩,⟨(some 59),.mv (.tmp 9),some (58,false)⟩,⟨(some 60),.bin .neq (.tmp 59) (.const (.int .i64 1)),some (58,false)⟩,⟨(some 61),.pick (.tmp 58) (.const (.bool true)) (.tmp 60),none⟩])
 (.cond (.tmp 61) (.seq (.region [⟨(some 0),.mv (.const (.bool false)),none⟩])
 .ret) .skip))
 (.seq (.region [⟨(some 63),.mv (.tmp 3),none⟩,⟨(some 64),.call 82 [(.tmp 63),(.const (.int .i64 1)),(.const (.int .i64 8)),(.const (.bool false))],none⟩,⟨(some 62),.mv (.tmp 64),none⟩,⟨(some 65),.extract (.tmp 62) 0,none⟩,⟨(some 66),.extract (.tmp 62) 1,none⟩,⟨(some 10),.mv (.tmp 65),none⟩,⟨(some 2),.mv (.tmp 66),none⟩])
 (.seq (.region [⟨(some 68),.mv (.tmp 3),none⟩,⟨(some 69),.call 82 [(.tmp 68),(.const (.int .i64 1)),(.const (.int .i64 8)),(.const (.bool false))],none⟩,⟨(some 67),.mv (.tmp 69),none⟩,⟨(some 70),.extract (.tmp 67) 0,none⟩,⟨(some 71),.extract (.tmp 67) 1,none⟩,⟨(some 11),.mv (.tmp 70),none⟩,⟨(some 5),.mv (.tmp 71),none⟩])
 (.seq (.region [⟨(some 73),.mv (.tmp 3),none⟩,⟨(some 74),.call 82 [(.tmp 73),(.const (.int .i64 2)),(.const (.int .i64 0)),(.const (.bool false))],none⟩,⟨(some 72),.mv (.tmp 74),none⟩,⟨(some 75),.extract (.tmp 72) 0,none⟩,⟨(some 76),.extract (.tmp 72) 1,none⟩,⟨(some 12),.mv (.tmp 75),none⟩,⟨(some 7),.mv (.tmp 76),none⟩])
 (.seq (.seq (.region [⟨(some 77),.mv (.tmp 2),none⟩,⟨(some 78),.bin .neq (.tmp 77) (.const (.int .i64 0)),none⟩,⟨(some 79),.mv (.tmp 78),none⟩,⟨(some 80),.mv (.tmp 10),some (79,false)⟩,⟨(some 81),.bin .neq (.tmp 80) (.const (.int .u64 65536)),some (79,false)⟩,⟨(some 82),.pick (.tmp 79) (.const (.bool true)) (.tmp 81),none⟩,⟨(some 83),.mv (.tmp 82),none⟩,⟨(some 84),.mv (.tmp 5),some (83,false)⟩,⟨(some 85),.bin .neq (.tmp 84) (.const (.int .i64 0)),some (83,false)⟩,⟨(some 86),.pick (.tmp 83) (.const (.bool true)) (.tmp 85),none⟩,⟨(some 87),.mv (.tmp 86),none⟩,⟨(some 88),.mv (.tmp 11),some (87,false)⟩,⟨(some 89),.bin .neq (.tmp 88) (.const (.int .u64 65552)),some (87,false)⟩,⟨(some 90),.pick (.tmp 87) (.const (.bool true)) (.tmp 89),none⟩,⟨(some 91),.mv (.tmp 90),none⟩,⟨(some 92),.mv (.tmp 7),some (91,false)⟩,⟨(some 93),.bin .neq (.tmp 92) (.const (.int .i64 0)),some (91,false)⟩,⟨(some 94),.pick (.tmp 91) (.const (.bool true)) (.tmp 93),none⟩,⟨(some 95),.mv (.tmp 94),none⟩,⟨(some 96),.mv (.tmp 12),some (95,false)⟩,⟨(some 97),.bin .neq (.tmp 96) (.const (.int .u64 65568)),some (95,false)⟩,⟨(some 98),.pick (.tmp 95) (.const (.bool true)) (.tmp 97),none⟩,⟨(some 99),.mv (.tmp 98),none⟩,⟨(some 100),.mv (.tmp 3),some (99,false)⟩,⟨(some 101),.mv (.tmp 10),some (99,false)⟩,⟨(some 102),.mv (.tmp 11),some (99,false)⟩,⟨(some 103),.call 84 [(.tmp 100),(.tmp 101),(.const (.int .i64 0)),(.tmp 102)],some (99,false)⟩,⟨(some 104),.bin .neq (.tmp 103) (.const (.int .i64 0)),some (99,false)⟩,⟨(some 105),.pick (.tmp 99) (.const (.bool true)) (.tmp 104),none⟩,⟨(some 106),.mv (.tmp 105),none⟩,⟨(some 107),.mv (.tmp 3),some (106,false)⟩,⟨(some 108),.mv (.tmp 11),some (106,false)⟩,⟨(some 109),.mv (.tmp 12),some (106,false)⟩,⟨(some 110),.call 84 [(.tmp 107),(.tmp 108),(.const (.int .i64 0)),(.tmp 109)],some (106,false)⟩,⟨(some 111),.bin .neq (.tmp 110) (.const (.int .i64 0)),some (106,false)⟩,⟨(some 112),.pick (.tmp 106) (.const (.bool true)) (.tmp 111),none⟩,⟨(some 113),.mv (.tmp 112),none⟩,⟨(some 114),.mv (.tmp 3),some (113,false)⟩,⟨(some 115),.mv (.tmp 10),some (113,false)⟩,⟨(some 116),.call 84 [(.tmp 114),(.tmp 115),(.const (.int .i64 1)),(.const (.int .u64 0))],some (113,false)⟩,⟨(some 117),.bin .neq (.tmp 116) (.const (.int .i64 1)),some (113,false)⟩,⟨(some 118),.pick (.tmp 113) (.const (.bool true)) (.tmp 117),none⟩,⟨(some 119),.mv (.tmp 118),none⟩,⟨(some 120),.mv (.tmp 3),some (119,false)⟩,⟨(some 121),.mv (.tmp 10),some (119,false)⟩,⟨(some 122),.call 84 [(.tmp 120),(.tmp 121),(.const (.int .i64 0)),(.const (.int .u64 7))],some (119,false)⟩,⟨(some 123),.bin .neq (.tmp 122) (.const (.int .i64 1)),some (119,false)⟩,⟨(some 124),.pick (.tmp 119) (.const (.bool true)) (.tmp 123),none⟩])
 (.cond (.tmp 124) (.seq (.region [⟨(some 0),.mv (.const (.bool false)),none⟩])
 .ret) .skip))
 (.seq (.region [⟨(some 126),.mv (.tmp 3),none⟩,⟨(some 127),.mv (.tmp 11),none⟩,⟨(some 128),.call 83 [(.tmp 126),(.tmp 127)],none⟩,⟨(some 125),.mv (.tmp 128),none⟩,⟨(some 129),.extract (.tmp 125) 0,none⟩,⟨(some 130),.extract (.tmp 125) 1,none⟩,⟨(some 13),.mv (.tmp 129),none⟩,⟨(some 2),.mv (.tmp 130),none⟩])
 (.seq (.seq (.region [⟨(some 131),.mv (.tmp 13),none⟩,⟨(some 132),.bin .neq (.tmp 131) (.const (.int .i64 2)),none⟩,⟨(some 133),.mv (.tmp 132),none⟩,⟨(some 134),.mv (.tmp 2),some (133,false)⟩,⟨(some 135),.bin .neq (.tmp 134) (.const (.int .i64 0)),some (133,false)⟩,⟨(some 136),.pick (.tmp 133) (.const (.bool true)) (.tmp 135),none⟩,⟨(some 137),.mv (.tmp 136),none⟩,⟨(some 138),.mv (.tmp 3),some (137,false)⟩,⟨(some 139),.mv (.tmp 11),some (137,false)⟩,⟨(some 140),.call 85 [(.tmp 138),(.tmp 139)],some (137,false)⟩,⟨(some 141),.bin .neq (.tmp 140) (.const (.int .i64 0)),some (137,false)⟩,⟨(some 142),.pick (.tmp 137) (.const (.bool true)) (.tmp 141),none⟩,⟨(some 143),.mv (.tmp 142),none⟩,⟨(some 144),.mv (.tmp 3),some (143,false)⟩,⟨(some 145),.mv (.tmp 11),some (143,false)⟩,⟨(some 146),.call 85 [(.tmp 144),(.tmp 145)],some (143,false)⟩,⟨(some 147),.bin .neq (.tmp 146) (.const (.int .i64 9)),some (143,false)⟩,⟨(some 148),.pick (.tmp 143) (.const (.bool true)) (.tmp 147),none⟩])
 (.cond (.tmp 148) (.seq (.region [⟨(some 0),.mv (.const (.bool false)),none⟩])
 .ret) .skip))
 (.seq (.region [⟨(some 150),.mv (.tmp 3),none⟩,⟨(some 151),.mv (.tmp 11),none⟩,⟨(some 152),.call 83 [(.tmp 150),(.tmp 151)],none⟩,⟨(some 149),.mv (.tmp 152),none⟩,⟨(some 153),.extract (.tmp 149) 0,none⟩,⟨(some 154),.extract (.tmp 149) 1,none⟩,⟨(some 13),.mv (.tmp 153),none⟩,⟨(some 2),.mv (.tmp 154),none⟩])
 (.seq (.seq (.region [⟨(some 155),.mv (.tmp 13),none⟩,⟨(some 156),.bin .neq (.tmp 155) (.const (.int .i64 1)),none⟩,⟨(some 157),.mv (.tmp 156),none⟩,⟨(some 158),.mv (.tmp 2),some (157,false)⟩,⟨(some 159),.bin .neq (.tmp 158) (.const (.int .i64 0)),some (157,false)⟩,⟨(some 160),.pick (.tmp 157) (.const (.bool true)) (.tmp 159),none⟩,⟨(some 161),.mv (.tmp 160),none⟩,⟨(some 162),.mv (.tmp 3),some (161,false)⟩,⟨(some 163),.mv (.tmp 12),some (161,false)⟩,⟨(some 164),.call 85 [(.tmp 162),(.tmp 163)],some (161,false)⟩,⟨(some 165),.bin .neq (.tmp 164) (.const (.int .i64 0)),some (161,false)⟩,⟨(some 166),.pick (.tmp 161) (.const (.bool true)) (.tmp 165),none⟩,⟨(some 167),.mv (.tmp 166),none⟩,⟨(some 168),.mv (.tmp 3),some (167,false)⟩,⟨(some 169),.mv (.tmp 10),some (167,false)⟩,⟨(some 170),.mv (.tmp 11),some (167,false)⟩,⟨(some 171),.mv (.tmp 12),some (167,false)⟩,⟨(some 172),.mkSlice 3 1 [(.int .u64 0)] [(0,1,(.tmp 169)),(1,1,(.tmp 170)),(2,1,(.tmp 171))],some (167,false)⟩,⟨(some 173),.call 86 [(.tmp 168),(.tmp 172)],some (167,false)⟩,⟨(some 174),.not (.tmp 173),some (167,false)⟩,⟨(some 175),.pick (.tmp 167) (.const (.bool true)) (.tmp 174),none⟩,⟨(some 176),.mv (.tmp 175),none⟩,⟨(some 177),.mv (.tmp 3),some (176,false)⟩,⟨(some 178),.mv (.tmp 11),some (176,false)⟩,⟨(some 179),.mkSlice 2 1 [(.int .u8 0)] [(0,1,(.const (.int .u8 1))),(1,1,(.const (.int .u8 2)))],some (176,false)⟩,⟨(some 180),.call 87 [(.tmp 177),(.tmp 178),(.const (.int .i64 6)),(.tmp 179)],some (176,false)⟩,⟨(some 181),.bin .neq (.tmp 180) (.const (.int .i64 0)),some (176,false)⟩,⟨(some 182),.pick (.tmp 176) (.const (.bool true)) (.tmp 181),none⟩,⟨(some 183),.mv (.tmp 182),none⟩,⟨(some 184),.mv (.tmp 3),some (183,false)⟩,⟨(some 185),.mv (.tmp 11),some (183,false)⟩,⟨(some 186),.mkSlice 2 1 [(.int .u8 0)] [(0,1,(.const (.int .u8 1))),(1,1,(.const (.int .u8 2)))],some (183,false)⟩,⟨(some 187),.call 87 [(.tmp 184),(.tmp 185),(.const (.int .i64 7)),(.tmp 186)],some (183,false)⟩,⟨(some 188),.bin .neq (.tmp 187) (.const (.int .i64 4)),some (183,false)⟩,⟨(some 189),.pick (.tmp 183) (.const (.bool true)) (.tmp 188),none⟩])
 (.cond (.tmp 189) (.seq (.region [⟨(some 0),.mv (.const (.bool false)),none⟩])
 .ret) .skip))
 (.seq (.region [⟨(some 191),.mv (.tmp 3),none⟩,⟨(some 192),.mv (.tmp 11),none⟩,⟨(some 193),.call 88 [(.tmp 191),(.tmp 192),(.const (.int .i64 5)),(.const (.int .i64 3))],none⟩,⟨(some 190),.mv (.tmp 193),none⟩,⟨(some 194),.extract (.tmp 190) 0,none⟩,⟨(some 195),.extract (.tmp 190) 1,none⟩,⟨(some 14),.mv (.tmp 194),none⟩,⟨(some 2),.mv (.tmp 195),none⟩])
 (.seq (.seq (.region [⟨(some 196),.mv (.tmp 2),none⟩,⟨(some 197),.bin .neq (.tmp 196) (.const (.int .i64 0)),none⟩,⟨(some 198),.mv (.tmp 197),none⟩,⟨(some 199),.mv (.tmp 14),some (198,false)⟩,⟨(some 200),.mkSlice 3 1 [(.int .u8 0)] [(0,1,(.const (.int .u8 0))),(1,1,(.const (.int .u8 1))),(2,1,(.const (.int .u8 2)))],some (198,false)⟩,⟨(some 201),.call 45 [(.tmp 199),(.tmp 200)],some (198,false)⟩,⟨(some 202),.not (.tmp 201),some (198,false)⟩,⟨(some 203),.pick (.tmp 198) (.const (.bool true)) (.tmp 202),none⟩,⟨(some 204),.mv (.tmp 203),none⟩,⟨(some 205),.mv (.tmp 3),some (204,false)⟩,⟨(some 206),.mv (.tmp 10),some (204,false)⟩,⟨(some 207),.mv (.tmp 10),some (204,false)⟩,⟨(some 208),.call 84 [(.tmp 205),(.tmp 206),(.const (.int .i64 0)),(.tmp 207)],some (204,false)⟩,⟨(some 209),.bin .neq (.tmp 208) (.const (.int .i64 0)),some (204,false)⟩,⟨(some 210),.pick (.tmp 204) (.const (.bool true)) (.tmp 209),none⟩,⟨(some 211),.mv (.tmp 210),none⟩,⟨(some 212),.mv (.tmp 3),some (211,false)⟩,⟨(some 213),.mv (.tmp 10),some (211,false)⟩,⟨(some 214),.mkSlice 1 1 [(.int .u64 0)] [(0,1,(.tmp 213))],some (211,false)⟩,⟨(some 215),.call 86 [(.tmp 212),(.tmp 214)],some (211,false)⟩,⟨(some 216),.not (.tmp 215),some (211,false)⟩,⟨(some 217),.pick (.tmp 211) (.const (.bool true)) (.tmp 216),none⟩])
 (.cond (.tmp 217) (.seq (.region [⟨(some 0),.mv (.const (.bool false)),none⟩])
 .ret) .skip))
 (.seq (.region [⟨(some 219),.mv (.tmp 3),none⟩,⟨(some 220),.mv (.tmp 10),none⟩,⟨(some 221),.call 89 [(.tmp 219),(.tmp 220),(.const (.int .i64 0))],none⟩,⟨(some 218),.mv (.tmp 221),none⟩,⟨(some 222),.extract (.tmp 218) 0,none⟩,⟨(some 223),.extract (.tmp 218) 1,none⟩,⟨(some 15),.mv (.tmp 222),none⟩,⟨(some 2),.mv (.tmp 223),none⟩])
 (.seq (.region [⟨(some 225),.mv (.tmp 3),none⟩,⟨(some 226),.mv (.tmp 10),none⟩,⟨(some 227),.call 83 [(.tmp 225),(.tmp 226)],none⟩,⟨(some 224),.mv (.tmp 227),none⟩,⟨(some 228),.extract (.tmp 224) 0,none⟩,⟨(some 229),.extract (.tmp 224) 1,none⟩,⟨(some 13),.mv (.tmp 228),none⟩,⟨(some 5),.mv (.tmp 229),none⟩])
 (.seq (.seq (.region [⟨(some 230),.mv (.tmp 2),none⟩,⟨(some 231),.bin .neq (.tmp 230) (.const (.int .i64 0)),none⟩,⟨(some 232),.mv (.tmp 231),none⟩,⟨(some 233),.mv (.tmp 15),some (232,false)⟩,⟨(some 234),.mv (.tmp 10),some (232,false)⟩,⟨(some 235),.bin .neq (.tmp 233) (.tmp 234),some (232,false)⟩,⟨(some 236),.pick (.tmp 232) (.const (.bool true)) (.tmp 235),none⟩,⟨(some 237),.mv (.tmp 236),none⟩,⟨(some 238),.mv (.tmp 5),some (237,false)⟩,⟨(some 239),.bin .neq (.tmp 238) (.const (.int .i64 0)),some (237,false)⟩,⟨(some 240),.pick (.tmp 237) (.const (.bool true)) (.tmp 239),none⟩,⟨(some 241),.mv (.tmp 240),none⟩,⟨(some 242),.mv (.tmp 13),some (241,false)⟩,⟨(some 243),.bin .neq (.tmp 242) (.const (.int .i64 2)),some (241,false)⟩,⟨(some 244),.pick (.tmp 241) (.const (.bool true)) (.tmp 243),none⟩,⟨(some 245),.mv (.tmp 244),none⟩,⟨(some 246),.mv (.tmp 3),some (245,false)⟩,⟨(some 247),.mv (.tmp 10),some (245,false)⟩,⟨(some 248),.call 85 [(.tmp 246),(.tmp 247)],some (245,false)⟩,⟨(some 249),.bin .neq (.tmp 248) (.const (.int .i64 0)),some (245,false)⟩,⟨(some 250),.pick (.tmp 245) (.const (.bool true)) (.tmp 249),none⟩,⟨(some 251),.mv (.tmp 250),none⟩,⟨(some 252),.mv (.tmp 3),some (251,false)⟩,⟨(some 253),.mv (.tmp 10),some (251,false)⟩,⟨(some 254),.mkSlice 1 1 [(.int .u64 0)] [(0,1,(.tmp 253))],some (251,false)⟩,⟨(some 255),.call 86 [(.tmp 252),(.tmp 254)],some (251,false)⟩,⟨(some 256),.not (.tmp 255),some (251,false)⟩,⟨(some 257),.pick (.tmp 251) (.const (.bool true)) (.tmp 256),none⟩])
 (.cond (.tmp 257) (.seq (.region [⟨(some 0),.mv (.const (.bool false)),none⟩])
 .ret) .skip))
 (.seq (.region [⟨(some 258),.mv (.tmp 3),none⟩,⟨(some 259),.call 90 [(.tmp 258)],none⟩,⟨(some 16),.alloc [(.int .i64 0),(.slice none 0 0),(.int .u64 0)],none⟩,⟨none,.store 3 (.tmp 16) (.tmp 259),none⟩])
 (.seq (.seq (.region [⟨(some 260),.faddr 0 (.tmp 16),none⟩,⟨(some 261),.load false 1 (.tmp 260),none⟩,⟨(some 262),.bin .neq (.tmp 261) (.const (.int .i64 1)),none⟩,⟨(some 263),.mv (.tmp 262),none⟩,⟨(some 264),.faddr 2 (.tmp 16),some (263,false)⟩,⟨(some 265),.load false 1 (.tmp 264),some (263,false)⟩,⟨(some 266),.bin .neq (.tmp 265) (.const (.int .u64 16)),some (263,false)⟩,⟨(some 267),.pick (.tmp 263) (.const (.bool true)) (.tmp 266),none⟩,⟨(some 268),.mv (.tmp 267),none⟩,⟨(some 269),.faddr 1 (.tmp 16),some (268,false)⟩,⟨(some 270),.load false 1 (.tmp 269),some (268,false)⟩,⟨(some 271),.lenS (.tmp 270),some (268,false)⟩,⟨(some 272),.bin .neq (.tmp 271) (.const (.int .i64 0)),some (268,false)⟩,⟨(some 273),.pick (.tmp 268) (.const (.bool true)) (.tmp 272),none⟩,⟨(some 274),.mv (.tmp 273),none⟩,⟨(some 275),.mv (.tmp 3),some (274,false)⟩,⟨(some 276),.call 86 [(.tmp 275),(.const (.slice none 0 0))],some (274,false)⟩,⟨(some 277),.not (.tmp 276),some (274,false)⟩,⟨(some 278),.pick (.tmp 274) (.const (.bool true)) (.tmp 277),none⟩])
 (.cond (.tmp 278) (.seq (.region [⟨(some 0),.mv (.const (.bool false)),none⟩])
 .ret) .skip))
 (.seq (.region [⟨(some 280),.mv (.tmp 3),none⟩,⟨(some 281),.call 82 [(.tmp 280),(.const (.int .i64 1)),(.const (.int .i64 0)),(.const (.bool false))],none⟩,⟨(some 279),.mv (.tmp 281),none⟩,⟨(some 282),.extract (.tmp 279) 0,none⟩,⟨(some 283),.extract (.tmp 279) 1,none⟩,⟨(some 10),.mv (.tmp 282),none⟩,⟨(some 2),.mv (.tmp 283),none⟩])
 (.seq (.region [⟨(some 284),.mv (.tmp 2),none⟩,⟨(some 285),.bin .eql (.tmp 284) (.const (.int .i64 0)),none⟩,⟨(some 286),.mv (.tmp 285),none⟩,⟨(some 287),.mv (.tmp 10),some (286,true)⟩,⟨(some 288),.bin .eql (.tmp 287) (.const (.int .u64 65536)),some (286,true)⟩,⟨(some 289),.pick (.tmp 286) (.tmp 288) (.const (.bool false)),none⟩,⟨(some 290),.mv (.tmp 289),none⟩,⟨(some 291),.mv (.tmp 3),some (290,true)⟩,⟨(some 292),.mv (.tmp 10),some (290,true)⟩,⟨(some 293),.call 91 [(.tmp 291),(.tmp 292)],some (290,true)⟩,⟨(some 294),.bin .eql (.tmp 293) (.const (.int .i64 0)),some (290,true)⟩,⟨(some 295),.pick (.tmp 290) (.tmp 294) (.const (.bool false)),none⟩,⟨(some 296),.mv (.tmp 295),none⟩,⟨(some 297),.mv (.tmp 3),some (296,true)⟩,⟨(some 298),.mv (.tmp 10),some (296,true)⟩,⟨(some 299),.call 85 [(.tmp 297),(.tmp 298)],some (296,true)⟩,⟨(some 300),.bin .eql (.tmp 299) (.const (.int .i64 0)),some (296,true)⟩,⟨(some 301),.pick (.tmp 296) (.tmp 300) (.const (.bool false)),none⟩,⟨(some 302),.mv (.tmp 301),none⟩,⟨(some 303),.mv (.tmp 3),some (302,true)⟩,⟨(some 304),.mv (.tmp 10),some (302,true)⟩,⟨(some 305),.call 85 [(.tmp 303),(.tmp 304)],some (302,true)⟩,⟨(some 306),.bin .eql (.tmp 305) (.const (.int .i64 0)),some (302,true)⟩,⟨(some 307),.pick (.tmp 302) (.tmp 306) (.const (.bool false)),none⟩,⟨(some 308),.mv (.tmp 307),none⟩,⟨(some 309),.mv (.tmp 3),some (308,true)⟩,⟨(some 310),.call 86 [(.tmp 309),(.const (.slice none 0 0))],some (308,true)⟩,⟨(some 311),.pick (.tmp 308) (.tmp 310) (.const (.bool false)),none⟩,⟨(some 312),.mv (.tmp 311),none⟩,⟨(some 313),.mv (.tmp 1),some (312,true)⟩,⟨(some 314),.call 21 [(.tmp 313)],some (312,true)⟩,⟨(some 315),.part false 1 1 (.tmp 314),some (312,true)⟩,⟨(some 316),.bin .eql (.tmp 315) (.const (.int .u64 0)),some (312,true)⟩,⟨(some 317),.pick (.tmp 312) (.tmp 316) (.const (.bool false)),none⟩,⟨(some 0),.mv (.tmp 317),none⟩])
 .ret)))))))))))))))))))))))))))⟩
theorem k9 : compFn Tryz.prog Tryz.f9 = some c9 := by kernel_rfl
-- croft/malloc.New
def c12 : AFunc := ⟨[.tmp 2,.tmp 3],(.seq (.region [⟨(some 1),.box 3 (.tmp 0),none⟩,⟨(some 2),.mv (.const (.ptr none)),none⟩,⟨(some 3),.mv (.const (.int .i64 0)),none⟩])
 (.seq (.region [⟨(some 7),.load true 3 (.tmp 1),none⟩,⟨(some 8),.call 104 [(.tmp 7)],none⟩,⟨(some 6),.mv (.tmp 8),none⟩,⟨(some 9),.extract (.tmp 6) 0,none⟩,⟨(some 10),.extract (.tmp 6) 1,none⟩,⟨(some 4),.mv (.tmp 9),none⟩,⟨(some 5),.mv (.tmp 10),none⟩])
 (.seq (.seq (.region [⟨(some 11),.mv (.tmp 5),none⟩,⟨(some 12),.bin .neq (.tmp 11) (.const (.int .i64 0)),none⟩])
 (.cond (.tmp 12) (.seq (.region [⟨(some 13),.mv (.tmp 5),none⟩,⟨(some 2),.mv (.const (.ptr none)),none⟩,⟨(some 3),.mv (.tmp 13),none⟩])
 .ret) .skip))
 (.seq (.draw [⟨⟨(some 14),.load true 3 (.tmp 1),none⟩,0,1⟩,⟨⟨(some 15),.mv (.tmp 4),none⟩,0,1⟩,⟨⟨(some 16),.mv (.tmp 4),none⟩,0,0⟩,⟨⟨(some 17),.call 105 [(.tmp 16)],none⟩,0,1⟩,⟨⟨(some 18),.build [(.int .i32 0),(.int .u32 0),(.int .u64 0),(.int .i64 0),(.int .i64 0),(.ptr none),(.ptr none)] [(2,3,(.tmp 14)),(5,1,(.tmp 15)),(6,1,(.tmp 17))],none⟩,1,1⟩,⟨⟨(some 19),.box 7 (.tmp 18),none⟩,1,2⟩,⟨⟨(some 2),.mv (.tmp 19),none⟩,2,2⟩,⟨⟨(some 3),.mv (.const (.int .i64 0)),none⟩,2,2⟩])
 .ret))))⟩
theorem k12 : compFn Tryz.prog Tryz.f12 = some c12 := by kernel_rfl
-- (*croft/malloc.Heap).Stats
def c21 : AFunc := ⟨[.cell 2 true 4],(.seq (.region [⟨(some 2),.alloc [(.int .u64 0),(.int .u64 0),(.int .i64 0),(.int .i64 0)],none⟩])
 (.seq (.region [⟨(some 10),.mv (.tmp 0),none⟩,⟨(some 11),.nilCheck (.tmp 10),none⟩,⟨(some 12),.faddr 0 (.tmp 11),none⟩,⟨(some 13),.call 111 [(.tmp 12)],none⟩])
 (.seq (.region [⟨(some 14),.mv (.tmp 0),none⟩,⟨(some 15),.nilCheck (.tmp 14),none⟩,⟨(some 16),.faddr 0 (.tmp 15),none⟩,⟨none,.defer 112 [(.tmp 16)],none⟩])
 (.seq (.draw [⟨⟨(some 17),.mv (.tmp 0),none⟩,0,0⟩,⟨⟨(some 18),.nilCheck (.tmp 17),none⟩,0,0⟩,⟨⟨(some 19),.faddr 5 (.tmp 18),none⟩,0,0⟩,⟨⟨(some 20),.load false 1 (.tmp 19),none⟩,0,0⟩,⟨⟨(some 21),.nilCheck (.tmp 20),none⟩,0,0⟩,⟨⟨(some 22),.faddr 0 (.tmp 21),none⟩,0,0⟩,⟨⟨(some 23),.call 113 [(.tmp 22)],none⟩,0,1⟩,⟨⟨(some 24),.call 114 [(.tmp 23)],none⟩,1,2⟩,⟨⟨(some 25),.mv (.tmp 0),none⟩,0,2⟩,⟨⟨(some 26),.nilCheck (.tmp 25),none⟩,0,2⟩,⟨⟨(some 27),.faddr 2 (.tmp 26),none⟩,0,2⟩,⟨⟨(some 28),.faddr 0 (.tmp 27),none⟩,0,2⟩,⟨⟨(some 29),.load false 1 (.tmp 28),none⟩,0,2⟩,⟨⟨(some 30),.bin .sub (.tmp 24) (.tmp 29),none⟩,2,2⟩,⟨⟨(some 31),.build [(.int .u64 0),(.int .u64 0),(.int .i64 0),(.int .i64 0)] [(0,1,(.tmp 30))],none⟩,2,2⟩,⟨⟨(some 3),.alloc [(.int .u64 0),(.int .u64 0),(.int .i64 0),(.int .i64 0)],none⟩,0,2⟩,⟨⟨none,.store 4 (.tmp 3) (.tmp 31),none⟩,2,3⟩])
 (.seq (.seq (.region [⟨(some 32),.mv (.tmp 0),none⟩,⟨(some 33),.call 115 [(.tmp 32)],none⟩,⟨(some 34),.lenS (.tmp 33),none⟩,⟨(some 35),.mv (.const (.int .i64 0)),none⟩])
 (.block 0 (.loop (.seq (.region [⟨(some 36),.bin .lss (.tmp 35) (.tmp 34),none⟩])
 (.seq (.cond (.tmp 36) .skip (.exit 0))
 (.seq (.block 1 (.seq (.region [⟨(some 37),.iaddrS 2 (.tmp 33) (.tmp 35),none⟩,⟨(some 38),.load true 2 (.tmp 37),none⟩,⟨(some 5),.alloc [(.int .u64 0),(.int .u64 0)],none⟩,⟨none,.store 2 (.tmp 5) (.tmp 38),none⟩])
 (.seq (.region [⟨(some 39),.faddr 1 (.tmp 3),none⟩,⟨(some 40),.load false 1 (.tmp 39),none⟩,⟨(some 41),.faddr 1 (.tmp 5),none⟩,⟨(some 42),.load false 1 (.tmp 41),none⟩,⟨(some 43),.bin .add (.tmp 40) (.tmp 42),none⟩,⟨(some 44),.faddr 1 (.tmp 3),none⟩,⟨none,.store 1 (.tmp 44) (.tmp 43),none⟩])
 (.region [⟨(some 45),.faddr 2 (.tmp 3),none⟩,⟨(some 46),.load false 1 (.tmp 45),none⟩,⟨(some 47),.bin .add (.tmp 46) (.const (.int .i64 1)),none⟩,⟨(some 48),.faddr 2 (.tmp 3),none⟩,⟨none,.store 1 (.tmp 48) (.tmp 47),none⟩]))))
 (.region [⟨(some 49),.bin .add (.tmp 35) (.const (.int .i64 1)),none⟩,⟨(some 35),.mv (.tmp 49),none⟩])))))))
 (.seq (.region [⟨(some 50),.mv (.tmp 0),none⟩,⟨(some 51),.nilCheck (.tmp 50),none⟩,⟨(some 52),.faddr 5 (.tmp 51),none⟩,⟨(some 53),.load false 1 (.tmp 52),none⟩,⟨(some 54),.nilCheck (.tmp 53),none⟩,⟨(some 55),.faddr 0 (.tmp 54),none⟩,⟨(some 56),.call 116 [(.tmp 55)],none⟩,⟨(some 6),.mv (.tmp 56),none⟩])
 (.seq (.seq (.region [⟨(some 57),.mv (.tmp 6),none⟩,⟨(some 58),.call 117 [(.tmp 57)],none⟩,⟨(some 59),.mv (.const (.int .i64 0)),none⟩])
 (.block 2 (.loop (.seq (.region [⟨(some 60),.bin .lss (.tmp 59) (.tmp 58),none⟩])
 (.seq (.cond (.tmp 60) .skip (.exit 2))
 (.seq (.block 3 (.seq (.region [⟨(some 61),.mv (.tmp 59),none⟩,⟨(some 7),.mv (.tmp 61),none⟩])
 (.seq (.region [⟨(some 63),.mv (.tmp 6),none⟩,⟨(some 64),.mv (.tmp 7),none⟩,⟨(some 65),.call 118 [(.tmp 63),(.tmp 64)],none⟩,⟨(some 62),.mv (.tmp 65),none⟩,⟨(some 66),.extract (.tmp 62) 0,none⟩,⟨(some 67),.extract (.tmp 62) 1,none⟩,⟨(some 8),.alloc [(.int .i64 0),(.int .i64 0),(.int .i64 0),(.int .i64 0),(.int .i64 0),(.int .i64 0),(.int .i64 0),(.int .u64 0),(.int .u64 0),(.int .u64 0),(.int .u64 0)],none⟩,⟨none,.store 11 (.tmp 8) (.tmp 66),none⟩,⟨(some 9),.mv (.tmp 67),none⟩])
 (.seq (.region [⟨(some 68),.faddr 0 (.tmp 8),none⟩,⟨(some 69),.load false 1 (.tmp 68),none⟩,⟨(some 70),.bin .eql (.tmp 69) (.const (.int .i64 0)),none⟩,⟨(some 71),.mv (.tmp 70),none⟩,⟨(some 72),.faddr 0 (.tmp 8),some (71,false)⟩,⟨(some 73),.load false 1 (.tmp 72),some (71,false)⟩,⟨(some 74),.bin .eql (.tmp 73) (.const (.int .i64 1)),some (71,false)⟩,⟨(some 75),.pick (.tmp 71) (.const (.bool true)) (.tmp 74),none⟩])
 (.cond (.tmp 75) (.region [⟨(some 76),.faddr 3 (.tmp 3),none⟩,⟨(some 77),.load false 1 (.tmp 76),none⟩,⟨(some 78),.bin .add (.tmp 77) (.const (.int .i64 1)),none⟩,⟨(some 79),.faddr 3 (.tmp 3),none⟩,⟨none,.store 1 (.tmp 79) (.tmp 78),none⟩]) .skip)))))
 (.region [⟨(some 80),.bin .add (.tmp 59) (.const (.int .i64 1)),none⟩,⟨(some 59),.mv (.tmp 80),none⟩])))))))
 (.seq (.region [⟨(some 81),.load true 4 (.tmp 3),none⟩,⟨none,.store 4 (.tmp 2) (.tmp 81),none⟩])
 .ret))))))))⟩
theorem k21 : compFn Tryz.prog Tryz.f21 = some c21 := by kernel_rfl
-- (*croft/malloc.Heap).UsableSize
def c42 : AFunc := ⟨[.tmp 4,.tmp 5],(.seq (.region [⟨(some 4),.mv (.const (.int .u64 0)),none⟩,⟨(some 5),.mv (.const (.int .i64 0)),none⟩])
 (.seq (.region [⟨(some 8),.mv (.tmp 0),none⟩,⟨(some 9),.nilCheck (.tmp 8),none⟩,⟨(some 10),.faddr 0 (.tmp 9),none⟩,⟨(some 11),.call 111 [(.tmp 10)],none⟩])
 (.seq (.region [⟨(some 12),.mv (.tmp 0),none⟩,⟨(some 13),.nilCheck (.tmp 12),none⟩,⟨(some 14),.faddr 0 (.tmp 13),none⟩,⟨none,.defer 112 [(.tmp 14)],none⟩])
 (.seq (.region [⟨(some 16),.mv (.tmp 0),none⟩,⟨(some 17),.mv (.tmp 1),none⟩,⟨(some 18),.call 147 [(.tmp 16),(.tmp 17)],none⟩,⟨(some 15),.mv (.tmp 18),none⟩,⟨(some 19),.extract (.tmp 15) 0,none⟩,⟨(some 20),.extract (.tmp 15) 1,none⟩,⟨(some 6),.alloc [(.int .u64 0),(.int .u64 0)],none⟩,⟨none,.store 2 (.tmp 6) (.tmp 19),none⟩,⟨(some 7),.mv (.tmp 20),none⟩])
 (.seq (.region [⟨(some 21),.faddr 1 (.tmp 6),none⟩,⟨(some 22),.load false 1 (.tmp 21),none⟩,⟨(some 23),.mv (.tmp 7),none⟩,⟨(some 4),.mv (.tmp 22),none⟩,⟨(some 5),.mv (.tmp 23),none⟩])
 .ret)))))⟩
theorem k42 : compFn Tryz.prog Tryz.f42 = some c42 := by kernel_rfl
-- (*croft/malloc.Heap).Read
def c44 : AFunc := ⟨[.tmp 6,.tmp 7],(.seq (.region [⟨(some 6),.mv (.const (.slice none 0 0)),none⟩,⟨(some 7),.mv (.const (.int .i64 0)),none⟩])
 (.seq (.region [⟨(some 8),.mv (.tmp 0),none⟩,⟨(some 9),.nilCheck (.tmp 8),none⟩,⟨(some 10),.faddr 0 (.tmp 9),none⟩,⟨(some 11),.call 111 [(.tmp 10)],none⟩])
 (.seq (.region [⟨(some 12),.mv (.tmp 0),none⟩,⟨(some 13),.nilCheck (.tmp 12),none⟩,⟨(some 14),.faddr 0 (.tmp 13),none⟩,⟨none,.defer 112 [(.tmp 14)],none⟩])
 (.seq (.seq (.region [⟨(some 15),.mv (.tmp 2),none⟩,⟨(some 16),.bin .eql (.tmp 15) (.const (.int .u64 0)),none⟩])
 (.cond (.tmp 16) (.seq (.region [⟨(some 6),.mv (.const (.slice none 0 0)),none⟩,⟨(some 7),.mv (.const (.int .i64 0)),none⟩])
 .ret) .skip))
 (.seq (.seq (.region [⟨(some 17),.mv (.tmp 0),none⟩,⟨(some 18),.mv (.tmp 1),none⟩,⟨(some 19),.mv (.tmp 2),none⟩,⟨(some 20),.call 148 [(.tmp 17),(.tmp 18),(.tmp 19)],none⟩,⟨(some 21),.not (.tmp 20),none⟩])
 (.cond (.tmp 21) (.seq (.region [⟨(some 6),.mv (.const (.slice none 0 0)),none⟩,⟨(some 7),.mv (.const (.int .i64 4)),none⟩])
 .ret) .skip))
 (.seq (.region [⟨(some 22),.mv (.tmp 0),none⟩,⟨(some 23),.nilCheck (.tmp 22),none⟩,⟨(some 24),.faddr 5 (.tmp 23),none⟩,⟨(some 25),.load false 1 (.tmp 24),none⟩,⟨(some 26),.nilCheck (.tmp 25),none⟩,⟨(some 27),.faddr 0 (.tmp 26),none⟩,⟨(some 28),.call 113 [(.tmp 27)],none⟩,⟨(some 29),.mv (.tmp 1),none⟩,⟨(some 30),.mv (.tmp 2),none⟩,⟨(some 31),.call 149 [(.tmp 28),(.tmp 29),(.tmp 30)],none⟩,⟨(some 32),.extract (.tmp 31) 0,none⟩,⟨(some 33),.extract (.tmp 31) 1,none⟩,⟨(some 6),.mv (.tmp 32),none⟩,⟨(some 7),.mv (.tmp 33),none⟩])
 .ret))))))⟩
theorem k44 : compFn Tryz.prog Tryz.f44 = some c44 := by kernel_rfl
-- croft/croftref8.Same
def c45 : AFunc := ⟨[.tmp 4],(.seq (.region [⟨(some 4),.mv (.const (.bool false)),none⟩])
 (.seq (.seq (.region [⟨(some 6),.mv (.tmp 0),none⟩,⟨(some 7),.lenS (.tmp 6),none⟩,⟨(some 8),.mv (.tmp 1),none⟩,⟨(some 9),.lenS (.tmp 8),none⟩,⟨(some 10),.bin .neq (.tmp 7) (.tmp 9),none⟩])
 (.cond (.tmp 10) (.seq (.region [⟨(some 4),.mv (.const (.bool false)),none⟩])
 .ret) .skip))
 (.seq (.seq (.region [⟨(some 5),.mv (.const (.int .i64 0)),none⟩])
 (.block 0 (.loop (.seq (.seq (.region [⟨(some 11),.mv (.tmp 5),none⟩,⟨(some 12),.mv (.tmp 0),none⟩,⟨(some 13),.lenS (.tmp 12),none⟩,⟨(some 14),.bin .lss (.tmp 11) (.tmp 13),none⟩])
 (.cond (.tmp 14) .skip (.exit 0)))
 (.seq (.block 1 (.seq (.draw [⟨⟨(some 17),.mv (.tmp 0),none⟩,0,0⟩,⟨⟨(some 18),.mv (.tmp 5),none⟩,0,0⟩,⟨⟨(some 19),.iaddrS 1 (.tmp 17) (.tmp 18),none⟩,0,0⟩,⟨⟨(some 20),.load false 1 (.tmp 19),none⟩,0,0⟩,⟨⟨(some 21),.mv (.tmp 1),none⟩,0,0⟩,⟨⟨(some 22),.mv (.tmp 5),none⟩,0,0⟩,⟨⟨(some 23),.iaddrS 1 (.tmp 21) (.tmp 22),none⟩,0,0⟩,⟨⟨(some 24),.load false 1 (.tmp 23),none⟩,0,0⟩,⟨⟨(some 25),.bin .neq (.tmp 20) (.tmp 24),none⟩,0,0⟩])
 (.cond (.tmp 25) (.seq (.region [⟨(some 4),.mv (.const (.bool false)),none⟩])
 .ret) .skip)))
 (.region [⟨(some 15),.mv (.tmp 5),none⟩,⟨(some 16),.bin .add (.tmp 15) (.const (.int .i64 1)),none⟩,⟨(some 5),.mv (.tmp 16),none⟩]))))))
 (.seq (.region [⟨(some 4),.mv (.const (.bool true)),none⟩])
 .ret))))⟩
theorem k45 : compFn Tryz.prog Tryz.f45 = some c45 := by kernel_rfl
-- croft/croftlaw18.awake
def c80 : AFunc := ⟨[.tmp 0],(.seq (.region [⟨(some 0),.mv (.const (.bool false)),none⟩])
 (.seq (.region [⟨(some 9),.build [(.int .u64 0),(.int .i64 0),(.int .i64 0)] [(0,1,(.const (.int .u64 65536))),(1,1,(.const (.int .i64 1))),(2,1,(.const (.int .i64 0)))],none⟩,⟨(some 10),.call 12 [(.tmp 9)],none⟩,⟨(some 8),.mv (.tmp 10),none⟩,⟨(some 11),.extract (.tmp 8) 0,none⟩,⟨(some 12),.extract (.tmp 8) 1,none⟩,⟨(some 1),.mv (.tmp 11),none⟩,⟨(some 2),.mv (.tmp 12),none⟩])
 (.seq (.seq (.region [⟨(some 13),.mv (.tmp 2),none⟩,⟨(some 14),.bin .neq (.tmp 13) (.const (.int .i64 0)),none⟩,⟨(some 15),.mv (.tmp 14),none⟩,⟨(some 16),.mv (.tmp 1),some (15,false)⟩,⟨(some 17),.eq1 false .ptr (.tmp 16) (.const (.ptr none)),some (15,false)⟩,⟨(some 18),.pick (.tmp 15) (.const (.bool true)) (.tmp 17),none⟩])
 (.cond (.tmp 18) (.seq (.region [⟨(some 0),.mv (.const (.bool false)),none⟩])
 .ret) .skip))
 (.seq (.region [⟨(some 19),.mv (.tmp 1),none⟩,⟨(some 20),.call 81 [(.tmp 19)],none⟩,⟨(some 3),.mv (.tmp 20),none⟩])
 (.seq (.seq (.region [⟨(some 21),.mv (.tmp 3),none⟩,⟨(some 22),.eq1 false .ptr (.tmp 21) (.const (.ptr none)),none⟩])
 (.cond (.tmp 22) (.seq (.region [⟨(some 0),.mv (.const (.bool false)),none⟩])
 .ret) .skip))
 (.seq (.region [⟨(some 24),.mv (.tmp 3),none⟩,⟨(some 25),.call 82 [(.tmp 24),(.const (.int .i64 1)),(.const (.int .i64 8)),(.const (.bool false))],none⟩,⟨(some 23),.mv (.tmp 25),none⟩,⟨(some 26),.extract (.tmp 23) 0,none⟩,⟨(some 27),.extract (.tmp 23) 1,none⟩,⟨(some 4),.mv (.tmp 26),none⟩,⟨(some 2),.mv (.tmp 27),none⟩])
 (.seq (.region [⟨(some 29),.mv (.tmp 3),none⟩,⟨(some 30),.mv (.tmp 4),none⟩,⟨(some 31),.call 83 [(.tmp 29),(.tmp 30)],none⟩,⟨(some 28),.mv (.tmp 31),none⟩,⟨(some 32),.extract (.tmp 28) 0,none⟩,⟨(some 33),.extract (.tmp 28) 1,none⟩,⟨(some 5),.mv (.tmp 32),none⟩,⟨(some 6),.mv (.tmp 33),none⟩])
 (.seq (.region [⟨(some 34),.mv (.tmp 3),none⟩,⟨(some 35),.call 177 [(.tmp 34)],none⟩,⟨(some 7),.mv (.tmp 35),none⟩])
 (.seq (.region [⟨(some 36),.mv (.tmp 2),none⟩,⟨(some 37),.bin .eql (.tmp 36) (.const (.int .i64 0)),none⟩,⟨(some 38),.mv (.tmp 37),none⟩,⟨(some 39),.mv (.tmp 6),some (38,true)⟩,⟨(some 40),.bin .eql (.tmp 39) (.const (.int .i64 0)),some (38,true)⟩,⟨(some 41),.pick (.tmp 38) (.tmp 40) (.const (.bool false)),none⟩,⟨(some 42),.mv (.tmp 41),none⟩,⟨(some 43),.mv (.tmp 5),some (42,true)⟩,⟨(some 44),.bin .eql (.tmp 43) (.const (.int .i64 1)),some (42,true)⟩,⟨(some 45),.pick (.tmp 42) (.tmp 44) (.const (.bool false)),none⟩,⟨(some 46),.mv (.tmp 45),none⟩,⟨(some 47),.mv (.tmp 7),some (46,true)⟩,⟨(some 48),.lenS (.tmp 47),some (46,true)⟩,⟨(some 49),.bin .eql (.tmp 48) (.const (.int .i64 1)),some (46,true)⟩,⟨(some 50),.pick (.tmp 46) (.tmp 49) (.const (.bool false)),none⟩,⟨(some 51),.mv (.tmp 50),none⟩,⟨(some 52),.mv (.tmp 7),some (51,true)⟩,⟨(some 53),.iaddrS 1 (.tmp 52) (.const (.int .i64 0)),some (51,true)⟩,⟨(some 54),.load false 1 (.tmp 53),some (51,true)⟩,⟨(some 55),.mv (.tmp 4),some (51,true)⟩,⟨(some 56),.bin .eql (.tmp 54) (.tmp 55),some (51,true)⟩,⟨(some 57),.pick (.tmp 51) (.tmp 56) (.const (.bool false)),none⟩,⟨(some 0),.mv (.tmp 57),none⟩])
 .ret)))))))))⟩
theorem k80 : compFn Tryz.prog Tryz.f80 = some c80 := by kernel_rfl
-- croft/count.New
def c81 : AFunc := ⟨[.tmp 2],(.seq (.region [⟨(some 2),.mv (.const (.ptr none)),none⟩])
 (.seq (.region [⟨(some 3),.mv (.tmp 0),none⟩,⟨(some 4),.makeMap,none⟩,⟨(some 5),.build [(.ptr none),(.map none),(.int .i64 0)] [(0,1,(.tmp 3)),(1,1,(.tmp 4))],none⟩,⟨(some 6),.box 3 (.tmp 5),none⟩,⟨(some 2),.mv (.tmp 6),none⟩])
 .ret))⟩
theorem k81 : compFn Tryz.prog Tryz.f81 = some c81 := by kernel_rfl
-- (*croft/count.Store).Make
def c82 : AFunc := ⟨[.tmp 8,.tmp 9],(.seq (.region [⟨(some 8),.mv (.const (.int .u64 0)),none⟩,⟨(some 9),.mv (.const (.int .i64 0)),none⟩])
 (.seq (.seq (.region [⟨(some 12),.mv (.tmp 1),none⟩,⟨(some 13),.bin .lss (.tmp 12) (.const (.int .i64 0)),none⟩,⟨(some 14),.mv (.tmp 13),none⟩,⟨(some 15),.mv (.tmp 2),some (14,false)⟩,⟨(some 16),.bin .lss (.tmp 15) (.const (.int .i64 0)),some (14,false)⟩,⟨(some 17),.pick (.tmp 14) (.const (.bool true)) (.tmp 16),none⟩])
 (.cond (.tmp 17) (.seq (.region [⟨(some 8),.mv (.const (.int .u64 0)),none⟩,⟨(some 9),.mv (.const (.int .i64 1)),none⟩])
 .ret) .skip))
 (.seq (.seq (.region [⟨(some 18),.mv (.tmp 1),none⟩,⟨(some 19),.bin .gtr (.tmp 18) (.const (.int .i64 1048576)),none⟩])
 (.cond (.tmp 19) (.seq (.region [⟨(some 8),.mv (.const (.int .u64 0)),none⟩,⟨(some 9),.mv (.const (.int .i64 3)),none⟩])
 .ret) .skip))
 (.seq (.region [⟨(some 21),.mv (.tmp 0),none⟩,⟨(some 22),.nilCheck (.tmp 21),none⟩,⟨(some 23),.faddr 0 (.tmp 22),none⟩,⟨(some 24),.load false 1 (.tmp 23),none⟩,⟨(some 25),.mv (.tmp 1),none⟩,⟨(some 26),.conv .u64 (.tmp 25),none⟩,⟨(some 27),.bin .mul (.const (.int .u64 8)) (.tmp 26),none⟩,⟨(some 28),.mv (.tmp 2),none⟩,⟨(some 29),.conv .u64 (.tmp 28),none⟩,⟨(some 30),.bin .add (.tmp 27) (.tmp 29),none⟩,⟨(some 31),.mv (.tmp 3),none⟩,⟨(some 32),.call 162 [(.tmp 24),(.const (.int .u64 1)),(.tmp 30),(.tmp 31)],none⟩,⟨(some 20),.mv (.tmp 32),none⟩,⟨(some 33),.extract (.tmp 20) 0,none⟩,⟨(some 34),.extract (.tmp 20) 1,none⟩,⟨(some 10),.mv (.tmp 33),none⟩,⟨(some 11),.mv (.tmp 34),none⟩])
 (.seq (.seq (.region [⟨(some 35),.mv (.tmp 11),none⟩,⟨(some 36),.bin .neq (.tmp 35) (.const (.int .i64 0)),none⟩])
 (.cond (.tmp 36) (.seq (.region [⟨(some 37),.mv (.tmp 11),none⟩,⟨(some 8),.mv (.const (.int .u64 0)),none⟩,⟨(some 9),.mv (.tmp 37),none⟩])
 .ret) .skip))
 (.seq (.draw [⟨⟨(some 38),.mv (.tmp 0),none⟩,0,1⟩,⟨⟨(some 39),.nilCheck (.tmp 38),none⟩,0,1⟩,⟨⟨(some 40),.faddr 1 (.tmp 39),none⟩,0,1⟩,⟨⟨(some 41),.load false 1 (.tmp 40),none⟩,0,1⟩,⟨⟨(some 42),.mv (.tmp 10),none⟩,0,1⟩,⟨⟨(some 43),.mv (.tmp 0),none⟩,0,0⟩,⟨⟨(some 44),.nilCheck (.tmp 43),none⟩,0,0⟩,⟨⟨(some 45),.faddr 2 (.tmp 44),none⟩,0,0⟩,⟨⟨(some 46),.load false 1 (.tmp 45),none⟩,0,0⟩,⟨⟨(some 47),.mv (.tmp 1),none⟩,0,0⟩,⟨⟨(some 48),.mv (.tmp 2),none⟩,0,0⟩,⟨⟨(some 49),.build [(.int .i64 0),(.int .i64 0),(.int .i64 0),(.int .i64 0),(.int .i64 0)] [(0,1,(.tmp 46)),(1,1,(.tmp 47)),(2,1,(.tmp 48)),(3,1,(.const (.int .i64 1))),(4,1,(.const (.int .i64 1)))],none⟩,0,0⟩,⟨⟨(some 50),.box 5 (.tmp 49),none⟩,0,1⟩,⟨⟨none,.mapUpdate .int (.tmp 41) (.tmp 42) (.tmp 50),none⟩,1,2⟩])
 (.seq (.region [⟨(some 51),.mv (.tmp 0),none⟩,⟨(some 52),.nilCheck (.tmp 51),none⟩,⟨(some 53),.faddr 2 (.tmp 52),none⟩,⟨(some 54),.load false 1 (.tmp 53),none⟩,⟨(some 55),.bin .add (.tmp 54) (.const (.int .i64 1)),none⟩,⟨(some 56),.nilCheck (.tmp 51),none⟩,⟨(some 57),.faddr 2 (.tmp 56),none⟩,⟨none,.store 1 (.tmp 57) (.tmp 55),none⟩])
 (.seq (.region [⟨(some 58),.mv (.tmp 10),none⟩,⟨(some 8),.mv (.tmp 58),none⟩,⟨(some 9),.mv (.const (.int .i64 0)),none⟩])
 .ret))))))))⟩
theorem k82 : compFn Tryz.prog Tryz.f82 = some c82 := by kernel_rfl
-- (*croft/count.Store).Count
def c83 : AFunc := ⟨[.tmp 4,.tmp 5],(.seq (.region [⟨(some 4),.mv (.const (.int .i64 0)),none⟩,⟨(some 5),.mv (.const (.int .i64 0)),none⟩])
 (.seq (.region [⟨(some 9),.mv (.tmp 0),none⟩,⟨(some 10),.nilCheck (.tmp 9),none⟩,⟨(some 11),.faddr 1 (.tmp 10),none⟩,⟨(some 12),.load false 1 (.tmp 11),none⟩,⟨(some 13),.mv (.tmp 1),none⟩,⟨(some 14),.lookup .int (.ptr none) true (.tmp 12) (.tmp 13),none⟩,⟨(some 8),.mv (.tmp 14),none⟩,⟨(some 15),.extract (.tmp 8) 0,none⟩,⟨(some 16),.extract (.tmp 8) 1,none⟩,⟨(some 6),.mv (.tmp 15),none⟩,⟨(some 7),.mv (.tmp 16),none⟩])
 (.seq (.seq (.region [⟨(some 17),.mv (.tmp 7),none⟩,⟨(some 18),.not (.tmp 17),none⟩])
 (.cond (.tmp 18) (.seq (.region [⟨(some 4),.mv (.const (.int .i64 0)),none⟩,⟨(some 5),.mv (.const (.int .i64 1)),none⟩])
 .ret) .skip))
 (.seq (.region [⟨(some 19),.mv (.tmp 6),none⟩,⟨(some 20),.nilCheck (.tmp 19),none⟩,⟨(some 21),.faddr 4 (.tmp 20),none⟩,⟨(some 22),.load false 1 (.tmp 21),none⟩,⟨(some 4),.mv (.tmp 22),none⟩,⟨(some 5),.mv (.const (.int .i64 0)),none⟩])
 .ret))))⟩
theorem k83 : compFn Tryz.prog Tryz.f83 = some c83 := by kernel_rfl
-- (*croft/count.Store).Put
def c84 : AFunc := ⟨[.tmp 8],(.seq (.region [⟨(some 8),.mv (.const (.int .i64 0)),none⟩])
 (.seq (.region [⟨(some 16),.mv (.tmp 0),none⟩,⟨(some 17),.mv (.tmp 1),none⟩,⟨(some 18),.mv (.tmp 2),none⟩,⟨(some 19),.call 178 [(.tmp 16),(.tmp 17),(.tmp 18)],none⟩,⟨(some 15),.mv (.tmp 19),none⟩,⟨(some 20),.extract (.tmp 15) 0,none⟩,⟨(some 21),.extract (.tmp 15) 1,none⟩,⟨(some 9),.mv (.tmp 20),none⟩,⟨(some 10),.mv (.tmp 21),none⟩])
 (.seq (.region [⟨(some 23),.mv (.tmp 0),none⟩,⟨(some 24),.nilCheck (.tmp 23),none⟩,⟨(some 25),.faddr 1 (.tmp 24),none⟩,⟨(some 26),.load false 1 (.tmp 25),none⟩,⟨(some 27),.mv (.tmp 3),none⟩,⟨(some 28),.lookup .int (.ptr none) true (.tmp 26) (.tmp 27),none⟩,⟨(some 22),.mv (.tmp 28),none⟩,⟨(some 29),.extract (.tmp 22) 0,none⟩,⟨(some 30),.extract (.tmp 22) 1,none⟩,⟨(some 11),.mv (.tmp 29),none⟩,⟨(some 12),.mv (.tmp 30),none⟩])
 (.seq (.seq (.region [⟨(some 31),.mv (.tmp 10),none⟩,⟨(some 32),.not (.tmp 31),none⟩,⟨(some 33),.mv (.tmp 32),none⟩,⟨(some 34),.mv (.tmp 3),some (33,false)⟩,⟨(some 35),.bin .neq (.tmp 34) (.const (.int .u64 0)),some (33,false)⟩,⟨(some 36),.mv (.tmp 35),some (33,false)⟩,⟨(some 37),.mv (.tmp 12),some (36,true)⟩,⟨(some 38),.not (.tmp 37),some (36,true)⟩,⟨(some 39),.pick (.tmp 36) (.tmp 38) (.const (.bool false)),some (33,false)⟩,⟨(some 40),.pick (.tmp 33) (.const (.bool true)) (.tmp 39),none⟩])
 (.cond (.tmp 40) (.seq (.region [⟨(some 8),.mv (.const (.int .i64 1)),none⟩])
 .ret) .skip))
 (.seq (.seq (.region [⟨(some 41),.mv (.tmp 12),none⟩])
 (.cond (.tmp 41) (.region [⟨(some 42),.mv (.tmp 11),none⟩,⟨(some 43),.nilCheck (.tmp 42),none⟩,⟨(some 44),.faddr 4 (.tmp 43),none⟩,⟨(some 45),.load false 1 (.tmp 44),none⟩,⟨(some 46),.bin .add (.tmp 45) (.const (.int .i64 1)),none⟩,⟨(some 47),.nilCheck (.tmp 42),none⟩,⟨(some 48),.faddr 4 (.tmp 47),none⟩,⟨none,.store 1 (.tmp 48) (.tmp 46),none⟩]) .skip))
 (.seq (.region [⟨(some 50),.mv (.tmp 0),none⟩,⟨(some 51),.nilCheck (.tmp 50),none⟩,⟨(some 52),.faddr 0 (.tmp 51),none⟩,⟨(some 53),.load false 1 (.tmp 52),none⟩,⟨(some 54),.mv (.tmp 9),none⟩,⟨(some 55),.call 170 [(.tmp 53),(.tmp 54)],none⟩,⟨(some 49),.mv (.tmp 55),none⟩,⟨(some 56),.extract (.tmp 49) 0,none⟩,⟨(some 57),.extract (.tmp 49) 1,none⟩,⟨(some 13),.mv (.tmp 56),none⟩,⟨(some 14),.mv (.tmp 57),none⟩])
 (.seq (.region [⟨(some 58),.mv (.tmp 0),none⟩,⟨(some 59),.nilCheck (.tmp 58),none⟩,⟨(some 60),.faddr 0 (.tmp 59),none⟩,⟨(some 61),.load false 1 (.tmp 60),none⟩,⟨(some 62),.mv (.tmp 9),none⟩,⟨(some 63),.mv (.tmp 3),none⟩,⟨(some 64),.call 165 [(.tmp 61),(.tmp 62),(.tmp 63)],none⟩])
 (.seq (.seq (.region [⟨(some 65),.mv (.tmp 13),none⟩,⟨(some 66),.bin .neq (.tmp 65) (.const (.int .u64 0)),none⟩])
 (.cond (.tmp 66) (.region [⟨(some 67),.mv (.tmp 0),none⟩,⟨(some 68),.mv (.tmp 13),none⟩,⟨(some 69),.mv (.tmp 0),none⟩,⟨(some 70),.build [(.ptr none),(.slice none 0 0)] [(0,1,(.tmp 69))],none⟩,⟨(some 71),.box 2 (.tmp 70),none⟩,⟨(some 72),.call 179 [(.tmp 67),(.tmp 68),(.tmp 71)],none⟩]) .skip))
 (.seq (.region [⟨(some 8),.mv (.const (.int .i64 0)),none⟩])
 .ret)))))))))⟩
theorem k84 : compFn Tryz.prog Tryz.f84 = some c84 := by kernel_rfl
-- (*croft/count.Store).Drop
def c85 : AFunc := ⟨[.tmp 4],(.seq (.region [⟨(some 4),.mv (.const (.int .i64 0)),none⟩])
 (.seq (.region [⟨(some 8),.mv (.tmp 0),none⟩,⟨(some 9),.nilCheck (.tmp 8),none⟩,⟨(some 10),.faddr 1 (.tmp 9),none⟩,⟨(some 11),.load false 1 (.tmp 10),none⟩,⟨(some 12),.mv (.tmp 1),none⟩,⟨(some 13),.lookup .int (.ptr none) true (.tmp 11) (.tmp 12),none⟩,⟨(some 7),.mv (.tmp 13),none⟩,⟨(some 14),.extract (.tmp 7) 0,none⟩,⟨(some 15),.extract (.tmp 7) 1,none⟩,⟨(some 5),.mv (.tmp 14),none⟩,⟨(some 6),.mv (.tmp 15),none⟩])
 (.seq (.seq (.region [⟨(some 16),.mv (.tmp 6),none⟩,⟨(some 17),.not (.tmp 16),none⟩])
 (.cond (.tmp 17) (.seq (.region [⟨(some 4),.mv (.const (.int .i64 1)),none⟩])
 .ret) .skip))
 (.seq (.seq (.region [⟨(some 18),.mv (.tmp 5),none⟩,⟨(some 19),.nilCheck (.tmp 18),none⟩,⟨(some 20),.faddr 3 (.tmp 19),none⟩,⟨(some 21),.load false 1 (.tmp 20),none⟩,⟨(some 22),.bin .eql (.tmp 21) (.const (.int .i64 0)),none⟩])
 (.cond (.tmp 22) (.seq (.region [⟨(some 4),.mv (.const (.int .i64 9)),none⟩])
 .ret) .skip))
 (.seq (.region [⟨(some 23),.mv (.tmp 5),none⟩,⟨(some 24),.nilCheck (.tmp 23),none⟩,⟨(some 25),.faddr 3 (.tmp 24),none⟩,⟨(some 26),.load false 1 (.tmp 25),none⟩,⟨(some 27),.bin .sub (.tmp 26) (.const (.int .i64 1)),none⟩,⟨(some 28),.nilCheck (.tmp 23),none⟩,⟨(some 29),.faddr 3 (.tmp 28),none⟩,⟨none,.store 1 (.tmp 29) (.tmp 27),none⟩])
 (.seq (.region [⟨(some 30),.mv (.tmp 0),none⟩,⟨(some 31),.mv (.tmp 1),none⟩,⟨(some 32),.mv (.tmp 0),none⟩,⟨(some 33),.build [(.ptr none),(.slice none 0 0)] [(0,1,(.tmp 32))],none⟩,⟨(some 34),.box 2 (.tmp 33),none⟩,⟨(some 35),.call 179 [(.tmp 30),(.tmp 31),(.tmp 34)],none⟩])
 (.seq (.region [⟨(some 4),.mv (.const (.int .i64 0)),none⟩])
 .ret)))))))⟩
theorem k85 : compFn Tryz.prog Tryz.f85 = some c85 := by kernel_rfl
-- croft/croftlaw18.list
def c86 : AFunc := ⟨[.tmp 4],(.seq (.region [⟨(some 4),.mv (.const (.bool false)),none⟩])
 (.seq (.region [⟨(some 7),.mv (.tmp 0),none⟩,⟨(some 8),.call 177 [(.tmp 7)],none⟩,⟨(some 5),.mv (.tmp 8),none⟩])
 (.seq (.seq (.region [⟨(some 9),.mv (.tmp 5),none⟩,⟨(some 10),.lenS (.tmp 9),none⟩,⟨(some 11),.mv (.tmp 1),none⟩,⟨(some 12),.lenS (.tmp 11),none⟩,⟨(some 13),.bin .neq (.tmp 10) (.tmp 12),none⟩])
 (.cond (.tmp 13) (.seq (.region [⟨(some 4),.mv (.const (.bool false)),none⟩])
 .ret) .skip))
 (.seq (.seq (.region [⟨(some 6),.mv (.const (.int .i64 0)),none⟩])
 (.block 0 (.loop (.seq (.seq (.region [⟨(some 14),.mv (.tmp 6),none⟩,⟨(some 15),.mv (.tmp 5),none⟩,⟨(some 16),.lenS (.tmp 15),none⟩,⟨(some 17),.bin .lss (.tmp 14) (.tmp 16),none⟩])
 (.cond (.tmp 17) .skip (.exit 0)))
 (.seq (.block 1 (.seq (.draw [⟨⟨(some 20),.mv (.tmp 5),none⟩,0,0⟩,⟨⟨(some 21),.mv (.tmp 6),none⟩,0,0⟩,⟨⟨(some 22),.iaddrS 1 (.tmp 20) (.tmp 21),none⟩,0,0⟩,⟨⟨(some 23),.load false 1 (.tmp 22),none⟩,0,0⟩,⟨⟨(some 24),.mv (.tmp 1),none⟩,0,0⟩,⟨⟨(some 25),.mv (.tmp 6),none⟩,0,0⟩,⟨⟨(some 26),.iaddrS 1 (.tmp 24) (.tmp 25),none⟩,0,0⟩,⟨⟨(some 27),.load false 1 (.tmp 26),none⟩,0,0⟩,⟨⟨(some 28),.bin .neq (.tmp 23) (.tmp 27),none⟩,0,0⟩])
 (.cond (.tmp 28) (.seq (.region [⟨(some 4),.mv (.const (.bool false)),none⟩])
 .ret) .skip)))
 (.region [⟨(some 18),.mv (.tmp 6),none⟩,⟨(some 19),.bin .add (.tmp 18) (.const (.int .i64 1)),none⟩,⟨(some 6),.mv (.tmp 19),none⟩]))))))
 (.seq (.region [⟨(some 4),.mv (.const (.bool true)),none⟩])
 .ret)))))⟩
theorem k86 : compFn Tryz.prog Tryz.f86 = some c86 := by kernel_rfl
-- (*croft/count.Store).Write
def c87 : AFunc := ⟨[.tmp 8],(.seq (.region [⟨(some 8),.mv (.const (.int .i64 0)),none⟩])
 (.seq (.region [⟨(some 12),.mv (.tmp 0),none⟩,⟨(some 13),.mv (.tmp 1),none⟩,⟨(some 14),.mv (.tmp 2),none⟩,⟨(some 15),.mv (.tmp 3),none⟩,⟨(some 16),.lenS (.tmp 15),none⟩,⟨(some 17),.call 180 [(.tmp 12),(.tmp 13),(.tmp 14),(.tmp 16)],none⟩,⟨(some 11),.mv (.tmp 17),none⟩,⟨(some 18),.extract (.tmp 11) 0,none⟩,⟨(some 19),.extract (.tmp 11) 1,none⟩,⟨(some 9),.mv (.tmp 18),none⟩,⟨(some 10),.mv (.tmp 19),none⟩])
 (.seq (.seq (.region [⟨(some 20),.mv (.tmp 10),none⟩,⟨(some 21),.bin .neq (.tmp 20) (.const (.int .i64 0)),none⟩])
 (.cond (.tmp 21) (.seq (.region [⟨(some 22),.mv (.tmp 10),none⟩,⟨(some 8),.mv (.tmp 22),none⟩])
 .ret) .skip))
 (.seq (.region [⟨(some 23),.mv (.tmp 0),none⟩,⟨(some 24),.nilCheck (.tmp 23),none⟩,⟨(some 25),.faddr 0 (.tmp 24),none⟩,⟨(some 26),.load false 1 (.tmp 25),none⟩,⟨(some 27),.mv (.tmp 9),none⟩,⟨(some 28),.mv (.tmp 3),none⟩,⟨(some 29),.call 151 [(.tmp 26),(.tmp 27),(.tmp 28)],none⟩,⟨(some 8),.mv (.tmp 29),none⟩])
 .ret))))⟩
theorem k87 : compFn Tryz.prog Tryz.f87 = some c87 := by kernel_rfl
-- (*croft/count.Store).Read
def c88 : AFunc := ⟨[.tmp 8,.tmp 9],(.seq (.region [⟨(some 8),.mv (.const (.slice none 0 0)),none⟩,⟨(some 9),.mv (.const (.int .i64 0)),none⟩])
 (.seq (.region [⟨(some 13),.mv (.tmp 0),none⟩,⟨(some 14),.mv (.tmp 1),none⟩,⟨(some 15),.mv (.tmp 2),none⟩,⟨(some 16),.mv (.tmp 3),none⟩,⟨(some 17),.call 180 [(.tmp 13),(.tmp 14),(.tmp 15),(.tmp 16)],none⟩,⟨(some 12),.mv (.tmp 17),none⟩,⟨(some 18),.extract (.tmp 12) 0,none⟩,⟨(some 19),.extract (.tmp 12) 1,none⟩,⟨(some 10),.mv (.tmp 18),none⟩,⟨(some 11),.mv (.tmp 19),none⟩])
 (.seq (.seq (.region [⟨(some 20),.mv (.tmp 11),none⟩,⟨(some 21),.bin .neq (.tmp 20) (.const (.int .i64 0)),none⟩])
 (.cond (.tmp 21) (.seq (.region [⟨(some 22),.mv (.tmp 11),none⟩,⟨(some 8),.mv (.const (.slice none 0 0)),none⟩,⟨(some 9),.mv (.tmp 22),none⟩])
 .ret) .skip))
 (.seq (.region [⟨(some 23),.mv (.tmp 0),none⟩,⟨(some 24),.nilCheck (.tmp 23),none⟩,⟨(some 25),.faddr 0 (.tmp 24),none⟩,⟨(some 26),.load false 1 (.tmp 25),none⟩,⟨(some 27),.mv (.tmp 10),none⟩,⟨(some 28),.mv (.tmp 3),none⟩,⟨(some 29),.conv .u64 (.tmp 28),none⟩,⟨(some 30),.call 44 [(.tmp 26),(.tmp 27),(.tmp 29)],none⟩,⟨(some 31),.extract (.tmp 30) 0,none⟩,⟨(some 32),.extract (.tmp 30) 1,none⟩,⟨(some 8),.mv (.tmp 31),none⟩,⟨(some 9),.mv (.tmp 32),none⟩])
 .ret))))⟩
theorem k88 : compFn Tryz.prog Tryz.f88 = some c88 := by kernel_rfl
-- (*croft/count.Store).Get
def c89 : AFunc := ⟨[.tmp 6,.tmp 7],(.seq (.region [⟨(some 6),.mv (.const (.int .u64 0)),none⟩,⟨(some 7),.mv (.const (.int .i64 0)),none⟩])
 (.seq (.region [⟨(some 11),.mv (.tmp 0),none⟩,⟨(some 12),.mv (.tmp 1),none⟩,⟨(some 13),.mv (.tmp 2),none⟩,⟨(some 14),.call 178 [(.tmp 11),(.tmp 12),(.tmp 13)],none⟩,⟨(some 10),.mv (.tmp 14),none⟩,⟨(some 15),.extract (.tmp 10) 0,none⟩,⟨(some 16),.extract (.tmp 10) 1,none⟩,⟨(some 8),.mv (.tmp 15),none⟩,⟨(some 9),.mv (.tmp 16),none⟩])
 (.seq (.seq (.region [⟨(some 17),.mv (.tmp 9),none⟩,⟨(some 18),.not (.tmp 17),none⟩])
 (.cond (.tmp 18) (.seq (.region [⟨(some 6),.mv (.const (.int .u64 0)),none⟩,⟨(some 7),.mv (.const (.int .i64 1)),none⟩])
 .ret) .skip))
 (.seq (.region [⟨(some 19),.mv (.tmp 0),none⟩,⟨(some 20),.nilCheck (.tmp 19),none⟩,⟨(some 21),.faddr 0 (.tmp 20),none⟩,⟨(some 22),.load false 1 (.tmp 21),none⟩,⟨(some 23),.mv (.tmp 8),none⟩,⟨(some 24),.call 170 [(.tmp 22),(.tmp 23)],none⟩,⟨(some 25),.extract (.tmp 24) 0,none⟩,⟨(some 26),.extract (.tmp 24) 1,none⟩,⟨(some 6),.mv (.tmp 25),none⟩,⟨(some 7),.mv (.tmp 26),none⟩])
 .ret))))⟩
theorem k89 : compFn Tryz.prog Tryz.f89 = some c89 := by kernel_rfl
-- (*croft/count.Store).Collect
def c90 : AFunc := ⟨[.cell 2 true 3],(.seq (.region [⟨(some 2),.alloc [(.int .i64 0),(.slice none 0 0),(.int .u64 0)],none⟩])
 (.seq (.region [⟨(some 3),.alloc [(.int .i64 0),(.slice none 0 0),(.int .u64 0)],none⟩])
 (.seq (.region [⟨(some 14),.mv (.tmp 0),none⟩,⟨(some 15),.call 181 [(.tmp 14)],none⟩,⟨(some 4),.mv (.tmp 15),none⟩])
 (.seq (.region [⟨(some 5),.mv (.const (.slice none 0 0)),none⟩])
 (.seq (.seq (.region [⟨(some 16),.mv (.tmp 0),none⟩,⟨(some 17),.call 177 [(.tmp 16)],none⟩,⟨(some 18),.lenS (.tmp 17),none⟩,⟨(some 19),.mv (.const (.int .i64 0)),none⟩])
 (.block 0 (.loop (.seq (.region [⟨(some 20),.bin .lss (.tmp 19) (.tmp 18),none⟩])
 (.seq (.cond (.tmp 20) .skip (.exit 0))
 (.seq (.block 1 (.seq (.region [⟨(some 21),.iaddrS 1 (.tmp 17) (.tmp 19),none⟩,⟨(some 22),.load false 1 (.tmp 21),none⟩,⟨(some 7),.mv (.tmp 22),none⟩])
 (.seq (.region [⟨(some 24),.mv (.tmp 4),none⟩,⟨(some 25),.mv (.tmp 7),none⟩,⟨(some 26),.lookup .int (.int .i64 0) true (.tmp 24) (.tmp 25),none⟩,⟨(some 23),.mv (.tmp 26),none⟩,⟨(some 27),.extract (.tmp 23) 0,none⟩,⟨(some 28),.extract (.tmp 23) 1,none⟩,⟨(some 8),.mv (.tmp 27),none⟩,⟨(some 9),.mv (.tmp 28),none⟩])
 (.seq (.region [⟨(some 29),.mv (.tmp 9),none⟩,⟨(some 30),.not (.tmp 29),none⟩])
 (.cond (.tmp 30) (.seq (.region [⟨(some 31),.mv (.tmp 5),none⟩,⟨(some 32),.mv (.tmp 7),none⟩,⟨(some 33),.mkSlice 1 1 [(.int .u64 0)] [(0,1,(.tmp 32))],none⟩,⟨(some 34),.appendC 1 8 (.tmp 31) (.tmp 33),none⟩,⟨(some 5),.mv (.tmp 34),none⟩])
 (.seq (.region [⟨(some 35),.mv (.tmp 0),none⟩,⟨(some 36),.mv (.tmp 7),none⟩,⟨(some 37),.call 182 [(.tmp 35),(.tmp 36)],none⟩,⟨(some 38),.lenS (.tmp 37),none⟩,⟨(some 39),.mv (.const (.int .i64 0)),none⟩])
 (.block 2 (.loop (.seq (.region [⟨(some 40),.bin .lss (.tmp 39) (.tmp 38),none⟩])
 (.seq (.cond (.tmp 40) .skip (.exit 2))
 (.seq (.block 3 (.seq (.region [⟨(some 41),.iaddrS 1 (.tmp 37) (.tmp 39),none⟩,⟨(some 42),.load false 1 (.tmp 41),none⟩,⟨(some 11),.mv (.tmp 42),none⟩])
 (.region [⟨(some 43),.mv (.tmp 0),none⟩,⟨(some 44),.mv (.tmp 11),none⟩,⟨(some 45),.build [] [],none⟩,⟨(some 46),.mkIface 271 (.tmp 45),none⟩,⟨(some 47),.call 183 [(.tmp 43),(.tmp 44),(.tmp 46)],none⟩])))
 (.region [⟨(some 48),.bin .add (.tmp 39) (.const (.int .i64 1)),none⟩,⟨(some 39),.mv (.tmp 48),none⟩])))))))) .skip)))))
 (.region [⟨(some 49),.bin .add (.tmp 19) (.const (.int .i64 1)),none⟩,⟨(some 19),.mv (.tmp 49),none⟩])))))))
 (.seq (.seq (.region [⟨(some 50),.mv (.tmp 5),none⟩,⟨(some 51),.lenS (.tmp 50),none⟩,⟨(some 52),.mv (.const (.int .i64 0)),none⟩])
 (.block 4 (.loop (.seq (.region [⟨(some 53),.bin .lss (.tmp 52) (.tmp 51),none⟩])
 (.seq (.cond (.tmp 53) .skip (.exit 4))
 (.seq (.block 5 (.seq (.region [⟨(some 54),.iaddrS 1 (.tmp 50) (.tmp 52),none⟩,⟨(some 55),.load false 1 (.tmp 54),none⟩,⟨(some 13),.mv (.tmp 55),none⟩])
 (.seq (.region [⟨(some 56),.faddr 0 (.tmp 3),none⟩,⟨(some 57),.load false 1 (.tmp 56),none⟩,⟨(some 58),.bin .add (.tmp 57) (.const (.int .i64 1)),none⟩,⟨(some 59),.faddr 0 (.tmp 3),none⟩,⟨none,.store 1 (.tmp 59) (.tmp 58),none⟩])
 (.draw [⟨⟨(some 60),.faddr 2 (.tmp 3),none⟩,0,1⟩,⟨⟨(some 61),.load false 1 (.tmp 60),none⟩,0,1⟩,⟨⟨(some 62),.mv (.tmp 0),none⟩,0,0⟩,⟨⟨(some 63),.mv (.tmp 13),none⟩,0,0⟩,⟨⟨(some 64),.call 184 [(.tmp 62),(.tmp 63)],none⟩,0,1⟩,⟨⟨(some 65),.bin .add (.tmp 61) (.tmp 64),none⟩,1,1⟩,⟨⟨(some 66),.faddr 2 (.tmp 3),none⟩,1,1⟩,⟨⟨none,.store 1 (.tmp 66) (.tmp 65),none⟩,1,2⟩]))))
 (.region [⟨(some 67),.bin .add (.tmp 52) (.const (.int .i64 1)),none⟩,⟨(some 52),.mv (.tmp 67),none⟩])))))))
 (.seq (.region [⟨(some 68),.load true 3 (.tmp 3),none⟩,⟨none,.store 3 (.tmp 2) (.tmp 68),none⟩])
 .ret)))))))⟩
theorem k90 : compFn Tryz.prog Tryz.f90 = some c90 := by kernel_rfl
-- (*croft/count.Store).Keep
def c91 : AFunc := ⟨[.tmp 4],(.seq (.region [⟨(some 4),.mv (.const (.int .i64 0)),none⟩])
 (.seq (.region [⟨(some 8),.mv (.tmp 0),none⟩,⟨(some 9),.nilCheck (.tmp 8),none⟩,⟨(some 10),.faddr 1 (.tmp 9),none⟩,⟨(some 11),.load false 1 (.tmp 10),none⟩,⟨(some 12),.mv (.tmp 1),none⟩,⟨(some 13),.lookup .int (.ptr none) true (.tmp 11) (.tmp 12),none⟩,⟨(some 7),.mv (.tmp 13),none⟩,⟨(some 14),.extract (.tmp 7) 0,none⟩,⟨(some 15),.extract (.tmp 7) 1,none⟩,⟨(some 5),.mv (.tmp 14),none⟩,⟨(some 6),.mv (.tmp 15),none⟩])
 (.seq (.seq (.region [⟨(some 16),.mv (.tmp 6),none⟩,⟨(some 17),.not (.tmp 16),none⟩])
 (.cond (.tmp 17) (.seq (.region [⟨(some 4),.mv (.const (.int .i64 1)),none⟩])
 .ret) .skip))
 (.seq (.region [⟨(some 18),.mv (.tmp 5),none⟩,⟨(some 19),.nilCheck (.tmp 18),none⟩,⟨(some 20),.faddr 3 (.tmp 19),none⟩,⟨(some 21),.load false 1 (.tmp 20),none⟩,⟨(some 22),.bin .add (.tmp 21) (.const (.int .i64 1)),none⟩,⟨(some 23),.nilCheck (.tmp 18),none⟩,⟨(some 24),.faddr 3 (.tmp 23),none⟩,⟨none,.store 1 (.tmp 24) (.tmp 22),none⟩])
 (.seq (.region [⟨(some 25),.mv (.tmp 5),none⟩,⟨(some 26),.nilCheck (.tmp 25),none⟩,⟨(some 27),.faddr 4 (.tmp 26),none⟩,⟨(some 28),.load false 1 (.tmp 27),none⟩,⟨(some 29),.bin .add (.tmp 28) (.const (.int .i64 1)),none⟩,⟨(some 30),.nilCheck (.tmp 25),none⟩,⟨(some 31),.faddr 4 (.tmp 30),none⟩,⟨none,.store 1 (.tmp 31) (.tmp 29),none⟩])
 (.seq (.region [⟨(some 4),.mv (.const (.int .i64 0)),none⟩])
 .ret))))))⟩
theorem k91 : compFn Tryz.prog Tryz.f91 = some c91 := by kernel_rfl
-- croft/region.New
def c104 : AFunc := ⟨[.tmp 2,.tmp 3],(.seq (.region [⟨(some 1),.box 3 (.tmp 0),none⟩,⟨(some 2),.mv (.const (.ptr none)),none⟩,⟨(some 3),.mv (.const (.int .i64 0)),none⟩])
 (.seq (.region [⟨(some 8),.load true 3 (.tmp 1),none⟩,⟨(some 9),.call 199 [(.tmp 8)],none⟩,⟨(some 7),.mv (.tmp 9),none⟩,⟨(some 10),.extract (.tmp 7) 0,none⟩,⟨(some 11),.extract (.tmp 7) 1,none⟩,⟨(some 4),.mv (.tmp 10),none⟩,⟨(some 5),.mv (.tmp 11),none⟩])
 (.seq (.seq (.region [⟨(some 12),.mv (.tmp 5),none⟩,⟨(some 13),.bin .neq (.tmp 12) (.const (.int .i64 0)),none⟩])
 (.cond (.tmp 13) (.seq (.region [⟨(some 14),.mv (.tmp 5),none⟩,⟨(some 2),.mv (.const (.ptr none)),none⟩,⟨(some 3),.mv (.tmp 14),none⟩])
 .ret) .skip))
 (.seq (.region [⟨(some 15),.faddr 2 (.tmp 1),none⟩,⟨(some 16),.load false 1 (.tmp 15),none⟩,⟨(some 17),.call 200 [(.tmp 16)],none⟩,⟨(some 6),.mv (.tmp 17),none⟩])
 (.seq (.region [⟨(some 18),.mv (.tmp 4),none⟩,⟨(some 19),.mv (.tmp 6),none⟩,⟨(some 20),.load true 3 (.tmp 1),none⟩,⟨(some 21),.mv (.tmp 4),none⟩,⟨(some 22),.mv (.tmp 6),none⟩,⟨(some 23),.call 201 [(.tmp 20),(.tmp 21),(.tmp 22)],none⟩,⟨(some 24),.build [(.ptr none),(.ptr none),(.ptr none)] [(0,1,(.tmp 18)),(1,1,(.tmp 19)),(2,1,(.tmp 23))],none⟩,⟨(some 25),.build [(.ptr none),(.ptr none),(.ptr none)] [(0,3,(.tmp 24))],none⟩,⟨(some 26),.box 3 (.tmp 25),none⟩,⟨(some 2),.mv (.tmp 26),none⟩,⟨(some 3),.mv (.const (.int .i64 0)),none⟩])
 .ret)))))⟩
theorem k104 : compFn Tryz.prog Tryz.f104 = some c104 := by kernel_rfl
-- croft/slab.New
def c105 : AFunc := ⟨[.tmp 2],(.seq (.region [⟨(some 2),.mv (.const (.ptr none)),none⟩])
 (.seq (.region [⟨(some 5),.mv (.tmp 0),none⟩,⟨(some 6),.build [(.ptr none),(.int .i64 0),(.int .i64 0),(.int .i64 0),(.int .i64 0),(.int .i64 0),(.int .i64 0),(.int .i64 0),(.int .i64 0)] [(0,1,(.tmp 5))],none⟩,⟨(some 7),.box 9 (.tmp 6),none⟩,⟨(some 3),.mv (.tmp 7),none⟩])
 (.seq (.seq (.region [⟨(some 8),.mv (.const (.int .i64 0)),none⟩])
 (.block 0 (.loop (.seq (.region [⟨(some 9),.bin .lss (.tmp 8) (.const (.int .i64 8)),none⟩])
 (.seq (.cond (.tmp 9) .skip (.exit 0))
 (.seq (.block 1 (.seq (.region [⟨(some 10),.mv (.tmp 8),none⟩,⟨(some 4),.mv (.tmp 10),none⟩])
 (.region [⟨(some 11),.mv (.tmp 3),none⟩,⟨(some 12),.mv (.tmp 4),none⟩,⟨(some 13),.nilCheck (.tmp 11),none⟩,⟨(some 14),.faddr 1 (.tmp 13),none⟩,⟨(some 15),.iaddrA 8 1 (.tmp 14) (.tmp 12),none⟩,⟨none,.store 1 (.tmp 15) (.const (.int .i64 (-1))),none⟩])))
 (.region [⟨(some 16),.bin .add (.tmp 8) (.const (.int .i64 1)),none⟩,⟨(some 8),.mv (.tmp 16),none⟩])))))))
 (.seq (.region [⟨(some 17),.mv (.tmp 3),none⟩,⟨(some 2),.mv (.tmp 17),none⟩])
 .ret))))⟩
theorem k105 : compFn Tryz.prog Tryz.f105 = some c105 := by kernel_rfl
-- (*croft/region.ground).Space
def c113 : AFunc := ⟨[.tmp 2],(.seq (.region [⟨(some 2),.mv (.const (.ptr none)),none⟩])
 (.seq (.region [⟨(some 3),.mv (.tmp 0),none⟩,⟨(some 4),.nilCheck (.tmp 3),none⟩,⟨(some 5),.faddr 0 (.tmp 4),none⟩,⟨(some 6),.load false 1 (.tmp 5),none⟩,⟨(some 2),.mv (.tmp 6),none⟩])
 .ret))⟩
theorem k113 : compFn Tryz.prog Tryz.f113 = some c113 := by kernel_rfl
-- (*croft/mem.Space).End
def c114 : AFunc := ⟨[.tmp 2],(.seq (.region [⟨(some 2),.mv (.const (.int .u64 0)),none⟩])
 (.seq (.draw [⟨⟨(some 3),.mv (.tmp 0),none⟩,0,0⟩,⟨⟨(some 4),.nilCheck (.tmp 3),none⟩,0,0⟩,⟨⟨(some 5),.faddr 0 (.tmp 4),none⟩,0,0⟩,⟨⟨(some 6),.faddr 0 (.tmp 5),none⟩,0,0⟩,⟨⟨(some 7),.load false 1 (.tmp 6),none⟩,0,0⟩,⟨⟨(some 8),.mv (.tmp 0),none⟩,0,0⟩,⟨⟨(some 9),.nilCheck (.tmp 8),none⟩,0,0⟩,⟨⟨(some 10),.faddr 3 (.tmp 9),none⟩,0,0⟩,⟨⟨(some 11),.load false 1 (.tmp 10),none⟩,0,0⟩,⟨⟨(some 12),.mv (.tmp 0),none⟩,0,0⟩,⟨⟨(some 13),.nilCheck (.tmp 12),none⟩,0,0⟩,⟨⟨(some 14),.faddr 4 (.tmp 13),none⟩,0,0⟩,⟨⟨(some 15),.load false 1 (.tmp 14),none⟩,0,0⟩,⟨⟨(some 16),.lenS (.tmp 15),none⟩,0,0⟩,⟨⟨(some 17),.conv .u64 (.tmp 16),none⟩,0,0⟩,⟨⟨(some 18),.bin .mul (.tmp 11) (.tmp 17),none⟩,0,0⟩,⟨⟨(some 19),.bin .add (.tmp 7) (.tmp 18),none⟩,0,0⟩,⟨⟨(some 2),.mv (.tmp 19),none⟩,0,0⟩])
 .ret))⟩
theorem k114 : compFn Tryz.prog Tryz.f114 = some c114 := by kernel_rfl
-- (*croft/malloc.Heap).live
def c115 : AFunc := ⟨[.tmp 2],(.seq (.region [⟨(some 2),.mv (.const (.slice none 0 0)),none⟩])
 (.seq (.region [⟨(some 3),.mv (.const (.slice none 0 0)),none⟩])
 (.seq (.region [⟨(some 11),.mv (.tmp 0),none⟩,⟨(some 12),.nilCheck (.tmp 11),none⟩,⟨(some 13),.faddr 5 (.tmp 12),none⟩,⟨(some 14),.load false 1 (.tmp 13),none⟩,⟨(some 15),.nilCheck (.tmp 14),none⟩,⟨(some 16),.faddr 0 (.tmp 15),none⟩,⟨(some 17),.call 116 [(.tmp 16)],none⟩,⟨(some 4),.mv (.tmp 17),none⟩])
 (.seq (.seq (.region [⟨(some 5),.mv (.const (.int .i64 0)),none⟩])
 (.block 0 (.loop (.seq (.seq (.region [⟨(some 18),.mv (.tmp 5),none⟩,⟨(some 19),.mv (.tmp 4),none⟩,⟨(some 20),.call 117 [(.tmp 19)],none⟩,⟨(some 21),.bin .lss (.tmp 18) (.tmp 20),none⟩])
 (.cond (.tmp 21) .skip (.exit 0)))
 (.seq (.block 1 (.seq (.region [⟨(some 25),.mv (.tmp 4),none⟩,⟨(some 26),.mv (.tmp 5),none⟩,⟨(some 27),.call 118 [(.tmp 25),(.tmp 26)],none⟩,⟨(some 24),.mv (.tmp 27),none⟩,⟨(some 28),.extract (.tmp 24) 0,none⟩,⟨(some 29),.extract (.tmp 24) 1,none⟩,⟨(some 6),.alloc [(.int .i64 0),(.int .i64 0),(.int .i64 0),(.int .i64 0),(.int .i64 0),(.int .i64 0),(.int .i64 0),(.int .u64 0),(.int .u64 0),(.int .u64 0),(.int .u64 0)],none⟩,⟨none,.store 11 (.tmp 6) (.tmp 28),none⟩,⟨(some 7),.mv (.tmp 29),none⟩])
 (.seq (.region [⟨(some 30),.mv (.tmp 0),none⟩,⟨(some 31),.nilCheck (.tmp 30),none⟩,⟨(some 32),.faddr 2 (.tmp 31),none⟩,⟨(some 33),.faddr 0 (.tmp 32),none⟩,⟨(some 34),.load false 1 (.tmp 33),none⟩,⟨(some 35),.mv (.tmp 5),none⟩,⟨(some 36),.conv .u64 (.tmp 35),none⟩,⟨(some 37),.bin .mul (.tmp 36) (.const (.int .u64 4096)),none⟩,⟨(some 38),.bin .add (.tmp 34) (.tmp 37),none⟩,⟨(some 8),.mv (.tmp 38),none⟩])
 (.seq (.region [⟨(some 39),.faddr 0 (.tmp 6),none⟩,⟨(some 40),.load false 1 (.tmp 39),none⟩])
 (.block 2 (.seq (.region [⟨(some 42),.bin .eql (.tmp 40) (.const (.int .i64 2)),none⟩,⟨(some 41),.mv (.tmp 42),none⟩])
 (.cond (.tmp 41) (.region [⟨(some 43),.mv (.tmp 3),none⟩,⟨(some 44),.mv (.tmp 8),none⟩,⟨(some 45),.faddr 1 (.tmp 6),none⟩,⟨(some 46),.load false 1 (.tmp 45),none⟩,⟨(some 47),.bin .shl (.const (.int .u64 4096)) (.tmp 46),none⟩,⟨(some 48),.build [(.int .u64 0),(.int .u64 0)] [(0,1,(.tmp 44)),(1,1,(.tmp 47))],none⟩,⟨(some 49),.mkSlice 1 2 [(.int .u64 0),(.int .u64 0)] [(0,2,(.tmp 48))],none⟩,⟨(some 50),.appendC 2 16 (.tmp 43) (.tmp 49),none⟩,⟨(some 3),.mv (.tmp 50),none⟩]) (.seq (.region [⟨(some 52),.bin .eql (.tmp 40) (.const (.int .i64 4)),none⟩,⟨(some 51),.mv (.tmp 52),none⟩])
 (.cond (.tmp 51) (.seq (.region [⟨(some 53),.faddr 2 (.tmp 6),none⟩,⟨(some 54),.load false 1 (.tmp 53),none⟩,⟨(some 55),.bin .shl (.const (.int .u64 16)) (.tmp 54),none⟩,⟨(some 9),.mv (.tmp 55),none⟩])
 (.seq (.region [⟨(some 56),.mv (.tmp 9),none⟩,⟨(some 57),.bin .quo (.const (.int .u64 4096)) (.tmp 56),none⟩,⟨(some 58),.mv (.const (.int .u64 0)),none⟩])
 (.block 3 (.loop (.seq (.region [⟨(some 59),.bin .lss (.tmp 58) (.tmp 57),none⟩])
 (.seq (.cond (.tmp 59) .skip (.exit 3))
 (.seq (.block 4 (.seq (.region [⟨(some 60),.mv (.tmp 58),none⟩,⟨(some 10),.mv (.tmp 60),none⟩])
 (.seq (.region [⟨(some 61),.mv (.tmp 10),none⟩,⟨(some 62),.bin .quo (.tmp 61) (.const (.int .u64 64)),none⟩,⟨(some 63),.faddr 7 (.tmp 6),none⟩,⟨(some 64),.iaddrA 4 1 (.tmp 63) (.tmp 62),none⟩,⟨(some 65),.load false 1 (.tmp 64),none⟩,⟨(some 66),.mv (.tmp 10),none⟩,⟨(some 67),.bin .rem (.tmp 66) (.const (.int .u64 64)),none⟩,⟨(some 68),.bin .shr (.tmp 65) (.tmp 67),none⟩,⟨(some 69),.bin .and (.tmp 68) (.const (.int .u64 1)),none⟩,⟨(some 70),.bin .eql (.tmp 69) (.const (.int .u64 1)),none⟩])
 (.cond (.tmp 70) (.region [⟨(some 71),.mv (.tmp 3),none⟩,⟨(some 72),.mv (.tmp 8),none⟩,⟨(some 73),.mv (.tmp 10),none⟩,⟨(some 74),.mv (.tmp 9),none⟩,⟨(some 75),.bin .mul (.tmp 73) (.tmp 74),none⟩,⟨(some 76),.bin .add (.tmp 72) (.tmp 75),none⟩,⟨(some 77),.mv (.tmp 9),none⟩,⟨(some 78),.build [(.int .u64 0),(.int .u64 0)] [(0,1,(.tmp 76)),(1,1,(.tmp 77))],none⟩,⟨(some 79),.mkSlice 1 2 [(.int .u64 0),(.int .u64 0)] [(0,2,(.tmp 78))],none⟩,⟨(some 80),.appendC 2 16 (.tmp 71) (.tmp 79),none⟩,⟨(some 3),.mv (.tmp 80),none⟩]) .skip))))
 (.region [⟨(some 81),.bin .add (.tmp 58) (.const (.int .u64 1)),none⟩,⟨(some 58),.mv (.tmp 81),none⟩])))))))) .skip)))))))))
 (.region [⟨(some 22),.mv (.tmp 5),none⟩,⟨(some 23),.bin .add (.tmp 22) (.const (.int .i64 1)),none⟩,⟨(some 5),.mv (.tmp 23),none⟩]))))))
 (.seq (.region [⟨(some 82),.mv (.tmp 3),none⟩,⟨(some 2),.mv (.tmp 82),none⟩])
 .ret)))))⟩
theorem k115 : compFn Tryz.prog Tryz.f115 = some c115 := by kernel_rfl
-- (*croft/region.ground).Map
def c116 : AFunc := ⟨[.tmp 2],(.seq (.region [⟨(some 2),.mv (.const (.ptr none)),none⟩])
 (.seq (.region [⟨(some 3),.mv (.tmp 0),none⟩,⟨(some 4),.nilCheck (.tmp 3),none⟩,⟨(some 5),.faddr 1 (.tmp 4),none⟩,⟨(some 6),.load false 1 (.tmp 5),none⟩,⟨(some 2),.mv (.tmp 6),none⟩])
 .ret))⟩
theorem k116 : compFn Tryz.prog Tryz.f116 = some c116 := by kernel_rfl
-- (*croft/pagemap.Map).Pages
def c117 : AFunc := ⟨[.tmp 2],(.seq (.region [⟨(some 2),.mv (.const (.int .i64 0)),none⟩])
 (.seq (.region [⟨(some 3),.mv (.tmp 0),none⟩,⟨(some 4),.nilCheck (.tmp 3),none⟩,⟨(some 5),.faddr 1 (.tmp 4),none⟩,⟨(some 6),.load false 1 (.tmp 5),none⟩,⟨(some 7),.lenS (.tmp 6),none⟩,⟨(some 2),.mv (.tmp 7),none⟩])
 .ret))⟩
theorem k117 : compFn Tryz.prog Tryz.f117 = some c117 := by kernel_rfl
-- (*croft/pagemap.Map).At
def c118 : AFunc := ⟨[.cell 4 true 11,.tmp 5],(.seq (.region [⟨(some 4),.alloc [(.int .i64 0),(.int .i64 0),(.int .i64 0),(.int .i64 0),(.int .i64 0),(.int .i64 0),(.int .i64 0),(.int .u64 0),(.int .u64 0),(.int .u64 0),(.int .u64 0)],none⟩,⟨(some 5),.mv (.const (.bool false)),none⟩])
 (.seq (.seq (.region [⟨(some 6),.mv (.tmp 1),none⟩,⟨(some 7),.bin .lss (.tmp 6) (.const (.int .i64 0)),none⟩,⟨(some 8),.mv (.tmp 7),none⟩,⟨(some 9),.mv (.tmp 1),some (8,false)⟩,⟨(some 10),.mv (.tmp 0),some (8,false)⟩,⟨(some 11),.nilCheck (.tmp 10),some (8,false)⟩,⟨(some 12),.faddr 1 (.tmp 11),some (8,false)⟩,⟨(some 13),.load false 1 (.tmp 12),some (8,false)⟩,⟨(some 14),.lenS (.tmp 13),some (8,false)⟩,⟨(some 15),.bin .geq (.tmp 9) (.tmp 14),some (8,false)⟩,⟨(some 16),.pick (.tmp 8) (.const (.bool true)) (.tmp 15),none⟩])
 (.cond (.tmp 16) (.seq (.region [⟨(some 17),.build [(.int .i64 0),(.int .i64 0),(.int .i64 0),(.int .i64 0),(.int .i64 0),(.int .i64 0),(.int .i64 0),(.int .u64 0),(.int .u64 0),(.int .u64 0),(.int .u64 0)] [],none⟩,⟨none,.store 11 (.tmp 4) (.tmp 17),none⟩,⟨(some 5),.mv (.const (.bool false)),none⟩])
 .ret) .skip))
 (.seq (.region [⟨(some 18),.mv (.tmp 0),none⟩,⟨(some 19),.nilCheck (.tmp 18),none⟩,⟨(some 20),.faddr 1 (.tmp 19),none⟩,⟨(some 21),.load false 1 (.tmp 20),none⟩,⟨(some 22),.mv (.tmp 1),none⟩,⟨(some 23),.iaddrS 11 (.tmp 21) (.tmp 22),none⟩,⟨(some 24),.load true 11 (.tmp 23),none⟩,⟨none,.store 11 (.tmp 4) (.tmp 24),none⟩,⟨(some 5),.mv (.const (.bool true)),none⟩])
 .ret)))⟩
theorem k118 : compFn Tryz.prog Tryz.f118 = some c118 := by kernel_rfl
-- (*croft/malloc.Heap).Free
def c132 : AFunc := ⟨[.tmp 4],(.seq (.region [⟨(some 4),.mv (.const (.int .i64 0)),none⟩])
 (.seq (.region [⟨(some 7),.mv (.tmp 0),none⟩,⟨(some 8),.nilCheck (.tmp 7),none⟩,⟨(some 9),.faddr 0 (.tmp 8),none⟩,⟨(some 10),.call 111 [(.tmp 9)],none⟩])
 (.seq (.region [⟨(some 11),.mv (.tmp 0),none⟩,⟨(some 12),.nilCheck (.tmp 11),none⟩,⟨(some 13),.faddr 0 (.tmp 12),none⟩,⟨none,.defer 112 [(.tmp 13)],none⟩])
 (.seq (.seq (.region [⟨(some 14),.mv (.tmp 1),none⟩,⟨(some 15),.bin .eql (.tmp 14) (.const (.int .u64 0)),none⟩])
 (.cond (.tmp 15) (.seq (.region [⟨(some 4),.mv (.const (.int .i64 0)),none⟩])
 .ret) .skip))
 (.seq (.region [⟨(some 17),.mv (.tmp 0),none⟩,⟨(some 18),.mv (.tmp 1),none⟩,⟨(some 19),.call 147 [(.tmp 17),(.tmp 18)],none⟩,⟨(some 16),.mv (.tmp 19),none⟩,⟨(some 20),.extract (.tmp 16) 0,none⟩,⟨(some 21),.extract (.tmp 16) 1,none⟩,⟨(some 5),.alloc [(.int .u64 0),(.int .u64 0)],none⟩,⟨none,.store 2 (.tmp 5) (.tmp 20),none⟩,⟨(some 6),.mv (.tmp 21),none⟩])
 (.seq (.seq (.region [⟨(some 22),.mv (.tmp 6),none⟩,⟨(some 23),.bin .eql (.tmp 22) (.const (.int .i64 0)),none⟩])
 (.cond (.tmp 23) (.region [⟨(some 24),.mv (.tmp 0),none⟩,⟨(some 25),.load true 2 (.tmp 5),none⟩,⟨(some 26),.call 214 [(.tmp 24),(.tmp 25)],none⟩]) .skip))
 (.seq (.region [⟨(some 27),.mv (.tmp 6),none⟩,⟨(some 4),.mv (.tmp 27),none⟩])
 .ret)))))))⟩
theorem k132 : compFn Tryz.prog Tryz.f132 = some c132 := by kernel_rfl
-- (*croft/malloc.Heap).start
def c147 : AFunc := ⟨[.cell 4 true 2,.tmp 5],(.seq (.region [⟨(some 4),.alloc [(.int .u64 0),(.int .u64 0)],none⟩,⟨(some 5),.mv (.const (.int .i64 0)),none⟩])
 (.seq (.region [⟨(some 9),.mv (.tmp 0),none⟩,⟨(some 10),.mv (.tmp 1),none⟩,⟨(some 11),.call 220 [(.tmp 9),(.tmp 10)],none⟩,⟨(some 8),.mv (.tmp 11),none⟩,⟨(some 12),.extract (.tmp 8) 0,none⟩,⟨(some 13),.extract (.tmp 8) 1,none⟩,⟨(some 6),.alloc [(.int .u64 0),(.int .u64 0)],none⟩,⟨none,.store 2 (.tmp 6) (.tmp 12),none⟩,⟨(some 7),.mv (.tmp 13),none⟩])
 (.seq (.seq (.region [⟨(some 14),.mv (.tmp 7),none⟩,⟨(some 15),.not (.tmp 14),none⟩,⟨(some 16),.mv (.tmp 15),none⟩,⟨(some 17),.faddr 0 (.tmp 6),some (16,false)⟩,⟨(some 18),.load false 1 (.tmp 17),some (16,false)⟩,⟨(some 19),.mv (.tmp 1),some (16,false)⟩,⟨(some 20),.bin .neq (.tmp 18) (.tmp 19),some (16,false)⟩,⟨(some 21),.pick (.tmp 16) (.const (.bool true)) (.tmp 20),none⟩])
 (.cond (.tmp 21) (.seq (.region [⟨(some 22),.build [(.int .u64 0),(.int .u64 0)] [],none⟩,⟨none,.store 2 (.tmp 4) (.tmp 22),none⟩,⟨(some 5),.mv (.const (.int .i64 1)),none⟩])
 .ret) .skip))
 (.seq (.region [⟨(some 23),.load true 2 (.tmp 6),none⟩,⟨none,.store 2 (.tmp 4) (.tmp 23),none⟩,⟨(some 5),.mv (.const (.int .i64 0)),none⟩])
 .ret))))⟩
theorem k147 : compFn Tryz.prog Tryz.f147 = some c147 := by kernel_rfl
-- (*croft/malloc.Heap).within
def c148 : AFunc := ⟨[.tmp 6],(.seq (.region [⟨(some 6),.mv (.const (.bool false)),none⟩])
 (.seq (.region [⟨(some 10),.mv (.tmp 0),none⟩,⟨(some 11),.mv (.tmp 1),none⟩,⟨(some 12),.call 220 [(.tmp 10),(.tmp 11)],none⟩,⟨(some 9),.mv (.tmp 12),none⟩,⟨(some 13),.extract (.tmp 9) 0,none⟩,⟨(some 14),.extract (.tmp 9) 1,none⟩,⟨(some 7),.alloc [(.int .u64 0),(.int .u64 0)],none⟩,⟨none,.store 2 (.tmp 7) (.tmp 13),none⟩,⟨(some 8),.mv (.tmp 14),none⟩])
 (.seq (.region [⟨(some 15),.mv (.tmp 8),none⟩,⟨(some 16),.mv (.tmp 15),none⟩,⟨(some 17),.mv (.tmp 2),some (16,true)⟩,⟨(some 18),.faddr 0 (.tmp 7),some (16,true)⟩,⟨(some 19),.load false 1 (.tmp 18),some (16,true)⟩,⟨(some 20),.faddr 1 (.tmp 7),some (16,true)⟩,⟨(some 21),.load false 1 (.tmp 20),some (16,true)⟩,⟨(some 22),.bin .add (.tmp 19) (.tmp 21),some (16,true)⟩,⟨(some 23),.mv (.tmp 1),some (16,true)⟩,⟨(some 24),.bin .sub (.tmp 22) (.tmp 23),some (16,true)⟩,⟨(some 25),.bin .leq (.tmp 17) (.tmp 24),some (16,true)⟩,⟨(some 26),.pick (.tmp 16) (.tmp 25) (.const (.bool false)),none⟩,⟨(some 6),.mv (.tmp 26),none⟩])
 .ret)))⟩
theorem k148 : compFn Tryz.prog Tryz.f148 = some c148 := by kernel_rfl
-- (*croft/mem.Space).Read
def c149 : AFunc := ⟨[.tmp 6,.cell 7 false 1],(.seq (.region [⟨(some 6),.mv (.const (.slice none 0 0)),none⟩,⟨(some 7),.alloc [(.int .i64 0)],none⟩])
 (.seq (.region [⟨(some 9),.makeFunc 221 [] [(.tmp 7)],none⟩,⟨none,.deferv (.tmp 9) [],none⟩])
 (.seq (.region [⟨(some 10),.mv (.tmp 0),none⟩,⟨(some 11),.mv (.tmp 1),none⟩,⟨(some 12),.mv (.tmp 2),none⟩,⟨(some 13),.call 223 [(.tmp 10),(.tmp 11),(.tmp 12)],none⟩])
 (.seq (.region [⟨(some 14),.mv (.tmp 2),none⟩,⟨(some 15),.makeSlice 1 1 [(.int .u8 0)] (.tmp 14) (.tmp 14),none⟩,⟨(some 8),.mv (.tmp 15),none⟩])
 (.seq (.region [⟨(some 16),.mv (.tmp 0),none⟩,⟨(some 17),.mv (.tmp 1),none⟩,⟨(some 18),.mv (.tmp 8),none⟩,⟨(some 19),.call 224 [(.tmp 16),(.tmp 17),(.tmp 18)],none⟩])
 (.seq (.region [⟨(some 20),.mv (.tmp 8),none⟩,⟨(some 6),.mv (.tmp 20),none⟩,⟨none,.store 1 (.tmp 7) (.const (.int .i64 0)),none⟩])
 .ret))))))⟩
theorem k149 : compFn Tryz.prog Tryz.f149 = some c149 := by kernel_rfl
-- (*croft/malloc.Heap).Write
def c151 : AFunc := ⟨[.tmp 6],(.seq (.region [⟨(some 6),.mv (.const (.int .i64 0)),none⟩])
 (.seq (.region [⟨(some 7),.mv (.tmp 0),none⟩,⟨(some 8),.nilCheck (.tmp 7),none⟩,⟨(some 9),.faddr 0 (.tmp 8),none⟩,⟨(some 10),.call 111 [(.tmp 9)],none⟩])
 (.seq (.region [⟨(some 11),.mv (.tmp 0),none⟩,⟨(some 12),.nilCheck (.tmp 11),none⟩,⟨(some 13),.faddr 0 (.tmp 12),none⟩,⟨none,.defer 112 [(.tmp 13)],none⟩])
 (.seq (.seq (.region [⟨(some 14),.mv (.tmp 2),none⟩,⟨(some 15),.lenS (.tmp 14),none⟩,⟨(some 16),.bin .eql (.tmp 15) (.const (.int .i64 0)),none⟩])
 (.cond (.tmp 16) (.seq (.region [⟨(some 6),.mv (.const (.int .i64 0)),none⟩])
 .ret) .skip))
 (.seq (.seq (.region [⟨(some 17),.mv (.tmp 0),none⟩,⟨(some 18),.mv (.tmp 1),none⟩,⟨(some 19),.mv (.tmp 2),none⟩,⟨(some 20),.lenS (.tmp 19),none⟩,⟨(some 21),.conv .u64 (.tmp 20),none⟩,⟨(some 22),.call 148 [(.tmp 17),(.tmp 18),(.tmp 21)],none⟩,⟨(some 23),.not (.tmp 22),none⟩])
 (.cond (.tmp 23) (.seq (.region [⟨(some 6),.mv (.const (.int .i64 4)),none⟩])
 .ret) .skip))
 (.seq (.region [⟨(some 24),.mv (.tmp 0),none⟩,⟨(some 25),.nilCheck (.tmp 24),none⟩,⟨(some 26),.faddr 5 (.tmp 25),none⟩,⟨(some 27),.load false 1 (.tmp 26),none⟩,⟨(some 28),.nilCheck (.tmp 27),none⟩,⟨(some 29),.faddr 0 (.tmp 28),none⟩,⟨(some 30),.call 113 [(.tmp 29)],none⟩,⟨(some 31),.mv (.tmp 1),none⟩,⟨(some 32),.mv (.tmp 2),none⟩,⟨(some 33),.call 226 [(.tmp 30),(.tmp 31),(.tmp 32)],none⟩,⟨(some 6),.mv (.tmp 33),none⟩])
 .ret))))))⟩
theorem k151 : compFn Tryz.prog Tryz.f151 = some c151 := by kernel_rfl
-- (*croft/malloc.Heap).Calloc
def c162 : AFunc := ⟨[.tmp 8,.tmp 9],(.seq (.region [⟨(some 8),.mv (.const (.int .u64 0)),none⟩,⟨(some 9),.mv (.const (.int .i64 0)),none⟩])
 (.seq (.region [⟨(some 14),.mv (.tmp 0),none⟩,⟨(some 15),.nilCheck (.tmp 14),none⟩,⟨(some 16),.faddr 0 (.tmp 15),none⟩,⟨(some 17),.call 111 [(.tmp 16)],none⟩])
 (.seq (.region [⟨(some 18),.mv (.tmp 0),none⟩,⟨(some 19),.nilCheck (.tmp 18),none⟩,⟨(some 20),.faddr 0 (.tmp 19),none⟩,⟨none,.defer 112 [(.tmp 20)],none⟩])
 (.seq (.region [⟨(some 22),.mv (.tmp 1),none⟩,⟨(some 23),.mv (.tmp 2),none⟩,⟨(some 24),.call 236 [(.tmp 22),(.tmp 23)],none⟩,⟨(some 21),.mv (.tmp 24),none⟩,⟨(some 25),.extract (.tmp 21) 0,none⟩,⟨(some 26),.extract (.tmp 21) 1,none⟩,⟨(some 10),.mv (.tmp 25),none⟩,⟨(some 11),.mv (.tmp 26),none⟩])
 (.seq (.seq (.region [⟨(some 27),.mv (.tmp 10),none⟩,⟨(some 28),.bin .neq (.tmp 27) (.const (.int .u64 0)),none⟩])
 (.cond (.tmp 28) (.seq (.region [⟨(some 8),.mv (.const (.int .u64 0)),none⟩,⟨(some 9),.mv (.const (.int .i64 3)),none⟩])
 .ret) .skip))
 (.seq (.region [⟨(some 30),.mv (.tmp 0),none⟩,⟨(some 31),.mv (.tmp 11),none⟩,⟨(some 32),.mv (.tmp 3),none⟩,⟨(some 33),.call 202 [(.tmp 30),(.tmp 31),(.const (.int .u64 1)),(.tmp 32)],none⟩,⟨(some 29),.mv (.tmp 33),none⟩,⟨(some 34),.extract (.tmp 29) 0,none⟩,⟨(some 35),.extract (.tmp 29) 1,none⟩,⟨(some 12),.alloc [(.int .u64 0),(.int .u64 0)],none⟩,⟨none,.store 2 (.tmp 12) (.tmp 34),none⟩,⟨(some 13),.mv (.tmp 35),none⟩])
 (.seq (.seq (.region [⟨(some 36),.mv (.tmp 13),none⟩,⟨(some 37),.bin .neq (.tmp 36) (.const (.int .i64 0)),none⟩])
 (.cond (.tmp 37) (.seq (.region [⟨(some 38),.mv (.tmp 13),none⟩,⟨(some 8),.mv (.const (.int .u64 0)),none⟩,⟨(some 9),.mv (.tmp 38),none⟩])
 .ret) .skip))
 (.seq (.draw [⟨⟨(some 39),.mv (.tmp 0),none⟩,0,0⟩,⟨⟨(some 40),.nilCheck (.tmp 39),none⟩,0,0⟩,⟨⟨(some 41),.faddr 5 (.tmp 40),none⟩,0,0⟩,⟨⟨(some 42),.load false 1 (.tmp 41),none⟩,0,0⟩,⟨⟨(some 43),.nilCheck (.tmp 42),none⟩,0,0⟩,⟨⟨(some 44),.faddr 0 (.tmp 43),none⟩,0,0⟩,⟨⟨(some 45),.call 113 [(.tmp 44)],none⟩,0,1⟩,⟨⟨(some 46),.faddr 0 (.tmp 12),none⟩,0,1⟩,⟨⟨(some 47),.load false 1 (.tmp 46),none⟩,0,1⟩,⟨⟨(some 48),.faddr 1 (.tmp 12),none⟩,0,1⟩,⟨⟨(some 49),.load false 1 (.tmp 48),none⟩,0,1⟩,⟨⟨(some 50),.call 237 [(.tmp 45),(.tmp 47),(.tmp 49),(.const (.int .u8 0))],none⟩,1,2⟩])
 (.seq (.region [⟨(some 51),.faddr 0 (.tmp 12),none⟩,⟨(some 52),.load false 1 (.tmp 51),none⟩,⟨(some 8),.mv (.tmp 52),none⟩,⟨(some 9),.mv (.const (.int .i64 0)),none⟩])
 .ret)))))))))⟩
theorem k162 : compFn Tryz.prog Tryz.f162 = some c162 := by kernel_rfl
-- (*croft/malloc.Heap).StoreWord
def c165 : AFunc := ⟨[.tmp 6],(.seq (.region [⟨(some 6),.mv (.const (.int .i64 0)),none⟩])
 (.seq (.region [⟨(some 7),.mv (.tmp 0),none⟩,⟨(some 8),.nilCheck (.tmp 7),none⟩,⟨(some 9),.faddr 0 (.tmp 8),none⟩,⟨(some 10),.call 111 [(.tmp 9)],none⟩])
 (.seq (.region [⟨(some 11),.mv (.tmp 0),none⟩,⟨(some 12),.nilCheck (.tmp 11),none⟩,⟨(some 13),.faddr 0 (.tmp 12),none⟩,⟨none,.defer 112 [(.tmp 13)],none⟩])
 (.seq (.seq (.region [⟨(some 14),.mv (.tmp 0),none⟩,⟨(some 15),.mv (.tmp 1),none⟩,⟨(some 16),.call 148 [(.tmp 14),(.tmp 15),(.const (.int .u64 8))],none⟩,⟨(some 17),.not (.tmp 16),none⟩])
 (.cond (.tmp 17) (.seq (.region [⟨(some 6),.mv (.const (.int .i64 4)),none⟩])
 .ret) .skip))
 (.seq (.region [⟨(some 18),.mv (.tmp 0),none⟩,⟨(some 19),.nilCheck (.tmp 18),none⟩,⟨(some 20),.faddr 5 (.tmp 19),none⟩,⟨(some 21),.load false 1 (.tmp 20),none⟩,⟨(some 22),.nilCheck (.tmp 21),none⟩,⟨(some 23),.faddr 0 (.tmp 22),none⟩,⟨(some 24),.call 113 [(.tmp 23)],none⟩,⟨(some 25),.mv (.tmp 1),none⟩,⟨(some 26),.mv (.tmp 2),none⟩,⟨(some 27),.call 238 [(.tmp 24),(.tmp 25),(.tmp 26)],none⟩,⟨(some 6),.mv (.tmp 27),none⟩])
 .ret)))))⟩
theorem k165 : compFn Tryz.prog Tryz.f165 = some c165 := by kernel_rfl
-- (*croft/malloc.Heap).LoadWord
def c170 : AFunc := ⟨[.tmp 4,.tmp 5],(.seq (.region [⟨(some 4),.mv (.const (.int .u64 0)),none⟩,⟨(some 5),.mv (.const (.int .i64 0)),none⟩])
 (.seq (.region [⟨(some 6),.mv (.tmp 0),none⟩,⟨(some 7),.nilCheck (.tmp 6),none⟩,⟨(some 8),.faddr 0 (.tmp 7),none⟩,⟨(some 9),.call 111 [(.tmp 8)],none⟩])
 (.seq (.region [⟨(some 10),.mv (.tmp 0),none⟩,⟨(some 11),.nilCheck (.tmp 10),none⟩,⟨(some 12),.faddr 0 (.tmp 11),none⟩,⟨none,.defer 112 [(.tmp 12)],none⟩])
 (.seq (.seq (.region [⟨(some 13),.mv (.tmp 0),none⟩,⟨(some 14),.mv (.tmp 1),none⟩,⟨(some 15),.call 148 [(.tmp 13),(.tmp 14),(.const (.int .u64 8))],none⟩,⟨(some 16),.not (.tmp 15),none⟩])
 (.cond (.tmp 16) (.seq (.region [⟨(some 4),.mv (.const (.int .u64 0)),none⟩,⟨(some 5),.mv (.const (.int .i64 4)),none⟩])
 .ret) .skip))
 (.seq (.region [⟨(some 17),.mv (.tmp 0),none⟩,⟨(some 18),.nilCheck (.tmp 17),none⟩,⟨(some 19),.faddr 5 (.tmp 18),none⟩,⟨(some 20),.load false 1 (.tmp 19),none⟩,⟨(some 21),.nilCheck (.tmp 20),none⟩,⟨(some 22),.faddr 0 (.tmp 21),none⟩,⟨(some 23),.call 113 [(.tmp 22)],none⟩,⟨(some 24),.mv (.tmp 1),none⟩,⟨(some 25),.call 243 [(.tmp 23),(.tmp 24)],none⟩,⟨(some 26),.extract (.tmp 25) 0,none⟩,⟨(some 27),.extract (.tmp 25) 1,none⟩,⟨(some 4),.mv (.tmp 26),none⟩,⟨(some 5),.mv (.tmp 27),none⟩])
 .ret)))))⟩
theorem k170 : compFn Tryz.prog Tryz.f170 = some c170 := by kernel_rfl
-- (*croft/count.Store).Objects
def c177 : AFunc := ⟨[.tmp 2],(.seq (.region [⟨(some 1),.box 1 (.tmp 0),none⟩,⟨(some 2),.mv (.const (.slice none 0 0)),none⟩])
 (.seq (.region [⟨(some 3),.alloc [(.slice none 0 0)],none⟩])
 (.seq (.seq (.region [⟨(some 5),.load false 1 (.tmp 1),none⟩,⟨(some 6),.nilCheck (.tmp 5),none⟩,⟨(some 7),.faddr 1 (.tmp 6),none⟩,⟨(some 8),.load false 1 (.tmp 7),none⟩,⟨(some 9),.rangeM (.tmp 8),none⟩])
 (.block 0 (.loop (.seq (.region [⟨(some 10),.nextM (.tmp 9),none⟩,⟨(some 11),.extract (.tmp 10) 0,none⟩])
 (.seq (.cond (.tmp 11) .skip (.exit 0))
 (.block 1 (.seq (.region [⟨(some 12),.entryM (.tmp 9),none⟩,⟨(some 13),.extract (.tmp 12) 0,none⟩,⟨(some 4),.mv (.tmp 13),none⟩])
 (.region [⟨(some 14),.load false 1 (.tmp 3),none⟩,⟨(some 15),.mv (.tmp 4),none⟩,⟨(some 16),.mkSlice 1 1 [(.int .u64 0)] [(0,1,(.tmp 15))],none⟩,⟨(some 17),.appendC 1 8 (.tmp 14) (.tmp 16),none⟩,⟨none,.store 1 (.tmp 3) (.tmp 17),none⟩]))))))))
 (.seq (.region [⟨(some 18),.load false 1 (.tmp 3),none⟩,⟨(some 19),.mkIface 84 (.tmp 18),none⟩,⟨(some 20),.makeFunc 246 [] [(.tmp 1),(.tmp 3)],none⟩,⟨(some 21),.call 245 [(.tmp 19),(.tmp 20)],none⟩])
 (.seq (.region [⟨(some 22),.load false 1 (.tmp 3),none⟩,⟨(some 2),.mv (.tmp 22),none⟩])
 .ret)))))⟩
theorem k177 : compFn Tryz.prog Tryz.f177 = some c177 := by kernel_rfl
-- (*croft/count.Store).at
def c178 : AFunc := ⟨[.tmp 6,.tmp 7],(.seq (.region [⟨(some 6),.mv (.const (.int .u64 0)),none⟩,⟨(some 7),.mv (.const (.bool false)),none⟩])
 (.seq (.region [⟨(some 11),.mv (.tmp 0),none⟩,⟨(some 12),.nilCheck (.tmp 11),none⟩,⟨(some 13),.faddr 1 (.tmp 12),none⟩,⟨(some 14),.load false 1 (.tmp 13),none⟩,⟨(some 15),.mv (.tmp 1),none⟩,⟨(some 16),.lookup .int (.ptr none) true (.tmp 14) (.tmp 15),none⟩,⟨(some 10),.mv (.tmp 16),none⟩,⟨(some 17),.extract (.tmp 10) 0,none⟩,⟨(some 18),.extract (.tmp 10) 1,none⟩,⟨(some 8),.mv (.tmp 17),none⟩,⟨(some 9),.mv (.tmp 18),none⟩])
 (.seq (.seq (.region [⟨(some 19),.mv (.tmp 9),none⟩,⟨(some 20),.not (.tmp 19),none⟩,⟨(some 21),.mv (.tmp 20),none⟩,⟨(some 22),.mv (.tmp 2),some (21,false)⟩,⟨(some 23),.bin .lss (.tmp 22) (.const (.int .i64 0)),some (21,false)⟩,⟨(some 24),.pick (.tmp 21) (.const (.bool true)) (.tmp 23),none⟩,⟨(some 25),.mv (.tmp 24),none⟩,⟨(some 26),.mv (.tmp 2),some (25,false)⟩,⟨(some 27),.mv (.tmp 8),some (25,false)⟩,⟨(some 28),.nilCheck (.tmp 27),some (25,false)⟩,⟨(some 29),.faddr 1 (.tmp 28),some (25,false)⟩,⟨(some 30),.load false 1 (.tmp 29),some (25,false)⟩,⟨(some 31),.bin .geq (.tmp 26) (.tmp 30),some (25,false)⟩,⟨(some 32),.pick (.tmp 25) (.const (.bool true)) (.tmp 31),none⟩])
 (.cond (.tmp 32) (.seq (.region [⟨(some 6),.mv (.const (.int .u64 0)),none⟩,⟨(some 7),.mv (.const (.bool false)),none⟩])
 .ret) .skip))
 (.seq (.region [⟨(some 33),.mv (.tmp 1),none⟩,⟨(some 34),.mv (.tmp 2),none⟩,⟨(some 35),.conv .u64 (.tmp 34),none⟩,⟨(some 36),.bin .mul (.const (.int .u64 8)) (.tmp 35),none⟩,⟨(some 37),.bin .add (.tmp 33) (.tmp 36),none⟩,⟨(some 6),.mv (.tmp 37),none⟩,⟨(some 7),.mv (.const (.bool true)),none⟩])
 .ret))))⟩
theorem k178 : compFn Tryz.prog Tryz.f178 = some c178 := by kernel_rfl
-- (*croft/count.Store).less
def c179 : AFunc := ⟨[],(.seq (.region [⟨(some 6),.mv (.tmp 0),none⟩,⟨(some 7),.mv (.tmp 1),none⟩,⟨(some 8),.mv (.tmp 2),none⟩,⟨(some 9),.mkIface 264 (.tmp 8),none⟩,⟨(some 10),.call 183 [(.tmp 6),(.tmp 7),(.tmp 9)],none⟩])
 (.region [⟨(some 11),.mv (.tmp 2),none⟩,⟨(some 12),.call 247 [(.tmp 11)],none⟩]))⟩
theorem k179 : compFn Tryz.prog Tryz.f179 = some c179 := by kernel_rfl
-- (*croft/count.Store).bytes
def c180 : AFunc := ⟨[.tmp 8,.tmp 9],(.seq (.region [⟨(some 8),.mv (.const (.int .u64 0)),none⟩,⟨(some 9),.mv (.const (.int .i64 0)),none⟩])
 (.seq (.region [⟨(some 13),.mv (.tmp 0),none⟩,⟨(some 14),.nilCheck (.tmp 13),none⟩,⟨(some 15),.faddr 1 (.tmp 14),none⟩,⟨(some 16),.load false 1 (.tmp 15),none⟩,⟨(some 17),.mv (.tmp 1),none⟩,⟨(some 18),.lookup .int (.ptr none) true (.tmp 16) (.tmp 17),none⟩,⟨(some 12),.mv (.tmp 18),none⟩,⟨(some 19),.extract (.tmp 12) 0,none⟩,⟨(some 20),.extract (.tmp 12) 1,none⟩,⟨(some 10),.mv (.tmp 19),none⟩,⟨(some 11),.mv (.tmp 20),none⟩])
 (.seq (.block 0 (.seq (.region [⟨(some 22),.mv (.tmp 11),none⟩,⟨(some 23),.not (.tmp 22),none⟩,⟨(some 21),.mv (.tmp 23),none⟩])
 (.cond (.tmp 21) (.seq (.region [⟨(some 8),.mv (.const (.int .u64 0)),none⟩,⟨(some 9),.mv (.const (.int .i64 1)),none⟩])
 .ret) (.seq (.region [⟨(some 25),.mv (.tmp 2),none⟩,⟨(some 26),.bin .lss (.tmp 25) (.const (.int .i64 0)),none⟩,⟨(some 27),.mv (.tmp 26),none⟩,⟨(some 28),.mv (.tmp 3),some (27,false)⟩,⟨(some 29),.bin .lss (.tmp 28) (.const (.int .i64 0)),some (27,false)⟩,⟨(some 30),.pick (.tmp 27) (.const (.bool true)) (.tmp 29),none⟩,⟨(some 31),.mv (.tmp 30),none⟩,⟨(some 32),.mv (.tmp 2),some (31,false)⟩,⟨(some 33),.mv (.tmp 10),some (31,false)⟩,⟨(some 34),.nilCheck (.tmp 33),some (31,false)⟩,⟨(some 35),.faddr 2 (.tmp 34),some (31,false)⟩,⟨(some 36),.load false 1 (.tmp 35),some (31,false)⟩,⟨(some 37),.bin .gtr (.tmp 32) (.tmp 36),some (31,false)⟩,⟨(some 38),.pick (.tmp 31) (.const (.bool true)) (.tmp 37),none⟩,⟨(some 39),.mv (.tmp 38),none⟩,⟨(some 40),.mv (.tmp 3),some (39,false)⟩,⟨(some 41),.mv (.tmp 10),some (39,false)⟩,⟨(some 42),.nilCheck (.tmp 41),some (39,false)⟩,⟨(some 43),.faddr 2 (.tmp 42),some (39,false)⟩,⟨(some 44),.load false 1 (.tmp 43),some (39,false)⟩,⟨(some 45),.mv (.tmp 2),some (39,false)⟩,⟨(some 46),.bin .sub (.tmp 44) (.tmp 45),some (39,false)⟩,⟨(some 47),.bin .gtr (.tmp 40) (.tmp 46),some (39,false)⟩,⟨(some 48),.pick (.tmp 39) (.const (.bool true)) (.tmp 47),none⟩,⟨(some 24),.mv (.tmp 48),none⟩])
 (.cond (.tmp 24) (.seq (.region [⟨(some 8),.mv (.const (.int .u64 0)),none⟩,⟨(some 9),.mv (.const (.int .i64 4)),none⟩])
 .ret) .skip)))))
 (.seq (.region [⟨(some 49),.mv (.tmp 1),none⟩,⟨(some 50),.mv (.tmp 10),none⟩,⟨(some 51),.nilCheck (.tmp 50),none⟩,⟨(some 52),.faddr 1 (.tmp 51),none⟩,⟨(some 53),.load false 1 (.tmp 52),none⟩,⟨(some 54),.conv .u64 (.tmp 53),none⟩,⟨(some 55),.bin .mul (.const (.int .u64 8)) (.tmp 54),none⟩,⟨(some 56),.bin .add (.tmp 49) (.tmp 55),none⟩,⟨(some 57),.mv (.tmp 2),none⟩,⟨(some 58),.conv .u64 (.tmp 57),none⟩,⟨(some 59),.bin .add (.tmp 56) (.tmp 58),none⟩,⟨(some 8),.mv (.tmp 59),none⟩,⟨(some 9),.mv (.const (.int .i64 0)),none⟩])
 .ret))))⟩
theorem k180 : compFn Tryz.prog Tryz.f180 = some c180 := by kernel_rfl
-- (*croft/count.Store).reached
def c181 : AFunc := ⟨[.tmp 2],(.seq (.region [⟨(some 1),.box 1 (.tmp 0),none⟩,⟨(some 2),.mv (.const (.map none)),none⟩])
 (.seq (.region [⟨(some 11),.makeMap,none⟩,⟨(some 3),.alloc [(.map none)],none⟩,⟨none,.store 1 (.tmp 3) (.tmp 11),none⟩])
 (.seq (.region [⟨(some 4),.alloc [(.slice none 0 0)],none⟩])
 (.seq (.region [⟨(some 12),.makeFunc 248 [] [(.tmp 3),(.tmp 1),(.tmp 4)],none⟩,⟨(some 5),.mv (.tmp 12),none⟩])
 (.seq (.seq (.region [⟨(some 13),.load false 1 (.tmp 1),none⟩,⟨(some 14),.nilCheck (.tmp 13),none⟩,⟨(some 15),.faddr 1 (.tmp 14),none⟩,⟨(some 16),.load false 1 (.tmp 15),none⟩,⟨(some 17),.rangeM (.tmp 16),none⟩])
 (.block 0 (.loop (.seq (.region [⟨(some 18),.nextM (.tmp 17),none⟩,⟨(some 19),.extract (.tmp 18) 0,none⟩])
 (.seq (.cond (.tmp 19) .skip (.exit 0))
 (.block 1 (.seq (.region [⟨(some 20),.entryM (.tmp 17),none⟩,⟨(some 21),.extract (.tmp 20) 0,none⟩,⟨(some 22),.extract (.tmp 20) 1,none⟩,⟨(some 6),.mv (.tmp 21),none⟩,⟨(some 7),.mv (.tmp 22),none⟩])
 (.seq (.region [⟨(some 23),.mv (.tmp 7),none⟩,⟨(some 24),.nilCheck (.tmp 23),none⟩,⟨(some 25),.faddr 3 (.tmp 24),none⟩,⟨(some 26),.load false 1 (.tmp 25),none⟩,⟨(some 27),.bin .gtr (.tmp 26) (.const (.int .i64 0)),none⟩])
 (.cond (.tmp 27) (.region [⟨(some 28),.mv (.tmp 5),none⟩,⟨(some 29),.mv (.tmp 6),none⟩,⟨(some 30),.callv (.tmp 28) [(.tmp 29)],none⟩]) .skip)))))))))
 (.seq (.block 2 (.loop (.seq (.seq (.region [⟨(some 31),.load false 1 (.tmp 4),none⟩,⟨(some 32),.lenS (.tmp 31),none⟩,⟨(some 33),.bin .gtr (.tmp 32) (.const (.int .i64 0)),none⟩])
 (.cond (.tmp 33) .skip (.exit 2)))
 (.block 3 (.seq (.region [⟨(some 34),.load false 1 (.tmp 4),none⟩,⟨(some 35),.load false 1 (.tmp 4),none⟩,⟨(some 36),.lenS (.tmp 35),none⟩,⟨(some 37),.bin .sub (.tmp 36) (.const (.int .i64 1)),none⟩,⟨(some 38),.iaddrS 1 (.tmp 34) (.tmp 37),none⟩,⟨(some 39),.load false 1 (.tmp 38),none⟩,⟨(some 8),.mv (.tmp 39),none⟩])
 (.seq (.region [⟨(some 40),.load false 1 (.tmp 4),none⟩,⟨(some 41),.load false 1 (.tmp 4),none⟩,⟨(some 42),.lenS (.tmp 41),none⟩,⟨(some 43),.bin .sub (.tmp 42) (.const (.int .i64 1)),none⟩,⟨(some 44),.sliceOfC 1 (.tmp 40) none (some (.tmp 43)),none⟩,⟨none,.store 1 (.tmp 4) (.tmp 44),none⟩])
 (.seq (.region [⟨(some 45),.load false 1 (.tmp 1),none⟩,⟨(some 46),.mv (.tmp 8),none⟩,⟨(some 47),.call 182 [(.tmp 45),(.tmp 46)],none⟩,⟨(some 48),.lenS (.tmp 47),none⟩,⟨(some 49),.mv (.const (.int .i64 0)),none⟩])
 (.block 4 (.loop (.seq (.region [⟨(some 50),.bin .lss (.tmp 49) (.tmp 48),none⟩])
 (.seq (.cond (.tmp 50) .skip (.exit 4))
 (.seq (.block 5 (.seq (.region [⟨(some 51),.iaddrS 1 (.tmp 47) (.tmp 49),none⟩,⟨(some 52),.load false 1 (.tmp 51),none⟩,⟨(some 10),.mv (.tmp 52),none⟩])
 (.region [⟨(some 53),.mv (.tmp 5),none⟩,⟨(some 54),.mv (.tmp 10),none⟩,⟨(some 55),.callv (.tmp 53) [(.tmp 54)],none⟩])))
 (.region [⟨(some 56),.bin .add (.tmp 49) (.const (.int .i64 1)),none⟩,⟨(some 49),.mv (.tmp 56),none⟩])))))))))))))
 (.seq (.region [⟨(some 57),.load false 1 (.tmp 3),none⟩,⟨(some 2),.mv (.tmp 57),none⟩])
 .ret)))))))⟩
theorem k181 : compFn Tryz.prog Tryz.f181 = some c181 := by kernel_rfl
-- (*croft/count.Store).refers
def c182 : AFunc := ⟨[.tmp 4],(.seq (.region [⟨(some 4),.mv (.const (.slice none 0 0)),none⟩])
 (.seq (.region [⟨(some 5),.mv (.const (.slice none 0 0)),none⟩])
 (.seq (.seq (.region [⟨(some 9),.mv (.tmp 0),none⟩,⟨(some 10),.nilCheck (.tmp 9),none⟩,⟨(some 11),.faddr 1 (.tmp 10),none⟩,⟨(some 12),.load false 1 (.tmp 11),none⟩,⟨(some 13),.mv (.tmp 1),none⟩,⟨(some 14),.lookup .int (.ptr none) false (.tmp 12) (.tmp 13),none⟩,⟨(some 15),.nilCheck (.tmp 14),none⟩,⟨(some 16),.faddr 1 (.tmp 15),none⟩,⟨(some 17),.load false 1 (.tmp 16),none⟩,⟨(some 18),.mv (.const (.int .i64 0)),none⟩])
 (.block 0 (.loop (.seq (.region [⟨(some 19),.bin .lss (.tmp 18) (.tmp 17),none⟩])
 (.seq (.cond (.tmp 19) .skip (.exit 0))
 (.seq (.block 1 (.seq (.region [⟨(some 20),.mv (.tmp 18),none⟩,⟨(some 6),.mv (.tmp 20),none⟩])
 (.seq (.region [⟨(some 22),.mv (.tmp 0),none⟩,⟨(some 23),.nilCheck (.tmp 22),none⟩,⟨(some 24),.faddr 0 (.tmp 23),none⟩,⟨(some 25),.load false 1 (.tmp 24),none⟩,⟨(some 26),.mv (.tmp 1),none⟩,⟨(some 27),.mv (.tmp 6),none⟩,⟨(some 28),.conv .u64 (.tmp 27),none⟩,⟨(some 29),.bin .mul (.const (.int .u64 8)) (.tmp 28),none⟩,⟨(some 30),.bin .add (.tmp 26) (.tmp 29),none⟩,⟨(some 31),.call 170 [(.tmp 25),(.tmp 30)],none⟩,⟨(some 21),.mv (.tmp 31),none⟩,⟨(some 32),.extract (.tmp 21) 0,none⟩,⟨(some 33),.extract (.tmp 21) 1,none⟩,⟨(some 7),.mv (.tmp 32),none⟩,⟨(some 8),.mv (.tmp 33),none⟩])
 (.seq (.region [⟨(some 34),.mv (.tmp 7),none⟩,⟨(some 35),.bin .neq (.tmp 34) (.const (.int .u64 0)),none⟩])
 (.cond (.tmp 35) (.region [⟨(some 36),.mv (.tmp 5),none⟩,⟨(some 37),.mv (.tmp 7),none⟩,⟨(some 38),.mkSlice 1 1 [(.int .u64 0)] [(0,1,(.tmp 37))],none⟩,⟨(some 39),.appendC 1 8 (.tmp 36) (.tmp 38),none⟩,⟨(some 5),.mv (.tmp 39),none⟩]) .skip)))))
 (.region [⟨(some 40),.bin .add (.tmp 18) (.const (.int .i64 1)),none⟩,⟨(some 18),.mv (.tmp 40),none⟩])))))))
 (.seq (.region [⟨(some 41),.mv (.tmp 5),none⟩,⟨(some 4),.mv (.tmp 41),none⟩])
 .ret))))⟩
theorem k182 : compFn Tryz.prog Tryz.f182 = some c182 := by kernel_rfl
-- (*croft/count.Store).fall
def c183 : AFunc := ⟨[],(.seq (.region [⟨(some 9),.mv (.tmp 0),none⟩,⟨(some 10),.nilCheck (.tmp 9),none⟩,⟨(some 11),.faddr 1 (.tmp 10),none⟩,⟨(some 12),.load false 1 (.tmp 11),none⟩,⟨(some 13),.mv (.tmp 1),none⟩,⟨(some 14),.lookup .int (.ptr none) true (.tmp 12) (.tmp 13),none⟩,⟨(some 8),.mv (.tmp 14),none⟩,⟨(some 15),.extract (.tmp 8) 0,none⟩,⟨(some 16),.extract (.tmp 8) 1,none⟩,⟨(some 6),.mv (.tmp 15),none⟩,⟨(some 7),.mv (.tmp 16),none⟩])
 (.seq (.region [⟨(some 17),.mv (.tmp 7),none⟩])
 (.cond (.tmp 17) (.seq (.region [⟨(some 18),.mv (.tmp 6),none⟩,⟨(some 19),.nilCheck (.tmp 18),none⟩,⟨(some 20),.faddr 4 (.tmp 19),none⟩,⟨(some 21),.load false 1 (.tmp 20),none⟩,⟨(some 22),.bin .sub (.tmp 21) (.const (.int .i64 1)),none⟩,⟨(some 23),.nilCheck (.tmp 18),none⟩,⟨(some 24),.faddr 4 (.tmp 23),none⟩,⟨none,.store 1 (.tmp 24) (.tmp 22),none⟩])
 (.draw [⟨⟨(some 25),.mv (.tmp 2),none⟩,0,0⟩,⟨⟨(some 26),.mv (.tmp 1),none⟩,0,0⟩,⟨⟨(some 27),.mv (.tmp 6),none⟩,0,0⟩,⟨⟨(some 28),.nilCheck (.tmp 27),none⟩,0,0⟩,⟨⟨(some 29),.faddr 4 (.tmp 28),none⟩,0,0⟩,⟨⟨(some 30),.load false 1 (.tmp 29),none⟩,0,0⟩,⟨⟨(some 31),.mval "croft/count.fell" (.tmp 25),none⟩,0,0⟩,⟨⟨(some 32),.nilCheckM "croft/count.fell" [(264,431),(271,432)] (.tmp 31),none⟩,0,0⟩,⟨⟨(some 33),.mv (.tmp 25),none⟩,0,0⟩,⟨⟨(some 34),.invoke [(264,431),(271,432)] (.tmp 33) [(.tmp 26),(.tmp 30)],none⟩,0,1⟩])) .skip)))⟩
theorem k183 : compFn Tryz.prog Tryz.f183 = some c183 := by kernel_rfl
-- (*croft/count.Store).free
def c184 : AFunc := ⟨[.tmp 4],(.seq (.region [⟨(some 4),.mv (.const (.int .u64 0)),none⟩])
 (.seq (.region [⟨(some 8),.mv (.tmp 0),none⟩,⟨(some 9),.nilCheck (.tmp 8),none⟩,⟨(some 10),.faddr 0 (.tmp 9),none⟩,⟨(some 11),.load false 1 (.tmp 10),none⟩,⟨(some 12),.mv (.tmp 1),none⟩,⟨(some 13),.call 42 [(.tmp 11),(.tmp 12)],none⟩,⟨(some 7),.mv (.tmp 13),none⟩,⟨(some 14),.extract (.tmp 7) 0,none⟩,⟨(some 15),.extract (.tmp 7) 1,none⟩,⟨(some 5),.mv (.tmp 14),none⟩,⟨(some 6),.mv (.tmp 15),none⟩])
 (.seq (.region [⟨(some 16),.mv (.tmp 0),none⟩,⟨(some 17),.nilCheck (.tmp 16),none⟩,⟨(some 18),.faddr 0 (.tmp 17),none⟩,⟨(some 19),.load false 1 (.tmp 18),none⟩,⟨(some 20),.mv (.tmp 1),none⟩,⟨(some 21),.call 132 [(.tmp 19),(.tmp 20)],none⟩])
 (.seq (.region [⟨(some 22),.mv (.tmp 0),none⟩,⟨(some 23),.nilCheck (.tmp 22),none⟩,⟨(some 24),.faddr 1 (.tmp 23),none⟩,⟨(some 25),.load false 1 (.tmp 24),none⟩,⟨(some 26),.mv (.tmp 1),none⟩,⟨none,.delete .int (.tmp 25) (.tmp 26),none⟩])
 (.seq (.region [⟨(some 27),.mv (.tmp 5),none⟩,⟨(some 4),.mv (.tmp 27),none⟩])
 .ret)))))⟩
theorem k184 : compFn Tryz.prog Tryz.f184 = some c184 := by kernel_rfl
-- croft/mem.New
def c199 : AFunc := ⟨[.tmp 2,.tmp 3],(.seq (.region [⟨(some 1),.box 3 (.tmp 0),none⟩,⟨(some 2),.mv (.const (.ptr none)),none⟩,⟨(some 3),.mv (.const (.int .i64 0)),none⟩])
 (.seq (.seq (.region [⟨(some 4),.load true 3 (.tmp 1),none⟩,⟨(some 5),.call 260 [(.tmp 4)],none⟩,⟨(some 6),.not (.tmp 5),none⟩])
 (.cond (.tmp 6) (.seq (.region [⟨(some 2),.mv (.const (.ptr none)),none⟩,⟨(some 3),.mv (.const (.int .i64 1)),none⟩])
 .ret) .skip))
 (.seq (.draw [⟨⟨(some 7),.load true 3 (.tmp 1),none⟩,0,0⟩,⟨⟨(some 8),.faddr 2 (.tmp 1),none⟩,0,0⟩,⟨⟨(some 9),.load false 1 (.tmp 8),none⟩,0,0⟩,⟨⟨(some 10),.bin .shl (.const (.int .u64 4096)) (.tmp 9),none⟩,0,0⟩,⟨⟨(some 11),.build [(.int .u64 0),(.int .i64 0),(.int .i64 0),(.int .u64 0),(.slice none 0 0)] [(0,3,(.tmp 7)),(3,1,(.tmp 10))],none⟩,0,0⟩,⟨⟨(some 12),.box 5 (.tmp 11),none⟩,0,1⟩,⟨⟨(some 2),.mv (.tmp 12),none⟩,1,1⟩,⟨⟨(some 3),.mv (.const (.int .i64 0)),none⟩,1,1⟩])
 .ret)))⟩
theorem k199 : compFn Tryz.prog Tryz.f199 = some c199 := by kernel_rfl
-- croft/pagemap.New
def c200 : AFunc := ⟨[.tmp 2],(.seq (.region [⟨(some 2),.mv (.const (.ptr none)),none⟩])
 (.seq (.region [⟨(some 4),.mv (.tmp 0),none⟩,⟨(some 5),.maxmin false [(.tmp 4),(.const (.int .i64 8))],none⟩,⟨(some 6),.maxmin true [(.const (.int .i64 0)),(.tmp 5)],none⟩,⟨(some 7),.build [(.int .i64 0),(.slice none 0 0),(.slice none 0 0)] [(0,1,(.tmp 6))],none⟩,⟨(some 8),.box 3 (.tmp 7),none⟩,⟨(some 3),.mv (.tmp 8),none⟩])
 (.seq (.seq (.region [⟨(some 9),.mv (.tmp 3),none⟩,⟨(some 10),.nilCheck (.tmp 9),none⟩,⟨(some 11),.faddr 0 (.tmp 10),none⟩,⟨(some 12),.load false 1 (.tmp 11),none⟩,⟨(some 13),.mv (.const (.int .i64 0)),none⟩])
 (.block 0 (.loop (.seq (.region [⟨(some 14),.bin .lss (.tmp 13) (.tmp 12),none⟩])
 (.seq (.cond (.tmp 14) .skip (.exit 0))
 (.seq (.block 1 (.draw [⟨⟨(some 15),.mv (.tmp 3),none⟩,0,3⟩,⟨⟨(some 16),.mv (.tmp 3),none⟩,0,2⟩,⟨⟨(some 17),.nilCheck (.tmp 16),none⟩,0,2⟩,⟨⟨(some 18),.faddr 2 (.tmp 17),none⟩,0,2⟩,⟨⟨(some 19),.load false 1 (.tmp 18),none⟩,0,2⟩,⟨⟨(some 20),.call 261 [(.const (.int .i64 0))],none⟩,0,1⟩,⟨⟨(some 21),.mkSlice 1 1 [(.ptr none)] [(0,1,(.tmp 20))],none⟩,1,2⟩,⟨⟨(some 22),.appendC 1 8 (.tmp 19) (.tmp 21),none⟩,2,3⟩,⟨⟨(some 23),.nilCheck (.tmp 15),none⟩,3,3⟩,⟨⟨(some 24),.faddr 2 (.tmp 23),none⟩,3,3⟩,⟨⟨none,.store 1 (.tmp 24) (.tmp 22),none⟩,3,4⟩]))
 (.region [⟨(some 25),.bin .add (.tmp 13) (.const (.int .i64 1)),none⟩,⟨(some 13),.mv (.tmp 25),none⟩])))))))
 (.seq (.region [⟨(some 26),.mv (.tmp 3),none⟩,⟨(some 2),.mv (.tmp 26),none⟩])
 .ret))))⟩
theorem k200 : compFn Tryz.prog Tryz.f200 = some c200 := by kernel_rfl
-- croft/buddy.New
def c201 : AFunc := ⟨[.tmp 6],(.seq (.region [⟨(some 3),.box 3 (.tmp 0),none⟩,⟨(some 6),.mv (.const (.ptr none)),none⟩])
 (.seq (.draw [⟨⟨(some 10),.load true 3 (.tmp 3),none⟩,0,1⟩,⟨⟨(some 11),.mv (.tmp 1),none⟩,0,1⟩,⟨⟨(some 12),.mv (.tmp 2),none⟩,0,1⟩,⟨⟨(some 13),.faddr 2 (.tmp 3),none⟩,0,0⟩,⟨⟨(some 14),.load false 1 (.tmp 13),none⟩,0,0⟩,⟨⟨(some 15),.bin .add (.tmp 14) (.const (.int .i64 1)),none⟩,0,0⟩,⟨⟨(some 16),.maxmin true [(.const (.int .i64 0)),(.tmp 15)],none⟩,0,0⟩,⟨⟨(some 17),.makeSlice 1 8 [(.int .u64 0)] (.tmp 16) (.tmp 16),none⟩,0,1⟩,⟨⟨(some 18),.call 262 [(.tmp 10),(.tmp 11),(.tmp 12),(.tmp 17)],none⟩,1,2⟩,⟨⟨(some 9),.mv (.tmp 18),none⟩,2,2⟩,⟨⟨(some 19),.extract (.tmp 9) 0,none⟩,2,2⟩,⟨⟨(some 20),.extract (.tmp 9) 1,none⟩,2,2⟩,⟨⟨(some 7),.mv (.tmp 19),none⟩,2,2⟩,⟨⟨(some 8),.mv (.tmp 20),none⟩,2,2⟩])
 (.seq (.region [⟨(some 21),.mv (.tmp 7),none⟩,⟨(some 6),.mv (.tmp 21),none⟩])
 .ret)))⟩
theorem k201 : compFn Tryz.prog Tryz.f201 = some c201 := by kernel_rfl
-- (*croft/malloc.Heap).malloc
def c202 : AFunc := ⟨[.cell 8 true 2,.tmp 9],(.seq (.region [⟨(some 8),.alloc [(.int .u64 0),(.int .u64 0)],none⟩,⟨(some 9),.mv (.const (.int .i64 0)),none⟩])
 (.seq (.region [⟨(some 14),.mv (.tmp 0),none⟩,⟨(some 15),.mv (.tmp 1),none⟩,⟨(some 16),.mv (.tmp 2),none⟩,⟨(some 17),.call 253 [(.tmp 14),(.tmp 15),(.tmp 16)],none⟩,⟨(some 13),.mv (.tmp 17),none⟩,⟨(some 18),.extract (.tmp 13) 0,none⟩,⟨(some 19),.extract (.tmp 13) 1,none⟩,⟨(some 10),.mv (.tmp 18),none⟩,⟨(some 11),.mv (.tmp 19),none⟩])
 (.seq (.seq (.region [⟨(some 20),.mv (.tmp 11),none⟩,⟨(some 21),.bin .neq (.tmp 20) (.const (.int .i64 0)),none⟩])
 (.cond (.tmp 21) (.seq (.region [⟨(some 22),.build [(.int .u64 0),(.int .u64 0)] [],none⟩,⟨(some 23),.mv (.tmp 11),none⟩,⟨none,.store 2 (.tmp 8) (.tmp 22),none⟩,⟨(some 9),.mv (.tmp 23),none⟩])
 .ret) .skip))
 (.seq (.region [⟨(some 25),.mv (.tmp 0),none⟩,⟨(some 26),.mv (.tmp 10),none⟩,⟨(some 27),.mv (.tmp 3),none⟩,⟨(some 28),.call 257 [(.tmp 25),(.tmp 26),(.tmp 27)],none⟩,⟨(some 24),.mv (.tmp 28),none⟩,⟨(some 29),.extract (.tmp 24) 0,none⟩,⟨(some 30),.extract (.tmp 24) 1,none⟩,⟨(some 12),.mv (.tmp 29),none⟩,⟨(some 11),.mv (.tmp 30),none⟩])
 (.seq (.seq (.region [⟨(some 31),.mv (.tmp 11),none⟩,⟨(some 32),.bin .neq (.tmp 31) (.const (.int .i64 0)),none⟩])
 (.cond (.tmp 32) (.seq (.region [⟨(some 33),.build [(.int .u64 0),(.int .u64 0)] [],none⟩,⟨(some 34),.mv (.tmp 11),none⟩,⟨none,.store 2 (.tmp 8) (.tmp 33),none⟩,⟨(some 9),.mv (.tmp 34),none⟩])
 .ret) .skip))
 (.seq (.region [⟨(some 35),.mv (.tmp 12),none⟩,⟨(some 36),.mv (.tmp 10),none⟩,⟨(some 37),.build [(.int .u64 0),(.int .u64 0)] [(0,1,(.tmp 35)),(1,1,(.tmp 36))],none⟩,⟨none,.store 2 (.tmp 8) (.tmp 37),none⟩,⟨(some 9),.mv (.const (.int .i64 0)),none⟩])
 .ret))))))⟩
theorem k202 : compFn Tryz.prog Tryz.f202 = some c202 := by kernel_rfl
-- croft/bits.IsPower[uint64]
def c209 : AFunc := ⟨[.tmp 2],(.seq (.region [⟨(some 2),.mv (.const (.bool false)),none⟩])
 (.seq (.region [⟨(some 3),.mv (.tmp 0),none⟩,⟨(some 4),.bin .neq (.tmp 3) (.const (.int .u64 0)),none⟩,⟨(some 5),.mv (.tmp 4),none⟩,⟨(some 6),.mv (.tmp 0),some (5,true)⟩,⟨(some 7),.mv (.tmp 0),some (5,true)⟩,⟨(some 8),.bin .sub (.tmp 7) (.const (.int .u64 1)),some (5,true)⟩,⟨(some 9),.bin .and (.tmp 6) (.tmp 8),some (5,true)⟩,⟨(some 10),.bin .eql (.tmp 9) (.const (.int .u64 0)),some (5,true)⟩,⟨(some 11),.pick (.tmp 5) (.tmp 10) (.const (.bool false)),none⟩,⟨(some 2),.mv (.tmp 11),none⟩])
 .ret))⟩
theorem k209 : compFn Tryz.prog Tryz.f209 = some c209 := by kernel_rfl
-- (*croft/malloc.Heap).give
def c214 : AFunc := ⟨[],(.seq (.region [⟨(some 3),.box 2 (.tmp 1),none⟩])
 (.seq (.seq (.region [⟨(some 4),.faddr 1 (.tmp 3),none⟩,⟨(some 5),.load false 1 (.tmp 4),none⟩,⟨(some 6),.bin .lss (.tmp 5) (.const (.int .u64 4096)),none⟩])
 (.cond (.tmp 6) (.seq (.draw [⟨⟨(some 7),.mv (.tmp 0),none⟩,0,0⟩,⟨⟨(some 8),.nilCheck (.tmp 7),none⟩,0,0⟩,⟨⟨(some 9),.faddr 6 (.tmp 8),none⟩,0,0⟩,⟨⟨(some 10),.load false 1 (.tmp 9),none⟩,0,0⟩,⟨⟨(some 11),.faddr 0 (.tmp 3),none⟩,0,0⟩,⟨⟨(some 12),.load false 1 (.tmp 11),none⟩,0,0⟩,⟨⟨(some 13),.call 275 [(.tmp 10),(.tmp 12)],none⟩,0,1⟩])
 .ret) .skip))
 (.draw [⟨⟨(some 14),.mv (.tmp 0),none⟩,0,1⟩,⟨⟨(some 15),.nilCheck (.tmp 14),none⟩,0,1⟩,⟨⟨(some 16),.faddr 5 (.tmp 15),none⟩,0,1⟩,⟨⟨(some 17),.load false 1 (.tmp 16),none⟩,0,1⟩,⟨⟨(some 18),.faddr 0 (.tmp 3),none⟩,0,1⟩,⟨⟨(some 19),.load false 1 (.tmp 18),none⟩,0,1⟩,⟨⟨(some 20),.faddr 1 (.tmp 3),none⟩,0,0⟩,⟨⟨(some 21),.load false 1 (.tmp 20),none⟩,0,0⟩,⟨⟨(some 22),.call 256 [(.tmp 21)],none⟩,0,1⟩,⟨⟨(some 23),.call 276 [(.tmp 17),(.tmp 19),(.tmp 22)],none⟩,1,2⟩])))⟩
theorem k214 : compFn Tryz.prog Tryz.f214 = some c214 := by kernel_rfl
-- (*croft/malloc.Heap).block
def c220 : AFunc := ⟨[.cell 4 true 2,.tmp 5],(.seq (.region [⟨(some 4),.alloc [(.int .u64 0),(.int .u64 0)],none⟩,⟨(some 5),.mv (.const (.bool false)),none⟩])
 (.seq (.seq (.region [⟨(some 13),.mv (.tmp 1),none⟩,⟨(some 14),.mv (.tmp 0),none⟩,⟨(some 15),.nilCheck (.tmp 14),none⟩,⟨(some 16),.faddr 2 (.tmp 15),none⟩,⟨(some 17),.faddr 0 (.tmp 16),none⟩,⟨(some 18),.load false 1 (.tmp 17),none⟩,⟨(some 19),.bin .lss (.tmp 13) (.tmp 18),none⟩,⟨(some 20),.mv (.tmp 19),none⟩,⟨(some 21),.mv (.tmp 1),some (20,false)⟩,⟨(some 22),.mv (.tmp 0),some (20,false)⟩,⟨(some 23),.nilCheck (.tmp 22),some (20,false)⟩,⟨(some 24),.faddr 5 (.tmp 23),some (20,false)⟩,⟨(some 25),.load false 1 (.tmp 24),some (20,false)⟩,⟨(some 26),.nilCheck (.tmp 25),some (20,false)⟩,⟨(some 27),.faddr 0 (.tmp 26),some (20,false)⟩,⟨(some 28),.call 113 [(.tmp 27)],some (20,false)⟩,⟨(some 29),.call 114 [(.tmp 28)],some (20,false)⟩,⟨(some 30),.bin .geq (.tmp 21) (.tmp 29),some (20,false)⟩,⟨(some 31),.pick (.tmp 20) (.const (.bool true)) (.tmp 30),none⟩])
 (.cond (.tmp 31) (.seq (.region [⟨(some 32),.build [(.int .u64 0),(.int .u64 0)] [],none⟩,⟨none,.store 2 (.tmp 4) (.tmp 32),none⟩,⟨(some 5),.mv (.const (.bool false)),none⟩])
 .ret) .skip))
 (.seq (.region [⟨(some 33),.mv (.tmp 1),none⟩,⟨(some 34),.mv (.tmp 0),none⟩,⟨(some 35),.nilCheck (.tmp 34),none⟩,⟨(some 36),.faddr 2 (.tmp 35),none⟩,⟨(some 37),.faddr 0 (.tmp 36),none⟩,⟨(some 38),.load false 1 (.tmp 37),none⟩,⟨(some 39),.bin .sub (.tmp 33) (.tmp 38),none⟩,⟨(some 40),.bin .quo (.tmp 39) (.const (.int .u64 4096)),none⟩,⟨(some 41),.conv .i64 (.tmp 40),none⟩,⟨(some 6),.mv (.tmp 41),none⟩])
 (.seq (.region [⟨(some 43),.mv (.tmp 0),none⟩,⟨(some 44),.nilCheck (.tmp 43),none⟩,⟨(some 45),.faddr 5 (.tmp 44),none⟩,⟨(some 46),.load false 1 (.tmp 45),none⟩,⟨(some 47),.nilCheck (.tmp 46),none⟩,⟨(some 48),.faddr 0 (.tmp 47),none⟩,⟨(some 49),.call 116 [(.tmp 48)],none⟩,⟨(some 50),.mv (.tmp 6),none⟩,⟨(some 51),.call 118 [(.tmp 49),(.tmp 50)],none⟩,⟨(some 42),.mv (.tmp 51),none⟩,⟨(some 52),.extract (.tmp 42) 0,none⟩,⟨(some 53),.extract (.tmp 42) 1,none⟩,⟨(some 7),.alloc [(.int .i64 0),(.int .i64 0),(.int .i64 0),(.int .i64 0),(.int .i64 0),(.int .i64 0),(.int .i64 0),(.int .u64 0),(.int .u64 0),(.int .u64 0),(.int .u64 0)],none⟩,⟨none,.store 11 (.tmp 7) (.tmp 52),none⟩,⟨(some 8),.mv (.tmp 53),none⟩])
 (.seq (.seq (.region [⟨(some 54),.faddr 0 (.tmp 7),none⟩,⟨(some 55),.load false 1 (.tmp 54),none⟩])
 (.block 0 (.seq (.region [⟨(some 57),.bin .eql (.tmp 55) (.const (.int .i64 4)),none⟩,⟨(some 56),.mv (.tmp 57),none⟩])
 (.cond (.tmp 56) (.seq (.region [⟨(some 58),.faddr 2 (.tmp 7),none⟩,⟨(some 59),.load false 1 (.tmp 58),none⟩,⟨(some 60),.bin .shl (.const (.int .u64 16)) (.tmp 59),none⟩,⟨(some 9),.mv (.tmp 60),none⟩])
 (.seq (.region [⟨(some 61),.mv (.tmp 1),none⟩,⟨(some 62),.mv (.tmp 9),none⟩,⟨(some 63),.bin .quo (.tmp 61) (.tmp 62),none⟩,⟨(some 64),.mv (.tmp 9),none⟩,⟨(some 65),.bin .mul (.tmp 63) (.tmp 64),none⟩,⟨(some 66),.mv (.tmp 9),none⟩,⟨(some 67),.build [(.int .u64 0),(.int .u64 0)] [(0,1,(.tmp 65)),(1,1,(.tmp 66))],none⟩,⟨(some 10),.alloc [(.int .u64 0),(.int .u64 0)],none⟩,⟨none,.store 2 (.tmp 10) (.tmp 67),none⟩])
 (.seq (.region [⟨(some 68),.faddr 0 (.tmp 10),none⟩,⟨(some 69),.load false 1 (.tmp 68),none⟩,⟨(some 70),.bin .rem (.tmp 69) (.const (.int .u64 4096)),none⟩,⟨(some 71),.mv (.tmp 9),none⟩,⟨(some 72),.bin .quo (.tmp 70) (.tmp 71),none⟩,⟨(some 11),.mv (.tmp 72),none⟩])
 (.seq (.draw [⟨⟨(some 73),.load true 2 (.tmp 10),none⟩,0,0⟩,⟨⟨(some 74),.mv (.tmp 11),none⟩,0,1⟩,⟨⟨(some 75),.bin .quo (.tmp 74) (.const (.int .u64 64)),none⟩,0,1⟩,⟨⟨(some 76),.faddr 7 (.tmp 7),none⟩,0,1⟩,⟨⟨(some 77),.iaddrA 4 1 (.tmp 76) (.tmp 75),none⟩,0,1⟩,⟨⟨(some 78),.load false 1 (.tmp 77),none⟩,0,1⟩,⟨⟨(some 79),.mv (.tmp 11),none⟩,0,1⟩,⟨⟨(some 80),.bin .rem (.tmp 79) (.const (.int .u64 64)),none⟩,0,1⟩,⟨⟨(some 81),.bin .shr (.tmp 78) (.tmp 80),none⟩,0,1⟩,⟨⟨(some 82),.bin .and (.tmp 81) (.const (.int .u64 1)),none⟩,0,1⟩,⟨⟨(some 83),.bin .eql (.tmp 82) (.const (.int .u64 1)),none⟩,0,1⟩,⟨⟨none,.store 2 (.tmp 4) (.tmp 73),none⟩,0,1⟩,⟨⟨(some 5),.mv (.tmp 83),none⟩,1,1⟩])
 .ret)))) (.seq (.seq (.region [⟨(some 85),.bin .eql (.tmp 55) (.const (.int .i64 2)),none⟩,⟨(some 84),.mv (.tmp 85),none⟩])
 (.cond (.tmp 84) .skip (.region [⟨(some 86),.bin .eql (.tmp 55) (.const (.int .i64 3)),none⟩,⟨(some 84),.mv (.tmp 86),none⟩])))
 (.cond (.tmp 84) (.seq (.region [⟨(some 87),.mv (.tmp 0),none⟩,⟨(some 88),.nilCheck (.tmp 87),none⟩,⟨(some 89),.faddr 5 (.tmp 88),none⟩,⟨(some 90),.load false 1 (.tmp 89),none⟩,⟨(some 91),.nilCheck (.tmp 90),none⟩,⟨(some 92),.faddr 0 (.tmp 91),none⟩,⟨(some 93),.call 116 [(.tmp 92)],none⟩,⟨(some 94),.mv (.tmp 6),none⟩,⟨(some 95),.call 278 [(.tmp 93),(.tmp 94)],none⟩,⟨(some 12),.mv (.tmp 95),none⟩])
 (.seq (.draw [⟨⟨(some 96),.mv (.tmp 0),none⟩,0,0⟩,⟨⟨(some 97),.nilCheck (.tmp 96),none⟩,0,0⟩,⟨⟨(some 98),.faddr 2 (.tmp 97),none⟩,0,0⟩,⟨⟨(some 99),.faddr 0 (.tmp 98),none⟩,0,0⟩,⟨⟨(some 100),.load false 1 (.tmp 99),none⟩,0,0⟩,⟨⟨(some 101),.mv (.tmp 12),none⟩,0,0⟩,⟨⟨(some 102),.conv .u64 (.tmp 101),none⟩,0,0⟩,⟨⟨(some 103),.bin .mul (.tmp 102) (.const (.int .u64 4096)),none⟩,0,0⟩,⟨⟨(some 104),.bin .add (.tmp 100) (.tmp 103),none⟩,0,0⟩,⟨⟨(some 105),.faddr 1 (.tmp 7),none⟩,0,0⟩,⟨⟨(some 106),.load false 1 (.tmp 105),none⟩,0,0⟩,⟨⟨(some 107),.bin .shl (.const (.int .u64 4096)) (.tmp 106),none⟩,0,0⟩,⟨⟨(some 108),.build [(.int .u64 0),(.int .u64 0)] [(0,1,(.tmp 104)),(1,1,(.tmp 107))],none⟩,0,0⟩,⟨⟨none,.store 2 (.tmp 4) (.tmp 108),none⟩,0,1⟩,⟨⟨(some 5),.mv (.const (.bool true)),none⟩,1,1⟩])
 .ret)) .skip))))))
 (.seq (.region [⟨(some 109),.build [(.int .u64 0),(.int .u64 0)] [],none⟩,⟨none,.store 2 (.tmp 4) (.tmp 109),none⟩,⟨(some 5),.mv (.const (.bool false)),none⟩])
 .ret))))))⟩
theorem k220 : compFn Tryz.prog Tryz.f220 = some c220 := by kernel_rfl
-- (*croft/mem.Space).Read$1
def c221 : AFunc := ⟨[],(.regionR (some 1) [⟨(some 2),.call 222 [(.tmp 1),(.tmp 0)],none⟩])⟩
theorem k221 : compFn Tryz.prog Tryz.f221 = some c221 := by kernel_rfl
-- croft/mem.caught
def c222 : AFunc := ⟨[],(.seq (.seq (.region [⟨(some 6),.mv (.tmp 0),none⟩,⟨(some 7),.eq1 false .iface (.tmp 6) (.const .nilIface),none⟩])
 (.cond (.tmp 7) .ret .skip))
 (.seq (.bad "region")
 (.seq (.seq (.region [⟨(some 13),.mv (.tmp 5),none⟩,⟨(some 14),.not (.tmp 13),none⟩])
 (.cond (.tmp 14) (.bad "region") .skip))
 (.region [⟨(some 16),.mv (.tmp 1),none⟩,⟨(some 17),.faddr 0 (.tmp 4),none⟩,⟨(some 18),.load false 1 (.tmp 17),none⟩,⟨(some 19),.nilCheck (.tmp 16),none⟩,⟨none,.store 1 (.tmp 19) (.tmp 18),none⟩]))))⟩
theorem k222 : compFn Tryz.prog Tryz.f222 = some c222 := by kernel_rfl
-- (*croft/mem.Space).look
def c223 : AFunc := ⟨[],(.seq (.region [⟨(some 6),.mv (.tmp 2),none⟩,⟨(some 7),.bin .neq (.tmp 6) (.const (.int .u64 0)),none⟩,⟨(some 8),.mv (.tmp 7),none⟩,⟨(some 9),.mv (.tmp 1),some (8,true)⟩,⟨(some 10),.mv (.tmp 0),some (8,true)⟩,⟨(some 11),.nilCheck (.tmp 10),some (8,true)⟩,⟨(some 12),.faddr 0 (.tmp 11),some (8,true)⟩,⟨(some 13),.faddr 0 (.tmp 12),some (8,true)⟩,⟨(some 14),.load false 1 (.tmp 13),some (8,true)⟩,⟨(some 15),.bin .lss (.tmp 9) (.tmp 14),some (8,true)⟩,⟨(some 16),.mv (.tmp 15),some (8,true)⟩,⟨(some 17),.mv (.tmp 1),some (16,false)⟩,⟨(some 18),.mv (.tmp 0),some (16,false)⟩,⟨(some 19),.call 114 [(.tmp 18)],some (16,false)⟩,⟨(some 20),.bin .gtr (.tmp 17) (.tmp 19),some (16,false)⟩,⟨(some 21),.pick (.tmp 16) (.const (.bool true)) (.tmp 20),some (8,true)⟩,⟨(some 22),.mv (.tmp 21),some (8,true)⟩,⟨(some 23),.mv (.tmp 2),some (22,false)⟩,⟨(some 24),.mv (.tmp 0),some (22,false)⟩,⟨(some 25),.call 114 [(.tmp 24)],some (22,false)⟩,⟨(some 26),.mv (.tmp 1),some (22,false)⟩,⟨(some 27),.bin .sub (.tmp 25) (.tmp 26),some (22,false)⟩,⟨(some 28),.bin .gtr (.tmp 23) (.tmp 27),some (22,false)⟩,⟨(some 29),.pick (.tmp 22) (.const (.bool true)) (.tmp 28),some (8,true)⟩,⟨(some 30),.pick (.tmp 8) (.tmp 29) (.const (.bool false)),none⟩])
 (.cond (.tmp 30) (.bad "region") .skip))⟩
theorem k223 : compFn Tryz.prog Tryz.f223 = some c223 := by kernel_rfl
-- (*croft/mem.Space).get
def c224 : AFunc := ⟨[],(.block 0 (.loop (.seq (.seq (.region [⟨(some 8),.mv (.tmp 2),none⟩,⟨(some 9),.lenS (.tmp 8),none⟩,⟨(some 10),.bin .gtr (.tmp 9) (.const (.int .i64 0)),none⟩])
 (.cond (.tmp 10) .skip (.exit 0)))
 (.block 1 (.seq (.region [⟨(some 11),.mv (.tmp 1),none⟩,⟨(some 12),.mv (.tmp 0),none⟩,⟨(some 13),.nilCheck (.tmp 12),none⟩,⟨(some 14),.faddr 0 (.tmp 13),none⟩,⟨(some 15),.faddr 0 (.tmp 14),none⟩,⟨(some 16),.load false 1 (.tmp 15),none⟩,⟨(some 17),.bin .sub (.tmp 11) (.tmp 16),none⟩,⟨(some 6),.mv (.tmp 17),none⟩])
 (.seq (.draw [⟨⟨(some 18),.mv (.tmp 2),none⟩,0,0⟩,⟨⟨(some 19),.mv (.tmp 0),none⟩,0,0⟩,⟨⟨(some 20),.nilCheck (.tmp 19),none⟩,0,0⟩,⟨⟨(some 21),.faddr 4 (.tmp 20),none⟩,0,0⟩,⟨⟨(some 22),.load false 1 (.tmp 21),none⟩,0,0⟩,⟨⟨(some 23),.mv (.tmp 6),none⟩,0,0⟩,⟨⟨(some 24),.mv (.tmp 0),none⟩,0,0⟩,⟨⟨(some 25),.nilCheck (.tmp 24),none⟩,0,0⟩,⟨⟨(some 26),.faddr 3 (.tmp 25),none⟩,0,0⟩,⟨⟨(some 27),.load false 1 (.tmp 26),none⟩,0,0⟩,⟨⟨(some 28),.bin .quo (.tmp 23) (.tmp 27),none⟩,0,0⟩,⟨⟨(some 29),.iaddrS 1 (.tmp 22) (.tmp 28),none⟩,0,0⟩,⟨⟨(some 30),.load false 1 (.tmp 29),none⟩,0,0⟩,⟨⟨(some 31),.mv (.tmp 6),none⟩,0,0⟩,⟨⟨(some 32),.mv (.tmp 0),none⟩,0,0⟩,⟨⟨(some 33),.nilCheck (.tmp 32),none⟩,0,0⟩,⟨⟨(some 34),.faddr 3 (.tmp 33),none⟩,0,0⟩,⟨⟨(some 35),.load false 1 (.tmp 34),none⟩,0,0⟩,⟨⟨(some 36),.bin .rem (.tmp 31) (.tmp 35),none⟩,0,0⟩,⟨⟨(some 37),.sliceOfC 1 (.tmp 30) (some (.tmp 36)) none,none⟩,0,0⟩,⟨⟨(some 38),.copy 1 (.tmp 18) (.tmp 37),none⟩,0,1⟩,⟨⟨(some 7),.mv (.tmp 38),none⟩,1,1⟩])
 (.seq (.region [⟨(some 39),.mv (.tmp 2),none⟩,⟨(some 40),.mv (.tmp 7),none⟩,⟨(some 41),.sliceOfC 1 (.tmp 39) (some (.tmp 40)) none,none⟩,⟨(some 2),.mv (.tmp 41),none⟩])
 (.region [⟨(some 42),.mv (.tmp 1),none⟩,⟨(some 43),.mv (.tmp 7),none⟩,⟨(some 44),.conv .u64 (.tmp 43),none⟩,⟨(some 45),.bin .add (.tmp 42) (.tmp 44),none⟩,⟨(some 1),.mv (.tmp 45),none⟩]))))))))⟩
theorem k224 : compFn Tryz.prog Tryz.f224 = some c224 := by kernel_rfl
-- (*croft/mem.Space).Write
def c226 : AFunc := ⟨[.cell 6 false 1],(.seq (.region [⟨(some 6),.alloc [(.int .i64 0)],none⟩])
 (.seq (.region [⟨(some 7),.makeFunc 279 [] [(.tmp 6)],none⟩,⟨none,.deferv (.tmp 7) [],none⟩])
 (.seq (.region [⟨(some 8),.mv (.tmp 0),none⟩,⟨(some 9),.mv (.tmp 1),none⟩,⟨(some 10),.mv (.tmp 2),none⟩,⟨(some 11),.lenS (.tmp 10),none⟩,⟨(some 12),.conv .u64 (.tmp 11),none⟩,⟨(some 13),.call 223 [(.tmp 8),(.tmp 9),(.tmp 12)],none⟩])
 (.seq (.region [⟨(some 14),.mv (.tmp 0),none⟩,⟨(some 15),.mv (.tmp 1),none⟩,⟨(some 16),.mv (.tmp 2),none⟩,⟨(some 17),.call 280 [(.tmp 14),(.tmp 15),(.tmp 16)],none⟩])
 (.seq (.region [⟨none,.store 1 (.tmp 6) (.const (.int .i64 0)),none⟩])
 .ret)))))⟩
theorem k226 : compFn Tryz.prog Tryz.f226 = some c226 := by kernel_rfl
-- math/bits.Mul64
def c236 : AFunc := ⟨[.tmp 4,.tmp 5],(.seq (.region [⟨(some 4),.mv (.const (.int .u64 0)),none⟩,⟨(some 5),.mv (.const (.int .u64 0)),none⟩])
 (.seq (.region [⟨(some 14),.mv (.tmp 0),none⟩,⟨(some 15),.bin .and (.tmp 14) (.const (.int .u64 4294967295)),none⟩,⟨(some 6),.mv (.tmp 15),none⟩])
 (.seq (.region [⟨(some 16),.mv (.tmp 0),none⟩,⟨(some 17),.bin .shr (.tmp 16) (.const (.int .u64 32)),none⟩,⟨(some 7),.mv (.tmp 17),none⟩])
 (.seq (.region [⟨(some 18),.mv (.tmp 1),none⟩,⟨(some 19),.bin .and (.tmp 18) (.const (.int .u64 4294967295)),none⟩,⟨(some 8),.mv (.tmp 19),none⟩])
 (.seq (.region [⟨(some 20),.mv (.tmp 1),none⟩,⟨(some 21),.bin .shr (.tmp 20) (.const (.int .u64 32)),none⟩,⟨(some 9),.mv (.tmp 21),none⟩])
 (.seq (.region [⟨(some 22),.mv (.tmp 6),none⟩,⟨(some 23),.mv (.tmp 8),none⟩,⟨(some 24),.bin .mul (.tmp 22) (.tmp 23),none⟩,⟨(some 10),.mv (.tmp 24),none⟩])
 (.seq (.region [⟨(some 25),.mv (.tmp 7),none⟩,⟨(some 26),.mv (.tmp 8),none⟩,⟨(some 27),.bin .mul (.tmp 25) (.tmp 26),none⟩,⟨(some 28),.mv (.tmp 10),none⟩,⟨(some 29),.bin .shr (.tmp 28) (.const (.int .u64 32)),none⟩,⟨(some 30),.bin .add (.tmp 27) (.tmp 29),none⟩,⟨(some 11),.mv (.tmp 30),none⟩])
 (.seq (.region [⟨(some 31),.mv (.tmp 11),none⟩,⟨(some 32),.bin .and (.tmp 31) (.const (.int .u64 4294967295)),none⟩,⟨(some 12),.mv (.tmp 32),none⟩])
 (.seq (.region [⟨(some 33),.mv (.tmp 11),none⟩,⟨(some 34),.bin .shr (.tmp 33) (.const (.int .u64 32)),none⟩,⟨(some 13),.mv (.tmp 34),none⟩])
 (.seq (.region [⟨(some 35),.mv (.tmp 12),none⟩,⟨(some 36),.mv (.tmp 6),none⟩,⟨(some 37),.mv (.tmp 9),none⟩,⟨(some 38),.bin .mul (.tmp 36) (.tmp 37),none⟩,⟨(some 39),.bin .add (.tmp 35) (.tmp 38),none⟩,⟨(some 12),.mv (.tmp 39),none⟩])
 (.seq (.region [⟨(some 40),.mv (.tmp 7),none⟩,⟨(some 41),.mv (.tmp 9),none⟩,⟨(some 42),.bin .mul (.tmp 40) (.tmp 41),none⟩,⟨(some 43),.mv (.tmp 13),none⟩,⟨(some 44),.bin .add (.tmp 42) (.tmp 43),none⟩,⟨(some 45),.mv (.tmp 12),none⟩,⟨(some 46),.bin .shr (.tmp 45) (.const (.int .u64 32)),none⟩,⟨(some 47),.bin .add (.tmp 44) (.tmp 46),none⟩,⟨(some 4),.mv (.tmp 47),none⟩])
 (.seq (.region [⟨(some 48),.mv (.tmp 0),none⟩,⟨(some 49),.mv (.tmp 1),none⟩,⟨(some 50),.bin .mul (.tmp 48) (.tmp 49),none⟩,⟨(some 5),.mv (.tmp 50),none⟩])
 .ret))))))))))))⟩
theorem k236 : compFn Tryz.prog Tryz.f236 = some c236 := by kernel_rfl
-- (*croft/mem.Space).Fill
def c237 : AFunc := ⟨[.cell 8 false 1],(.seq (.region [⟨(some 8),.alloc [(.int .i64 0)],none⟩])
 (.seq (.region [⟨(some 9),.makeFunc 284 [] [(.tmp 8)],none⟩,⟨none,.deferv (.tmp 9) [],none⟩])
 (.seq (.region [⟨(some 10),.mv (.tmp 0),none⟩,⟨(some 11),.mv (.tmp 1),none⟩,⟨(some 12),.mv (.tmp 2),none⟩,⟨(some 13),.call 223 [(.tmp 10),(.tmp 11),(.tmp 12)],none⟩])
 (.seq (.block 0 (.loop (.seq (.seq (.region [⟨(some 14),.mv (.tmp 2),none⟩,⟨(some 15),.bin .gtr (.tmp 14) (.const (.int .u64 0)),none⟩])
 (.cond (.tmp 15) .skip (.exit 0)))
 (.seq (.block 1 (.seq (.region [⟨(some 18),.mv (.tmp 0),none⟩,⟨(some 19),.mv (.tmp 1),none⟩,⟨(some 20),.call 285 [(.tmp 18),(.tmp 19)],none⟩,⟨(some 21),.mv (.tmp 3),none⟩,⟨(some 22),.nilCheck (.tmp 20),none⟩,⟨none,.store 1 (.tmp 22) (.tmp 21),none⟩])
 (.region [⟨(some 23),.mv (.tmp 1),none⟩,⟨(some 24),.bin .add (.tmp 23) (.const (.int .u64 1)),none⟩,⟨(some 1),.mv (.tmp 24),none⟩])))
 (.region [⟨(some 16),.mv (.tmp 2),none⟩,⟨(some 17),.bin .sub (.tmp 16) (.const (.int .u64 1)),none⟩,⟨(some 2),.mv (.tmp 17),none⟩])))))
 (.seq (.region [⟨none,.store 1 (.tmp 8) (.const (.int .i64 0)),none⟩])
 .ret)))))⟩
theorem k237 : compFn Tryz.prog Tryz.f237 = some c237 := by kernel_rfl
-- (*croft/mem.Space).SetWord
def c238 : AFunc := ⟨[.cell 6 false 1],(.seq (.region [⟨(some 6),.alloc [(.int .i64 0)],none⟩])
 (.seq (.region [⟨(some 9),.makeFunc 286 [] [(.tmp 6)],none⟩,⟨none,.deferv (.tmp 9) [],none⟩])
 (.seq (.region [⟨(some 10),.mv (.tmp 0),none⟩,⟨(some 11),.mv (.tmp 1),none⟩,⟨(some 12),.call 223 [(.tmp 10),(.tmp 11),(.const (.int .u64 8))],none⟩])
 (.seq (.region [⟨(some 7),.alloc [(.int .u8 0),(.int .u8 0),(.int .u8 0),(.int .u8 0),(.int .u8 0),(.int .u8 0),(.int .u8 0),(.int .u8 0)],none⟩])
 (.seq (.seq (.region [⟨(some 13),.mv (.const (.int .i64 0)),none⟩])
 (.block 0 (.loop (.seq (.region [⟨(some 14),.bin .lss (.tmp 13) (.const (.int .i64 8)),none⟩])
 (.seq (.cond (.tmp 14) .skip (.exit 0))
 (.seq (.block 1 (.seq (.region [⟨(some 15),.mv (.tmp 13),none⟩,⟨(some 8),.mv (.tmp 15),none⟩])
 (.region [⟨(some 16),.mv (.tmp 8),none⟩,⟨(some 17),.mv (.tmp 2),none⟩,⟨(some 18),.mv (.tmp 8),none⟩,⟨(some 19),.bin .mul (.const (.int .i64 8)) (.tmp 18),none⟩,⟨(some 20),.bin .shr (.tmp 17) (.tmp 19),none⟩,⟨(some 21),.conv .u8 (.tmp 20),none⟩,⟨(some 22),.iaddrA 8 1 (.tmp 7) (.tmp 16),none⟩,⟨none,.store 1 (.tmp 22) (.tmp 21),none⟩])))
 (.region [⟨(some 23),.bin .add (.tmp 13) (.const (.int .i64 1)),none⟩,⟨(some 13),.mv (.tmp 23),none⟩])))))))
 (.seq (.region [⟨(some 24),.mv (.tmp 0),none⟩,⟨(some 25),.mv (.tmp 1),none⟩,⟨(some 26),.sliceArr 8 1 (.tmp 7) none none,none⟩,⟨(some 27),.call 280 [(.tmp 24),(.tmp 25),(.tmp 26)],none⟩])
 (.seq (.region [⟨none,.store 1 (.tmp 6) (.const (.int .i64 0)),none⟩])
 .ret)))))))⟩
theorem k238 : compFn Tryz.prog Tryz.f238 = some c238 := by kernel_rfl
-- math/bits.Len
def c242 : AFunc := ⟨[.tmp 2],(.seq (.region [⟨(some 2),.mv (.const (.int .i64 0)),none⟩])
 (.seq (.cond (.const (.bool false)) (.seq (.region [⟨(some 3),.mv (.tmp 0),none⟩,⟨(some 4),.conv .u32 (.tmp 3),none⟩,⟨(some 5),.call 295 [(.tmp 4)],none⟩,⟨(some 2),.mv (.tmp 5),none⟩])
 .ret) .skip)
 (.seq (.region [⟨(some 6),.mv (.tmp 0),none⟩,⟨(some 7),.call 296 [(.tmp 6)],none⟩,⟨(some 2),.mv (.tmp 7),none⟩])
 .ret)))⟩
theorem k242 : compFn Tryz.prog Tryz.f242 = some c242 := by kernel_rfl
-- (*croft/mem.Space).Word
def c243 : AFunc := ⟨[.tmp 4,.cell 5 false 1],(.seq (.region [⟨(some 4),.mv (.const (.int .u64 0)),none⟩,⟨(some 5),.alloc [(.int .i64 0)],none⟩])
 (.seq (.region [⟨(some 8),.makeFunc 297 [] [(.tmp 5)],none⟩,⟨none,.deferv (.tmp 8) [],none⟩])
 (.seq (.region [⟨(some 9),.mv (.tmp 0),none⟩,⟨(some 10),.mv (.tmp 1),none⟩,⟨(some 11),.call 223 [(.tmp 9),(.tmp 10),(.const (.int .u64 8))],none⟩])
 (.seq (.region [⟨(some 6),.alloc [(.int .u8 0),(.int .u8 0),(.int .u8 0),(.int .u8 0),(.int .u8 0),(.int .u8 0),(.int .u8 0),(.int .u8 0)],none⟩])
 (.seq (.region [⟨(some 12),.mv (.tmp 0),none⟩,⟨(some 13),.mv (.tmp 1),none⟩,⟨(some 14),.sliceArr 8 1 (.tmp 6) none none,none⟩,⟨(some 15),.call 224 [(.tmp 12),(.tmp 13),(.tmp 14)],none⟩])
 (.seq (.seq (.region [⟨(some 16),.mv (.const (.int .i64 0)),none⟩])
 (.block 0 (.loop (.seq (.region [⟨(some 17),.bin .lss (.tmp 16) (.const (.int .i64 8)),none⟩])
 (.seq (.cond (.tmp 17) .skip (.exit 0))
 (.seq (.block 1 (.seq (.region [⟨(some 18),.mv (.tmp 16),none⟩,⟨(some 7),.mv (.tmp 18),none⟩])
 (.region [⟨(some 19),.mv (.tmp 4),none⟩,⟨(some 20),.mv (.tmp 7),none⟩,⟨(some 21),.iaddrA 8 1 (.tmp 6) (.tmp 20),none⟩,⟨(some 22),.load false 1 (.tmp 21),none⟩,⟨(some 23),.conv .u64 (.tmp 22),none⟩,⟨(some 24),.mv (.tmp 7),none⟩,⟨(some 25),.bin .mul (.const (.int .i64 8)) (.tmp 24),none⟩,⟨(some 26),.bin .shl (.tmp 23) (.tmp 25),none⟩,⟨(some 27),.bin .or (.tmp 19) (.tmp 26),none⟩,⟨(some 4),.mv (.tmp 27),none⟩])))
 (.region [⟨(some 28),.bin .add (.tmp 16) (.const (.int .i64 1)),none⟩,⟨(some 16),.mv (.tmp 28),none⟩])))))))
 (.seq (.region [⟨(some 29),.mv (.tmp 4),none⟩,⟨(some 4),.mv (.tmp 29),none⟩,⟨none,.store 1 (.tmp 5) (.const (.int .i64 0)),none⟩])
 .ret)))))))⟩
theorem k243 : compFn Tryz.prog Tryz.f243 = some c243 := by kernel_rfl
-- sort.Slice
def c245 : AFunc := ⟨[],(.seq (.region [⟨(some 8),.mv (.tmp 0),none⟩,⟨(some 9),.call 298 [(.tmp 8)],none⟩,⟨(some 4),.alloc [(.ptr none),(.ptr none),(.int .u64 0)],none⟩,⟨none,.store 3 (.tmp 4) (.tmp 9),none⟩])
 (.seq (.region [⟨(some 10),.mv (.tmp 0),none⟩,⟨(some 11),.call 299 [(.tmp 10)],none⟩,⟨(some 5),.mv (.tmp 11),none⟩])
 (.seq (.region [⟨(some 12),.load true 3 (.tmp 4),none⟩,⟨(some 13),.call 300 [(.tmp 12)],none⟩,⟨(some 6),.mv (.tmp 13),none⟩])
 (.seq (.region [⟨(some 14),.mv (.tmp 6),none⟩,⟨(some 15),.conv .u64 (.tmp 14),none⟩,⟨(some 16),.call 242 [(.tmp 15)],none⟩,⟨(some 7),.mv (.tmp 16),none⟩])
 (.region [⟨(some 17),.mv (.tmp 1),none⟩,⟨(some 18),.mv (.tmp 5),none⟩,⟨(some 19),.build [.nilFunc,.nilFunc] [(0,1,(.tmp 17)),(1,1,(.tmp 18))],none⟩,⟨(some 20),.mv (.tmp 6),none⟩,⟨(some 21),.mv (.tmp 7),none⟩,⟨(some 22),.call 301 [(.tmp 19),(.const (.int .i64 0)),(.tmp 20),(.tmp 21)],none⟩])))))⟩
theorem k245 : compFn Tryz.prog Tryz.f245 = some c245 := by kernel_rfl
-- (*croft/count.Store).Objects$1
def c246 : AFunc := ⟨[.tmp 6],(.seq (.region [⟨(some 6),.mv (.const (.bool false)),none⟩])
 (.seq (.draw [⟨⟨(some 7),.load false 1 (.tmp 2),none⟩,0,0⟩,⟨⟨(some 8),.nilCheck (.tmp 7),none⟩,0,0⟩,⟨⟨(some 9),.faddr 1 (.tmp 8),none⟩,0,0⟩,⟨⟨(some 10),.load false 1 (.tmp 9),none⟩,0,0⟩,⟨⟨(some 11),.load false 1 (.tmp 3),none⟩,0,0⟩,⟨⟨(some 12),.mv (.tmp 0),none⟩,0,0⟩,⟨⟨(some 13),.iaddrS 1 (.tmp 11) (.tmp 12),none⟩,0,0⟩,⟨⟨(some 14),.load false 1 (.tmp 13),none⟩,0,0⟩,⟨⟨(some 15),.lookup .int (.ptr none) false (.tmp 10) (.tmp 14),none⟩,0,0⟩,⟨⟨(some 16),.nilCheck (.tmp 15),none⟩,0,0⟩,⟨⟨(some 17),.faddr 0 (.tmp 16),none⟩,0,0⟩,⟨⟨(some 18),.load false 1 (.tmp 17),none⟩,0,0⟩,⟨⟨(some 19),.load false 1 (.tmp 2),none⟩,0,0⟩,⟨⟨(some 20),.nilCheck (.tmp 19),none⟩,0,0⟩,⟨⟨(some 21),.faddr 1 (.tmp 20),none⟩,0,0⟩,⟨⟨(some 22),.load false 1 (.tmp 21),none⟩,0,0⟩,⟨⟨(some 23),.load false 1 (.tmp 3),none⟩,0,0⟩,⟨⟨(some 24),.mv (.tmp 1),none⟩,0,0⟩,⟨⟨(some 25),.iaddrS 1 (.tmp 23) (.tmp 24),none⟩,0,0⟩,⟨⟨(some 26),.load false 1 (.tmp 25),none⟩,0,0⟩,⟨⟨(some 27),.lookup .int (.ptr none) false (.tmp 22) (.tmp 26),none⟩,0,0⟩,⟨⟨(some 28),.nilCheck (.tmp 27),none⟩,0,0⟩,⟨⟨(some 29),.faddr 0 (.tmp 28),none⟩,0,0⟩,⟨⟨(some 30),.load false 1 (.tmp 29),none⟩,0,0⟩,⟨⟨(some 31),.bin .lss (.tmp 18) (.tmp 30),none⟩,0,0⟩,⟨⟨(some 6),.mv (.tmp 31),none⟩,0,0⟩])
 .ret))⟩
theorem k246 : compFn Tryz.prog Tryz.f246 = some c246 := by kernel_rfl
-- (*croft/count.line).run
def c247 : AFunc := ⟨[],(.seq (.region [⟨(some 2),.mv (.const (.int .i64 0)),none⟩])
 (.block 0 (.loop (.seq (.seq (.region [⟨(some 6),.mv (.tmp 2),none⟩,⟨(some 7),.mv (.tmp 0),none⟩,⟨(some 8),.nilCheck (.tmp 7),none⟩,⟨(some 9),.faddr 1 (.tmp 8),none⟩,⟨(some 10),.load false 1 (.tmp 9),none⟩,⟨(some 11),.lenS (.tmp 10),none⟩,⟨(some 12),.bin .lss (.tmp 6) (.tmp 11),none⟩])
 (.cond (.tmp 12) .skip (.exit 0)))
 (.seq (.block 1 (.seq (.region [⟨(some 15),.mv (.tmp 0),none⟩,⟨(some 16),.nilCheck (.tmp 15),none⟩,⟨(some 17),.faddr 1 (.tmp 16),none⟩,⟨(some 18),.load false 1 (.tmp 17),none⟩,⟨(some 19),.mv (.tmp 2),none⟩,⟨(some 20),.iaddrS 1 (.tmp 18) (.tmp 19),none⟩,⟨(some 21),.load false 1 (.tmp 20),none⟩,⟨(some 3),.mv (.tmp 21),none⟩])
 (.seq (.seq (.region [⟨(some 22),.mv (.tmp 0),none⟩,⟨(some 23),.nilCheck (.tmp 22),none⟩,⟨(some 24),.faddr 0 (.tmp 23),none⟩,⟨(some 25),.load false 1 (.tmp 24),none⟩,⟨(some 26),.mv (.tmp 3),none⟩,⟨(some 27),.call 182 [(.tmp 25),(.tmp 26)],none⟩,⟨(some 28),.lenS (.tmp 27),none⟩,⟨(some 29),.mv (.const (.int .i64 0)),none⟩])
 (.block 2 (.loop (.seq (.region [⟨(some 30),.bin .lss (.tmp 29) (.tmp 28),none⟩])
 (.seq (.cond (.tmp 30) .skip (.exit 2))
 (.seq (.block 3 (.seq (.region [⟨(some 31),.iaddrS 1 (.tmp 27) (.tmp 29),none⟩,⟨(some 32),.load false 1 (.tmp 31),none⟩,⟨(some 5),.mv (.tmp 32),none⟩])
 (.region [⟨(some 33),.mv (.tmp 0),none⟩,⟨(some 34),.nilCheck (.tmp 33),none⟩,⟨(some 35),.faddr 0 (.tmp 34),none⟩,⟨(some 36),.load false 1 (.tmp 35),none⟩,⟨(some 37),.mv (.tmp 5),none⟩,⟨(some 38),.mv (.tmp 0),none⟩,⟨(some 39),.mkIface 264 (.tmp 38),none⟩,⟨(some 40),.call 183 [(.tmp 36),(.tmp 37),(.tmp 39)],none⟩])))
 (.region [⟨(some 41),.bin .add (.tmp 29) (.const (.int .i64 1)),none⟩,⟨(some 29),.mv (.tmp 41),none⟩])))))))
 (.region [⟨(some 42),.mv (.tmp 0),none⟩,⟨(some 43),.nilCheck (.tmp 42),none⟩,⟨(some 44),.faddr 0 (.tmp 43),none⟩,⟨(some 45),.load false 1 (.tmp 44),none⟩,⟨(some 46),.mv (.tmp 3),none⟩,⟨(some 47),.call 184 [(.tmp 45),(.tmp 46)],none⟩]))))
 (.region [⟨(some 13),.mv (.tmp 2),none⟩,⟨(some 14),.bin .add (.tmp 13) (.const (.int .i64 1)),none⟩,⟨(some 2),.mv (.tmp 14),none⟩]))))))⟩
theorem k247 : compFn Tryz.prog Tryz.f247 = some c247 := by kernel_rfl
-- (*croft/count.Store).reached$1
def c248 : AFunc := ⟨[],(.seq (.region [⟨(some 8),.load false 1 (.tmp 1),none⟩,⟨(some 9),.mv (.tmp 0),none⟩,⟨(some 10),.lookup .int (.int .i64 0) true (.tmp 8) (.tmp 9),none⟩,⟨(some 7),.mv (.tmp 10),none⟩,⟨(some 11),.extract (.tmp 7) 0,none⟩,⟨(some 12),.extract (.tmp 7) 1,none⟩,⟨(some 5),.mv (.tmp 11),none⟩,⟨(some 6),.mv (.tmp 12),none⟩])
 (.seq (.region [⟨(some 13),.mv (.tmp 6),none⟩,⟨(some 14),.not (.tmp 13),none⟩,⟨(some 15),.mv (.tmp 14),none⟩,⟨(some 16),.load false 1 (.tmp 2),some (15,true)⟩,⟨(some 17),.nilCheck (.tmp 16),some (15,true)⟩,⟨(some 18),.faddr 1 (.tmp 17),some (15,true)⟩,⟨(some 19),.load false 1 (.tmp 18),some (15,true)⟩,⟨(some 20),.mv (.tmp 0),some (15,true)⟩,⟨(some 21),.lookup .int (.ptr none) false (.tmp 19) (.tmp 20),some (15,true)⟩,⟨(some 22),.eq1 true .ptr (.tmp 21) (.const (.ptr none)),some (15,true)⟩,⟨(some 23),.pick (.tmp 15) (.tmp 22) (.const (.bool false)),none⟩])
 (.cond (.tmp 23) (.seq (.region [⟨(some 24),.load false 1 (.tmp 1),none⟩,⟨(some 25),.mv (.tmp 0),none⟩,⟨(some 26),.load false 1 (.tmp 1),none⟩,⟨(some 27),.lenM (.tmp 26),none⟩,⟨none,.mapUpdate .int (.tmp 24) (.tmp 25) (.tmp 27),none⟩])
 (.region [⟨(some 28),.load false 1 (.tmp 3),none⟩,⟨(some 29),.mv (.tmp 0),none⟩,⟨(some 30),.mkSlice 1 1 [(.int .u64 0)] [(0,1,(.tmp 29))],none⟩,⟨(some 31),.appendC 1 8 (.tmp 28) (.tmp 30),none⟩,⟨none,.store 1 (.tmp 3) (.tmp 31),none⟩])) .skip)))⟩
theorem k248 : compFn Tryz.prog Tryz.f248 = some c248 := by kernel_rfl
-- croft/bits.Ceil[uint64]
def c251 : AFunc := ⟨[.tmp 2,.tmp 3],(.seq (.region [⟨(some 2),.mv (.const (.int .u64 0)),none⟩,⟨(some 3),.mv (.const (.bool false)),none⟩])
 (.seq (.seq (.region [⟨(some 5),.mv (.tmp 0),none⟩,⟨(some 6),.bin .leq (.tmp 5) (.const (.int .u64 1)),none⟩])
 (.cond (.tmp 6) (.seq (.region [⟨(some 2),.mv (.const (.int .u64 1)),none⟩,⟨(some 3),.mv (.const (.bool true)),none⟩])
 .ret) .skip))
 (.seq (.region [⟨(some 7),.conv .u64 (.const (.int .i64 1)),none⟩,⟨(some 8),.mv (.tmp 0),none⟩,⟨(some 9),.bin .sub (.tmp 8) (.const (.int .u64 1)),none⟩,⟨(some 10),.call 303 [(.tmp 9)],none⟩,⟨(some 11),.bin .add (.tmp 10) (.const (.int .i64 1)),none⟩,⟨(some 12),.bin .shl (.tmp 7) (.tmp 11),none⟩,⟨(some 4),.mv (.tmp 12),none⟩])
 (.seq (.region [⟨(some 13),.mv (.tmp 4),none⟩,⟨(some 14),.mv (.tmp 4),none⟩,⟨(some 15),.bin .neq (.tmp 14) (.const (.int .u64 0)),none⟩,⟨(some 2),.mv (.tmp 13),none⟩,⟨(some 3),.mv (.tmp 15),none⟩])
 .ret))))⟩
theorem k251 : compFn Tryz.prog Tryz.f251 = some c251 := by kernel_rfl
-- (*croft/malloc.Heap).round
def c253 : AFunc := ⟨[.tmp 6,.tmp 7],(.seq (.region [⟨(some 6),.mv (.const (.int .u64 0)),none⟩,⟨(some 7),.mv (.const (.int .i64 0)),none⟩])
 (.seq (.seq (.region [⟨(some 10),.mv (.tmp 2),none⟩,⟨(some 11),.call 209 [(.tmp 10)],none⟩,⟨(some 12),.not (.tmp 11),none⟩])
 (.cond (.tmp 12) (.seq (.region [⟨(some 6),.mv (.const (.int .u64 0)),none⟩,⟨(some 7),.mv (.const (.int .i64 1)),none⟩])
 .ret) .skip))
 (.seq (.region [⟨(some 14),.mv (.tmp 1),none⟩,⟨(some 15),.mv (.tmp 2),none⟩,⟨(some 16),.maxmin true [(.tmp 14),(.tmp 15),(.const (.int .u64 16))],none⟩,⟨(some 17),.call 251 [(.tmp 16)],none⟩,⟨(some 13),.mv (.tmp 17),none⟩,⟨(some 18),.extract (.tmp 13) 0,none⟩,⟨(some 19),.extract (.tmp 13) 1,none⟩,⟨(some 8),.mv (.tmp 18),none⟩,⟨(some 9),.mv (.tmp 19),none⟩])
 (.seq (.seq (.region [⟨(some 20),.mv (.tmp 9),none⟩,⟨(some 21),.not (.tmp 20),none⟩,⟨(some 22),.mv (.tmp 21),none⟩,⟨(some 23),.mv (.tmp 8),some (22,false)⟩,⟨(some 24),.mv (.tmp 0),some (22,false)⟩,⟨(some 25),.call 304 [(.tmp 24)],some (22,false)⟩,⟨(some 26),.bin .gtr (.tmp 23) (.tmp 25),some (22,false)⟩,⟨(some 27),.pick (.tmp 22) (.const (.bool true)) (.tmp 26),none⟩])
 (.cond (.tmp 27) (.seq (.region [⟨(some 6),.mv (.const (.int .u64 0)),none⟩,⟨(some 7),.mv (.const (.int .i64 3)),none⟩])
 .ret) .skip))
 (.seq (.region [⟨(some 28),.mv (.tmp 8),none⟩,⟨(some 6),.mv (.tmp 28),none⟩,⟨(some 7),.mv (.const (.int .i64 0)),none⟩])
 .ret)))))⟩
theorem k253 : compFn Tryz.prog Tryz.f253 = some c253 := by kernel_rfl
-- croft/malloc.order
def c256 : AFunc := ⟨[.tmp 2],(.seq (.region [⟨(some 2),.mv (.const (.int .i64 0)),none⟩])
 (.seq (.region [⟨(some 3),.mv (.tmp 0),none⟩,⟨(some 4),.bin .quo (.tmp 3) (.const (.int .u64 4096)),none⟩,⟨(some 5),.call 303 [(.tmp 4)],none⟩,⟨(some 2),.mv (.tmp 5),none⟩])
 .ret))⟩
theorem k256 : compFn Tryz.prog Tryz.f256 = some c256 := by kernel_rfl
-- (*croft/malloc.Heap).take
def c257 : AFunc := ⟨[.tmp 6,.tmp 7],(.seq (.region [⟨(some 6),.mv (.const (.int .u64 0)),none⟩,⟨(some 7),.mv (.const (.int .i64 0)),none⟩])
 (.seq (.seq (.region [⟨(some 14),.mv (.tmp 1),none⟩,⟨(some 15),.bin .lss (.tmp 14) (.const (.int .u64 4096)),none⟩])
 (.cond (.tmp 15) (.seq (.draw [⟨⟨(some 17),.mv (.tmp 0),none⟩,0,1⟩,⟨⟨(some 18),.nilCheck (.tmp 17),none⟩,0,1⟩,⟨⟨(some 19),.faddr 6 (.tmp 18),none⟩,0,1⟩,⟨⟨(some 20),.load false 1 (.tmp 19),none⟩,0,1⟩,⟨⟨(some 21),.mv (.tmp 1),none⟩,0,0⟩,⟨⟨(some 22),.call 308 [(.tmp 21)],none⟩,0,1⟩,⟨⟨(some 23),.mv (.tmp 2),none⟩,0,1⟩,⟨⟨(some 24),.call 307 [(.tmp 20),(.tmp 22),(.tmp 23)],none⟩,1,2⟩,⟨⟨(some 16),.mv (.tmp 24),none⟩,2,2⟩,⟨⟨(some 25),.extract (.tmp 16) 0,none⟩,2,2⟩,⟨⟨(some 26),.extract (.tmp 16) 1,none⟩,2,2⟩,⟨⟨(some 27),.extract (.tmp 16) 2,none⟩,2,2⟩,⟨⟨(some 8),.mv (.tmp 25),none⟩,2,2⟩,⟨⟨(some 9),.mv (.tmp 26),none⟩,2,2⟩,⟨⟨(some 10),.mv (.tmp 27),none⟩,2,2⟩])
 (.seq (.region [⟨(some 28),.mv (.tmp 8),none⟩,⟨(some 29),.mv (.tmp 10),none⟩,⟨(some 6),.mv (.tmp 28),none⟩,⟨(some 7),.mv (.tmp 29),none⟩])
 .ret)) .skip))
 (.seq (.draw [⟨⟨(some 31),.mv (.tmp 0),none⟩,0,1⟩,⟨⟨(some 32),.nilCheck (.tmp 31),none⟩,0,1⟩,⟨⟨(some 33),.faddr 5 (.tmp 32),none⟩,0,1⟩,⟨⟨(some 34),.load false 1 (.tmp 33),none⟩,0,1⟩,⟨⟨(some 35),.mv (.tmp 1),none⟩,0,0⟩,⟨⟨(some 36),.call 256 [(.tmp 35)],none⟩,0,1⟩,⟨⟨(some 37),.mv (.tmp 2),none⟩,0,1⟩,⟨⟨(some 38),.call 309 [(.tmp 34),(.tmp 36),(.tmp 37)],none⟩,1,2⟩,⟨⟨(some 30),.mv (.tmp 38),none⟩,2,2⟩,⟨⟨(some 39),.extract (.tmp 30) 0,none⟩,2,2⟩,⟨⟨(some 40),.extract (.tmp 30) 1,none⟩,2,2⟩,⟨⟨(some 41),.extract (.tmp 30) 2,none⟩,2,2⟩,⟨⟨(some 11),.mv (.tmp 39),none⟩,2,2⟩,⟨⟨(some 12),.mv (.tmp 40),none⟩,2,2⟩,⟨⟨(some 13),.mv (.tmp 41),none⟩,2,2⟩])
 (.seq (.region [⟨(some 42),.mv (.tmp 11),none⟩,⟨(some 43),.mv (.tmp 13),none⟩,⟨(some 6),.mv (.tmp 42),none⟩,⟨(some 7),.mv (.tmp 43),none⟩])
 .ret))))⟩
theorem k257 : compFn Tryz.prog Tryz.f257 = some c257 := by kernel_rfl
-- croft/mem.may
def c260 : AFunc := ⟨[.tmp 2],(.seq (.region [⟨(some 1),.box 3 (.tmp 0),none⟩,⟨(some 2),.mv (.const (.bool false)),none⟩])
 (.seq (.seq (.region [⟨(some 4),.faddr 2 (.tmp 1),none⟩,⟨(some 5),.load false 1 (.tmp 4),none⟩,⟨(some 6),.bin .lss (.tmp 5) (.const (.int .i64 0)),none⟩,⟨(some 7),.mv (.tmp 6),none⟩,⟨(some 8),.faddr 2 (.tmp 1),some (7,false)⟩,⟨(some 9),.load false 1 (.tmp 8),some (7,false)⟩,⟨(some 10),.bin .gtr (.tmp 9) (.const (.int .i64 8)),some (7,false)⟩,⟨(some 11),.pick (.tmp 7) (.const (.bool true)) (.tmp 10),none⟩,⟨(some 12),.mv (.tmp 11),none⟩,⟨(some 13),.faddr 1 (.tmp 1),some (12,false)⟩,⟨(some 14),.load false 1 (.tmp 13),some (12,false)⟩,⟨(some 15),.bin .lss (.tmp 14) (.const (.int .i64 1)),some (12,false)⟩,⟨(some 16),.pick (.tmp 12) (.const (.bool true)) (.tmp 15),none⟩,⟨(some 17),.mv (.tmp 16),none⟩,⟨(some 18),.faddr 1 (.tmp 1),some (17,false)⟩,⟨(some 19),.load false 1 (.tmp 18),some (17,false)⟩,⟨(some 20),.bin .gtr (.tmp 19) (.const (.int .i64 64)),some (17,false)⟩,⟨(some 21),.pick (.tmp 17) (.const (.bool true)) (.tmp 20),none⟩,⟨(some 22),.mv (.tmp 21),none⟩,⟨(some 23),.faddr 1 (.tmp 1),some (22,false)⟩,⟨(some 24),.load false 1 (.tmp 23),some (22,false)⟩,⟨(some 25),.faddr 2 (.tmp 1),some (22,false)⟩,⟨(some 26),.load false 1 (.tmp 25),some (22,false)⟩,⟨(some 27),.bin .shl (.tmp 24) (.tmp 26),some (22,false)⟩,⟨(some 28),.bin .gtr (.tmp 27) (.const (.int .i64 1024)),some (22,false)⟩,⟨(some 29),.pick (.tmp 22) (.const (.bool true)) (.tmp 28),none⟩])
 (.cond (.tmp 29) (.seq (.region [⟨(some 2),.mv (.const (.bool false)),none⟩])
 .ret) .skip))
 (.seq (.region [⟨(some 30),.faddr 2 (.tmp 1),none⟩,⟨(some 31),.load false 1 (.tmp 30),none⟩,⟨(some 32),.bin .shl (.const (.int .u64 4096)) (.tmp 31),none⟩,⟨(some 3),.mv (.tmp 32),none⟩])
 (.seq (.region [⟨(some 33),.faddr 0 (.tmp 1),none⟩,⟨(some 34),.load false 1 (.tmp 33),none⟩,⟨(some 35),.bin .neq (.tmp 34) (.const (.int .u64 0)),none⟩,⟨(some 36),.mv (.tmp 35),none⟩,⟨(some 37),.faddr 0 (.tmp 1),some (36,true)⟩,⟨(some 38),.load false 1 (.tmp 37),some (36,true)⟩,⟨(some 39),.mv (.tmp 3),some (36,true)⟩,⟨(some 40),.bin .rem (.tmp 38) (.tmp 39),some (36,true)⟩,⟨(some 41),.bin .eql (.tmp 40) (.const (.int .u64 0)),some (36,true)⟩,⟨(some 42),.pick (.tmp 36) (.tmp 41) (.const (.bool false)),none⟩,⟨(some 43),.mv (.tmp 42),none⟩,⟨(some 44),.faddr 0 (.tmp 1),some (43,true)⟩,⟨(some 45),.load false 1 (.tmp 44),some (43,true)⟩,⟨(some 46),.bin .leq (.tmp 45) (.const (.int .u64 9223372036854775808)),some (43,true)⟩,⟨(some 47),.pick (.tmp 43) (.tmp 46) (.const (.bool false)),none⟩,⟨(some 48),.mv (.tmp 47),none⟩,⟨(some 49),.mv (.tmp 3),some (48,true)⟩,⟨(some 50),.faddr 1 (.tmp 1),some (48,true)⟩,⟨(some 51),.load false 1 (.tmp 50),some (48,true)⟩,⟨(some 52),.conv .u64 (.tmp 51),some (48,true)⟩,⟨(some 53),.bin .mul (.tmp 49) (.tmp 52),some (48,true)⟩,⟨(some 54),.faddr 0 (.tmp 1),some (48,true)⟩,⟨(some 55),.load false 1 (.tmp 54),some (48,true)⟩,⟨(some 56),.bin .sub (.const (.int .u64 9223372036854775808)) (.tmp 55),some (48,true)⟩,⟨(some 57),.bin .leq (.tmp 53) (.tmp 56),some (48,true)⟩,⟨(some 58),.pick (.tmp 48) (.tmp 57) (.const (.bool false)),none⟩,⟨(some 2),.mv (.tmp 58),none⟩])
 .ret))))⟩
theorem k260 : compFn Tryz.prog Tryz.f260 = some c260 := by kernel_rfl
-- croft/bits.NewSet
def c261 : AFunc := ⟨[.tmp 2],(.seq (.region [⟨(some 2),.mv (.const (.ptr none)),none⟩])
 (.seq (.region [⟨(some 3),.mv (.tmp 0),none⟩,⟨(some 4),.call 311 [(.const (.slice none 0 0)),(.tmp 3)],none⟩,⟨(some 2),.mv (.tmp 4),none⟩])
 .ret))⟩
theorem k261 : compFn Tryz.prog Tryz.f261 = some c261 := by kernel_rfl
-- croft/buddy.Open
def c262 : AFunc := ⟨[.tmp 8,.tmp 9],(.seq (.region [⟨(some 4),.box 3 (.tmp 0),none⟩,⟨(some 8),.mv (.const (.ptr none)),none⟩,⟨(some 9),.mv (.const (.int .i64 0)),none⟩])
 (.seq (.seq (.region [⟨(some 13),.mv (.tmp 3),none⟩,⟨(some 14),.lenS (.tmp 13),none⟩,⟨(some 15),.faddr 2 (.tmp 4),none⟩,⟨(some 16),.load false 1 (.tmp 15),none⟩,⟨(some 17),.bin .add (.tmp 16) (.const (.int .i64 1)),none⟩,⟨(some 18),.bin .neq (.tmp 14) (.tmp 17),none⟩])
 (.cond (.tmp 18) (.seq (.region [⟨(some 8),.mv (.const (.ptr none)),none⟩,⟨(some 9),.mv (.const (.int .i64 7)),none⟩])
 .ret) .skip))
 (.seq (.region [⟨(some 19),.load true 3 (.tmp 4),none⟩,⟨(some 20),.mv (.tmp 1),none⟩,⟨(some 21),.mv (.tmp 2),none⟩,⟨(some 22),.build [(.int .u64 0),(.int .i64 0),(.int .i64 0),(.ptr none),(.ptr none),(.slice none 0 0)] [(0,3,(.tmp 19)),(3,1,(.tmp 20)),(4,1,(.tmp 21))],none⟩,⟨(some 23),.box 6 (.tmp 22),none⟩,⟨(some 10),.mv (.tmp 23),none⟩])
 (.seq (.seq (.region [⟨(some 24),.mv (.tmp 3),none⟩,⟨(some 25),.lenS (.tmp 24),none⟩,⟨(some 26),.mv (.const (.int .i64 0)),none⟩])
 (.block 0 (.loop (.seq (.region [⟨(some 27),.bin .lss (.tmp 26) (.tmp 25),none⟩])
 (.seq (.cond (.tmp 27) .skip (.exit 0))
 (.seq (.block 1 (.seq (.region [⟨(some 28),.iaddrS 1 (.tmp 24) (.tmp 26),none⟩,⟨(some 29),.load false 1 (.tmp 28),none⟩,⟨(some 12),.mv (.tmp 29),none⟩])
 (.draw [⟨⟨(some 30),.mv (.tmp 10),none⟩,0,3⟩,⟨⟨(some 31),.mv (.tmp 10),none⟩,0,2⟩,⟨⟨(some 32),.nilCheck (.tmp 31),none⟩,0,2⟩,⟨⟨(some 33),.faddr 5 (.tmp 32),none⟩,0,2⟩,⟨⟨(some 34),.load false 1 (.tmp 33),none⟩,0,2⟩,⟨⟨(some 35),.mv (.tmp 1),none⟩,0,0⟩,⟨⟨(some 36),.mv (.tmp 12),none⟩,0,0⟩,⟨⟨(some 37),.call 312 [(.tmp 35),(.tmp 36)],none⟩,0,1⟩,⟨⟨(some 38),.mkSlice 1 1 [(.ptr none)] [(0,1,(.tmp 37))],none⟩,1,2⟩,⟨⟨(some 39),.appendC 1 8 (.tmp 34) (.tmp 38),none⟩,2,3⟩,⟨⟨(some 40),.nilCheck (.tmp 30),none⟩,3,3⟩,⟨⟨(some 41),.faddr 5 (.tmp 40),none⟩,3,3⟩,⟨⟨none,.store 1 (.tmp 41) (.tmp 39),none⟩,3,4⟩])))
 (.region [⟨(some 42),.bin .add (.tmp 26) (.const (.int .i64 1)),none⟩,⟨(some 26),.mv (.tmp 42),none⟩])))))))
 (.seq (.region [⟨(some 43),.mv (.tmp 10),none⟩,⟨(some 8),.mv (.tmp 43),none⟩,⟨(some 9),.mv (.const (.int .i64 0)),none⟩])
 .ret)))))⟩
theorem k262 : compFn Tryz.prog Tryz.f262 = some c262 := by kernel_rfl
-- (*croft/slab.Slab).Give
def c275 : AFunc := ⟨[.tmp 4],(.seq (.region [⟨(some 4),.mv (.const (.int .i64 0)),none⟩])
 (.seq (.region [⟨(some 13),.mv (.tmp 0),none⟩,⟨(some 14),.mv (.tmp 1),none⟩,⟨(some 15),.call 322 [(.tmp 13),(.tmp 14)],none⟩,⟨(some 12),.mv (.tmp 15),none⟩,⟨(some 16),.extract (.tmp 12) 0,none⟩,⟨(some 17),.extract (.tmp 12) 1,none⟩,⟨(some 18),.extract (.tmp 12) 2,none⟩,⟨(some 19),.extract (.tmp 12) 3,none⟩,⟨(some 7),.alloc [(.int .i64 0),(.int .i64 0),(.int .i64 0),(.int .i64 0),(.int .i64 0),(.int .i64 0),(.int .i64 0),(.int .u64 0),(.int .u64 0),(.int .u64 0),(.int .u64 0)],none⟩,⟨(some 5),.mv (.tmp 16),none⟩,⟨(some 6),.mv (.tmp 17),none⟩,⟨none,.store 11 (.tmp 7) (.tmp 18),none⟩,⟨(some 8),.mv (.tmp 19),none⟩])
 (.seq (.seq (.region [⟨(some 20),.mv (.tmp 8),none⟩,⟨(some 21),.not (.tmp 20),none⟩])
 (.cond (.tmp 21) (.seq (.region [⟨(some 4),.mv (.const (.int .i64 1)),none⟩])
 .ret) .skip))
 (.seq (.region [⟨(some 22),.mv (.tmp 0),none⟩,⟨(some 23),.nilCheck (.tmp 22),none⟩,⟨(some 24),.faddr 0 (.tmp 23),none⟩,⟨(some 25),.load false 1 (.tmp 24),none⟩,⟨(some 26),.nilCheck (.tmp 25),none⟩,⟨(some 27),.faddr 0 (.tmp 26),none⟩,⟨(some 28),.call 116 [(.tmp 27)],none⟩,⟨(some 9),.mv (.tmp 28),none⟩])
 (.seq (.region [⟨(some 29),.mv (.tmp 9),none⟩,⟨(some 30),.mv (.tmp 5),none⟩,⟨(some 31),.mv (.tmp 6),none⟩,⟨(some 32),.call 323 [(.tmp 29),(.tmp 30),(.tmp 31),(.const (.bool false))],none⟩])
 (.seq (.region [⟨(some 33),.mv (.tmp 0),none⟩,⟨(some 34),.call 324 [(.tmp 33)],none⟩,⟨(some 35),.mv (.tmp 5),none⟩,⟨(some 36),.conv .u64 (.tmp 35),none⟩,⟨(some 37),.bin .mul (.const (.int .u64 4096)) (.tmp 36),none⟩,⟨(some 38),.bin .add (.tmp 34) (.tmp 37),none⟩,⟨(some 10),.mv (.tmp 38),none⟩])
 (.seq (.block 0 (.seq (.block 3 (.seq (.block 2 (.seq (.block 1 (.seq (.seq (.seq (.region [⟨(some 40),.faddr 3 (.tmp 7),none⟩,⟨(some 41),.load false 1 (.tmp 40),none⟩,⟨(some 42),.bin .eql (.tmp 41) (.const (.int .i64 1)),none⟩,⟨(some 39),.mv (.tmp 42),none⟩])
 (.cond (.tmp 39) (.exit 1) .skip))
 (.seq (.region [⟨(some 44),.faddr 6 (.tmp 7),none⟩,⟨(some 45),.load false 1 (.tmp 44),none⟩,⟨(some 46),.bin .lss (.tmp 45) (.const (.int .i64 0)),none⟩,⟨(some 43),.mv (.tmp 46),none⟩])
 (.cond (.tmp 43) (.exit 2) .skip)))
 (.exit 3)))
 (.seq (.seq (.region [⟨(some 47),.mv (.tmp 0),none⟩,⟨(some 48),.mv (.tmp 5),none⟩,⟨(some 49),.faddr 2 (.tmp 7),none⟩,⟨(some 50),.load false 1 (.tmp 49),none⟩,⟨(some 51),.call 325 [(.tmp 47),(.tmp 48),(.tmp 50)],none⟩])
 (.seq (.region [⟨(some 52),.mv (.tmp 9),none⟩,⟨(some 53),.mv (.tmp 5),none⟩,⟨(some 54),.call 326 [(.tmp 52),(.tmp 53),(.const (.int .i64 0)),(.const (.int .i64 2))],none⟩])
 (.seq (.region [⟨(some 55),.mv (.tmp 0),none⟩,⟨(some 56),.nilCheck (.tmp 55),none⟩,⟨(some 57),.faddr 0 (.tmp 56),none⟩,⟨(some 58),.load false 1 (.tmp 57),none⟩,⟨(some 59),.mv (.tmp 10),none⟩,⟨(some 60),.call 276 [(.tmp 58),(.tmp 59),(.const (.int .i64 0))],none⟩,⟨(some 4),.mv (.tmp 60),none⟩])
 .ret)))
 (.exit 0))))
 (.region [⟨(some 61),.mv (.tmp 0),none⟩,⟨(some 62),.mv (.tmp 5),none⟩,⟨(some 63),.faddr 2 (.tmp 7),none⟩,⟨(some 64),.load false 1 (.tmp 63),none⟩,⟨(some 65),.call 327 [(.tmp 61),(.tmp 62),(.tmp 64)],none⟩])))
 (.seq (.seq (.region [⟨(some 11),.mv (.const (.int .u64 0)),none⟩])
 (.seq (.seq (.region [⟨(some 66),.faddr 6 (.tmp 7),none⟩,⟨(some 67),.load false 1 (.tmp 66),none⟩,⟨(some 68),.bin .geq (.tmp 67) (.const (.int .i64 0)),none⟩])
 (.cond (.tmp 68) (.draw [⟨⟨(some 69),.mv (.tmp 10),none⟩,0,0⟩,⟨⟨(some 70),.faddr 6 (.tmp 7),none⟩,0,0⟩,⟨⟨(some 71),.load false 1 (.tmp 70),none⟩,0,0⟩,⟨⟨(some 72),.conv .u64 (.tmp 71),none⟩,0,0⟩,⟨⟨(some 73),.faddr 2 (.tmp 7),none⟩,0,0⟩,⟨⟨(some 74),.load false 1 (.tmp 73),none⟩,0,0⟩,⟨⟨(some 75),.iaddrA 8 1 (.glob 1) (.tmp 74),none⟩,0,0⟩,⟨⟨(some 76),.load false 1 (.tmp 75),none⟩,0,0⟩,⟨⟨(some 77),.bin .mul (.tmp 72) (.tmp 76),none⟩,0,0⟩,⟨⟨(some 78),.bin .add (.tmp 69) (.tmp 77),none⟩,0,0⟩,⟨⟨(some 11),.mv (.tmp 78),none⟩,0,0⟩]) .skip))
 (.seq (.region [⟨(some 79),.mv (.tmp 0),none⟩,⟨(some 80),.nilCheck (.tmp 79),none⟩,⟨(some 81),.faddr 0 (.tmp 80),none⟩,⟨(some 82),.load false 1 (.tmp 81),none⟩,⟨(some 83),.nilCheck (.tmp 82),none⟩,⟨(some 84),.faddr 0 (.tmp 83),none⟩,⟨(some 85),.call 113 [(.tmp 84)],none⟩,⟨(some 86),.mv (.tmp 1),none⟩,⟨(some 87),.mv (.tmp 11),none⟩,⟨(some 88),.call 238 [(.tmp 85),(.tmp 86),(.tmp 87)],none⟩])
 (.region [⟨(some 89),.mv (.tmp 9),none⟩,⟨(some 90),.mv (.tmp 5),none⟩,⟨(some 91),.mv (.tmp 6),none⟩,⟨(some 92),.call 328 [(.tmp 89),(.tmp 90),(.tmp 91)],none⟩]))))
 (.exit 0))))
 (.seq (.region [⟨(some 4),.mv (.const (.int .i64 0)),none⟩])
 .ret))))))))⟩
theorem k275 : compFn Tryz.prog Tryz.f275 = some c275 := by kernel_rfl
-- (*croft/region.Pool).Give
def c276 : AFunc := ⟨[.tmp 6],(.seq (.region [⟨(some 6),.mv (.const (.int .i64 0)),none⟩])
 (.seq (.region [⟨(some 7),.mv (.tmp 0),none⟩,⟨(some 8),.nilCheck (.tmp 7),none⟩,⟨(some 9),.faddr 0 (.tmp 8),none⟩,⟨(some 10),.faddr 2 (.tmp 9),none⟩,⟨(some 11),.load false 1 (.tmp 10),none⟩,⟨(some 12),.mv (.tmp 1),none⟩,⟨(some 13),.mv (.tmp 2),none⟩,⟨(some 14),.call 329 [(.tmp 11),(.tmp 12),(.tmp 13)],none⟩,⟨(some 6),.mv (.tmp 14),none⟩])
 .ret))⟩
theorem k276 : compFn Tryz.prog Tryz.f276 = some c276 := by kernel_rfl
-- (*croft/pagemap.Map).Head
def c278 : AFunc := ⟨[.tmp 4],(.seq (.region [⟨(some 4),.mv (.const (.int .i64 0)),none⟩])
 (.seq (.region [⟨(some 8),.mv (.tmp 0),none⟩,⟨(some 9),.mv (.tmp 1),none⟩,⟨(some 10),.call 118 [(.tmp 8),(.tmp 9)],none⟩,⟨(some 7),.mv (.tmp 10),none⟩,⟨(some 11),.extract (.tmp 7) 0,none⟩,⟨(some 12),.extract (.tmp 7) 1,none⟩,⟨(some 5),.alloc [(.int .i64 0),(.int .i64 0),(.int .i64 0),(.int .i64 0),(.int .i64 0),(.int .i64 0),(.int .i64 0),(.int .u64 0),(.int .u64 0),(.int .u64 0),(.int .u64 0)],none⟩,⟨none,.store 11 (.tmp 5) (.tmp 11),none⟩,⟨(some 6),.mv (.tmp 12),none⟩])
 (.seq (.seq (.region [⟨(some 13),.mv (.tmp 6),none⟩,⟨(some 14),.not (.tmp 13),none⟩])
 (.cond (.tmp 14) (.seq (.region [⟨(some 4),.mv (.const (.int .i64 (-1))),none⟩])
 .ret) .skip))
 (.seq (.draw [⟨⟨(some 15),.mv (.tmp 1),none⟩,0,0⟩,⟨⟨(some 16),.faddr 1 (.tmp 5),none⟩,0,0⟩,⟨⟨(some 17),.load false 1 (.tmp 16),none⟩,0,0⟩,⟨⟨(some 18),.bin .shr (.tmp 15) (.tmp 17),none⟩,0,0⟩,⟨⟨(some 19),.faddr 1 (.tmp 5),none⟩,0,0⟩,⟨⟨(some 20),.load false 1 (.tmp 19),none⟩,0,0⟩,⟨⟨(some 21),.bin .shl (.tmp 18) (.tmp 20),none⟩,0,0⟩,⟨⟨(some 4),.mv (.tmp 21),none⟩,0,0⟩])
 .ret))))⟩
theorem k278 : compFn Tryz.prog Tryz.f278 = some c278 := by kernel_rfl
-- (*croft/mem.Space).Write$1
def c279 : AFunc := ⟨[],(.regionR (some 1) [⟨(some 2),.call 222 [(.tmp 1),(.tmp 0)],none⟩])⟩
theorem k279 : compFn Tryz.prog Tryz.f279 = some c279 := by kernel_rfl
-- (*croft/mem.Space).put
def c280 : AFunc := ⟨[],(.block 0 (.loop (.seq (.seq (.region [⟨(some 8),.mv (.tmp 2),none⟩,⟨(some 9),.lenS (.tmp 8),none⟩,⟨(some 10),.bin .gtr (.tmp 9) (.const (.int .i64 0)),none⟩])
 (.cond (.tmp 10) .skip (.exit 0)))
 (.block 1 (.seq (.region [⟨(some 11),.mv (.tmp 1),none⟩,⟨(some 12),.mv (.tmp 0),none⟩,⟨(some 13),.nilCheck (.tmp 12),none⟩,⟨(some 14),.faddr 0 (.tmp 13),none⟩,⟨(some 15),.faddr 0 (.tmp 14),none⟩,⟨(some 16),.load false 1 (.tmp 15),none⟩,⟨(some 17),.bin .sub (.tmp 11) (.tmp 16),none⟩,⟨(some 6),.mv (.tmp 17),none⟩])
 (.seq (.draw [⟨⟨(some 18),.mv (.tmp 0),none⟩,0,0⟩,⟨⟨(some 19),.nilCheck (.tmp 18),none⟩,0,0⟩,⟨⟨(some 20),.faddr 4 (.tmp 19),none⟩,0,0⟩,⟨⟨(some 21),.load false 1 (.tmp 20),none⟩,0,0⟩,⟨⟨(some 22),.mv (.tmp 6),none⟩,0,0⟩,⟨⟨(some 23),.mv (.tmp 0),none⟩,0,0⟩,⟨⟨(some 24),.nilCheck (.tmp 23),none⟩,0,0⟩,⟨⟨(some 25),.faddr 3 (.tmp 24),none⟩,0,0⟩,⟨⟨(some 26),.load false 1 (.tmp 25),none⟩,0,0⟩,⟨⟨(some 27),.bin .quo (.tmp 22) (.tmp 26),none⟩,0,0⟩,⟨⟨(some 28),.iaddrS 1 (.tmp 21) (.tmp 27),none⟩,0,0⟩,⟨⟨(some 29),.load false 1 (.tmp 28),none⟩,0,0⟩,⟨⟨(some 30),.mv (.tmp 6),none⟩,0,0⟩,⟨⟨(some 31),.mv (.tmp 0),none⟩,0,0⟩,⟨⟨(some 32),.nilCheck (.tmp 31),none⟩,0,0⟩,⟨⟨(some 33),.faddr 3 (.tmp 32),none⟩,0,0⟩,⟨⟨(some 34),.load false 1 (.tmp 33),none⟩,0,0⟩,⟨⟨(some 35),.bin .rem (.tmp 30) (.tmp 34),none⟩,0,0⟩,⟨⟨(some 36),.sliceOfC 1 (.tmp 29) (some (.tmp 35)) none,none⟩,0,0⟩,⟨⟨(some 37),.mv (.tmp 2),none⟩,0,0⟩,⟨⟨(some 38),.copy 1 (.tmp 36) (.tmp 37),none⟩,0,1⟩,⟨⟨(some 7),.mv (.tmp 38),none⟩,1,1⟩])
 (.seq (.region [⟨(some 39),.mv (.tmp 2),none⟩,⟨(some 40),.mv (.tmp 7),none⟩,⟨(some 41),.sliceOfC 1 (.tmp 39) (some (.tmp 40)) none,none⟩,⟨(some 2),.mv (.tmp 41),none⟩])
 (.region [⟨(some 42),.mv (.tmp 1),none⟩,⟨(some 43),.mv (.tmp 7),none⟩,⟨(some 44),.conv .u64 (.tmp 43),none⟩,⟨(some 45),.bin .add (.tmp 42) (.tmp 44),none⟩,⟨(some 1),.mv (.tmp 45),none⟩]))))))))⟩
theorem k280 : compFn Tryz.prog Tryz.f280 = some c280 := by kernel_rfl
-- (*croft/mem.Space).Fill$1
def c284 : AFunc := ⟨[],(.regionR (some 1) [⟨(some 2),.call 222 [(.tmp 1),(.tmp 0)],none⟩])⟩
theorem k284 : compFn Tryz.prog Tryz.f284 = some c284 := by kernel_rfl
-- (*croft/mem.Space).byteAt
def c285 : AFunc := ⟨[.tmp 4],(.seq (.region [⟨(some 4),.mv (.const (.ptr none)),none⟩])
 (.seq (.region [⟨(some 6),.mv (.tmp 1),none⟩,⟨(some 7),.mv (.tmp 0),none⟩,⟨(some 8),.nilCheck (.tmp 7),none⟩,⟨(some 9),.faddr 0 (.tmp 8),none⟩,⟨(some 10),.faddr 0 (.tmp 9),none⟩,⟨(some 11),.load false 1 (.tmp 10),none⟩,⟨(some 12),.bin .sub (.tmp 6) (.tmp 11),none⟩,⟨(some 5),.mv (.tmp 12),none⟩])
 (.seq (.draw [⟨⟨(some 13),.mv (.tmp 0),none⟩,0,0⟩,⟨⟨(some 14),.nilCheck (.tmp 13),none⟩,0,0⟩,⟨⟨(some 15),.faddr 4 (.tmp 14),none⟩,0,0⟩,⟨⟨(some 16),.load false 1 (.tmp 15),none⟩,0,0⟩,⟨⟨(some 17),.mv (.tmp 5),none⟩,0,0⟩,⟨⟨(some 18),.mv (.tmp 0),none⟩,0,0⟩,⟨⟨(some 19),.nilCheck (.tmp 18),none⟩,0,0⟩,⟨⟨(some 20),.faddr 3 (.tmp 19),none⟩,0,0⟩,⟨⟨(some 21),.load false 1 (.tmp 20),none⟩,0,0⟩,⟨⟨(some 22),.bin .quo (.tmp 17) (.tmp 21),none⟩,0,0⟩,⟨⟨(some 23),.iaddrS 1 (.tmp 16) (.tmp 22),none⟩,0,0⟩,⟨⟨(some 24),.load false 1 (.tmp 23),none⟩,0,0⟩,⟨⟨(some 25),.mv (.tmp 5),none⟩,0,0⟩,⟨⟨(some 26),.mv (.tmp 0),none⟩,0,0⟩,⟨⟨(some 27),.nilCheck (.tmp 26),none⟩,0,0⟩,⟨⟨(some 28),.faddr 3 (.tmp 27),none⟩,0,0⟩,⟨⟨(some 29),.load false 1 (.tmp 28),none⟩,0,0⟩,⟨⟨(some 30),.bin .rem (.tmp 25) (.tmp 29),none⟩,0,0⟩,⟨⟨(some 31),.iaddrS 1 (.tmp 24) (.tmp 30),none⟩,0,0⟩,⟨⟨(some 4),.mv (.tmp 31),none⟩,0,0⟩])
 .ret)))⟩
theorem k285 : compFn Tryz.prog Tryz.f285 = some c285 := by kernel_rfl
-- (*croft/mem.Space).SetWord$1
def c286 : AFunc := ⟨[],(.regionR (some 1) [⟨(some 2),.call 222 [(.tmp 1),(.tmp 0)],none⟩])⟩
theorem k286 : compFn Tryz.prog Tryz.f286 = some c286 := by kernel_rfl
-- math/bits.Len32
def c295 : AFunc := ⟨[.tmp 2],(.seq (.region [⟨(some 2),.mv (.const (.int .i64 0)),none⟩])
 (.seq (.seq (.region [⟨(some 3),.mv (.tmp 0),none⟩,⟨(some 4),.bin .geq (.tmp 3) (.const (.int .u32 65536)),none⟩])
 (.cond (.tmp 4) (.seq (.region [⟨(some 5),.mv (.tmp 0),none⟩,⟨(some 6),.bin .shr (.tmp 5) (.const (.int .u64 16)),none⟩,⟨(some 0),.mv (.tmp 6),none⟩])
 (.region [⟨(some 2),.mv (.const (.int .i64 16)),none⟩])) .skip))
 (.seq (.seq (.region [⟨(some 7),.mv (.tmp 0),none⟩,⟨(some 8),.bin .geq (.tmp 7) (.const (.int .u32 256)),none⟩])
 (.cond (.tmp 8) (.seq (.region [⟨(some 9),.mv (.tmp 0),none⟩,⟨(some 10),.bin .shr (.tmp 9) (.const (.int .u64 8)),none⟩,⟨(some 0),.mv (.tmp 10),none⟩])
 (.region [⟨(some 11),.mv (.tmp 2),none⟩,⟨(some 12),.bin .add (.tmp 11) (.const (.int .i64 8)),none⟩,⟨(some 2),.mv (.tmp 12),none⟩])) .skip))
 (.seq (.region [⟨(some 13),.mv (.tmp 2),none⟩,⟨(some 14),.mv (.tmp 0),none⟩,⟨(some 15),.conv .u8 (.tmp 14),none⟩,⟨(some 16),.indexS (.const (.str [0,1,2,2,3,3,3,3,4,4,4,4,4,4,4,4,5,5,5,5,5,5,5,5,5,5,5,5,5,5,5,5,6,6,6,6,6,6,6,6,6,6,6,6,6,6,6,6,6,6,6,6,6,6,6,6,6,6,6,6,6,6,6,6,7,7,7,7,7,7,7,7,7,7,7,7,7,7,7,7,7,7,7,7,7,7,7,7,7,7,7,7,7,7,7,7,7,7,7,7,7,7,7,7,7,7,7,7,7,7,7,7,7,7,7,7,7,7,7,7,7,7,7,7,7,7,7,7,8,8,8,8,8,8,8,8,8,8,8,8,8,8,8,8,8,8,8,8,8,8,8,8,8,8,8,8,8,8,8,8,8,8,8,8,8,8,8,8,8,8,8,8,8,8,8,8,8,8,8,8,8,8,8,8,8,8,8,8,8,8,8,8,8,8,8,8,8,8,8,8,8,8,8,8,8,8,8,8,8,8,8,8,8,8,8,8,8,8,8,8,8,8,8,8,8,8,8,8,8,8,8,8,8,8,8,8,8,8,8,8,8,8,8,8,8,8,8,8,8,8,8,8,8,8,8,8])) (.tmp 15),none⟩,⟨(some 17),.conv .i64 (.tmp 16),none⟩,⟨(some 18),.bin .add (.tmp 13) (.tmp 17),none⟩,⟨(some 2),.mv (.tmp 18),none⟩])
 .ret))))⟩
theorem k295 : compFn Tryz.prog Tryz.f295 = some c295 := by kernel_rfl
-- math/bits.Len64
def c296 : AFunc := ⟨[.tmp 2],(.seq (.region [⟨(some 2),.mv (.const (.int .i64 0)),none⟩])
 (.seq (.seq (.region [⟨(some 3),.mv (.tmp 0),none⟩,⟨(some 4),.bin .geq (.tmp 3) (.const (.int .u64 4294967296)),none⟩])
 (.cond (.tmp 4) (.seq (.region [⟨(some 5),.mv (.tmp 0),none⟩,⟨(some 6),.bin .shr (.tmp 5) (.const (.int .u64 32)),none⟩,⟨(some 0),.mv (.tmp 6),none⟩])
 (.region [⟨(some 2),.mv (.const (.int .i64 32)),none⟩])) .skip))
 (.seq (.seq (.region [⟨(some 7),.mv (.tmp 0),none⟩,⟨(some 8),.bin .geq (.tmp 7) (.const (.int .u64 65536)),none⟩])
 (.cond (.tmp 8) (.seq (.region [⟨(some 9),.mv (.tmp 0),none⟩,⟨(some 10),.bin .shr (.tmp 9) (.const (.int .u64 16)),none⟩,⟨(some 0),.mv (.tmp 10),none⟩])
 (.region [⟨(some 11),.mv (.tmp 2),none⟩,⟨(some 12),.bin .add (.tmp 11) (.const (.int .i64 16)),none⟩,⟨(some 2),.mv (.tmp 12),none⟩])) .skip))
 (.seq (.seq (.region [⟨(some 13),.mv (.tmp 0),none⟩,⟨(some 14),.bin .geq (.tmp 13) (.const (.int .u64 256)),none⟩])
 (.cond (.tmp 14) (.seq (.region [⟨(some 15),.mv (.tmp 0),none⟩,⟨(some 16),.bin .shr (.tmp 15) (.const (.int .u64 8)),none⟩,⟨(some 0),.mv (.tmp 16),none⟩])
 (.region [⟨(some 17),.mv (.tmp 2),none⟩,⟨(some 18),.bin .add (.tmp 17) (.const (.int .i64 8)),none⟩,⟨(some 2),.mv (.tmp 18),none⟩])) .skip))
 (.seq (.region [⟨(some 19),.mv (.tmp 2),none⟩,⟨(some 20),.mv (.tmp 0),none⟩,⟨(some 21),.conv .u8 (.tmp 20),none⟩,⟨(some 22),.indexS (.const (.str [0,1,2,2,3,3,3,3,4,4,4,4,4,4,4,4,5,5,5,5,5,5,5,5,5,5,5,5,5,5,5,5,6,6,6,6,6,6,6,6,6,6,6,6,6,6,6,6,6,6,6,6,6,6,6,6,6,6,6,6,6,6,6,6,7,7,7,7,7,7,7,7,7,7,7,7,7,7,7,7,7,7,7,7,7,7,7,7,7,7,7,7,7,7,7,7,7,7,7,7,7,7,7,7,7,7,7,7,7,7,7,7,7,7,7,7,7,7,7,7,7,7,7,7,7,7,7,7,8,8,8,8,8,8,8,8,8,8,8,8,8,8,8,8,8,8,8,8,8,8,8,8,8,8,8,8,8,8,8,8,8,8,8,8,8,8,8,8,8,8,8,8,8,8,8,8,8,8,8,8,8,8,8,8,8,8,8,8,8,8,8,8,8,8,8,8,8,8,8,8,8,8,8,8,8,8,8,8,8,8,8,8,8,8,8,8,8,8,8,8,8,8,8,8,8,8,8,8,8,8,8,8,8,8,8,8,8,8,8,8,8,8,8,8,8,8,8,8,8,8,8,8,8,8,8,8])) (.tmp 21),none⟩,⟨(some 23),.conv .i64 (.tmp 22),none⟩,⟨(some 24),.bin .add (.tmp 19) (.tmp 23),none⟩,⟨(some 2),.mv (.tmp 24),none⟩])
 .ret)))))⟩
theorem k296 : compFn Tryz.prog Tryz.f296 = some c296 := by kernel_rfl
-- (*croft/mem.Space).Word$1
def c297 : AFunc := ⟨[],(.regionR (some 1) [⟨(some 2),.call 222 [(.tmp 1),(.tmp 0)],none⟩])⟩
theorem k297 : compFn Tryz.prog Tryz.f297 = some c297 := by kernel_rfl
-- sort.pdqsort_func
def c301 : AFunc := ⟨[],(.seq (.region [⟨(some 4),.box 2 (.tmp 0),none⟩])
 (.seq (.region [⟨(some 8),.mv (.const (.bool true)),none⟩])
 (.seq (.region [⟨(some 9),.mv (.const (.bool true)),none⟩])
 (.block 0 (.loop (.block 1 (.seq (.region [⟨(some 19),.mv (.tmp 2),none⟩,⟨(some 20),.mv (.tmp 1),none⟩,⟨(some 21),.bin .sub (.tmp 19) (.tmp 20),none⟩,⟨(some 10),.mv (.tmp 21),none⟩])
 (.seq (.seq (.region [⟨(some 22),.mv (.tmp 10),none⟩,⟨(some 23),.bin .leq (.tmp 22) (.const (.int .i64 12)),none⟩])
 (.cond (.tmp 23) (.seq (.region [⟨(some 24),.load true 2 (.tmp 4),none⟩,⟨(some 25),.mv (.tmp 1),none⟩,⟨(some 26),.mv (.tmp 2),none⟩,⟨(some 27),.call 347 [(.tmp 24),(.tmp 25),(.tmp 26)],none⟩])
 .ret) .skip))
 (.seq (.seq (.region [⟨(some 28),.mv (.tmp 3),none⟩,⟨(some 29),.bin .eql (.tmp 28) (.const (.int .i64 0)),none⟩])
 (.cond (.tmp 29) (.seq (.region [⟨(some 30),.load true 2 (.tmp 4),none⟩,⟨(some 31),.mv (.tmp 1),none⟩,⟨(some 32),.mv (.tmp 2),none⟩,⟨(some 33),.call 348 [(.tmp 30),(.tmp 31),(.tmp 32)],none⟩])
 .ret) .skip))
 (.seq (.seq (.region [⟨(some 34),.mv (.tmp 8),none⟩,⟨(some 35),.not (.tmp 34),none⟩])
 (.cond (.tmp 35) (.seq (.region [⟨(some 36),.load true 2 (.tmp 4),none⟩,⟨(some 37),.mv (.tmp 1),none⟩,⟨(some 38),.mv (.tmp 2),none⟩,⟨(some 39),.call 349 [(.tmp 36),(.tmp 37),(.tmp 38)],none⟩])
 (.region [⟨(some 40),.mv (.tmp 3),none⟩,⟨(some 41),.bin .sub (.tmp 40) (.const (.int .i64 1)),none⟩,⟨(some 3),.mv (.tmp 41),none⟩])) .skip))
 (.seq (.region [⟨(some 43),.load true 2 (.tmp 4),none⟩,⟨(some 44),.mv (.tmp 1),none⟩,⟨(some 45),.mv (.tmp 2),none⟩,⟨(some 46),.call 350 [(.tmp 43),(.tmp 44),(.tmp 45)],none⟩,⟨(some 42),.mv (.tmp 46),none⟩,⟨(some 47),.extract (.tmp 42) 0,none⟩,⟨(some 48),.extract (.tmp 42) 1,none⟩,⟨(some 11),.mv (.tmp 47),none⟩,⟨(some 12),.mv (.tmp 48),none⟩])
 (.seq (.seq (.region [⟨(some 49),.mv (.tmp 12),none⟩,⟨(some 50),.bin .eql (.tmp 49) (.const (.int .i64 2)),none⟩])
 (.cond (.tmp 50) (.seq (.region [⟨(some 51),.load true 2 (.tmp 4),none⟩,⟨(some 52),.mv (.tmp 1),none⟩,⟨(some 53),.mv (.tmp 2),none⟩,⟨(some 54),.call 351 [(.tmp 51),(.tmp 52),(.tmp 53)],none⟩])
 (.seq (.region [⟨(some 55),.mv (.tmp 2),none⟩,⟨(some 56),.bin .sub (.tmp 55) (.const (.int .i64 1)),none⟩,⟨(some 57),.mv (.tmp 11),none⟩,⟨(some 58),.mv (.tmp 1),none⟩,⟨(some 59),.bin .sub (.tmp 57) (.tmp 58),none⟩,⟨(some 60),.bin .sub (.tmp 56) (.tmp 59),none⟩,⟨(some 11),.mv (.tmp 60),none⟩])
 (.region [⟨(some 12),.mv (.const (.int .i64 1)),none⟩]))) .skip))
 (.seq (.seq (.region [⟨(some 61),.mv (.tmp 8),none⟩,⟨(some 62),.mv (.tmp 61),none⟩,⟨(some 63),.mv (.tmp 9),some (62,true)⟩,⟨(some 64),.pick (.tmp 62) (.tmp 63) (.const (.bool false)),none⟩,⟨(some 65),.mv (.tmp 64),none⟩,⟨(some 66),.mv (.tmp 12),some (65,true)⟩,⟨(some 67),.bin .eql (.tmp 66) (.const (.int .i64 1)),some (65,true)⟩,⟨(some 68),.pick (.tmp 65) (.tmp 67) (.const (.bool false)),none⟩])
 (.cond (.tmp 68) (.seq (.region [⟨(some 69),.load true 2 (.tmp 4),none⟩,⟨(some 70),.mv (.tmp 1),none⟩,⟨(some 71),.mv (.tmp 2),none⟩,⟨(some 72),.call 352 [(.tmp 69),(.tmp 70),(.tmp 71)],none⟩])
 (.cond (.tmp 72) .ret .skip)) .skip))
 (.seq (.seq (.region [⟨(some 73),.mv (.tmp 1),none⟩,⟨(some 74),.bin .gtr (.tmp 73) (.const (.int .i64 0)),none⟩,⟨(some 75),.mv (.tmp 74),none⟩,⟨(some 76),.faddr 0 (.tmp 4),some (75,true)⟩,⟨(some 77),.load false 1 (.tmp 76),some (75,true)⟩,⟨(some 78),.mv (.tmp 1),some (75,true)⟩,⟨(some 79),.bin .sub (.tmp 78) (.const (.int .i64 1)),some (75,true)⟩,⟨(some 80),.mv (.tmp 11),some (75,true)⟩,⟨(some 81),.callv (.tmp 77) [(.tmp 79),(.tmp 80)],some (75,true)⟩,⟨(some 82),.not (.tmp 81),some (75,true)⟩,⟨(some 83),.pick (.tmp 75) (.tmp 82) (.const (.bool false)),none⟩])
 (.cond (.tmp 83) (.seq (.region [⟨(some 84),.load true 2 (.tmp 4),none⟩,⟨(some 85),.mv (.tmp 1),none⟩,⟨(some 86),.mv (.tmp 2),none⟩,⟨(some 87),.mv (.tmp 11),none⟩,⟨(some 88),.call 353 [(.tmp 84),(.tmp 85),(.tmp 86),(.tmp 87)],none⟩,⟨(some 13),.mv (.tmp 88),none⟩])
 (.seq (.region [⟨(some 89),.mv (.tmp 13),none⟩,⟨(some 1),.mv (.tmp 89),none⟩])
 (.exit 1))) .skip))
 (.seq (.region [⟨(some 91),.load true 2 (.tmp 4),none⟩,⟨(some 92),.mv (.tmp 1),none⟩,⟨(some 93),.mv (.tmp 2),none⟩,⟨(some 94),.mv (.tmp 11),none⟩,⟨(some 95),.call 354 [(.tmp 91),(.tmp 92),(.tmp 93),(.tmp 94)],none⟩,⟨(some 90),.mv (.tmp 95),none⟩,⟨(some 96),.extract (.tmp 90) 0,none⟩,⟨(some 97),.extract (.tmp 90) 1,none⟩,⟨(some 14),.mv (.tmp 96),none⟩,⟨(some 15),.mv (.tmp 97),none⟩])
 (.seq (.region [⟨(some 98),.mv (.tmp 15),none⟩,⟨(some 9),.mv (.tmp 98),none⟩])
 (.seq (.region [⟨(some 99),.mv (.tmp 14),none⟩,⟨(some 100),.mv (.tmp 1),none⟩,⟨(some 101),.bin .sub (.tmp 99) (.tmp 100),none⟩,⟨(some 102),.mv (.tmp 2),none⟩,⟨(some 103),.mv (.tmp 14),none⟩,⟨(some 104),.bin .sub (.tmp 102) (.tmp 103),none⟩,⟨(some 16),.mv (.tmp 101),none⟩,⟨(some 17),.mv (.tmp 104),none⟩])
 (.seq (.region [⟨(some 105),.mv (.tmp 10),none⟩,⟨(some 106),.bin .quo (.tmp 105) (.const (.int .i64 8)),none⟩,⟨(some 18),.mv (.tmp 106),none⟩])
 (.seq (.region [⟨(some 107),.mv (.tmp 16),none⟩,⟨(some 108),.mv (.tmp 17),none⟩,⟨(some 109),.bin .lss (.tmp 107) (.tmp 108),none⟩])
 (.cond (.tmp 109) (.seq (.region [⟨(some 110),.mv (.tmp 16),none⟩,⟨(some 111),.mv (.tmp 18),none⟩,⟨(some 112),.bin .geq (.tmp 110) (.tmp 111),none⟩,⟨(some 8),.mv (.tmp 112),none⟩])
 (.seq (.region [⟨(some 113),.load true 2 (.tmp 4),none⟩,⟨(some 114),.mv (.tmp 1),none⟩,⟨(some 115),.mv (.tmp 14),none⟩,⟨(some 116),.mv (.tmp 3),none⟩,⟨(some 117),.call 301 [(.tmp 113),(.tmp 114),(.tmp 115),(.tmp 116)],none⟩])
 (.region [⟨(some 118),.mv (.tmp 14),none⟩,⟨(some 119),.bin .add (.tmp 118) (.const (.int .i64 1)),none⟩,⟨(some 1),.mv (.tmp 119),none⟩]))) (.seq (.region [⟨(some 120),.mv (.tmp 17),none⟩,⟨(some 121),.mv (.tmp 18),none⟩,⟨(some 122),.bin .geq (.tmp 120) (.tmp 121),none⟩,⟨(some 8),.mv (.tmp 122),none⟩])
 (.seq (.region [⟨(some 123),.load true 2 (.tmp 4),none⟩,⟨(some 124),.mv (.tmp 14),none⟩,⟨(some 125),.bin .add (.tmp 124) (.const (.int .i64 1)),none⟩,⟨(some 126),.mv (.tmp 2),none⟩,⟨(some 127),.mv (.tmp 3),none⟩,⟨(some 128),.call 301 [(.tmp 123),(.tmp 125),(.tmp 126),(.tmp 127)],none⟩])
 (.region [⟨(some 129),.mv (.tmp 14),none⟩,⟨(some 2),.mv (.tmp 129),none⟩])))))))))))))))))))))))⟩
theorem k301 : compFn Tryz.prog Tryz.f301 = some c301 := by kernel_rfl
-- croft/bits.Log[uint64]
def c303 : AFunc := ⟨[.tmp 2],(.seq (.region [⟨(some 2),.mv (.const (.int .i64 0)),none⟩])
 (.seq (.region [⟨(some 3),.mv (.tmp 0),none⟩,⟨(some 4),.call 296 [(.tmp 3)],none⟩,⟨(some 5),.bin .sub (.tmp 4) (.const (.int .i64 1)),none⟩,⟨(some 2),.mv (.tmp 5),none⟩])
 .ret))⟩
theorem k303 : compFn Tryz.prog Tryz.f303 = some c303 := by kernel_rfl
-- (*croft/malloc.Heap).region
def c304 : AFunc := ⟨[.tmp 2],(.seq (.region [⟨(some 2),.mv (.const (.int .u64 0)),none⟩])
 (.seq (.region [⟨(some 3),.mv (.tmp 0),none⟩,⟨(some 4),.nilCheck (.tmp 3),none⟩,⟨(some 5),.faddr 2 (.tmp 4),none⟩,⟨(some 6),.faddr 2 (.tmp 5),none⟩,⟨(some 7),.load false 1 (.tmp 6),none⟩,⟨(some 8),.bin .shl (.const (.int .u64 4096)) (.tmp 7),none⟩,⟨(some 2),.mv (.tmp 8),none⟩])
 .ret))⟩
theorem k304 : compFn Tryz.prog Tryz.f304 = some c304 := by kernel_rfl
-- (*croft/buddy.Buddy).live
def c305 : AFunc := ⟨[.tmp 6,.tmp 7],(.seq (.region [⟨(some 6),.mv (.const (.int .i64 0)),none⟩,⟨(some 7),.mv (.const (.bool false)),none⟩])
 (.seq (.region [⟨(some 13),.mv (.tmp 0),none⟩,⟨(some 14),.mv (.tmp 1),none⟩,⟨(some 15),.call 364 [(.tmp 13),(.tmp 14)],none⟩,⟨(some 12),.mv (.tmp 15),none⟩,⟨(some 16),.extract (.tmp 12) 0,none⟩,⟨(some 17),.extract (.tmp 12) 1,none⟩,⟨(some 8),.mv (.tmp 16),none⟩,⟨(some 9),.mv (.tmp 17),none⟩])
 (.seq (.seq (.region [⟨(some 18),.mv (.tmp 9),none⟩,⟨(some 19),.not (.tmp 18),none⟩])
 (.cond (.tmp 19) (.seq (.region [⟨(some 6),.mv (.const (.int .i64 0)),none⟩,⟨(some 7),.mv (.const (.bool false)),none⟩])
 .ret) .skip))
 (.seq (.region [⟨(some 21),.mv (.tmp 0),none⟩,⟨(some 22),.nilCheck (.tmp 21),none⟩,⟨(some 23),.faddr 4 (.tmp 22),none⟩,⟨(some 24),.load false 1 (.tmp 23),none⟩,⟨(some 25),.mv (.tmp 8),none⟩,⟨(some 26),.call 118 [(.tmp 24),(.tmp 25)],none⟩,⟨(some 20),.mv (.tmp 26),none⟩,⟨(some 27),.extract (.tmp 20) 0,none⟩,⟨(some 28),.extract (.tmp 20) 1,none⟩,⟨(some 10),.alloc [(.int .i64 0),(.int .i64 0),(.int .i64 0),(.int .i64 0),(.int .i64 0),(.int .i64 0),(.int .i64 0),(.int .u64 0),(.int .u64 0),(.int .u64 0),(.int .u64 0)],none⟩,⟨none,.store 11 (.tmp 10) (.tmp 27),none⟩,⟨(some 11),.mv (.tmp 28),none⟩])
 (.seq (.draw [⟨⟨(some 29),.mv (.tmp 8),none⟩,0,0⟩,⟨⟨(some 30),.faddr 0 (.tmp 10),none⟩,0,0⟩,⟨⟨(some 31),.load false 1 (.tmp 30),none⟩,0,0⟩,⟨⟨(some 32),.bin .eql (.tmp 31) (.const (.int .i64 2)),none⟩,0,0⟩,⟨⟨(some 33),.mv (.tmp 32),none⟩,0,0⟩,⟨⟨(some 34),.faddr 1 (.tmp 10),some (33,true)⟩,0,0⟩,⟨⟨(some 35),.load false 1 (.tmp 34),some (33,true)⟩,0,0⟩,⟨⟨(some 36),.mv (.tmp 2),some (33,true)⟩,0,0⟩,⟨⟨(some 37),.bin .eql (.tmp 35) (.tmp 36),some (33,true)⟩,0,0⟩,⟨⟨(some 38),.pick (.tmp 33) (.tmp 37) (.const (.bool false)),none⟩,0,0⟩,⟨⟨(some 6),.mv (.tmp 29),none⟩,0,0⟩,⟨⟨(some 7),.mv (.tmp 38),none⟩,0,0⟩])
 .ret)))))⟩
theorem k305 : compFn Tryz.prog Tryz.f305 = some c305 := by kernel_rfl
-- (*croft/buddy.Buddy).cut
def c306 : AFunc := ⟨[],(.seq (.seq (.region [⟨(some 9),.mv (.tmp 2),none⟩,⟨(some 10),.bin .sub (.tmp 9) (.const (.int .i64 1)),none⟩,⟨(some 8),.mv (.tmp 10),none⟩])
 (.block 0 (.loop (.seq (.seq (.region [⟨(some 11),.mv (.tmp 8),none⟩,⟨(some 12),.mv (.tmp 3),none⟩,⟨(some 13),.bin .geq (.tmp 11) (.tmp 12),none⟩])
 (.cond (.tmp 13) .skip (.exit 0)))
 (.seq (.block 1 (.seq (.region [⟨(some 16),.mv (.tmp 0),none⟩,⟨(some 17),.mv (.tmp 1),none⟩,⟨(some 18),.mv (.tmp 8),none⟩,⟨(some 19),.bin .shl (.const (.int .i64 1)) (.tmp 18),none⟩,⟨(some 20),.bin .add (.tmp 17) (.tmp 19),none⟩,⟨(some 21),.mv (.tmp 8),none⟩,⟨(some 22),.call 365 [(.tmp 16),(.tmp 20),(.tmp 21)],none⟩])
 (.region [⟨(some 23),.mv (.tmp 0),none⟩,⟨(some 24),.mv (.tmp 1),none⟩,⟨(some 25),.mv (.tmp 8),none⟩,⟨(some 26),.bin .shl (.const (.int .i64 1)) (.tmp 25),none⟩,⟨(some 27),.bin .add (.tmp 24) (.tmp 26),none⟩,⟨(some 28),.mv (.tmp 8),none⟩,⟨(some 29),.call 366 [(.tmp 23),(.tmp 27),(.tmp 28)],none⟩])))
 (.region [⟨(some 14),.mv (.tmp 8),none⟩,⟨(some 15),.bin .sub (.tmp 14) (.const (.int .i64 1)),none⟩,⟨(some 8),.mv (.tmp 15),none⟩]))))))
 (.region [⟨(some 30),.mv (.tmp 0),none⟩,⟨(some 31),.nilCheck (.tmp 30),none⟩,⟨(some 32),.faddr 4 (.tmp 31),none⟩,⟨(some 33),.load false 1 (.tmp 32),none⟩,⟨(some 34),.mv (.tmp 1),none⟩,⟨(some 35),.mv (.tmp 3),none⟩,⟨(some 36),.call 326 [(.tmp 33),(.tmp 34),(.tmp 35),(.const (.int .i64 2))],none⟩]))⟩
theorem k306 : compFn Tryz.prog Tryz.f306 = some c306 := by kernel_rfl
-- (*croft/slab.Slab).Take
def c307 : AFunc := ⟨[.tmp 6,.tmp 7,.tmp 8],(.seq (.region [⟨(some 6),.mv (.const (.int .u64 0)),none⟩,⟨(some 7),.mv (.const (.bool false)),none⟩,⟨(some 8),.mv (.const (.int .i64 0)),none⟩])
 (.seq (.seq (.region [⟨(some 20),.mv (.tmp 1),none⟩,⟨(some 21),.bin .lss (.tmp 20) (.const (.int .i64 0)),none⟩,⟨(some 22),.mv (.tmp 21),none⟩,⟨(some 23),.mv (.tmp 1),some (22,false)⟩,⟨(some 24),.bin .geq (.tmp 23) (.const (.int .i64 8)),some (22,false)⟩,⟨(some 25),.pick (.tmp 22) (.const (.bool true)) (.tmp 24),none⟩])
 (.cond (.tmp 25) (.seq (.region [⟨(some 6),.mv (.const (.int .u64 0)),none⟩,⟨(some 7),.mv (.const (.bool false)),none⟩,⟨(some 8),.mv (.const (.int .i64 1)),none⟩])
 .ret) .skip))
 (.seq (.region [⟨(some 26),.mv (.tmp 0),none⟩,⟨(some 27),.mv (.tmp 1),none⟩,⟨(some 28),.nilCheck (.tmp 26),none⟩,⟨(some 29),.faddr 1 (.tmp 28),none⟩,⟨(some 30),.iaddrA 8 1 (.tmp 29) (.tmp 27),none⟩,⟨(some 31),.load false 1 (.tmp 30),none⟩,⟨(some 9),.mv (.tmp 31),none⟩])
 (.seq (.seq (.region [⟨(some 32),.mv (.tmp 9),none⟩,⟨(some 33),.bin .lss (.tmp 32) (.const (.int .i64 0)),none⟩])
 (.cond (.tmp 33) (.seq (.region [⟨(some 35),.mv (.tmp 0),none⟩,⟨(some 36),.nilCheck (.tmp 35),none⟩,⟨(some 37),.faddr 0 (.tmp 36),none⟩,⟨(some 38),.load false 1 (.tmp 37),none⟩,⟨(some 39),.mv (.tmp 2),none⟩,⟨(some 40),.call 309 [(.tmp 38),(.const (.int .i64 0)),(.tmp 39)],none⟩,⟨(some 34),.mv (.tmp 40),none⟩,⟨(some 41),.extract (.tmp 34) 0,none⟩,⟨(some 42),.extract (.tmp 34) 1,none⟩,⟨(some 43),.extract (.tmp 34) 2,none⟩,⟨(some 10),.mv (.tmp 41),none⟩,⟨(some 11),.mv (.tmp 42),none⟩,⟨(some 12),.mv (.tmp 43),none⟩])
 (.seq (.seq (.region [⟨(some 44),.mv (.tmp 12),none⟩,⟨(some 45),.bin .neq (.tmp 44) (.const (.int .i64 0)),none⟩])
 (.cond (.tmp 45) (.seq (.region [⟨(some 46),.mv (.tmp 12),none⟩,⟨(some 6),.mv (.const (.int .u64 0)),none⟩,⟨(some 7),.mv (.const (.bool false)),none⟩,⟨(some 8),.mv (.tmp 46),none⟩])
 .ret) .skip))
 (.region [⟨(some 47),.mv (.tmp 0),none⟩,⟨(some 48),.mv (.tmp 10),none⟩,⟨(some 49),.mv (.tmp 1),none⟩,⟨(some 50),.call 367 [(.tmp 47),(.tmp 48),(.tmp 49)],none⟩,⟨(some 51),.mv (.tmp 11),none⟩,⟨(some 9),.mv (.tmp 50),none⟩,⟨(some 7),.mv (.tmp 51),none⟩]))) .skip))
 (.seq (.region [⟨(some 52),.mv (.tmp 0),none⟩,⟨(some 53),.nilCheck (.tmp 52),none⟩,⟨(some 54),.faddr 0 (.tmp 53),none⟩,⟨(some 55),.load false 1 (.tmp 54),none⟩,⟨(some 56),.nilCheck (.tmp 55),none⟩,⟨(some 57),.faddr 0 (.tmp 56),none⟩,⟨(some 58),.call 116 [(.tmp 57)],none⟩,⟨(some 13),.mv (.tmp 58),none⟩])
 (.seq (.region [⟨(some 60),.mv (.tmp 13),none⟩,⟨(some 61),.mv (.tmp 9),none⟩,⟨(some 62),.call 118 [(.tmp 60),(.tmp 61)],none⟩,⟨(some 59),.mv (.tmp 62),none⟩,⟨(some 63),.extract (.tmp 59) 0,none⟩,⟨(some 64),.extract (.tmp 59) 1,none⟩,⟨(some 14),.alloc [(.int .i64 0),(.int .i64 0),(.int .i64 0),(.int .i64 0),(.int .i64 0),(.int .i64 0),(.int .i64 0),(.int .u64 0),(.int .u64 0),(.int .u64 0),(.int .u64 0)],none⟩,⟨none,.store 11 (.tmp 14) (.tmp 63),none⟩,⟨(some 15),.mv (.tmp 64),none⟩])
 (.seq (.region [⟨(some 65),.mv (.tmp 0),none⟩,⟨(some 66),.call 324 [(.tmp 65)],none⟩,⟨(some 67),.mv (.tmp 9),none⟩,⟨(some 68),.conv .u64 (.tmp 67),none⟩,⟨(some 69),.bin .mul (.const (.int .u64 4096)) (.tmp 68),none⟩,⟨(some 70),.bin .add (.tmp 66) (.tmp 69),none⟩,⟨(some 16),.mv (.tmp 70),none⟩])
 (.seq (.draw [⟨⟨(some 71),.mv (.tmp 16),none⟩,0,0⟩,⟨⟨(some 72),.faddr 6 (.tmp 14),none⟩,0,0⟩,⟨⟨(some 73),.load false 1 (.tmp 72),none⟩,0,0⟩,⟨⟨(some 74),.conv .u64 (.tmp 73),none⟩,0,0⟩,⟨⟨(some 75),.mv (.tmp 1),none⟩,0,0⟩,⟨⟨(some 76),.iaddrA 8 1 (.glob 1) (.tmp 75),none⟩,0,0⟩,⟨⟨(some 77),.load false 1 (.tmp 76),none⟩,0,0⟩,⟨⟨(some 78),.bin .mul (.tmp 74) (.tmp 77),none⟩,0,0⟩,⟨⟨(some 79),.bin .add (.tmp 71) (.tmp 78),none⟩,0,0⟩,⟨⟨(some 6),.mv (.tmp 79),none⟩,0,0⟩])
 (.seq (.region [⟨(some 81),.mv (.tmp 0),none⟩,⟨(some 82),.nilCheck (.tmp 81),none⟩,⟨(some 83),.faddr 0 (.tmp 82),none⟩,⟨(some 84),.load false 1 (.tmp 83),none⟩,⟨(some 85),.nilCheck (.tmp 84),none⟩,⟨(some 86),.faddr 0 (.tmp 85),none⟩,⟨(some 87),.call 113 [(.tmp 86)],none⟩,⟨(some 88),.mv (.tmp 6),none⟩,⟨(some 89),.call 243 [(.tmp 87),(.tmp 88)],none⟩,⟨(some 80),.mv (.tmp 89),none⟩,⟨(some 90),.extract (.tmp 80) 0,none⟩,⟨(some 91),.extract (.tmp 80) 1,none⟩,⟨(some 17),.mv (.tmp 90),none⟩,⟨(some 18),.mv (.tmp 91),none⟩])
 (.seq (.region [⟨(some 19),.mv (.const (.int .i64 (-1))),none⟩])
 (.seq (.seq (.region [⟨(some 92),.mv (.tmp 17),none⟩,⟨(some 93),.bin .neq (.tmp 92) (.const (.int .u64 0)),none⟩])
 (.cond (.tmp 93) (.region [⟨(some 94),.mv (.tmp 17),none⟩,⟨(some 95),.mv (.tmp 16),none⟩,⟨(some 96),.bin .sub (.tmp 94) (.tmp 95),none⟩,⟨(some 97),.mv (.tmp 1),none⟩,⟨(some 98),.iaddrA 8 1 (.glob 1) (.tmp 97),none⟩,⟨(some 99),.load false 1 (.tmp 98),none⟩,⟨(some 100),.bin .quo (.tmp 96) (.tmp 99),none⟩,⟨(some 101),.conv .i64 (.tmp 100),none⟩,⟨(some 19),.mv (.tmp 101),none⟩]) .skip))
 (.seq (.region [⟨(some 102),.mv (.tmp 13),none⟩,⟨(some 103),.mv (.tmp 9),none⟩,⟨(some 104),.faddr 6 (.tmp 14),none⟩,⟨(some 105),.load false 1 (.tmp 104),none⟩,⟨(some 106),.call 323 [(.tmp 102),(.tmp 103),(.tmp 105),(.const (.bool true))],none⟩])
 (.seq (.region [⟨(some 107),.mv (.tmp 13),none⟩,⟨(some 108),.mv (.tmp 9),none⟩,⟨(some 109),.mv (.tmp 19),none⟩,⟨(some 110),.call 328 [(.tmp 107),(.tmp 108),(.tmp 109)],none⟩])
 (.seq (.seq (.region [⟨(some 111),.mv (.tmp 19),none⟩,⟨(some 112),.bin .lss (.tmp 111) (.const (.int .i64 0)),none⟩])
 (.cond (.tmp 112) (.region [⟨(some 113),.mv (.tmp 0),none⟩,⟨(some 114),.mv (.tmp 9),none⟩,⟨(some 115),.mv (.tmp 1),none⟩,⟨(some 116),.call 325 [(.tmp 113),(.tmp 114),(.tmp 115)],none⟩]) .skip))
 (.seq (.region [⟨(some 117),.mv (.tmp 6),none⟩,⟨(some 118),.mv (.tmp 7),none⟩,⟨(some 6),.mv (.tmp 117),none⟩,⟨(some 7),.mv (.tmp 118),none⟩,⟨(some 8),.mv (.const (.int .i64 0)),none⟩])
 .ret)))))))))))))))⟩
theorem k307 : compFn Tryz.prog Tryz.f307 = some c307 := by kernel_rfl
-- croft/malloc.class
def c308 : AFunc := ⟨[.tmp 2],(.seq (.region [⟨(some 2),.mv (.const (.int .i64 0)),none⟩])
 (.seq (.region [⟨(some 3),.mv (.tmp 0),none⟩,⟨(some 4),.bin .quo (.tmp 3) (.const (.int .u64 16)),none⟩,⟨(some 5),.call 303 [(.tmp 4)],none⟩,⟨(some 2),.mv (.tmp 5),none⟩])
 .ret))⟩
theorem k308 : compFn Tryz.prog Tryz.f308 = some c308 := by kernel_rfl
-- (*croft/region.Pool).Need
def c309 : AFunc := ⟨[.tmp 6,.tmp 7,.tmp 8],(.seq (.region [⟨(some 6),.mv (.const (.int .u64 0)),none⟩,⟨(some 7),.mv (.const (.bool false)),none⟩,⟨(some 8),.mv (.const (.int .i64 0)),none⟩])
 (.seq (.region [⟨(some 12),.mv (.tmp 0),none⟩,⟨(some 13),.nilCheck (.tmp 12),none⟩,⟨(some 14),.faddr 0 (.tmp 13),none⟩,⟨(some 15),.faddr 2 (.tmp 14),none⟩,⟨(some 16),.load false 1 (.tmp 15),none⟩,⟨(some 17),.mv (.tmp 1),none⟩,⟨(some 18),.call 368 [(.tmp 16),(.tmp 17)],none⟩,⟨(some 11),.mv (.tmp 18),none⟩,⟨(some 19),.extract (.tmp 11) 0,none⟩,⟨(some 20),.extract (.tmp 11) 1,none⟩,⟨(some 6),.mv (.tmp 19),none⟩,⟨(some 8),.mv (.tmp 20),none⟩])
 (.seq (.seq (.region [⟨(some 21),.mv (.tmp 8),none⟩,⟨(some 22),.bin .neq (.tmp 21) (.const (.int .i64 2)),none⟩])
 (.cond (.tmp 22) (.seq (.region [⟨(some 23),.mv (.tmp 6),none⟩,⟨(some 24),.mv (.tmp 8),none⟩,⟨(some 6),.mv (.tmp 23),none⟩,⟨(some 7),.mv (.const (.bool false)),none⟩,⟨(some 8),.mv (.tmp 24),none⟩])
 .ret) .skip))
 (.seq (.seq (.region [⟨(some 26),.mv (.tmp 0),none⟩,⟨(some 27),.nilCheck (.tmp 26),none⟩,⟨(some 28),.faddr 0 (.tmp 27),none⟩,⟨(some 29),.faddr 0 (.tmp 28),none⟩,⟨(some 30),.load false 1 (.tmp 29),none⟩,⟨(some 31),.mv (.tmp 2),none⟩,⟨(some 32),.call 369 [(.tmp 30),(.tmp 31)],none⟩,⟨(some 25),.mv (.tmp 32),none⟩,⟨(some 33),.extract (.tmp 25) 0,none⟩,⟨(some 34),.extract (.tmp 25) 1,none⟩,⟨(some 9),.mv (.tmp 33),none⟩,⟨(some 10),.mv (.tmp 34),none⟩])
 (.seq (.region [⟨(some 35),.mv (.tmp 10),none⟩,⟨(some 36),.bin .neq (.tmp 35) (.const (.int .i64 0)),none⟩])
 (.cond (.tmp 36) (.seq (.region [⟨(some 37),.mv (.tmp 10),none⟩,⟨(some 6),.mv (.const (.int .u64 0)),none⟩,⟨(some 7),.mv (.const (.bool false)),none⟩,⟨(some 8),.mv (.tmp 37),none⟩])
 .ret) .skip)))
 (.seq (.region [⟨(some 38),.mv (.tmp 0),none⟩,⟨(some 39),.nilCheck (.tmp 38),none⟩,⟨(some 40),.faddr 0 (.tmp 39),none⟩,⟨(some 41),.faddr 1 (.tmp 40),none⟩,⟨(some 42),.load false 1 (.tmp 41),none⟩,⟨(some 43),.call 370 [(.tmp 42)],none⟩])
 (.seq (.region [⟨(some 44),.mv (.tmp 0),none⟩,⟨(some 45),.nilCheck (.tmp 44),none⟩,⟨(some 46),.faddr 0 (.tmp 45),none⟩,⟨(some 47),.faddr 2 (.tmp 46),none⟩,⟨(some 48),.load false 1 (.tmp 47),none⟩,⟨(some 49),.call 371 [(.tmp 48)],none⟩])
 (.seq (.region [⟨(some 51),.mv (.tmp 0),none⟩,⟨(some 52),.nilCheck (.tmp 51),none⟩,⟨(some 53),.faddr 0 (.tmp 52),none⟩,⟨(some 54),.faddr 2 (.tmp 53),none⟩,⟨(some 55),.load false 1 (.tmp 54),none⟩,⟨(some 56),.mv (.tmp 1),none⟩,⟨(some 57),.call 368 [(.tmp 55),(.tmp 56)],none⟩,⟨(some 50),.mv (.tmp 57),none⟩,⟨(some 58),.extract (.tmp 50) 0,none⟩,⟨(some 59),.extract (.tmp 50) 1,none⟩,⟨(some 6),.mv (.tmp 58),none⟩,⟨(some 8),.mv (.tmp 59),none⟩])
 (.seq (.region [⟨(some 60),.mv (.tmp 6),none⟩,⟨(some 61),.mv (.tmp 8),none⟩,⟨(some 62),.bin .eql (.tmp 61) (.const (.int .i64 0)),none⟩,⟨(some 63),.mv (.tmp 8),none⟩,⟨(some 6),.mv (.tmp 60),none⟩,⟨(some 7),.mv (.tmp 62),none⟩,⟨(some 8),.mv (.tmp 63),none⟩])
 .ret))))))))⟩
theorem k309 : compFn Tryz.prog Tryz.f309 = some c309 := by kernel_rfl
-- croft/bits.Of
def c311 : AFunc := ⟨[.tmp 4],(.seq (.region [⟨(some 4),.mv (.const (.ptr none)),none⟩])
 (.seq (.region [⟨(some 8),.mv (.tmp 1),none⟩,⟨(some 9),.call 372 [(.tmp 8)],none⟩,⟨(some 7),.mv (.tmp 9),none⟩,⟨(some 10),.extract (.tmp 7) 0,none⟩,⟨(some 11),.extract (.tmp 7) 1,none⟩,⟨(some 1),.mv (.tmp 10),none⟩,⟨(some 5),.mv (.tmp 11),none⟩])
 (.seq (.region [⟨(some 12),.mv (.tmp 1),none⟩,⟨(some 13),.mv (.tmp 5),none⟩,⟨(some 14),.makeSlice 1 8 [(.int .u64 0)] (.tmp 13) (.tmp 13),none⟩,⟨(some 15),.build [(.int .i64 0),(.slice none 0 0)] [(0,1,(.tmp 12)),(1,1,(.tmp 14))],none⟩,⟨(some 16),.box 2 (.tmp 15),none⟩,⟨(some 6),.mv (.tmp 16),none⟩])
 (.seq (.region [⟨(some 17),.mv (.tmp 6),none⟩,⟨(some 18),.nilCheck (.tmp 17),none⟩,⟨(some 19),.faddr 1 (.tmp 18),none⟩,⟨(some 20),.load false 1 (.tmp 19),none⟩,⟨(some 21),.mv (.tmp 0),none⟩,⟨(some 22),.copy 1 (.tmp 20) (.tmp 21),none⟩])
 (.seq (.region [⟨(some 23),.mv (.tmp 6),none⟩,⟨(some 24),.call 373 [(.tmp 23)],none⟩])
 (.seq (.region [⟨(some 25),.mv (.tmp 6),none⟩,⟨(some 4),.mv (.tmp 25),none⟩])
 .ret))))))⟩
theorem k311 : compFn Tryz.prog Tryz.f311 = some c311 := by kernel_rfl
-- croft/links.New
def c312 : AFunc := ⟨[.tmp 4],(.seq (.region [⟨(some 4),.mv (.const (.ptr none)),none⟩])
 (.seq (.region [⟨(some 5),.mv (.tmp 0),none⟩,⟨(some 6),.mv (.tmp 1),none⟩,⟨(some 7),.build [(.ptr none),(.int .u64 0)] [(0,1,(.tmp 5)),(1,1,(.tmp 6))],none⟩,⟨(some 8),.box 2 (.tmp 7),none⟩,⟨(some 4),.mv (.tmp 8),none⟩])
 .ret))⟩
theorem k312 : compFn Tryz.prog Tryz.f312 = some c312 := by kernel_rfl
-- (*croft/slab.Slab).find
def c322 : AFunc := ⟨[.tmp 4,.tmp 5,.cell 6 true 11,.tmp 7],(.seq (.region [⟨(some 4),.mv (.const (.int .i64 0)),none⟩,⟨(some 5),.mv (.const (.int .i64 0)),none⟩,⟨(some 6),.alloc [(.int .i64 0),(.int .i64 0),(.int .i64 0),(.int .i64 0),(.int .i64 0),(.int .i64 0),(.int .i64 0),(.int .u64 0),(.int .u64 0),(.int .u64 0),(.int .u64 0)],none⟩,⟨(some 7),.mv (.const (.bool false)),none⟩])
 (.seq (.region [⟨(some 11),.mv (.tmp 0),none⟩,⟨(some 12),.nilCheck (.tmp 11),none⟩,⟨(some 13),.faddr 0 (.tmp 12),none⟩,⟨(some 14),.load false 1 (.tmp 13),none⟩,⟨(some 15),.nilCheck (.tmp 14),none⟩,⟨(some 16),.faddr 0 (.tmp 15),none⟩,⟨(some 17),.call 116 [(.tmp 16)],none⟩,⟨(some 18),.mv (.tmp 0),none⟩,⟨(some 19),.call 324 [(.tmp 18)],none⟩,⟨(some 8),.mv (.tmp 17),none⟩,⟨(some 9),.mv (.tmp 19),none⟩])
 (.seq (.seq (.region [⟨(some 20),.mv (.tmp 1),none⟩,⟨(some 21),.mv (.tmp 9),none⟩,⟨(some 22),.bin .lss (.tmp 20) (.tmp 21),none⟩,⟨(some 23),.mv (.tmp 22),none⟩,⟨(some 24),.mv (.tmp 1),some (23,false)⟩,⟨(some 25),.mv (.tmp 9),some (23,false)⟩,⟨(some 26),.bin .sub (.tmp 24) (.tmp 25),some (23,false)⟩,⟨(some 27),.bin .quo (.tmp 26) (.const (.int .u64 4096)),some (23,false)⟩,⟨(some 28),.mv (.tmp 8),some (23,false)⟩,⟨(some 29),.call 117 [(.tmp 28)],some (23,false)⟩,⟨(some 30),.conv .u64 (.tmp 29),some (23,false)⟩,⟨(some 31),.bin .geq (.tmp 27) (.tmp 30),some (23,false)⟩,⟨(some 32),.pick (.tmp 23) (.const (.bool true)) (.tmp 31),none⟩])
 (.cond (.tmp 32) (.seq (.draw [⟨⟨(some 33),.load true 11 (.tmp 6),none⟩,0,0⟩,⟨⟨(some 4),.mv (.const (.int .i64 0)),none⟩,0,0⟩,⟨⟨(some 5),.mv (.const (.int .i64 0)),none⟩,0,0⟩,⟨⟨none,.store 11 (.tmp 6) (.tmp 33),none⟩,0,1⟩,⟨⟨(some 7),.mv (.const (.bool false)),none⟩,1,1⟩])
 .ret) .skip))
 (.seq (.region [⟨(some 34),.mv (.tmp 1),none⟩,⟨(some 35),.mv (.tmp 9),none⟩,⟨(some 36),.bin .sub (.tmp 34) (.tmp 35),none⟩,⟨(some 37),.bin .quo (.tmp 36) (.const (.int .u64 4096)),none⟩,⟨(some 38),.conv .i64 (.tmp 37),none⟩,⟨(some 4),.mv (.tmp 38),none⟩])
 (.seq (.region [⟨(some 40),.mv (.tmp 8),none⟩,⟨(some 41),.mv (.tmp 4),none⟩,⟨(some 42),.call 118 [(.tmp 40),(.tmp 41)],none⟩,⟨(some 39),.mv (.tmp 42),none⟩,⟨(some 43),.extract (.tmp 39) 0,none⟩,⟨(some 44),.extract (.tmp 39) 1,none⟩,⟨none,.store 11 (.tmp 6) (.tmp 43),none⟩])
 (.seq (.region [⟨(some 45),.mv (.tmp 1),none⟩,⟨(some 46),.mv (.tmp 9),none⟩,⟨(some 47),.bin .sub (.tmp 45) (.tmp 46),none⟩,⟨(some 48),.bin .rem (.tmp 47) (.const (.int .u64 4096)),none⟩,⟨(some 10),.mv (.tmp 48),none⟩])
 (.seq (.seq (.region [⟨(some 49),.faddr 0 (.tmp 6),none⟩,⟨(some 50),.load false 1 (.tmp 49),none⟩,⟨(some 51),.bin .neq (.tmp 50) (.const (.int .i64 4)),none⟩,⟨(some 52),.mv (.tmp 51),none⟩,⟨(some 53),.mv (.tmp 10),some (52,false)⟩,⟨(some 54),.faddr 2 (.tmp 6),some (52,false)⟩,⟨(some 55),.load false 1 (.tmp 54),some (52,false)⟩,⟨(some 56),.iaddrA 8 1 (.glob 1) (.tmp 55),some (52,false)⟩,⟨(some 57),.load false 1 (.tmp 56),some (52,false)⟩,⟨(some 58),.bin .rem (.tmp 53) (.tmp 57),some (52,false)⟩,⟨(some 59),.bin .neq (.tmp 58) (.const (.int .u64 0)),some (52,false)⟩,⟨(some 60),.pick (.tmp 52) (.const (.bool true)) (.tmp 59),none⟩])
 (.cond (.tmp 60) (.seq (.draw [⟨⟨(some 61),.load true 11 (.tmp 6),none⟩,0,0⟩,⟨⟨(some 4),.mv (.const (.int .i64 0)),none⟩,0,0⟩,⟨⟨(some 5),.mv (.const (.int .i64 0)),none⟩,0,0⟩,⟨⟨none,.store 11 (.tmp 6) (.tmp 61),none⟩,0,1⟩,⟨⟨(some 7),.mv (.const (.bool false)),none⟩,1,1⟩])
 .ret) .skip))
 (.seq (.region [⟨(some 62),.mv (.tmp 10),none⟩,⟨(some 63),.faddr 2 (.tmp 6),none⟩,⟨(some 64),.load false 1 (.tmp 63),none⟩,⟨(some 65),.iaddrA 8 1 (.glob 1) (.tmp 64),none⟩,⟨(some 66),.load false 1 (.tmp 65),none⟩,⟨(some 67),.bin .quo (.tmp 62) (.tmp 66),none⟩,⟨(some 68),.conv .i64 (.tmp 67),none⟩,⟨(some 5),.mv (.tmp 68),none⟩])
 (.seq (.draw [⟨⟨(some 69),.mv (.tmp 4),none⟩,0,0⟩,⟨⟨(some 70),.mv (.tmp 5),none⟩,0,0⟩,⟨⟨(some 71),.load true 11 (.tmp 6),none⟩,0,0⟩,⟨⟨(some 72),.mv (.tmp 5),none⟩,0,0⟩,⟨⟨(some 73),.bin .quo (.tmp 72) (.const (.int .i64 64)),none⟩,0,0⟩,⟨⟨(some 74),.faddr 7 (.tmp 6),none⟩,0,0⟩,⟨⟨(some 75),.iaddrA 4 1 (.tmp 74) (.tmp 73),none⟩,0,0⟩,⟨⟨(some 76),.load false 1 (.tmp 75),none⟩,0,0⟩,⟨⟨(some 77),.mv (.tmp 5),none⟩,0,0⟩,⟨⟨(some 78),.bin .rem (.tmp 77) (.const (.int .i64 64)),none⟩,0,1⟩,⟨⟨(some 79),.bin .shr (.tmp 76) (.tmp 78),none⟩,0,1⟩,⟨⟨(some 80),.bin .and (.tmp 79) (.const (.int .u64 1)),none⟩,0,1⟩,⟨⟨(some 81),.bin .eql (.tmp 80) (.const (.int .u64 1)),none⟩,0,1⟩,⟨⟨(some 4),.mv (.tmp 69),none⟩,0,0⟩,⟨⟨(some 5),.mv (.tmp 70),none⟩,0,0⟩,⟨⟨none,.store 11 (.tmp 6) (.tmp 71),none⟩,0,1⟩,⟨⟨(some 7),.mv (.tmp 81),none⟩,1,1⟩])
 .ret)))))))))⟩
theorem k322 : compFn Tryz.prog Tryz.f322 = some c322 := by kernel_rfl
-- (*croft/pagemap.Map).Own
def c323 : AFunc := ⟨[.tmp 8],(.seq (.region [⟨(some 8),.mv (.const (.int .i64 0)),none⟩])
 (.seq (.region [⟨(some 12),.mv (.tmp 0),none⟩,⟨(some 13),.mv (.tmp 1),none⟩,⟨(some 14),.call 374 [(.tmp 12),(.tmp 13)],none⟩,⟨(some 11),.mv (.tmp 14),none⟩,⟨(some 15),.extract (.tmp 11) 0,none⟩,⟨(some 16),.extract (.tmp 11) 1,none⟩,⟨(some 9),.mv (.tmp 15),none⟩,⟨(some 10),.mv (.tmp 16),none⟩])
 (.seq (.seq (.region [⟨(some 17),.mv (.tmp 10),none⟩,⟨(some 18),.not (.tmp 17),none⟩,⟨(some 19),.mv (.tmp 18),none⟩,⟨(some 20),.mv (.tmp 2),some (19,false)⟩,⟨(some 21),.mv (.tmp 9),some (19,false)⟩,⟨(some 22),.call 376 [(.tmp 21)],some (19,false)⟩,⟨(some 23),.bin .sub (.tmp 22) (.const (.int .i64 1)),some (19,false)⟩,⟨(some 24),.call 375 [(.tmp 20),(.const (.int .i64 0)),(.tmp 23)],some (19,false)⟩,⟨(some 25),.not (.tmp 24),some (19,false)⟩,⟨(some 26),.pick (.tmp 19) (.const (.bool true)) (.tmp 25),none⟩,⟨(some 27),.mv (.tmp 26),none⟩,⟨(some 28),.mv (.tmp 9),some (27,false)⟩,⟨(some 29),.mv (.tmp 2),some (27,false)⟩,⟨(some 30),.bin .quo (.tmp 29) (.const (.int .i64 64)),some (27,false)⟩,⟨(some 31),.nilCheck (.tmp 28),some (27,false)⟩,⟨(some 32),.faddr 7 (.tmp 31),some (27,false)⟩,⟨(some 33),.iaddrA 4 1 (.tmp 32) (.tmp 30),some (27,false)⟩,⟨(some 34),.load false 1 (.tmp 33),some (27,false)⟩,⟨(some 35),.mv (.tmp 2),some (27,false)⟩,⟨(some 36),.bin .rem (.tmp 35) (.const (.int .i64 64)),some (27,false)⟩,⟨(some 37),.bin .shr (.tmp 34) (.tmp 36),some (27,false)⟩,⟨(some 38),.bin .and (.tmp 37) (.const (.int .u64 1)),some (27,false)⟩,⟨(some 39),.bin .eql (.tmp 38) (.const (.int .u64 1)),some (27,false)⟩,⟨(some 40),.mv (.tmp 3),some (27,false)⟩,⟨(some 41),.eq1 false .bool (.tmp 39) (.tmp 40),some (27,false)⟩,⟨(some 42),.pick (.tmp 27) (.const (.bool true)) (.tmp 41),none⟩])
 (.cond (.tmp 42) (.seq (.region [⟨(some 8),.mv (.const (.int .i64 1)),none⟩])
 .ret) .skip))
 (.seq (.draw [⟨⟨(some 43),.mv (.tmp 9),none⟩,0,0⟩,⟨⟨(some 44),.mv (.tmp 2),none⟩,0,0⟩,⟨⟨(some 45),.bin .quo (.tmp 44) (.const (.int .i64 64)),none⟩,0,0⟩,⟨⟨(some 46),.nilCheck (.tmp 43),none⟩,0,0⟩,⟨⟨(some 47),.faddr 7 (.tmp 46),none⟩,0,0⟩,⟨⟨(some 48),.iaddrA 4 1 (.tmp 47) (.tmp 45),none⟩,0,0⟩,⟨⟨(some 49),.load false 1 (.tmp 48),none⟩,0,0⟩,⟨⟨(some 50),.mv (.tmp 2),none⟩,0,0⟩,⟨⟨(some 51),.bin .rem (.tmp 50) (.const (.int .i64 64)),none⟩,0,0⟩,⟨⟨(some 52),.bin .shl (.const (.int .u64 1)) (.tmp 51),none⟩,0,0⟩,⟨⟨(some 53),.bin .xor (.tmp 49) (.tmp 52),none⟩,0,0⟩,⟨⟨(some 54),.nilCheck (.tmp 43),none⟩,0,0⟩,⟨⟨(some 55),.faddr 7 (.tmp 54),none⟩,0,0⟩,⟨⟨(some 56),.iaddrA 4 1 (.tmp 55) (.tmp 45),none⟩,0,0⟩,⟨⟨none,.store 1 (.tmp 56) (.tmp 53),none⟩,0,1⟩])
 (.seq (.seq (.region [⟨(some 57),.mv (.tmp 3),none⟩])
 (.cond (.tmp 57) (.region [⟨(some 58),.mv (.tmp 9),none⟩,⟨(some 59),.nilCheck (.tmp 58),none⟩,⟨(some 60),.faddr 3 (.tmp 59),none⟩,⟨(some 61),.load false 1 (.tmp 60),none⟩,⟨(some 62),.bin .add (.tmp 61) (.const (.int .i64 1)),none⟩,⟨(some 63),.nilCheck (.tmp 58),none⟩,⟨(some 64),.faddr 3 (.tmp 63),none⟩,⟨none,.store 1 (.tmp 64) (.tmp 62),none⟩]) (.region [⟨(some 65),.mv (.tmp 9),none⟩,⟨(some 66),.nilCheck (.tmp 65),none⟩,⟨(some 67),.faddr 3 (.tmp 66),none⟩,⟨(some 68),.load false 1 (.tmp 67),none⟩,⟨(some 69),.bin .sub (.tmp 68) (.const (.int .i64 1)),none⟩,⟨(some 70),.nilCheck (.tmp 65),none⟩,⟨(some 71),.faddr 3 (.tmp 70),none⟩,⟨none,.store 1 (.tmp 71) (.tmp 69),none⟩])))
 (.seq (.region [⟨(some 8),.mv (.const (.int .i64 0)),none⟩])
 .ret))))))⟩
theorem k323 : compFn Tryz.prog Tryz.f323 = some c323 := by kernel_rfl
-- (*croft/slab.Slab).base
def c324 : AFunc := ⟨[.tmp 2],(.seq (.region [⟨(some 2),.mv (.const (.int .u64 0)),none⟩])
 (.seq (.draw [⟨⟨(some 5),.mv (.tmp 0),none⟩,0,0⟩,⟨⟨(some 6),.nilCheck (.tmp 5),none⟩,0,0⟩,⟨⟨(some 7),.faddr 0 (.tmp 6),none⟩,0,0⟩,⟨⟨(some 8),.load false 1 (.tmp 7),none⟩,0,0⟩,⟨⟨(some 9),.nilCheck (.tmp 8),none⟩,0,0⟩,⟨⟨(some 10),.faddr 0 (.tmp 9),none⟩,0,0⟩,⟨⟨(some 11),.call 113 [(.tmp 10)],none⟩,0,1⟩,⟨⟨(some 12),.mv (.tmp 0),none⟩,0,1⟩,⟨⟨(some 13),.nilCheck (.tmp 12),none⟩,0,1⟩,⟨⟨(some 14),.faddr 0 (.tmp 13),none⟩,0,1⟩,⟨⟨(some 15),.load false 1 (.tmp 14),none⟩,0,1⟩,⟨⟨(some 16),.nilCheck (.tmp 15),none⟩,0,1⟩,⟨⟨(some 17),.faddr 0 (.tmp 16),none⟩,0,1⟩,⟨⟨(some 18),.call 116 [(.tmp 17)],none⟩,1,2⟩,⟨⟨(some 3),.mv (.tmp 11),none⟩,2,2⟩,⟨⟨(some 4),.mv (.tmp 18),none⟩,2,2⟩])
 (.seq (.region [⟨(some 19),.mv (.tmp 3),none⟩,⟨(some 20),.call 114 [(.tmp 19)],none⟩,⟨(some 21),.mv (.tmp 4),none⟩,⟨(some 22),.call 117 [(.tmp 21)],none⟩,⟨(some 23),.conv .u64 (.tmp 22),none⟩,⟨(some 24),.bin .mul (.const (.int .u64 4096)) (.tmp 23),none⟩,⟨(some 25),.bin .sub (.tmp 20) (.tmp 24),none⟩,⟨(some 2),.mv (.tmp 25),none⟩])
 .ret)))⟩
theorem k324 : compFn Tryz.prog Tryz.f324 = some c324 := by kernel_rfl
-- (*croft/slab.Slab).unhang
def c325 : AFunc := ⟨[],(.seq (.region [⟨(some 13),.mv (.tmp 0),none⟩,⟨(some 14),.nilCheck (.tmp 13),none⟩,⟨(some 15),.faddr 0 (.tmp 14),none⟩,⟨(some 16),.load false 1 (.tmp 15),none⟩,⟨(some 17),.nilCheck (.tmp 16),none⟩,⟨(some 18),.faddr 0 (.tmp 17),none⟩,⟨(some 19),.call 116 [(.tmp 18)],none⟩,⟨(some 6),.mv (.tmp 19),none⟩])
 (.seq (.region [⟨(some 21),.mv (.tmp 6),none⟩,⟨(some 22),.mv (.tmp 1),none⟩,⟨(some 23),.call 118 [(.tmp 21),(.tmp 22)],none⟩,⟨(some 20),.mv (.tmp 23),none⟩,⟨(some 24),.extract (.tmp 20) 0,none⟩,⟨(some 25),.extract (.tmp 20) 1,none⟩,⟨(some 7),.alloc [(.int .i64 0),(.int .i64 0),(.int .i64 0),(.int .i64 0),(.int .i64 0),(.int .i64 0),(.int .i64 0),(.int .u64 0),(.int .u64 0),(.int .u64 0),(.int .u64 0)],none⟩,⟨none,.store 11 (.tmp 7) (.tmp 24),none⟩,⟨(some 8),.mv (.tmp 25),none⟩])
 (.seq (.seq (.region [⟨(some 26),.faddr 5 (.tmp 7),none⟩,⟨(some 27),.load false 1 (.tmp 26),none⟩,⟨(some 28),.bin .geq (.tmp 27) (.const (.int .i64 0)),none⟩])
 (.cond (.tmp 28) (.seq (.region [⟨(some 30),.mv (.tmp 6),none⟩,⟨(some 31),.faddr 5 (.tmp 7),none⟩,⟨(some 32),.load false 1 (.tmp 31),none⟩,⟨(some 33),.call 118 [(.tmp 30),(.tmp 32)],none⟩,⟨(some 29),.mv (.tmp 33),none⟩,⟨(some 34),.extract (.tmp 29) 0,none⟩,⟨(some 35),.extract (.tmp 29) 1,none⟩,⟨(some 9),.alloc [(.int .i64 0),(.int .i64 0),(.int .i64 0),(.int .i64 0),(.int .i64 0),(.int .i64 0),(.int .i64 0),(.int .u64 0),(.int .u64 0),(.int .u64 0),(.int .u64 0)],none⟩,⟨none,.store 11 (.tmp 9) (.tmp 34),none⟩,⟨(some 10),.mv (.tmp 35),none⟩])
 (.region [⟨(some 36),.mv (.tmp 6),none⟩,⟨(some 37),.faddr 5 (.tmp 7),none⟩,⟨(some 38),.load false 1 (.tmp 37),none⟩,⟨(some 39),.faddr 4 (.tmp 7),none⟩,⟨(some 40),.load false 1 (.tmp 39),none⟩,⟨(some 41),.faddr 5 (.tmp 9),none⟩,⟨(some 42),.load false 1 (.tmp 41),none⟩,⟨(some 43),.call 377 [(.tmp 36),(.tmp 38),(.tmp 40),(.tmp 42)],none⟩])) (.draw [⟨⟨(some 44),.mv (.tmp 0),none⟩,0,0⟩,⟨⟨(some 45),.mv (.tmp 2),none⟩,0,0⟩,⟨⟨(some 46),.faddr 4 (.tmp 7),none⟩,0,0⟩,⟨⟨(some 47),.load false 1 (.tmp 46),none⟩,0,0⟩,⟨⟨(some 48),.nilCheck (.tmp 44),none⟩,0,0⟩,⟨⟨(some 49),.faddr 1 (.tmp 48),none⟩,0,0⟩,⟨⟨(some 50),.iaddrA 8 1 (.tmp 49) (.tmp 45),none⟩,0,0⟩,⟨⟨none,.store 1 (.tmp 50) (.tmp 47),none⟩,0,1⟩])))
 (.seq (.seq (.region [⟨(some 51),.faddr 4 (.tmp 7),none⟩,⟨(some 52),.load false 1 (.tmp 51),none⟩,⟨(some 53),.bin .geq (.tmp 52) (.const (.int .i64 0)),none⟩])
 (.cond (.tmp 53) (.seq (.region [⟨(some 55),.mv (.tmp 6),none⟩,⟨(some 56),.faddr 4 (.tmp 7),none⟩,⟨(some 57),.load false 1 (.tmp 56),none⟩,⟨(some 58),.call 118 [(.tmp 55),(.tmp 57)],none⟩,⟨(some 54),.mv (.tmp 58),none⟩,⟨(some 59),.extract (.tmp 54) 0,none⟩,⟨(some 60),.extract (.tmp 54) 1,none⟩,⟨(some 11),.alloc [(.int .i64 0),(.int .i64 0),(.int .i64 0),(.int .i64 0),(.int .i64 0),(.int .i64 0),(.int .i64 0),(.int .u64 0),(.int .u64 0),(.int .u64 0),(.int .u64 0)],none⟩,⟨none,.store 11 (.tmp 11) (.tmp 59),none⟩,⟨(some 12),.mv (.tmp 60),none⟩])
 (.region [⟨(some 61),.mv (.tmp 6),none⟩,⟨(some 62),.faddr 4 (.tmp 7),none⟩,⟨(some 63),.load false 1 (.tmp 62),none⟩,⟨(some 64),.faddr 4 (.tmp 11),none⟩,⟨(some 65),.load false 1 (.tmp 64),none⟩,⟨(some 66),.faddr 5 (.tmp 7),none⟩,⟨(some 67),.load false 1 (.tmp 66),none⟩,⟨(some 68),.call 377 [(.tmp 61),(.tmp 63),(.tmp 65),(.tmp 67)],none⟩])) .skip))
 (.region [⟨(some 69),.mv (.tmp 6),none⟩,⟨(some 70),.mv (.tmp 1),none⟩,⟨(some 71),.call 377 [(.tmp 69),(.tmp 70),(.const (.int .i64 (-1))),(.const (.int .i64 (-1)))],none⟩])))))⟩
theorem k325 : compFn Tryz.prog Tryz.f325 = some c325 := by kernel_rfl
end
end Go.Proofs.YtdnefddmghhgpaaGreatDoor
