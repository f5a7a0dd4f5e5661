import Derived.Test.YtdnefddmghhgpaaGreatDoorM8Link
set_option maxRecDepth 1000000
set_option maxHeartbeats 4000000
set_option linter.unusedVariables false
namespace Go.Proofs.YtdnefddmghhgpaaGreatDoor
open AM Go
noncomputable section
-- croft/croftlaw22.MarchKnown
def c7 : AFunc := ⟨[.tmp 0],(.seq (.region [⟨(some 0),.mv (.const (.bool false)),none⟩])
 (.seq (.region [⟨(some 23),.build [(.int .u64 0),(.int .i64 0),(.int .i64 0)] [(0,1,(.const (.int .u64 65536))),(1,1,(.const (.int .i64 1))),(2,1,(.const (.int .i64 0)))],none⟩,⟨(some 24),.call 51 [(.tmp 23)],none⟩,⟨(some 1),.mv (.tmp 24),none⟩])
 (.seq (.seq (.region [⟨(some 25),.mv (.tmp 1),none⟩,⟨(some 26),.eq1 false .ptr (.tmp 25) (.const (.ptr none)),none⟩,⟨(some 27),.mv (.tmp 26),none⟩,⟨(some 28),.call 52 [],some (27,false)⟩,⟨(some 29),.not (.tmp 28),some (27,false)⟩,⟨(some 30),.pick (.tmp 27) (.const (.bool true)) (.tmp 29),none⟩,⟨(some 31),.mv (.tmp 30),none⟩,⟨(some 32),.pick (.tmp 31) (.const (.bool true)) (.const (.bool false)),none⟩,⟨(some 33),.mv (.tmp 32),none⟩,⟨(some 34),.pick (.tmp 33) (.const (.bool true)) (.const (.bool false)),none⟩,⟨(some 35),.mv (.tmp 34),none⟩,⟨(some 36),.pick (.tmp 35) (.const (.bool true)) (.const (.bool false)),none⟩,⟨(some 37),.mv (.tmp 36),none⟩,⟨(some 38),.pick (.tmp 37) (.const (.bool true)) (.const (.bool false)),none⟩,⟨(some 39),.mv (.tmp 38),none⟩,⟨(some 40),.pick (.tmp 39) (.const (.bool true)) (.const (.bool false)),none⟩,⟨(some 41),.mv (.tmp 40),none⟩,⟨(some 42),.pick (.tmp 41) (.const (.bool true)) (.const (.bool false)),none⟩,⟨(some 43),.mv (.tmp 42),none⟩,⟨(some 44),.pick (.tmp 43) (.const (.bool true)) (.const (.bool false)),none⟩,⟨(some 45),.mv (.tmp 44),none⟩,⟨(some 46),.pick (.tmp 45) (.const (.bool true)) (.const (.bool false)),none⟩,⟨(some 47),.mv (.tmp 46),none⟩,⟨(some 48),.pick (.tmp 47) (.const (.bool true)) (.const (.bool false)),none⟩,⟨(some 49),.mv (.tmp 48),none⟩,⟨(some 50),.pick (.tmp 49) (.const (.bool true)) (.const (.bool false)),none⟩])
 (.cond (.tmp 50) (.seq (.region [⟨(some 0),.mv (.const (.bool false)),none⟩])
 .ret) .skip))
 (.seq (.region [⟨(some 51),.mv (.tmp 1),none⟩,⟨(some 52),.nilCheck (.tmp 51),none⟩,⟨(some 53),.faddr 4 (.tmp 52),none⟩,⟨(some 54),.loadX false 1 (.tmp 53),none⟩,⟨(some 2),.mv (.tmp 54),none⟩])
 (.seq (.seq (.region [⟨(some 55),.mv (.tmp 2),none⟩,⟨(some 56),.call 53 [(.tmp 55),(.const (.int .i64 0))],none⟩,⟨(some 57),.build [(.int .i64 0),(.int .i64 0),(.int .u64 0),(.bool false)] [],none⟩,⟨(some 58),.eqs true [true,true,true,false] (.tmp 56) (.tmp 57),none⟩,⟨(some 59),.mv (.tmp 58),none⟩,⟨(some 60),.mv (.tmp 2),some (59,false)⟩,⟨(some 61),.call 53 [(.tmp 60),(.const (.int .i64 5))],some (59,false)⟩,⟨(some 62),.build [(.int .i64 0),(.int .i64 0),(.int .u64 0),(.bool false)] [(3,1,(.const (.bool true)))],some (59,false)⟩,⟨(some 63),.eqs true [true,true,true,false] (.tmp 61) (.tmp 62),some (59,false)⟩,⟨(some 64),.pick (.tmp 59) (.const (.bool true)) (.tmp 63),none⟩,⟨(some 65),.mv (.tmp 64),none⟩,⟨(some 66),.mv (.tmp 2),some (65,false)⟩,⟨(some 67),.call 54 [(.tmp 66)],some (65,false)⟩,⟨(some 68),.bin .neq (.tmp 67) (.const (.int .i64 0)),some (65,false)⟩,⟨(some 69),.pick (.tmp 65) (.const (.bool true)) (.tmp 68),none⟩])
 (.cond (.tmp 69) (.seq (.region [⟨(some 0),.mv (.const (.bool false)),none⟩])
 .ret) .skip))
 (.seq (.region [⟨(some 71),.mv (.tmp 2),none⟩,⟨(some 72),.call 55 [(.tmp 71),(.const (.int .i64 1)),(.const (.int .i64 0)),(.const (.bool false))],none⟩,⟨(some 70),.mv (.tmp 72),none⟩,⟨(some 73),.extract (.tmp 70) 0,none⟩,⟨(some 74),.extract (.tmp 70) 1,none⟩,⟨(some 3),.mv (.tmp 73),none⟩,⟨(some 4),.mv (.tmp 74),none⟩])
 (.seq (.region [⟨(some 76),.mv (.tmp 2),none⟩,⟨(some 77),.call 55 [(.tmp 76),(.const (.int .i64 1)),(.const (.int .i64 0)),(.const (.bool false))],none⟩,⟨(some 75),.mv (.tmp 77),none⟩,⟨(some 78),.extract (.tmp 75) 0,none⟩,⟨(some 79),.extract (.tmp 75) 1,none⟩,⟨(some 5),.mv (.tmp 78),none⟩,⟨(some 6),.mv (.tmp 79),none⟩])
 (.seq (.region [⟨(some 81),.mv (.tmp 2),none⟩,⟨(some 82),.call 55 [(.tmp 81),(.const (.int .i64 1)),(.const (.int .i64 0)),(.const (.bool false))],none⟩,⟨(some 80),.mv (.tmp 82),none⟩,⟨(some 83),.extract (.tmp 80) 0,none⟩,⟨(some 84),.extract (.tmp 80) 1,none⟩,⟨(some 7),.mv (.tmp 83),none⟩,⟨(some 8),.mv (.tmp 84),none⟩])
 (.seq (.region [⟨(some 86),.mv (.tmp 2),none⟩,⟨(some 87),.call 55 [(.tmp 86),(.const (.int .i64 1)),(.const (.int .i64 0)),(.const (.bool false))],none⟩,⟨(some 85),.mv (.tmp 87),none⟩,⟨(some 88),.extract (.tmp 85) 0,none⟩,⟨(some 89),.extract (.tmp 85) 1,none⟩,⟨(some 9),.mv (.tmp 88),none⟩,⟨(some 10),.mv (.tmp 89),none⟩])
 (.seq (.seq (.region [⟨(some 90),.mv (.tmp 9),none⟩,⟨(some 91),.bin .neq (.tmp 90) (.const (.int .u64 65584)),none⟩,⟨(some 92),.mv (.tmp 91),none⟩,⟨(some 93),.mv (.tmp 2),some (92,false)⟩,⟨(some 94),.mv (.tmp 3),some (92,false)⟩,⟨(some 95),.call 56 [(.tmp 93),(.const (.str [120])),(.tmp 94)],some (92,false)⟩,⟨(some 96),.bin .neq (.tmp 95) (.const (.int .i64 0)),some (92,false)⟩,⟨(some 97),.pick (.tmp 92) (.const (.bool true)) (.tmp 96),none⟩,⟨(some 98),.mv (.tmp 97),none⟩,⟨(some 99),.mv (.tmp 2),some (98,false)⟩,⟨(some 100),.mv (.tmp 3),some (98,false)⟩,⟨(some 101),.mv (.tmp 5),some (98,false)⟩,⟨(some 102),.call 57 [(.tmp 99),(.tmp 100),(.const (.int .i64 0)),(.tmp 101)],some (98,false)⟩,⟨(some 103),.bin .neq (.tmp 102) (.const (.int .i64 0)),some (98,false)⟩,⟨(some 104),.pick (.tmp 98) (.const (.bool true)) (.tmp 103),none⟩,⟨(some 105),.mv (.tmp 104),none⟩,⟨(some 106),.mv (.tmp 2),some (105,false)⟩,⟨(some 107),.mv (.tmp 7),some (105,false)⟩,⟨(some 108),.mv (.tmp 9),some (105,false)⟩,⟨(some 109),.call 57 [(.tmp 106),(.tmp 107),(.const (.int .i64 0)),(.tmp 108)],some (105,false)⟩,⟨(some 110),.bin .neq (.tmp 109) (.const (.int .i64 0)),some (105,false)⟩,⟨(some 111),.pick (.tmp 105) (.const (.bool true)) (.tmp 110),none⟩,⟨(some 112),.mv (.tmp 111),none⟩,⟨(some 113),.mv (.tmp 2),some (112,false)⟩,⟨(some 114),.call 53 [(.tmp 113),(.const (.int .i64 1))],some (112,false)⟩,⟨(some 115),.build [(.int .i64 0),(.int .i64 0),(.int .u64 0),(.bool false)] [(0,1,(.const (.int .i64 1)))],some (112,false)⟩,⟨(some 116),.eqs true [true,true,true,false] (.tmp 114) (.tmp 115),some (112,false)⟩,⟨(some 117),.pick (.tmp 112) (.const (.bool true)) (.tmp 116),none⟩,⟨(some 118),.mv (.tmp 117),none⟩,⟨(some 119),.mv (.tmp 2),some (118,false)⟩,⟨(some 120),.call 54 [(.tmp 119)],some (118,false)⟩,⟨(some 121),.bin .neq (.tmp 120) (.const (.int .i64 1)),some (118,false)⟩,⟨(some 122),.pick (.tmp 118) (.const (.bool true)) (.tmp 121),none⟩,⟨(some 123),.mv (.tmp 122),none⟩,⟨(some 124),.mv (.tmp 2),some (123,false)⟩,⟨(some 125),.call 58 [(.tmp 124)],some (123,false)⟩,⟨(some 126),.bin .neq (.tmp 125) (.const (.int .i64 1)),some (123,false)⟩,⟨(some 127),.pick (.tmp 123) (.const (.bool true)) (.tmp 126),none⟩])
 (.cond (.tmp 127) (.seq (.region [⟨(some 0),.mv (.const (.bool false)),none⟩])
 .ret) .skip))
 (.seq (.region [⟨(some 129),.mv (.tmp 2),none⟩,⟨(some 130),.mv (.tmp 3),none⟩,⟨(some 131),.call 59 [(.tmp 129),(.tmp 130)],none⟩,⟨(some 128),.mv (.tmp 131),none⟩,⟨(some 132),.extract (.tmp 128) 0,none⟩,⟨(some 133),.extract (.tmp 128) 1,none⟩,⟨(some 11),.mv (.tmp 132),none⟩,⟨(some 12),.mv (.tmp 133),none⟩])
 (.seq (.region [⟨(some 135),.mv (.tmp 2),none⟩,⟨(some 136),.mv (.tmp 5),none⟩,⟨(some 137),.call 59 [(.tmp 135),(.tmp 136)],none⟩,⟨(some 134),.mv (.tmp 137),none⟩,⟨(some 138),.extract (.tmp 134) 0,none⟩,⟨(some 139),.extract (.tmp 134) 1,none⟩,⟨(some 13),.mv (.tmp 138),none⟩,⟨(some 14),.mv (.tmp 139),none⟩])
 (.seq (.region [⟨(some 141),.mv (.tmp 2),none⟩,⟨(some 142),.mv (.tmp 7),none⟩,⟨(some 143),.call 59 [(.tmp 141),(.tmp 142)],none⟩,⟨(some 140),.mv (.tmp 143),none⟩,⟨(some 144),.extract (.tmp 140) 0,none⟩,⟨(some 145),.extract (.tmp 140) 1,none⟩,⟨(some 15),.mv (.tmp 144),none⟩,⟨(some 16),.mv (.tmp 145),none⟩])
 (.seq (.seq (.region [⟨(some 146),.mv (.tmp 11),none⟩,⟨(some 147),.bin .neq (.tmp 146) (.const (.int .i64 2)),none⟩,⟨(some 148),.mv (.tmp 147),none⟩,⟨(some 149),.mv (.tmp 13),some (148,false)⟩,⟨(some 150),.bin .neq (.tmp 149) (.const (.int .i64 1)),some (148,false)⟩,⟨(some 151),.pick (.tmp 148) (.const (.bool true)) (.tmp 150),none⟩,⟨(some 152),.mv (.tmp 151),none⟩,⟨(some 153),.mv (.tmp 15),some (152,false)⟩,⟨(some 154),.bin .neq (.tmp 153) (.const (.int .i64 0)),some (152,false)⟩,⟨(some 155),.pick (.tmp 152) (.const (.bool true)) (.tmp 154),none⟩,⟨(some 156),.mv (.tmp 155),none⟩,⟨(some 157),.mv (.tmp 2),some (156,false)⟩,⟨(some 158),.mv (.tmp 3),some (156,false)⟩,⟨(some 159),.call 57 [(.tmp 157),(.tmp 158),(.const (.int .i64 0)),(.const (.int .u64 0))],some (156,false)⟩,⟨(some 160),.bin .neq (.tmp 159) (.const (.int .i64 0)),some (156,false)⟩,⟨(some 161),.pick (.tmp 156) (.const (.bool true)) (.tmp 160),none⟩,⟨(some 162),.mv (.tmp 161),none⟩,⟨(some 163),.mv (.tmp 2),some (162,false)⟩,⟨(some 164),.mv (.tmp 3),some (162,false)⟩,⟨(some 165),.mv (.tmp 7),some (162,false)⟩,⟨(some 166),.call 57 [(.tmp 163),(.tmp 164),(.const (.int .i64 0)),(.tmp 165)],some (162,false)⟩,⟨(some 167),.bin .neq (.tmp 166) (.const (.int .i64 0)),some (162,false)⟩,⟨(some 168),.pick (.tmp 162) (.const (.bool true)) (.tmp 167),none⟩])
 (.cond (.tmp 168) (.seq (.region [⟨(some 0),.mv (.const (.bool false)),none⟩])
 .ret) .skip))
 (.seq (.region [⟨(some 170),.mv (.tmp 2),none⟩,⟨(some 171),.mv (.tmp 7),none⟩,⟨(some 172),.call 59 [(.tmp 170),(.tmp 171)],none⟩,⟨(some 169),.mv (.tmp 172),none⟩,⟨(some 173),.extract (.tmp 169) 0,none⟩,⟨(some 174),.extract (.tmp 169) 1,none⟩,⟨(some 15),.mv (.tmp 173),none⟩])
 (.seq (.region [⟨(some 176),.mv (.tmp 2),none⟩,⟨(some 177),.call 55 [(.tmp 176),(.const (.int .i64 0)),(.const (.int .i64 0)),(.const (.bool false))],none⟩,⟨(some 175),.mv (.tmp 177),none⟩,⟨(some 178),.extract (.tmp 175) 0,none⟩,⟨(some 179),.extract (.tmp 175) 1,none⟩,⟨(some 17),.mv (.tmp 178),none⟩,⟨(some 18),.mv (.tmp 179),none⟩])
 (.seq (.region [⟨(some 181),.mv (.tmp 2),none⟩,⟨(some 182),.mv (.tmp 17),none⟩,⟨(some 183),.call 59 [(.tmp 181),(.tmp 182)],none⟩,⟨(some 180),.mv (.tmp 183),none⟩,⟨(some 184),.extract (.tmp 180) 0,none⟩,⟨(some 185),.extract (.tmp 180) 1,none⟩,⟨(some 11),.mv (.tmp 184),none⟩])
 (.seq (.seq (.region [⟨(some 186),.mv (.tmp 15),none⟩,⟨(some 187),.bin .neq (.tmp 186) (.const (.int .i64 1)),none⟩,⟨(some 188),.mv (.tmp 187),none⟩,⟨(some 189),.mv (.tmp 17),some (188,false)⟩,⟨(some 190),.bin .neq (.tmp 189) (.const (.int .u64 65600)),some (188,false)⟩,⟨(some 191),.pick (.tmp 188) (.const (.bool true)) (.tmp 190),none⟩,⟨(some 192),.mv (.tmp 191),none⟩,⟨(some 193),.mv (.tmp 11),some (192,false)⟩,⟨(some 194),.bin .neq (.tmp 193) (.const (.int .i64 2)),some (192,false)⟩,⟨(some 195),.pick (.tmp 192) (.const (.bool true)) (.tmp 194),none⟩,⟨(some 196),.mv (.tmp 195),none⟩,⟨(some 197),.mv (.tmp 2),some (196,false)⟩,⟨(some 198),.call 60 [(.tmp 197),(.const (.str [120]))],some (196,false)⟩,⟨(some 199),.bin .neq (.tmp 198) (.const (.int .i64 0)),some (196,false)⟩,⟨(some 200),.pick (.tmp 196) (.const (.bool true)) (.tmp 199),none⟩,⟨(some 201),.mv (.tmp 200),none⟩,⟨(some 202),.mv (.tmp 2),some (201,false)⟩,⟨(some 203),.call 53 [(.tmp 202),(.const (.int .i64 1))],some (201,false)⟩,⟨(some 204),.build [(.int .i64 0),(.int .i64 0),(.int .u64 0),(.bool false)] [(0,1,(.const (.int .i64 1)))],some (201,false)⟩,⟨(some 205),.eqs true [true,true,true,false] (.tmp 203) (.tmp 204),some (201,false)⟩,⟨(some 206),.pick (.tmp 201) (.const (.bool true)) (.tmp 205),none⟩,⟨(some 207),.mv (.tmp 206),none⟩,⟨(some 208),.mv (.tmp 2),some (207,false)⟩,⟨(some 209),.call 53 [(.tmp 208),(.const (.int .i64 1))],some (207,false)⟩,⟨(some 210),.build [(.int .i64 0),(.int .i64 0),(.int .u64 0),(.bool false)] [(0,1,(.const (.int .i64 1)))],some (207,false)⟩,⟨(some 211),.eqs true [true,true,true,false] (.tmp 209) (.tmp 210),some (207,false)⟩,⟨(some 212),.pick (.tmp 207) (.const (.bool true)) (.tmp 211),none⟩,⟨(some 213),.mv (.tmp 212),none⟩,⟨(some 214),.mv (.tmp 2),some (213,false)⟩,⟨(some 215),.call 53 [(.tmp 214),(.const (.int .i64 1))],some (213,false)⟩,⟨(some 216),.build [(.int .i64 0),(.int .i64 0),(.int .u64 0),(.bool false)] [(0,1,(.const (.int .i64 1))),(3,1,(.const (.bool true)))],some (213,false)⟩,⟨(some 217),.eqs true [true,true,true,false] (.tmp 215) (.tmp 216),some (213,false)⟩,⟨(some 218),.pick (.tmp 213) (.const (.bool true)) (.tmp 217),none⟩,⟨(some 219),.mv (.tmp 218),none⟩,⟨(some 220),.mv (.tmp 2),some (219,false)⟩,⟨(some 221),.call 54 [(.tmp 220)],some (219,false)⟩,⟨(some 222),.bin .neq (.tmp 221) (.const (.int .i64 0)),some (219,false)⟩,⟨(some 223),.pick (.tmp 219) (.const (.bool true)) (.tmp 222),none⟩,⟨(some 224),.mv (.tmp 223),none⟩,⟨(some 225),.mv (.tmp 2),some (224,false)⟩,⟨(some 226),.call 62 [(.tmp 225)],some (224,false)⟩,⟨(some 227),.mv (.tmp 3),some (224,false)⟩,⟨(some 228),.mv (.tmp 5),some (224,false)⟩,⟨(some 229),.mv (.tmp 7),some (224,false)⟩,⟨(some 230),.mv (.tmp 9),some (224,false)⟩,⟨(some 231),.mv (.tmp 17),some (224,false)⟩,⟨(some 232),.mkSlice 5 1 [(.int .u64 0)] [(0,1,(.tmp 227)),(1,1,(.tmp 228)),(2,1,(.tmp 229)),(3,1,(.tmp 230)),(4,1,(.tmp 231))],some (224,false)⟩,⟨(some 233),.call 61 [(.tmp 226),(.tmp 232)],some (224,false)⟩,⟨(some 234),.not (.tmp 233),some (224,false)⟩,⟨(some 235),.pick (.tmp 224) (.const (.bool true)) (.tmp 234),none⟩])
 (.cond (.tmp 235) (.seq (.region [⟨(some 0),.mv (.const (.bool false)),none⟩])
 .ret) .skip))
 (.seq (.seq (.region [⟨(some 236),.mv (.tmp 2),none⟩,⟨(some 237),.call 53 [(.tmp 236),(.const (.int .i64 2))],none⟩,⟨(some 238),.build [(.int .i64 0),(.int .i64 0),(.int .u64 0),(.bool false)] [(0,1,(.const (.int .i64 2))),(1,1,(.const (.int .i64 2))),(2,1,(.const (.int .u64 32)))],none⟩,⟨(some 239),.eqs true [true,true,true,false] (.tmp 237) (.tmp 238),none⟩,⟨(some 240),.mv (.tmp 239),none⟩,⟨(some 241),.mv (.tmp 2),some (240,false)⟩,⟨(some 242),.call 54 [(.tmp 241)],some (240,false)⟩,⟨(some 243),.bin .neq (.tmp 242) (.const (.int .i64 2)),some (240,false)⟩,⟨(some 244),.pick (.tmp 240) (.const (.bool true)) (.tmp 243),none⟩,⟨(some 245),.mv (.tmp 244),none⟩,⟨(some 246),.mv (.tmp 2),some (245,false)⟩,⟨(some 247),.call 58 [(.tmp 246)],some (245,false)⟩,⟨(some 248),.bin .neq (.tmp 247) (.const (.int .i64 3)),some (245,false)⟩,⟨(some 249),.pick (.tmp 245) (.const (.bool true)) (.tmp 248),none⟩,⟨(some 250),.mv (.tmp 249),none⟩,⟨(some 251),.mv (.tmp 2),some (250,false)⟩,⟨(some 252),.call 62 [(.tmp 251)],some (250,false)⟩,⟨(some 253),.lenX (.tmp 252),some (250,false)⟩,⟨(some 254),.bin .neq (.tmp 253) (.const (.int .i64 0)),some (250,false)⟩,⟨(some 255),.pick (.tmp 250) (.const (.bool true)) (.tmp 254),none⟩])
 (.cond (.tmp 255) (.seq (.region [⟨(some 0),.mv (.const (.bool false)),none⟩])
 .ret) .skip))
 (.seq (.region [⟨(some 257),.mv (.tmp 2),none⟩,⟨(some 258),.mv (.tmp 3),none⟩,⟨(some 259),.call 63 [(.tmp 257),(.tmp 258),(.const (.int .i64 0))],none⟩,⟨(some 256),.mv (.tmp 259),none⟩,⟨(some 260),.extract (.tmp 256) 0,none⟩,⟨(some 261),.extract (.tmp 256) 1,none⟩,⟨(some 19),.mv (.tmp 260),none⟩,⟨(some 20),.mv (.tmp 261),none⟩])
 (.seq (.region [⟨(some 263),.mv (.tmp 2),none⟩,⟨(some 264),.call 55 [(.tmp 263),(.const (.int .i64 0)),(.const (.int .i64 0)),(.const (.bool false))],none⟩,⟨(some 262),.mv (.tmp 264),none⟩,⟨(some 265),.extract (.tmp 262) 0,none⟩,⟨(some 266),.extract (.tmp 262) 1,none⟩,⟨(some 21),.mv (.tmp 265),none⟩,⟨(some 22),.mv (.tmp 266),none⟩])
 (.seq (.region [⟨(some 267),.mv (.tmp 20),none⟩,⟨(some 268),.bin .eql (.tmp 267) (.const (.int .i64 1)),none⟩,⟨(some 269),.mv (.tmp 268),none⟩,⟨(some 270),.mv (.tmp 22),some (269,true)⟩,⟨(some 271),.bin .eql (.tmp 270) (.const (.int .i64 0)),some (269,true)⟩,⟨(some 272),.pick (.tmp 269) (.tmp 271) (.const (.bool false)),none⟩,⟨(some 273),.mv (.tmp 272),none⟩,⟨(some 274),.mv (.tmp 21),some (273,true)⟩,⟨(some 275),.mv (.tmp 5),some (273,true)⟩,⟨(some 276),.bin .eql (.tmp 274) (.tmp 275),some (273,true)⟩,⟨(some 277),.pick (.tmp 273) (.tmp 276) (.const (.bool false)),none⟩,⟨(some 278),.mv (.tmp 277),none⟩,⟨(some 279),.mv (.tmp 2),some (278,true)⟩,⟨(some 280),.call 53 [(.tmp 279),(.const (.int .i64 9))],some (278,true)⟩,⟨(some 281),.build [(.int .i64 0),(.int .i64 0),(.int .u64 0),(.bool false)] [(0,1,(.const (.int .i64 3))),(1,1,(.const (.int .i64 3))),(2,1,(.const (.int .u64 48))),(3,1,(.const (.bool true)))],some (278,true)⟩,⟨(some 282),.eqs false [true,true,true,false] (.tmp 280) (.tmp 281),some (278,true)⟩,⟨(some 283),.pick (.tmp 278) (.tmp 282) (.const (.bool false)),none⟩,⟨(some 284),.mv (.tmp 283),none⟩,⟨(some 285),.mv (.tmp 2),some (284,true)⟩,⟨(some 286),.call 62 [(.tmp 285)],some (284,true)⟩,⟨(some 287),.mv (.tmp 5),some (284,true)⟩,⟨(some 288),.mkSlice 1 1 [(.int .u64 0)] [(0,1,(.tmp 287))],some (284,true)⟩,⟨(some 289),.call 61 [(.tmp 286),(.tmp 288)],some (284,true)⟩,⟨(some 290),.pick (.tmp 284) (.tmp 289) (.const (.bool false)),none⟩,⟨(some 0),.mv (.tmp 290),none⟩])
 .ret))))))))))))))))))))))⟩
theorem k7 : compFn Tryz.prog Tryz.f7 = some c7 := by kernel_rfl
-- croft/malloc.New
def c12 : AFunc := ⟨[.tmp 2,.tmp 3],(.seq (.region [⟨(some 1),.box 3 (.tmp 0),none⟩,⟨(some 2),.mv (.const (.ptr none)),none⟩,⟨(some 3),.mv (.const (.int .i64 0)),none⟩])
 (.seq (.region [⟨(some 7),.loadX true 3 (.tmp 1),none⟩,⟨(some 8),.call 104 [(.tmp 7)],none⟩,⟨(some 6),.mv (.tmp 8),none⟩,⟨(some 9),.extract (.tmp 6) 0,none⟩,⟨(some 10),.extract (.tmp 6) 1,none⟩,⟨(some 4),.mv (.tmp 9),none⟩,⟨(some 5),.mv (.tmp 10),none⟩])
 (.seq (.seq (.region [⟨(some 11),.mv (.tmp 5),none⟩,⟨(some 12),.bin .neq (.tmp 11) (.const (.int .i64 0)),none⟩])
 (.cond (.tmp 12) (.seq (.region [⟨(some 13),.mv (.tmp 5),none⟩,⟨(some 2),.mv (.const (.ptr none)),none⟩,⟨(some 3),.mv (.tmp 13),none⟩])
 .ret) .skip))
 (.seq (.draw [⟨⟨(some 14),.loadX true 3 (.tmp 1),none⟩,0,1⟩,⟨⟨(some 15),.mv (.tmp 4),none⟩,0,1⟩,⟨⟨(some 16),.mv (.tmp 4),none⟩,0,0⟩,⟨⟨(some 17),.call 105 [(.tmp 16)],none⟩,0,1⟩,⟨⟨(some 18),.build [(.int .i32 0),(.int .u32 0),(.int .u64 0),(.int .i64 0),(.int .i64 0),(.ptr none),(.ptr none)] [(2,3,(.tmp 14)),(5,1,(.tmp 15)),(6,1,(.tmp 17))],none⟩,1,1⟩,⟨⟨(some 19),.box 7 (.tmp 18),none⟩,1,2⟩,⟨⟨(some 2),.mv (.tmp 19),none⟩,2,2⟩,⟨⟨(some 3),.mv (.const (.int .i64 0)),none⟩,2,2⟩])
 .ret))))⟩
theorem k12 : compFn Tryz.prog Tryz.f12 = some c12 := by kernel_rfl
-- (*croft/malloc.Heap).UsableSize
def c42 : AFunc := ⟨[.tmp 4,.tmp 5],(.seq (.region [⟨(some 4),.mv (.const (.int .u64 0)),none⟩,⟨(some 5),.mv (.const (.int .i64 0)),none⟩])
 (.seq (.region [⟨(some 8),.mv (.tmp 0),none⟩,⟨(some 9),.nilCheck (.tmp 8),none⟩,⟨(some 10),.faddr 0 (.tmp 9),none⟩,⟨(some 11),.call 111 [(.tmp 10)],none⟩])
 (.seq (.region [⟨(some 12),.mv (.tmp 0),none⟩,⟨(some 13),.nilCheck (.tmp 12),none⟩,⟨(some 14),.faddr 0 (.tmp 13),none⟩,⟨none,.defer 112 [(.tmp 14)],none⟩])
 (.seq (.region [⟨(some 16),.mv (.tmp 0),none⟩,⟨(some 17),.mv (.tmp 1),none⟩,⟨(some 18),.call 147 [(.tmp 16),(.tmp 17)],none⟩,⟨(some 15),.mv (.tmp 18),none⟩,⟨(some 19),.extract (.tmp 15) 0,none⟩,⟨(some 20),.extract (.tmp 15) 1,none⟩,⟨(some 6),.alloc [(.int .u64 0),(.int .u64 0)],none⟩,⟨none,.storeX 2 (.tmp 6) (.tmp 19),none⟩,⟨(some 7),.mv (.tmp 20),none⟩])
 (.seq (.region [⟨(some 21),.faddr 1 (.tmp 6),none⟩,⟨(some 22),.loadX false 1 (.tmp 21),none⟩,⟨(some 23),.mv (.tmp 7),none⟩,⟨(some 4),.mv (.tmp 22),none⟩,⟨(some 5),.mv (.tmp 23),none⟩])
 .ret)))))⟩
theorem k42 : compFn Tryz.prog Tryz.f42 = some c42 := by kernel_rfl
-- croft/croftlaw22.begin
def c51 : AFunc := ⟨[.tmp 2],(.seq (.region [⟨(some 1),.box 3 (.tmp 0),none⟩,⟨(some 2),.mv (.const (.ptr none)),none⟩])
 (.seq (.seq (.region [⟨(some 6),.loadX true 3 (.tmp 1),none⟩,⟨(some 7),.call 158 [(.tmp 6)],none⟩,⟨(some 8),.not (.tmp 7),none⟩])
 (.cond (.tmp 8) (.region [⟨(some 9),.build [(.int .u64 0),(.int .i64 0),(.int .i64 0)] [(0,1,(.const (.int .u64 65536))),(1,1,(.const (.int .i64 1))),(2,1,(.const (.int .i64 0)))],none⟩,⟨none,.storeX 3 (.tmp 1) (.tmp 9),none⟩]) .skip))
 (.seq (.region [⟨(some 11),.loadX true 3 (.tmp 1),none⟩,⟨(some 12),.call 12 [(.tmp 11)],none⟩,⟨(some 10),.mv (.tmp 12),none⟩,⟨(some 13),.extract (.tmp 10) 0,none⟩,⟨(some 14),.extract (.tmp 10) 1,none⟩,⟨(some 3),.mv (.tmp 13),none⟩,⟨(some 4),.mv (.tmp 14),none⟩])
 (.seq (.seq (.region [⟨(some 15),.mv (.tmp 4),none⟩,⟨(some 16),.bin .neq (.tmp 15) (.const (.int .i64 0)),none⟩,⟨(some 17),.mv (.tmp 16),none⟩,⟨(some 18),.mv (.tmp 3),some (17,false)⟩,⟨(some 19),.eq1 false .ptr (.tmp 18) (.const (.ptr none)),some (17,false)⟩,⟨(some 20),.pick (.tmp 17) (.const (.bool true)) (.tmp 19),none⟩])
 (.cond (.tmp 20) (.seq (.region [⟨(some 2),.mv (.const (.ptr none)),none⟩])
 .ret) .skip))
 (.seq (.region [⟨(some 21),.mv (.tmp 3),none⟩,⟨(some 22),.call 159 [(.tmp 21)],none⟩,⟨(some 5),.mv (.tmp 22),none⟩])
 (.seq (.seq (.region [⟨(some 23),.mv (.tmp 5),none⟩,⟨(some 24),.eq1 false .ptr (.tmp 23) (.const (.ptr none)),none⟩])
 (.cond (.tmp 24) (.seq (.region [⟨(some 2),.mv (.const (.ptr none)),none⟩])
 .ret) .skip))
 (.seq (.region [⟨(some 25),.loadX true 3 (.tmp 1),none⟩,⟨(some 26),.mv (.tmp 3),none⟩,⟨(some 27),.mv (.tmp 5),none⟩,⟨(some 28),.build [(.slice none 0 0),(.slice none 0 0),(.int .i64 0),(.slice none 0 0),(.slice none 0 0)] [],none⟩,⟨(some 29),.build [(.int .u64 0),(.int .i64 0),(.int .i64 0),(.ptr none),(.ptr none),(.slice none 0 0),(.slice none 0 0),(.int .i64 0),(.slice none 0 0),(.slice none 0 0)] [(0,3,(.tmp 25)),(3,1,(.tmp 26)),(4,1,(.tmp 27)),(5,5,(.tmp 28))],none⟩,⟨(some 30),.box 10 (.tmp 29),none⟩,⟨(some 2),.mv (.tmp 30),none⟩])
 .ret)))))))⟩
theorem k51 : compFn Tryz.prog Tryz.f51 = some c51 := by kernel_rfl
-- croft/croftlaw22.lives
def c52 : AFunc := ⟨[.tmp 0],(.seq (.region [⟨(some 0),.mv (.const (.bool false)),none⟩])
 (.seq (.region [⟨(some 13),.build [(.int .u64 0),(.int .i64 0),(.int .i64 0)] [(0,1,(.const (.int .u64 65536))),(1,1,(.const (.int .i64 1))),(2,1,(.const (.int .i64 0)))],none⟩,⟨(some 14),.call 51 [(.tmp 13)],none⟩,⟨(some 1),.mv (.tmp 14),none⟩])
 (.seq (.seq (.region [⟨(some 15),.mv (.tmp 1),none⟩,⟨(some 16),.eq1 false .ptr (.tmp 15) (.const (.ptr none)),none⟩])
 (.cond (.tmp 16) (.seq (.region [⟨(some 0),.mv (.const (.bool false)),none⟩])
 .ret) .skip))
 (.seq (.region [⟨(some 17),.mv (.tmp 1),none⟩,⟨(some 18),.nilCheck (.tmp 17),none⟩,⟨(some 19),.faddr 4 (.tmp 18),none⟩,⟨(some 20),.loadX false 1 (.tmp 19),none⟩,⟨(some 2),.mv (.tmp 20),none⟩])
 (.seq (.region [⟨(some 22),.mv (.tmp 2),none⟩,⟨(some 23),.call 55 [(.tmp 22),(.const (.int .i64 1)),(.const (.int .i64 0)),(.const (.bool false))],none⟩,⟨(some 21),.mv (.tmp 23),none⟩,⟨(some 24),.extract (.tmp 21) 0,none⟩,⟨(some 25),.extract (.tmp 21) 1,none⟩,⟨(some 3),.mv (.tmp 24),none⟩,⟨(some 4),.mv (.tmp 25),none⟩])
 (.seq (.region [⟨(some 27),.mv (.tmp 2),none⟩,⟨(some 28),.call 55 [(.tmp 27),(.const (.int .i64 1)),(.const (.int .i64 0)),(.const (.bool false))],none⟩,⟨(some 26),.mv (.tmp 28),none⟩,⟨(some 29),.extract (.tmp 26) 0,none⟩,⟨(some 30),.extract (.tmp 26) 1,none⟩,⟨(some 5),.mv (.tmp 29),none⟩,⟨(some 6),.mv (.tmp 30),none⟩])
 (.seq (.region [⟨(some 32),.mv (.tmp 2),none⟩,⟨(some 33),.call 55 [(.tmp 32),(.const (.int .i64 1)),(.const (.int .i64 0)),(.const (.bool false))],none⟩,⟨(some 31),.mv (.tmp 33),none⟩,⟨(some 34),.extract (.tmp 31) 0,none⟩,⟨(some 35),.extract (.tmp 31) 1,none⟩,⟨(some 7),.mv (.tmp 34),none⟩,⟨(some 8),.mv (.tmp 35),none⟩])
 (.seq (.seq (.region [⟨(some 36),.mv (.tmp 3),none⟩,⟨(some 37),.bin .neq (.tmp 36) (.const (.int .u64 65536)),none⟩,⟨(some 38),.mv (.tmp 37),none⟩,⟨(some 39),.mv (.tmp 5),some (38,false)⟩,⟨(some 40),.bin .neq (.tmp 39) (.const (.int .u64 65552)),some (38,false)⟩,⟨(some 41),.pick (.tmp 38) (.const (.bool true)) (.tmp 40),none⟩,⟨(some 42),.mv (.tmp 41),none⟩,⟨(some 43),.mv (.tmp 7),some (42,false)⟩,⟨(some 44),.bin .neq (.tmp 43) (.const (.int .u64 65568)),some (42,false)⟩,⟨(some 45),.pick (.tmp 42) (.const (.bool true)) (.tmp 44),none⟩,⟨(some 46),.mv (.tmp 45),none⟩,⟨(some 47),.mv (.tmp 4),some (46,false)⟩,⟨(some 48),.bin .neq (.tmp 47) (.const (.int .i64 0)),some (46,false)⟩,⟨(some 49),.pick (.tmp 46) (.const (.bool true)) (.tmp 48),none⟩,⟨(some 50),.mv (.tmp 49),none⟩,⟨(some 51),.mv (.tmp 6),some (50,false)⟩,⟨(some 52),.bin .neq (.tmp 51) (.const (.int .i64 0)),some (50,false)⟩,⟨(some 53),.pick (.tmp 50) (.const (.bool true)) (.tmp 52),none⟩,⟨(some 54),.mv (.tmp 53),none⟩,⟨(some 55),.mv (.tmp 8),some (54,false)⟩,⟨(some 56),.bin .neq (.tmp 55) (.const (.int .i64 0)),some (54,false)⟩,⟨(some 57),.pick (.tmp 54) (.const (.bool true)) (.tmp 56),none⟩,⟨(some 58),.mv (.tmp 57),none⟩,⟨(some 59),.mv (.tmp 2),some (58,false)⟩,⟨(some 60),.mv (.tmp 3),some (58,false)⟩,⟨(some 61),.call 56 [(.tmp 59),(.const (.str [120])),(.tmp 60)],some (58,false)⟩,⟨(some 62),.bin .neq (.tmp 61) (.const (.int .i64 0)),some (58,false)⟩,⟨(some 63),.pick (.tmp 58) (.const (.bool true)) (.tmp 62),none⟩,⟨(some 64),.mv (.tmp 63),none⟩,⟨(some 65),.mv (.tmp 2),some (64,false)⟩,⟨(some 66),.mv (.tmp 3),some (64,false)⟩,⟨(some 67),.mv (.tmp 5),some (64,false)⟩,⟨(some 68),.call 57 [(.tmp 65),(.tmp 66),(.const (.int .i64 0)),(.tmp 67)],some (64,false)⟩,⟨(some 69),.bin .neq (.tmp 68) (.const (.int .i64 0)),some (64,false)⟩,⟨(some 70),.pick (.tmp 64) (.const (.bool true)) (.tmp 69),none⟩])
 (.cond (.tmp 70) (.seq (.region [⟨(some 0),.mv (.const (.bool false)),none⟩])
 .ret) .skip))
 (.seq (.region [⟨(some 71),.mv (.tmp 2),none⟩,⟨(some 72),.call 53 [(.tmp 71),(.const (.int .i64 1))],none⟩,⟨(some 9),.alloc [(.int .i64 0),(.int .i64 0),(.int .u64 0),(.bool false)],none⟩,⟨none,.storeX 4 (.tmp 9) (.tmp 72),none⟩])
 (.seq (.region [⟨(some 74),.mv (.tmp 2),none⟩,⟨(some 75),.mv (.tmp 5),none⟩,⟨(some 76),.call 59 [(.tmp 74),(.tmp 75)],none⟩,⟨(some 73),.mv (.tmp 76),none⟩,⟨(some 77),.extract (.tmp 73) 0,none⟩,⟨(some 78),.extract (.tmp 73) 1,none⟩,⟨(some 10),.mv (.tmp 77),none⟩,⟨(some 11),.mv (.tmp 78),none⟩])
 (.seq (.region [⟨(some 79),.mv (.tmp 2),none⟩,⟨(some 80),.call 53 [(.tmp 79),(.const (.int .i64 9))],none⟩,⟨(some 12),.alloc [(.int .i64 0),(.int .i64 0),(.int .u64 0),(.bool false)],none⟩,⟨none,.storeX 4 (.tmp 12) (.tmp 80),none⟩])
 (.seq (.region [⟨(some 81),.faddr 0 (.tmp 9),none⟩,⟨(some 82),.loadX false 1 (.tmp 81),none⟩,⟨(some 83),.bin .eql (.tmp 82) (.const (.int .i64 1)),none⟩,⟨(some 84),.mv (.tmp 83),none⟩,⟨(some 85),.faddr 3 (.tmp 9),some (84,true)⟩,⟨(some 86),.loadX false 1 (.tmp 85),some (84,true)⟩,⟨(some 87),.not (.tmp 86),some (84,true)⟩,⟨(some 88),.pick (.tmp 84) (.tmp 87) (.const (.bool false)),none⟩,⟨(some 89),.mv (.tmp 88),none⟩,⟨(some 90),.mv (.tmp 10),some (89,true)⟩,⟨(some 91),.bin .eql (.tmp 90) (.const (.int .i64 1)),some (89,true)⟩,⟨(some 92),.pick (.tmp 89) (.tmp 91) (.const (.bool false)),none⟩,⟨(some 93),.mv (.tmp 92),none⟩,⟨(some 94),.mv (.tmp 11),some (93,true)⟩,⟨(some 95),.bin .eql (.tmp 94) (.const (.int .i64 0)),some (93,true)⟩,⟨(some 96),.pick (.tmp 93) (.tmp 95) (.const (.bool false)),none⟩,⟨(some 97),.mv (.tmp 96),none⟩,⟨(some 98),.faddr 0 (.tmp 12),some (97,true)⟩,⟨(some 99),.loadX false 1 (.tmp 98),some (97,true)⟩,⟨(some 100),.bin .eql (.tmp 99) (.const (.int .i64 2)),some (97,true)⟩,⟨(some 101),.pick (.tmp 97) (.tmp 100) (.const (.bool false)),none⟩,⟨(some 102),.mv (.tmp 101),none⟩,⟨(some 103),.faddr 1 (.tmp 12),some (102,true)⟩,⟨(some 104),.loadX false 1 (.tmp 103),some (102,true)⟩,⟨(some 105),.bin .eql (.tmp 104) (.const (.int .i64 1)),some (102,true)⟩,⟨(some 106),.pick (.tmp 102) (.tmp 105) (.const (.bool false)),none⟩,⟨(some 107),.mv (.tmp 106),none⟩,⟨(some 108),.faddr 2 (.tmp 12),some (107,true)⟩,⟨(some 109),.loadX false 1 (.tmp 108),some (107,true)⟩,⟨(some 110),.bin .eql (.tmp 109) (.const (.int .u64 16)),some (107,true)⟩,⟨(some 111),.pick (.tmp 107) (.tmp 110) (.const (.bool false)),none⟩,⟨(some 112),.mv (.tmp 111),none⟩,⟨(some 113),.faddr 3 (.tmp 12),some (112,true)⟩,⟨(some 114),.loadX false 1 (.tmp 113),some (112,true)⟩,⟨(some 115),.pick (.tmp 112) (.tmp 114) (.const (.bool false)),none⟩,⟨(some 116),.mv (.tmp 115),none⟩,⟨(some 117),.mv (.tmp 2),some (116,true)⟩,⟨(some 118),.call 62 [(.tmp 117)],some (116,true)⟩,⟨(some 119),.mv (.tmp 3),some (116,true)⟩,⟨(some 120),.mv (.tmp 5),some (116,true)⟩,⟨(some 121),.mkSlice 2 1 [(.int .u64 0)] [(0,1,(.tmp 119)),(1,1,(.tmp 120))],some (116,true)⟩,⟨(some 122),.call 61 [(.tmp 118),(.tmp 121)],some (116,true)⟩,⟨(some 123),.pick (.tmp 116) (.tmp 122) (.const (.bool false)),none⟩,⟨(some 0),.mv (.tmp 123),none⟩])
 .ret))))))))))))⟩
theorem k52 : compFn Tryz.prog Tryz.f52 = some c52 := by kernel_rfl
-- (*croft/march.Store).Step
def c53 : AFunc := ⟨[.cell 4 true 4],(.seq (.region [⟨(some 4),.alloc [(.int .i64 0),(.int .i64 0),(.int .u64 0),(.bool false)],none⟩])
 (.seq (.region [⟨(some 5),.alloc [(.int .i64 0),(.int .i64 0),(.int .u64 0),(.bool false)],none⟩])
 (.seq (.seq (.region [⟨(some 7),.mv (.tmp 1),none⟩,⟨(some 8),.bin .lss (.tmp 7) (.const (.int .i64 1)),none⟩])
 (.cond (.tmp 8) (.seq (.region [⟨(some 9),.loadX true 4 (.tmp 5),none⟩,⟨none,.storeX 4 (.tmp 4) (.tmp 9),none⟩])
 .ret) .skip))
 (.seq (.seq (.region [⟨(some 10),.mv (.tmp 0),none⟩,⟨(some 11),.nilCheck (.tmp 10),none⟩,⟨(some 12),.faddr 4 (.tmp 11),none⟩,⟨(some 13),.loadX false 1 (.tmp 12),none⟩,⟨(some 14),.bin .eql (.tmp 13) (.const (.int .i64 0)),none⟩])
 (.cond (.tmp 14) (.region [⟨(some 15),.mv (.tmp 0),none⟩,⟨(some 16),.call 160 [(.tmp 15)],none⟩]) .skip))
 (.seq (.seq (.region [⟨(some 17),.mv (.tmp 0),none⟩,⟨(some 18),.call 161 [(.tmp 17)],none⟩,⟨(some 19),.faddr 3 (.tmp 5),none⟩,⟨none,.storeX 1 (.tmp 19) (.tmp 18),none⟩])
 (.block 0 (.loop (.seq (.seq (.region [⟨(some 20),.faddr 3 (.tmp 5),none⟩,⟨(some 21),.loadX false 1 (.tmp 20),none⟩,⟨(some 22),.not (.tmp 21),none⟩,⟨(some 23),.mv (.tmp 22),none⟩,⟨(some 24),.faddr 0 (.tmp 5),some (23,true)⟩,⟨(some 25),.loadX false 1 (.tmp 24),some (23,true)⟩,⟨(some 26),.mv (.tmp 1),some (23,true)⟩,⟨(some 27),.bin .lss (.tmp 25) (.tmp 26),some (23,true)⟩,⟨(some 28),.pick (.tmp 23) (.tmp 27) (.const (.bool false)),none⟩])
 (.cond (.tmp 28) .skip (.exit 0)))
 (.seq (.block 1 (.seq (.region [⟨(some 32),.mv (.tmp 0),none⟩,⟨(some 33),.nilCheck (.tmp 32),none⟩,⟨(some 34),.faddr 5 (.tmp 33),none⟩,⟨(some 35),.loadX false 1 (.tmp 34),none⟩,⟨(some 36),.iaddrX 1 (.tmp 35) (.const (.int .i64 0)),none⟩,⟨(some 37),.loadX false 1 (.tmp 36),none⟩,⟨(some 6),.mv (.tmp 37),none⟩])
 (.seq (.region [⟨(some 38),.mv (.tmp 0),none⟩,⟨(some 39),.mv (.tmp 0),none⟩,⟨(some 40),.nilCheck (.tmp 39),none⟩,⟨(some 41),.faddr 5 (.tmp 40),none⟩,⟨(some 42),.loadX false 1 (.tmp 41),none⟩,⟨(some 43),.sliceOfX 1 (.tmp 42) (some (.const (.int .i64 1))) none,none⟩,⟨(some 44),.nilCheck (.tmp 38),none⟩,⟨(some 45),.faddr 5 (.tmp 44),none⟩,⟨none,.storeX 1 (.tmp 45) (.tmp 43),none⟩])
 (.seq (.region [⟨(some 46),.faddr 0 (.tmp 5),none⟩,⟨(some 47),.loadX false 1 (.tmp 46),none⟩,⟨(some 48),.bin .add (.tmp 47) (.const (.int .i64 1)),none⟩,⟨(some 49),.faddr 0 (.tmp 5),none⟩,⟨none,.storeX 1 (.tmp 49) (.tmp 48),none⟩])
 (.region [⟨(some 50),.mv (.tmp 0),none⟩,⟨(some 51),.nilCheck (.tmp 50),none⟩,⟨(some 52),.faddr 4 (.tmp 51),none⟩,⟨(some 53),.loadX false 1 (.tmp 52),none⟩,⟨(some 54),.iaddrA 3 1 (.glob 0) (.tmp 53),none⟩,⟨(some 55),.loadX false 1 (.tmp 54),none⟩,⟨(some 56),.mv (.tmp 0),none⟩,⟨(some 57),.mv (.tmp 6),none⟩,⟨(some 58),.callv (.tmp 55) [(.tmp 56),(.tmp 57),(.tmp 5)],none⟩])))))
 (.region [⟨(some 29),.mv (.tmp 0),none⟩,⟨(some 30),.call 161 [(.tmp 29)],none⟩,⟨(some 31),.faddr 3 (.tmp 5),none⟩,⟨none,.storeX 1 (.tmp 31) (.tmp 30),none⟩]))))))
 (.seq (.region [⟨(some 59),.loadX true 4 (.tmp 5),none⟩,⟨none,.storeX 4 (.tmp 4) (.tmp 59),none⟩])
 .ret))))))⟩
theorem k53 : compFn Tryz.prog Tryz.f53 = some c53 := by kernel_rfl
-- (*croft/march.Store).Phase
def c54 : AFunc := ⟨[.tmp 2],(.seq (.region [⟨(some 2),.mv (.const (.int .i64 0)),none⟩])
 (.seq (.region [⟨(some 3),.mv (.tmp 0),none⟩,⟨(some 4),.nilCheck (.tmp 3),none⟩,⟨(some 5),.faddr 4 (.tmp 4),none⟩,⟨(some 6),.loadX false 1 (.tmp 5),none⟩,⟨(some 2),.mv (.tmp 6),none⟩])
 .ret))⟩
theorem k54 : compFn Tryz.prog Tryz.f54 = some c54 := by kernel_rfl
-- (*croft/march.Store).Make
def c55 : AFunc := ⟨[.tmp 8,.tmp 9],(.seq (.region [⟨(some 8),.mv (.const (.int .u64 0)),none⟩,⟨(some 9),.mv (.const (.int .i64 0)),none⟩])
 (.seq (.seq (.region [⟨(some 13),.mv (.tmp 1),none⟩,⟨(some 14),.bin .lss (.tmp 13) (.const (.int .i64 0)),none⟩,⟨(some 15),.mv (.tmp 14),none⟩,⟨(some 16),.mv (.tmp 2),some (15,false)⟩,⟨(some 17),.bin .lss (.tmp 16) (.const (.int .i64 0)),some (15,false)⟩,⟨(some 18),.pick (.tmp 15) (.const (.bool true)) (.tmp 17),none⟩])
 (.cond (.tmp 18) (.seq (.region [⟨(some 8),.mv (.const (.int .u64 0)),none⟩,⟨(some 9),.mv (.const (.int .i64 1)),none⟩])
 .ret) .skip))
 (.seq (.seq (.region [⟨(some 19),.mv (.tmp 1),none⟩,⟨(some 20),.bin .gtr (.tmp 19) (.const (.int .i64 1099511627776)),none⟩,⟨(some 21),.mv (.tmp 20),none⟩,⟨(some 22),.mv (.tmp 2),some (21,false)⟩,⟨(some 23),.bin .gtr (.tmp 22) (.const (.int .i64 1099511627776)),some (21,false)⟩,⟨(some 24),.pick (.tmp 21) (.const (.bool true)) (.tmp 23),none⟩])
 (.cond (.tmp 24) (.seq (.region [⟨(some 8),.mv (.const (.int .u64 0)),none⟩,⟨(some 9),.mv (.const (.int .i64 3)),none⟩])
 .ret) .skip))
 (.seq (.region [⟨(some 26),.mv (.tmp 0),none⟩,⟨(some 27),.nilCheck (.tmp 26),none⟩,⟨(some 28),.faddr 0 (.tmp 27),none⟩,⟨(some 29),.loadX false 1 (.tmp 28),none⟩,⟨(some 30),.mv (.tmp 1),none⟩,⟨(some 31),.conv .u64 (.tmp 30),none⟩,⟨(some 32),.bin .mul (.const (.int .u64 8)) (.tmp 31),none⟩,⟨(some 33),.mv (.tmp 2),none⟩,⟨(some 34),.conv .u64 (.tmp 33),none⟩,⟨(some 35),.bin .add (.tmp 32) (.tmp 34),none⟩,⟨(some 36),.mv (.tmp 3),none⟩,⟨(some 37),.call 162 [(.tmp 29),(.const (.int .u64 1)),(.tmp 35),(.tmp 36)],none⟩,⟨(some 25),.mv (.tmp 37),none⟩,⟨(some 38),.extract (.tmp 25) 0,none⟩,⟨(some 39),.extract (.tmp 25) 1,none⟩,⟨(some 10),.mv (.tmp 38),none⟩,⟨(some 11),.mv (.tmp 39),none⟩])
 (.seq (.seq (.region [⟨(some 40),.mv (.tmp 11),none⟩,⟨(some 41),.bin .neq (.tmp 40) (.const (.int .i64 0)),none⟩])
 (.cond (.tmp 41) (.seq (.region [⟨(some 42),.mv (.tmp 11),none⟩,⟨(some 8),.mv (.const (.int .u64 0)),none⟩,⟨(some 9),.mv (.tmp 42),none⟩])
 .ret) .skip))
 (.seq (.region [⟨(some 43),.mv (.tmp 0),none⟩,⟨(some 44),.nilCheck (.tmp 43),none⟩,⟨(some 45),.faddr 3 (.tmp 44),none⟩,⟨(some 46),.loadX false 1 (.tmp 45),none⟩,⟨(some 47),.bin .add (.tmp 46) (.const (.int .i64 1)),none⟩,⟨(some 48),.nilCheck (.tmp 43),none⟩,⟨(some 49),.faddr 3 (.tmp 48),none⟩,⟨none,.storeX 1 (.tmp 49) (.tmp 47),none⟩])
 (.seq (.region [⟨(some 50),.mv (.tmp 1),none⟩,⟨(some 51),.mv (.tmp 2),none⟩,⟨(some 52),.mv (.tmp 0),none⟩,⟨(some 53),.nilCheck (.tmp 52),none⟩,⟨(some 54),.faddr 3 (.tmp 53),none⟩,⟨(some 55),.loadX false 1 (.tmp 54),none⟩,⟨(some 56),.build [(.int .i64 0),(.int .i64 0),(.int .i64 0),(.int .i64 0)] [(0,1,(.tmp 50)),(1,1,(.tmp 51)),(2,1,(.tmp 55)),(3,1,(.const (.int .i64 2)))],none⟩,⟨(some 57),.box 4 (.tmp 56),none⟩,⟨(some 12),.mv (.tmp 57),none⟩])
 (.seq (.seq (.region [⟨(some 58),.mv (.tmp 0),none⟩,⟨(some 59),.nilCheck (.tmp 58),none⟩,⟨(some 60),.faddr 4 (.tmp 59),none⟩,⟨(some 61),.loadX false 1 (.tmp 60),none⟩,⟨(some 62),.bin .eql (.tmp 61) (.const (.int .i64 0)),none⟩])
 (.cond (.tmp 62) (.region [⟨(some 63),.mv (.tmp 12),none⟩,⟨(some 64),.nilCheck (.tmp 63),none⟩,⟨(some 65),.faddr 3 (.tmp 64),none⟩,⟨none,.storeX 1 (.tmp 65) (.const (.int .i64 0)),none⟩]) .skip))
 (.seq (.region [⟨(some 66),.mv (.tmp 0),none⟩,⟨(some 67),.nilCheck (.tmp 66),none⟩,⟨(some 68),.faddr 1 (.tmp 67),none⟩,⟨(some 69),.loadX false 1 (.tmp 68),none⟩,⟨(some 70),.mv (.tmp 10),none⟩,⟨(some 71),.mv (.tmp 12),none⟩,⟨none,.mapUpdate .int (.tmp 69) (.tmp 70) (.tmp 71),none⟩])
 (.seq (.region [⟨(some 72),.mv (.tmp 10),none⟩,⟨(some 8),.mv (.tmp 72),none⟩,⟨(some 9),.mv (.const (.int .i64 0)),none⟩])
 .ret))))))))))⟩
theorem k55 : compFn Tryz.prog Tryz.f55 = some c55 := by kernel_rfl
-- (*croft/march.Store).Root
def c56 : AFunc := ⟨[.tmp 6],(.seq (.region [⟨(some 6),.mv (.const (.int .i64 0)),none⟩])
 (.seq (.seq (.region [⟨(some 10),.mv (.tmp 0),none⟩,⟨(some 11),.nilCheck (.tmp 10),none⟩,⟨(some 12),.faddr 1 (.tmp 11),none⟩,⟨(some 13),.loadX false 1 (.tmp 12),none⟩,⟨(some 14),.mv (.tmp 2),none⟩,⟨(some 15),.lookup .int (.ptr none) true (.tmp 13) (.tmp 14),none⟩,⟨(some 9),.mv (.tmp 15),none⟩,⟨(some 16),.extract (.tmp 9) 0,none⟩,⟨(some 17),.extract (.tmp 9) 1,none⟩,⟨(some 7),.mv (.tmp 16),none⟩,⟨(some 8),.mv (.tmp 17),none⟩])
 (.seq (.region [⟨(some 18),.mv (.tmp 8),none⟩,⟨(some 19),.not (.tmp 18),none⟩])
 (.cond (.tmp 19) (.seq (.region [⟨(some 6),.mv (.const (.int .i64 1)),none⟩])
 .ret) .skip)))
 (.seq (.region [⟨(some 20),.mv (.tmp 0),none⟩,⟨(some 21),.nilCheck (.tmp 20),none⟩,⟨(some 22),.faddr 2 (.tmp 21),none⟩,⟨(some 23),.loadX false 1 (.tmp 22),none⟩,⟨(some 24),.mv (.tmp 1),none⟩,⟨(some 25),.mv (.tmp 2),none⟩,⟨none,.mapUpdate .str (.tmp 23) (.tmp 24) (.tmp 25),none⟩])
 (.seq (.seq (.region [⟨(some 26),.mv (.tmp 0),none⟩,⟨(some 27),.nilCheck (.tmp 26),none⟩,⟨(some 28),.faddr 4 (.tmp 27),none⟩,⟨(some 29),.loadX false 1 (.tmp 28),none⟩,⟨(some 30),.bin .eql (.tmp 29) (.const (.int .i64 1)),none⟩])
 (.cond (.tmp 30) (.region [⟨(some 31),.mv (.tmp 0),none⟩,⟨(some 32),.mv (.tmp 2),none⟩,⟨(some 33),.call 163 [(.tmp 31),(.tmp 32)],none⟩]) .skip))
 (.seq (.region [⟨(some 6),.mv (.const (.int .i64 0)),none⟩])
 .ret)))))⟩
theorem k56 : compFn Tryz.prog Tryz.f56 = some c56 := by kernel_rfl
-- (*croft/march.Store).Put
def c57 : AFunc := ⟨[.tmp 8],(.seq (.region [⟨(some 8),.mv (.const (.int .i64 0)),none⟩])
 (.seq (.region [⟨(some 15),.mv (.tmp 0),none⟩,⟨(some 16),.mv (.tmp 1),none⟩,⟨(some 17),.mv (.tmp 2),none⟩,⟨(some 18),.call 164 [(.tmp 15),(.tmp 16),(.tmp 17)],none⟩,⟨(some 14),.mv (.tmp 18),none⟩,⟨(some 19),.extract (.tmp 14) 0,none⟩,⟨(some 20),.extract (.tmp 14) 1,none⟩,⟨(some 9),.mv (.tmp 19),none⟩,⟨(some 10),.mv (.tmp 20),none⟩])
 (.seq (.seq (.region [⟨(some 22),.mv (.tmp 0),none⟩,⟨(some 23),.nilCheck (.tmp 22),none⟩,⟨(some 24),.faddr 1 (.tmp 23),none⟩,⟨(some 25),.loadX false 1 (.tmp 24),none⟩,⟨(some 26),.mv (.tmp 3),none⟩,⟨(some 27),.lookup .int (.ptr none) true (.tmp 25) (.tmp 26),none⟩,⟨(some 21),.mv (.tmp 27),none⟩,⟨(some 28),.extract (.tmp 21) 0,none⟩,⟨(some 29),.extract (.tmp 21) 1,none⟩,⟨(some 11),.mv (.tmp 28),none⟩,⟨(some 12),.mv (.tmp 29),none⟩])
 (.seq (.region [⟨(some 30),.mv (.tmp 10),none⟩,⟨(some 31),.not (.tmp 30),none⟩,⟨(some 32),.mv (.tmp 31),none⟩,⟨(some 33),.mv (.tmp 3),some (32,false)⟩,⟨(some 34),.bin .neq (.tmp 33) (.const (.int .u64 0)),some (32,false)⟩,⟨(some 35),.mv (.tmp 34),some (32,false)⟩,⟨(some 36),.mv (.tmp 12),some (35,true)⟩,⟨(some 37),.not (.tmp 36),some (35,true)⟩,⟨(some 38),.pick (.tmp 35) (.tmp 37) (.const (.bool false)),some (32,false)⟩,⟨(some 39),.pick (.tmp 32) (.const (.bool true)) (.tmp 38),none⟩])
 (.cond (.tmp 39) (.seq (.region [⟨(some 8),.mv (.const (.int .i64 1)),none⟩])
 .ret) .skip)))
 (.seq (.region [⟨(some 40),.mv (.tmp 0),none⟩,⟨(some 41),.nilCheck (.tmp 40),none⟩,⟨(some 42),.faddr 0 (.tmp 41),none⟩,⟨(some 43),.loadX false 1 (.tmp 42),none⟩,⟨(some 44),.mv (.tmp 9),none⟩,⟨(some 45),.mv (.tmp 3),none⟩,⟨(some 46),.call 165 [(.tmp 43),(.tmp 44),(.tmp 45)],none⟩,⟨(some 13),.mv (.tmp 46),none⟩])
 (.seq (.seq (.region [⟨(some 47),.mv (.tmp 0),none⟩,⟨(some 48),.nilCheck (.tmp 47),none⟩,⟨(some 49),.faddr 4 (.tmp 48),none⟩,⟨(some 50),.loadX false 1 (.tmp 49),none⟩,⟨(some 51),.bin .eql (.tmp 50) (.const (.int .i64 1)),none⟩,⟨(some 52),.mv (.tmp 51),none⟩,⟨(some 53),.mv (.tmp 0),some (52,true)⟩,⟨(some 54),.nilCheck (.tmp 53),some (52,true)⟩,⟨(some 55),.faddr 1 (.tmp 54),some (52,true)⟩,⟨(some 56),.loadX false 1 (.tmp 55),some (52,true)⟩,⟨(some 57),.mv (.tmp 1),some (52,true)⟩,⟨(some 58),.lookup .int (.ptr none) false (.tmp 56) (.tmp 57),some (52,true)⟩,⟨(some 59),.nilCheck (.tmp 58),some (52,true)⟩,⟨(some 60),.faddr 3 (.tmp 59),some (52,true)⟩,⟨(some 61),.loadX false 1 (.tmp 60),some (52,true)⟩,⟨(some 62),.bin .eql (.tmp 61) (.const (.int .i64 2)),some (52,true)⟩,⟨(some 63),.pick (.tmp 52) (.tmp 62) (.const (.bool false)),none⟩])
 (.cond (.tmp 63) (.region [⟨(some 64),.mv (.tmp 0),none⟩,⟨(some 65),.mv (.tmp 3),none⟩,⟨(some 66),.call 163 [(.tmp 64),(.tmp 65)],none⟩]) .skip))
 (.seq (.region [⟨(some 67),.mv (.tmp 13),none⟩,⟨(some 8),.mv (.tmp 67),none⟩])
 .ret))))))⟩
theorem k57 : compFn Tryz.prog Tryz.f57 = some c57 := by kernel_rfl
-- (*croft/march.Store).Waiting
def c58 : AFunc := ⟨[.tmp 2],(.seq (.region [⟨(some 2),.mv (.const (.int .i64 0)),none⟩])
 (.seq (.region [⟨(some 3),.mv (.tmp 0),none⟩,⟨(some 4),.nilCheck (.tmp 3),none⟩,⟨(some 5),.faddr 5 (.tmp 4),none⟩,⟨(some 6),.loadX false 1 (.tmp 5),none⟩,⟨(some 7),.lenX (.tmp 6),none⟩,⟨(some 2),.mv (.tmp 7),none⟩])
 .ret))⟩
theorem k58 : compFn Tryz.prog Tryz.f58 = some c58 := by kernel_rfl
-- (*croft/march.Store).Colour
def c59 : AFunc := ⟨[.tmp 4,.tmp 5],(.seq (.region [⟨(some 4),.mv (.const (.int .i64 0)),none⟩,⟨(some 5),.mv (.const (.int .i64 0)),none⟩])
 (.seq (.region [⟨(some 9),.mv (.tmp 0),none⟩,⟨(some 10),.nilCheck (.tmp 9),none⟩,⟨(some 11),.faddr 1 (.tmp 10),none⟩,⟨(some 12),.loadX false 1 (.tmp 11),none⟩,⟨(some 13),.mv (.tmp 1),none⟩,⟨(some 14),.lookup .int (.ptr none) true (.tmp 12) (.tmp 13),none⟩,⟨(some 8),.mv (.tmp 14),none⟩,⟨(some 15),.extract (.tmp 8) 0,none⟩,⟨(some 16),.extract (.tmp 8) 1,none⟩,⟨(some 6),.mv (.tmp 15),none⟩,⟨(some 7),.mv (.tmp 16),none⟩])
 (.seq (.seq (.region [⟨(some 17),.mv (.tmp 7),none⟩,⟨(some 18),.not (.tmp 17),none⟩])
 (.cond (.tmp 18) (.seq (.region [⟨(some 4),.mv (.const (.int .i64 0)),none⟩,⟨(some 5),.mv (.const (.int .i64 1)),none⟩])
 .ret) .skip))
 (.seq (.region [⟨(some 19),.mv (.tmp 6),none⟩,⟨(some 20),.nilCheck (.tmp 19),none⟩,⟨(some 21),.faddr 3 (.tmp 20),none⟩,⟨(some 22),.loadX false 1 (.tmp 21),none⟩,⟨(some 4),.mv (.tmp 22),none⟩,⟨(some 5),.mv (.const (.int .i64 0)),none⟩])
 .ret))))⟩
theorem k59 : compFn Tryz.prog Tryz.f59 = some c59 := by kernel_rfl
-- (*croft/march.Store).Unroot
def c60 : AFunc := ⟨[.tmp 4],(.seq (.region [⟨(some 4),.mv (.const (.int .i64 0)),none⟩])
 (.seq (.seq (.region [⟨(some 8),.mv (.tmp 0),none⟩,⟨(some 9),.nilCheck (.tmp 8),none⟩,⟨(some 10),.faddr 2 (.tmp 9),none⟩,⟨(some 11),.loadX false 1 (.tmp 10),none⟩,⟨(some 12),.mv (.tmp 1),none⟩,⟨(some 13),.lookup .str (.int .u64 0) true (.tmp 11) (.tmp 12),none⟩,⟨(some 7),.mv (.tmp 13),none⟩,⟨(some 14),.extract (.tmp 7) 0,none⟩,⟨(some 15),.extract (.tmp 7) 1,none⟩,⟨(some 5),.mv (.tmp 14),none⟩,⟨(some 6),.mv (.tmp 15),none⟩])
 (.seq (.region [⟨(some 16),.mv (.tmp 6),none⟩,⟨(some 17),.not (.tmp 16),none⟩])
 (.cond (.tmp 17) (.seq (.region [⟨(some 4),.mv (.const (.int .i64 1)),none⟩])
 .ret) .skip)))
 (.seq (.region [⟨(some 18),.mv (.tmp 0),none⟩,⟨(some 19),.nilCheck (.tmp 18),none⟩,⟨(some 20),.faddr 2 (.tmp 19),none⟩,⟨(some 21),.loadX false 1 (.tmp 20),none⟩,⟨(some 22),.mv (.tmp 1),none⟩,⟨none,.delete .str (.tmp 21) (.tmp 22),none⟩])
 (.seq (.region [⟨(some 4),.mv (.const (.int .i64 0)),none⟩])
 .ret))))⟩
theorem k60 : compFn Tryz.prog Tryz.f60 = some c60 := by kernel_rfl
-- croft/croftlaw22.words
def c61 : AFunc := ⟨[.tmp 4],(.seq (.region [⟨(some 4),.mv (.const (.bool false)),none⟩])
 (.seq (.seq (.region [⟨(some 6),.mv (.tmp 0),none⟩,⟨(some 7),.lenX (.tmp 6),none⟩,⟨(some 8),.mv (.tmp 1),none⟩,⟨(some 9),.lenX (.tmp 8),none⟩,⟨(some 10),.bin .neq (.tmp 7) (.tmp 9),none⟩])
 (.cond (.tmp 10) (.seq (.region [⟨(some 4),.mv (.const (.bool false)),none⟩])
 .ret) .skip))
 (.seq (.seq (.region [⟨(some 5),.mv (.const (.int .i64 0)),none⟩])
 (.block 0 (.loop (.seq (.seq (.region [⟨(some 11),.mv (.tmp 5),none⟩,⟨(some 12),.mv (.tmp 0),none⟩,⟨(some 13),.lenX (.tmp 12),none⟩,⟨(some 14),.bin .lss (.tmp 11) (.tmp 13),none⟩])
 (.cond (.tmp 14) .skip (.exit 0)))
 (.seq (.block 1 (.seq (.draw [⟨⟨(some 17),.mv (.tmp 0),none⟩,0,0⟩,⟨⟨(some 18),.mv (.tmp 5),none⟩,0,0⟩,⟨⟨(some 19),.iaddrX 1 (.tmp 17) (.tmp 18),none⟩,0,0⟩,⟨⟨(some 20),.loadX false 1 (.tmp 19),none⟩,0,0⟩,⟨⟨(some 21),.mv (.tmp 1),none⟩,0,0⟩,⟨⟨(some 22),.mv (.tmp 5),none⟩,0,0⟩,⟨⟨(some 23),.iaddrX 1 (.tmp 21) (.tmp 22),none⟩,0,0⟩,⟨⟨(some 24),.loadX false 1 (.tmp 23),none⟩,0,0⟩,⟨⟨(some 25),.bin .neq (.tmp 20) (.tmp 24),none⟩,0,0⟩])
 (.cond (.tmp 25) (.seq (.region [⟨(some 4),.mv (.const (.bool false)),none⟩])
 .ret) .skip)))
 (.region [⟨(some 15),.mv (.tmp 5),none⟩,⟨(some 16),.bin .add (.tmp 15) (.const (.int .i64 1)),none⟩,⟨(some 5),.mv (.tmp 16),none⟩]))))))
 (.seq (.region [⟨(some 4),.mv (.const (.bool true)),none⟩])
 .ret))))⟩
theorem k61 : compFn Tryz.prog Tryz.f61 = some c61 := by kernel_rfl
-- (*croft/march.Store).Objects
def c62 : AFunc := ⟨[.tmp 2],(.seq (.region [⟨(some 2),.mv (.const (.slice none 0 0)),none⟩])
 (.seq (.region [⟨(some 4),.mv (.tmp 0),none⟩,⟨(some 5),.nilCheck (.tmp 4),none⟩,⟨(some 6),.faddr 1 (.tmp 5),none⟩,⟨(some 7),.loadX false 1 (.tmp 6),none⟩,⟨(some 8),.call 167 [(.tmp 7)],none⟩,⟨(some 9),.call 166 [(.tmp 8)],none⟩,⟨(some 3),.mv (.tmp 9),none⟩])
 (.seq (.region [⟨(some 10),.mv (.tmp 3),none⟩,⟨(some 11),.mv (.tmp 0),none⟩,⟨(some 12),.makeFunc 169 [(.tmp 11)] [],none⟩,⟨(some 13),.call 168 [(.tmp 10),(.tmp 12)],none⟩])
 (.seq (.region [⟨(some 14),.mv (.tmp 3),none⟩,⟨(some 2),.mv (.tmp 14),none⟩])
 .ret))))⟩
theorem k62 : compFn Tryz.prog Tryz.f62 = some c62 := by kernel_rfl
-- (*croft/march.Store).Get
def c63 : AFunc := ⟨[.tmp 6,.tmp 7],(.seq (.region [⟨(some 6),.mv (.const (.int .u64 0)),none⟩,⟨(some 7),.mv (.const (.int .i64 0)),none⟩])
 (.seq (.region [⟨(some 11),.mv (.tmp 0),none⟩,⟨(some 12),.mv (.tmp 1),none⟩,⟨(some 13),.mv (.tmp 2),none⟩,⟨(some 14),.call 164 [(.tmp 11),(.tmp 12),(.tmp 13)],none⟩,⟨(some 10),.mv (.tmp 14),none⟩,⟨(some 15),.extract (.tmp 10) 0,none⟩,⟨(some 16),.extract (.tmp 10) 1,none⟩,⟨(some 8),.mv (.tmp 15),none⟩,⟨(some 9),.mv (.tmp 16),none⟩])
 (.seq (.seq (.region [⟨(some 17),.mv (.tmp 9),none⟩,⟨(some 18),.not (.tmp 17),none⟩])
 (.cond (.tmp 18) (.seq (.region [⟨(some 6),.mv (.const (.int .u64 0)),none⟩,⟨(some 7),.mv (.const (.int .i64 1)),none⟩])
 .ret) .skip))
 (.seq (.region [⟨(some 19),.mv (.tmp 0),none⟩,⟨(some 20),.nilCheck (.tmp 19),none⟩,⟨(some 21),.faddr 0 (.tmp 20),none⟩,⟨(some 22),.loadX false 1 (.tmp 21),none⟩,⟨(some 23),.mv (.tmp 8),none⟩,⟨(some 24),.call 170 [(.tmp 22),(.tmp 23)],none⟩,⟨(some 25),.extract (.tmp 24) 0,none⟩,⟨(some 26),.extract (.tmp 24) 1,none⟩,⟨(some 6),.mv (.tmp 25),none⟩,⟨(some 7),.mv (.tmp 26),none⟩])
 .ret))))⟩
theorem k63 : compFn Tryz.prog Tryz.f63 = some c63 := by kernel_rfl
-- croft/region.New
def c104 : AFunc := ⟨[.tmp 2,.tmp 3],(.seq (.region [⟨(some 1),.box 3 (.tmp 0),none⟩,⟨(some 2),.mv (.const (.ptr none)),none⟩,⟨(some 3),.mv (.const (.int .i64 0)),none⟩])
 (.seq (.region [⟨(some 8),.loadX true 3 (.tmp 1),none⟩,⟨(some 9),.call 199 [(.tmp 8)],none⟩,⟨(some 7),.mv (.tmp 9),none⟩,⟨(some 10),.extract (.tmp 7) 0,none⟩,⟨(some 11),.extract (.tmp 7) 1,none⟩,⟨(some 4),.mv (.tmp 10),none⟩,⟨(some 5),.mv (.tmp 11),none⟩])
 (.seq (.seq (.region [⟨(some 12),.mv (.tmp 5),none⟩,⟨(some 13),.bin .neq (.tmp 12) (.const (.int .i64 0)),none⟩])
 (.cond (.tmp 13) (.seq (.region [⟨(some 14),.mv (.tmp 5),none⟩,⟨(some 2),.mv (.const (.ptr none)),none⟩,⟨(some 3),.mv (.tmp 14),none⟩])
 .ret) .skip))
 (.seq (.region [⟨(some 15),.faddr 2 (.tmp 1),none⟩,⟨(some 16),.loadX false 1 (.tmp 15),none⟩,⟨(some 17),.call 200 [(.tmp 16)],none⟩,⟨(some 6),.mv (.tmp 17),none⟩])
 (.seq (.region [⟨(some 18),.mv (.tmp 4),none⟩,⟨(some 19),.mv (.tmp 6),none⟩,⟨(some 20),.loadX true 3 (.tmp 1),none⟩,⟨(some 21),.mv (.tmp 4),none⟩,⟨(some 22),.mv (.tmp 6),none⟩,⟨(some 23),.call 201 [(.tmp 20),(.tmp 21),(.tmp 22)],none⟩,⟨(some 24),.build [(.ptr none),(.ptr none),(.ptr none)] [(0,1,(.tmp 18)),(1,1,(.tmp 19)),(2,1,(.tmp 23))],none⟩,⟨(some 25),.build [(.ptr none),(.ptr none),(.ptr none)] [(0,3,(.tmp 24))],none⟩,⟨(some 26),.box 3 (.tmp 25),none⟩,⟨(some 2),.mv (.tmp 26),none⟩,⟨(some 3),.mv (.const (.int .i64 0)),none⟩])
 .ret)))))⟩
theorem k104 : compFn Tryz.prog Tryz.f104 = some c104 := by kernel_rfl
-- croft/slab.New
def c105 : AFunc := ⟨[.tmp 2],(.seq (.region [⟨(some 2),.mv (.const (.ptr none)),none⟩])
 (.seq (.region [⟨(some 5),.mv (.tmp 0),none⟩,⟨(some 6),.build [(.ptr none),(.int .i64 0),(.int .i64 0),(.int .i64 0),(.int .i64 0),(.int .i64 0),(.int .i64 0),(.int .i64 0),(.int .i64 0)] [(0,1,(.tmp 5))],none⟩,⟨(some 7),.box 9 (.tmp 6),none⟩,⟨(some 3),.mv (.tmp 7),none⟩])
 (.seq (.seq (.region [⟨(some 8),.mv (.const (.int .i64 0)),none⟩])
 (.block 0 (.loop (.seq (.region [⟨(some 9),.bin .lss (.tmp 8) (.const (.int .i64 8)),none⟩])
 (.seq (.cond (.tmp 9) .skip (.exit 0))
 (.seq (.block 1 (.seq (.region [⟨(some 10),.mv (.tmp 8),none⟩,⟨(some 4),.mv (.tmp 10),none⟩])
 (.region [⟨(some 11),.mv (.tmp 3),none⟩,⟨(some 12),.mv (.tmp 4),none⟩,⟨(some 13),.nilCheck (.tmp 11),none⟩,⟨(some 14),.faddr 1 (.tmp 13),none⟩,⟨(some 15),.iaddrA 8 1 (.tmp 14) (.tmp 12),none⟩,⟨none,.storeX 1 (.tmp 15) (.const (.int .i64 (-1))),none⟩])))
 (.region [⟨(some 16),.bin .add (.tmp 8) (.const (.int .i64 1)),none⟩,⟨(some 8),.mv (.tmp 16),none⟩])))))))
 (.seq (.region [⟨(some 17),.mv (.tmp 3),none⟩,⟨(some 2),.mv (.tmp 17),none⟩])
 .ret))))⟩
theorem k105 : compFn Tryz.prog Tryz.f105 = some c105 := by kernel_rfl
-- (*croft/region.ground).Space
def c113 : AFunc := ⟨[.tmp 2],(.seq (.region [⟨(some 2),.mv (.const (.ptr none)),none⟩])
 (.seq (.region [⟨(some 3),.mv (.tmp 0),none⟩,⟨(some 4),.nilCheck (.tmp 3),none⟩,⟨(some 5),.faddr 0 (.tmp 4),none⟩,⟨(some 6),.loadX false 1 (.tmp 5),none⟩,⟨(some 2),.mv (.tmp 6),none⟩])
 .ret))⟩
theorem k113 : compFn Tryz.prog Tryz.f113 = some c113 := by kernel_rfl
-- (*croft/mem.Space).End
def c114 : AFunc := ⟨[.tmp 2],(.seq (.region [⟨(some 2),.mv (.const (.int .u64 0)),none⟩])
 (.seq (.draw [⟨⟨(some 3),.mv (.tmp 0),none⟩,0,0⟩,⟨⟨(some 4),.nilCheck (.tmp 3),none⟩,0,0⟩,⟨⟨(some 5),.faddr 0 (.tmp 4),none⟩,0,0⟩,⟨⟨(some 6),.faddr 0 (.tmp 5),none⟩,0,0⟩,⟨⟨(some 7),.loadX false 1 (.tmp 6),none⟩,0,0⟩,⟨⟨(some 8),.mv (.tmp 0),none⟩,0,0⟩,⟨⟨(some 9),.nilCheck (.tmp 8),none⟩,0,0⟩,⟨⟨(some 10),.faddr 3 (.tmp 9),none⟩,0,0⟩,⟨⟨(some 11),.loadX false 1 (.tmp 10),none⟩,0,0⟩,⟨⟨(some 12),.mv (.tmp 0),none⟩,0,0⟩,⟨⟨(some 13),.nilCheck (.tmp 12),none⟩,0,0⟩,⟨⟨(some 14),.faddr 4 (.tmp 13),none⟩,0,0⟩,⟨⟨(some 15),.loadX false 1 (.tmp 14),none⟩,0,0⟩,⟨⟨(some 16),.lenX (.tmp 15),none⟩,0,0⟩,⟨⟨(some 17),.conv .u64 (.tmp 16),none⟩,0,0⟩,⟨⟨(some 18),.bin .mul (.tmp 11) (.tmp 17),none⟩,0,0⟩,⟨⟨(some 19),.bin .add (.tmp 7) (.tmp 18),none⟩,0,0⟩,⟨⟨(some 2),.mv (.tmp 19),none⟩,0,0⟩])
 .ret))⟩
theorem k114 : compFn Tryz.prog Tryz.f114 = some c114 := by kernel_rfl
-- (*croft/region.ground).Map
def c116 : AFunc := ⟨[.tmp 2],(.seq (.region [⟨(some 2),.mv (.const (.ptr none)),none⟩])
 (.seq (.region [⟨(some 3),.mv (.tmp 0),none⟩,⟨(some 4),.nilCheck (.tmp 3),none⟩,⟨(some 5),.faddr 1 (.tmp 4),none⟩,⟨(some 6),.loadX false 1 (.tmp 5),none⟩,⟨(some 2),.mv (.tmp 6),none⟩])
 .ret))⟩
theorem k116 : compFn Tryz.prog Tryz.f116 = some c116 := by kernel_rfl
-- (*croft/pagemap.Map).Pages
def c117 : AFunc := ⟨[.tmp 2],(.seq (.region [⟨(some 2),.mv (.const (.int .i64 0)),none⟩])
 (.seq (.region [⟨(some 3),.mv (.tmp 0),none⟩,⟨(some 4),.nilCheck (.tmp 3),none⟩,⟨(some 5),.faddr 1 (.tmp 4),none⟩,⟨(some 6),.loadX false 1 (.tmp 5),none⟩,⟨(some 7),.lenX (.tmp 6),none⟩,⟨(some 2),.mv (.tmp 7),none⟩])
 .ret))⟩
theorem k117 : compFn Tryz.prog Tryz.f117 = some c117 := by kernel_rfl
-- (*croft/pagemap.Map).At
def c118 : AFunc := ⟨[.cell 4 true 11,.tmp 5],(.seq (.region [⟨(some 4),.alloc [(.int .i64 0),(.int .i64 0),(.int .i64 0),(.int .i64 0),(.int .i64 0),(.int .i64 0),(.int .i64 0),(.int .u64 0),(.int .u64 0),(.int .u64 0),(.int .u64 0)],none⟩,⟨(some 5),.mv (.const (.bool false)),none⟩])
 (.seq (.seq (.region [⟨(some 6),.mv (.tmp 1),none⟩,⟨(some 7),.bin .lss (.tmp 6) (.const (.int .i64 0)),none⟩,⟨(some 8),.mv (.tmp 7),none⟩,⟨(some 9),.mv (.tmp 1),some (8,false)⟩,⟨(some 10),.mv (.tmp 0),some (8,false)⟩,⟨(some 11),.nilCheck (.tmp 10),some (8,false)⟩,⟨(some 12),.faddr 1 (.tmp 11),some (8,false)⟩,⟨(some 13),.loadX false 1 (.tmp 12),some (8,false)⟩,⟨(some 14),.lenX (.tmp 13),some (8,false)⟩,⟨(some 15),.bin .geq (.tmp 9) (.tmp 14),some (8,false)⟩,⟨(some 16),.pick (.tmp 8) (.const (.bool true)) (.tmp 15),none⟩])
 (.cond (.tmp 16) (.seq (.region [⟨(some 17),.build [(.int .i64 0),(.int .i64 0),(.int .i64 0),(.int .i64 0),(.int .i64 0),(.int .i64 0),(.int .i64 0),(.int .u64 0),(.int .u64 0),(.int .u64 0),(.int .u64 0)] [],none⟩,⟨none,.storeX 11 (.tmp 4) (.tmp 17),none⟩,⟨(some 5),.mv (.const (.bool false)),none⟩])
 .ret) .skip))
 (.seq (.region [⟨(some 18),.mv (.tmp 0),none⟩,⟨(some 19),.nilCheck (.tmp 18),none⟩,⟨(some 20),.faddr 1 (.tmp 19),none⟩,⟨(some 21),.loadX false 1 (.tmp 20),none⟩,⟨(some 22),.mv (.tmp 1),none⟩,⟨(some 23),.iaddrX 11 (.tmp 21) (.tmp 22),none⟩,⟨(some 24),.loadX true 11 (.tmp 23),none⟩,⟨none,.storeX 11 (.tmp 4) (.tmp 24),none⟩,⟨(some 5),.mv (.const (.bool true)),none⟩])
 .ret)))⟩
theorem k118 : compFn Tryz.prog Tryz.f118 = some c118 := by kernel_rfl
-- (*croft/malloc.Heap).Free
def c132 : AFunc := ⟨[.tmp 4],(.seq (.region [⟨(some 4),.mv (.const (.int .i64 0)),none⟩])
 (.seq (.region [⟨(some 7),.mv (.tmp 0),none⟩,⟨(some 8),.nilCheck (.tmp 7),none⟩,⟨(some 9),.faddr 0 (.tmp 8),none⟩,⟨(some 10),.call 111 [(.tmp 9)],none⟩])
 (.seq (.region [⟨(some 11),.mv (.tmp 0),none⟩,⟨(some 12),.nilCheck (.tmp 11),none⟩,⟨(some 13),.faddr 0 (.tmp 12),none⟩,⟨none,.defer 112 [(.tmp 13)],none⟩])
 (.seq (.seq (.region [⟨(some 14),.mv (.tmp 1),none⟩,⟨(some 15),.bin .eql (.tmp 14) (.const (.int .u64 0)),none⟩])
 (.cond (.tmp 15) (.seq (.region [⟨(some 4),.mv (.const (.int .i64 0)),none⟩])
 .ret) .skip))
 (.seq (.region [⟨(some 17),.mv (.tmp 0),none⟩,⟨(some 18),.mv (.tmp 1),none⟩,⟨(some 19),.call 147 [(.tmp 17),(.tmp 18)],none⟩,⟨(some 16),.mv (.tmp 19),none⟩,⟨(some 20),.extract (.tmp 16) 0,none⟩,⟨(some 21),.extract (.tmp 16) 1,none⟩,⟨(some 5),.alloc [(.int .u64 0),(.int .u64 0)],none⟩,⟨none,.storeX 2 (.tmp 5) (.tmp 20),none⟩,⟨(some 6),.mv (.tmp 21),none⟩])
 (.seq (.seq (.region [⟨(some 22),.mv (.tmp 6),none⟩,⟨(some 23),.bin .eql (.tmp 22) (.const (.int .i64 0)),none⟩])
 (.cond (.tmp 23) (.region [⟨(some 24),.mv (.tmp 0),none⟩,⟨(some 25),.loadX true 2 (.tmp 5),none⟩,⟨(some 26),.call 214 [(.tmp 24),(.tmp 25)],none⟩]) .skip))
 (.seq (.region [⟨(some 27),.mv (.tmp 6),none⟩,⟨(some 4),.mv (.tmp 27),none⟩])
 .ret)))))))⟩
theorem k132 : compFn Tryz.prog Tryz.f132 = some c132 := by kernel_rfl
-- (*croft/malloc.Heap).start
def c147 : AFunc := ⟨[.cell 4 true 2,.tmp 5],(.seq (.region [⟨(some 4),.alloc [(.int .u64 0),(.int .u64 0)],none⟩,⟨(some 5),.mv (.const (.int .i64 0)),none⟩])
 (.seq (.region [⟨(some 9),.mv (.tmp 0),none⟩,⟨(some 10),.mv (.tmp 1),none⟩,⟨(some 11),.call 220 [(.tmp 9),(.tmp 10)],none⟩,⟨(some 8),.mv (.tmp 11),none⟩,⟨(some 12),.extract (.tmp 8) 0,none⟩,⟨(some 13),.extract (.tmp 8) 1,none⟩,⟨(some 6),.alloc [(.int .u64 0),(.int .u64 0)],none⟩,⟨none,.storeX 2 (.tmp 6) (.tmp 12),none⟩,⟨(some 7),.mv (.tmp 13),none⟩])
 (.seq (.seq (.region [⟨(some 14),.mv (.tmp 7),none⟩,⟨(some 15),.not (.tmp 14),none⟩,⟨(some 16),.mv (.tmp 15),none⟩,⟨(some 17),.faddr 0 (.tmp 6),some (16,false)⟩,⟨(some 18),.loadX false 1 (.tmp 17),some (16,false)⟩,⟨(some 19),.mv (.tmp 1),some (16,false)⟩,⟨(some 20),.bin .neq (.tmp 18) (.tmp 19),some (16,false)⟩,⟨(some 21),.pick (.tmp 16) (.const (.bool true)) (.tmp 20),none⟩])
 (.cond (.tmp 21) (.seq (.region [⟨(some 22),.build [(.int .u64 0),(.int .u64 0)] [],none⟩,⟨none,.storeX 2 (.tmp 4) (.tmp 22),none⟩,⟨(some 5),.mv (.const (.int .i64 1)),none⟩])
 .ret) .skip))
 (.seq (.region [⟨(some 23),.loadX true 2 (.tmp 6),none⟩,⟨none,.storeX 2 (.tmp 4) (.tmp 23),none⟩,⟨(some 5),.mv (.const (.int .i64 0)),none⟩])
 .ret))))⟩
theorem k147 : compFn Tryz.prog Tryz.f147 = some c147 := by kernel_rfl
-- (*croft/malloc.Heap).within
def c148 : AFunc := ⟨[.tmp 6],(.seq (.region [⟨(some 6),.mv (.const (.bool false)),none⟩])
 (.seq (.region [⟨(some 10),.mv (.tmp 0),none⟩,⟨(some 11),.mv (.tmp 1),none⟩,⟨(some 12),.call 220 [(.tmp 10),(.tmp 11)],none⟩,⟨(some 9),.mv (.tmp 12),none⟩,⟨(some 13),.extract (.tmp 9) 0,none⟩,⟨(some 14),.extract (.tmp 9) 1,none⟩,⟨(some 7),.alloc [(.int .u64 0),(.int .u64 0)],none⟩,⟨none,.storeX 2 (.tmp 7) (.tmp 13),none⟩,⟨(some 8),.mv (.tmp 14),none⟩])
 (.seq (.region [⟨(some 15),.mv (.tmp 8),none⟩,⟨(some 16),.mv (.tmp 15),none⟩,⟨(some 17),.mv (.tmp 2),some (16,true)⟩,⟨(some 18),.faddr 0 (.tmp 7),some (16,true)⟩,⟨(some 19),.loadX false 1 (.tmp 18),some (16,true)⟩,⟨(some 20),.faddr 1 (.tmp 7),some (16,true)⟩,⟨(some 21),.loadX false 1 (.tmp 20),some (16,true)⟩,⟨(some 22),.bin .add (.tmp 19) (.tmp 21),some (16,true)⟩,⟨(some 23),.mv (.tmp 1),some (16,true)⟩,⟨(some 24),.bin .sub (.tmp 22) (.tmp 23),some (16,true)⟩,⟨(some 25),.bin .leq (.tmp 17) (.tmp 24),some (16,true)⟩,⟨(some 26),.pick (.tmp 16) (.tmp 25) (.const (.bool false)),none⟩,⟨(some 6),.mv (.tmp 26),none⟩])
 .ret)))⟩
theorem k148 : compFn Tryz.prog Tryz.f148 = some c148 := by kernel_rfl
-- croft/croftref2.May
def c158 : AFunc := ⟨[.tmp 2],(.seq (.region [⟨(some 1),.box 3 (.tmp 0),none⟩,⟨(some 2),.mv (.const (.bool false)),none⟩])
 (.seq (.seq (.region [⟨(some 7),.faddr 2 (.tmp 1),none⟩,⟨(some 8),.loadX false 1 (.tmp 7),none⟩,⟨(some 9),.bin .lss (.tmp 8) (.const (.int .i64 0)),none⟩,⟨(some 10),.mv (.tmp 9),none⟩,⟨(some 11),.faddr 2 (.tmp 1),some (10,false)⟩,⟨(some 12),.loadX false 1 (.tmp 11),some (10,false)⟩,⟨(some 13),.bin .gtr (.tmp 12) (.const (.int .i64 8)),some (10,false)⟩,⟨(some 14),.pick (.tmp 10) (.const (.bool true)) (.tmp 13),none⟩,⟨(some 15),.mv (.tmp 14),none⟩,⟨(some 16),.faddr 1 (.tmp 1),some (15,false)⟩,⟨(some 17),.loadX false 1 (.tmp 16),some (15,false)⟩,⟨(some 18),.bin .lss (.tmp 17) (.const (.int .i64 1)),some (15,false)⟩,⟨(some 19),.pick (.tmp 15) (.const (.bool true)) (.tmp 18),none⟩,⟨(some 20),.mv (.tmp 19),none⟩,⟨(some 21),.faddr 1 (.tmp 1),some (20,false)⟩,⟨(some 22),.loadX false 1 (.tmp 21),some (20,false)⟩,⟨(some 23),.bin .gtr (.tmp 22) (.const (.int .i64 64)),some (20,false)⟩,⟨(some 24),.pick (.tmp 20) (.const (.bool true)) (.tmp 23),none⟩])
 (.cond (.tmp 24) (.seq (.region [⟨(some 2),.mv (.const (.bool false)),none⟩])
 .ret) .skip))
 (.seq (.region [⟨(some 25),.faddr 1 (.tmp 1),none⟩,⟨(some 26),.loadX false 1 (.tmp 25),none⟩,⟨(some 3),.mv (.tmp 26),none⟩])
 (.seq (.region [⟨(some 4),.mv (.const (.int .u64 4096)),none⟩])
 (.seq (.seq (.region [⟨(some 5),.mv (.const (.int .i64 0)),none⟩])
 (.block 0 (.loop (.seq (.seq (.region [⟨(some 27),.mv (.tmp 5),none⟩,⟨(some 28),.faddr 2 (.tmp 1),none⟩,⟨(some 29),.loadX false 1 (.tmp 28),none⟩,⟨(some 30),.bin .lss (.tmp 27) (.tmp 29),none⟩])
 (.cond (.tmp 30) .skip (.exit 0)))
 (.seq (.block 1 (.seq (.region [⟨(some 33),.mv (.tmp 3),none⟩,⟨(some 34),.bin .mul (.tmp 33) (.const (.int .i64 2)),none⟩,⟨(some 3),.mv (.tmp 34),none⟩])
 (.region [⟨(some 35),.mv (.tmp 4),none⟩,⟨(some 36),.bin .mul (.tmp 35) (.const (.int .u64 2)),none⟩,⟨(some 4),.mv (.tmp 36),none⟩])))
 (.region [⟨(some 31),.mv (.tmp 5),none⟩,⟨(some 32),.bin .add (.tmp 31) (.const (.int .i64 1)),none⟩,⟨(some 5),.mv (.tmp 32),none⟩]))))))
 (.seq (.seq (.region [⟨(some 37),.mv (.tmp 3),none⟩,⟨(some 38),.bin .gtr (.tmp 37) (.const (.int .i64 1024)),none⟩,⟨(some 39),.mv (.tmp 38),none⟩,⟨(some 40),.faddr 0 (.tmp 1),some (39,false)⟩,⟨(some 41),.loadX false 1 (.tmp 40),some (39,false)⟩,⟨(some 42),.bin .eql (.tmp 41) (.const (.int .u64 0)),some (39,false)⟩,⟨(some 43),.pick (.tmp 39) (.const (.bool true)) (.tmp 42),none⟩,⟨(some 44),.mv (.tmp 43),none⟩,⟨(some 45),.faddr 0 (.tmp 1),some (44,false)⟩,⟨(some 46),.loadX false 1 (.tmp 45),some (44,false)⟩,⟨(some 47),.mv (.tmp 4),some (44,false)⟩,⟨(some 48),.bin .rem (.tmp 46) (.tmp 47),some (44,false)⟩,⟨(some 49),.bin .neq (.tmp 48) (.const (.int .u64 0)),some (44,false)⟩,⟨(some 50),.pick (.tmp 44) (.const (.bool true)) (.tmp 49),none⟩])
 (.cond (.tmp 50) (.seq (.region [⟨(some 2),.mv (.const (.bool false)),none⟩])
 .ret) .skip))
 (.seq (.region [⟨(some 51),.mv (.tmp 4),none⟩,⟨(some 52),.faddr 1 (.tmp 1),none⟩,⟨(some 53),.loadX false 1 (.tmp 52),none⟩,⟨(some 54),.conv .u64 (.tmp 53),none⟩,⟨(some 55),.bin .mul (.tmp 51) (.tmp 54),none⟩,⟨(some 6),.mv (.tmp 55),none⟩])
 (.seq (.region [⟨(some 56),.faddr 0 (.tmp 1),none⟩,⟨(some 57),.loadX false 1 (.tmp 56),none⟩,⟨(some 58),.bin .leq (.tmp 57) (.const (.int .u64 9223372036854775808)),none⟩,⟨(some 59),.mv (.tmp 58),none⟩,⟨(some 60),.faddr 0 (.tmp 1),some (59,true)⟩,⟨(some 61),.loadX false 1 (.tmp 60),some (59,true)⟩,⟨(some 62),.mv (.tmp 6),some (59,true)⟩,⟨(some 63),.bin .add (.tmp 61) (.tmp 62),some (59,true)⟩,⟨(some 64),.bin .leq (.tmp 63) (.const (.int .u64 9223372036854775808)),some (59,true)⟩,⟨(some 65),.pick (.tmp 59) (.tmp 64) (.const (.bool false)),none⟩,⟨(some 2),.mv (.tmp 65),none⟩])
 .ret))))))))⟩
theorem k158 : compFn Tryz.prog Tryz.f158 = some c158 := by kernel_rfl
-- croft/march.New
def c159 : AFunc := ⟨[.tmp 2],(.seq (.region [⟨(some 2),.mv (.const (.ptr none)),none⟩])
 (.seq (.region [⟨(some 3),.mv (.tmp 0),none⟩,⟨(some 4),.makeMap,none⟩,⟨(some 5),.makeMap,none⟩,⟨(some 6),.build [(.ptr none),(.map none),(.map none),(.int .i64 0),(.int .i64 0),(.slice none 0 0)] [(0,1,(.tmp 3)),(1,1,(.tmp 4)),(2,1,(.tmp 5))],none⟩,⟨(some 7),.box 6 (.tmp 6),none⟩,⟨(some 2),.mv (.tmp 7),none⟩])
 .ret))⟩
theorem k159 : compFn Tryz.prog Tryz.f159 = some c159 := by kernel_rfl
-- (*croft/march.Store).begin
def c160 : AFunc := ⟨[],(.seq (.region [⟨(some 5),.mv (.tmp 0),none⟩,⟨(some 6),.call 234 [(.tmp 5),(.const (.int .i64 0))],none⟩])
 (.seq (.region [⟨(some 7),.mv (.tmp 0),none⟩,⟨(some 8),.mv (.tmp 0),none⟩,⟨(some 9),.nilCheck (.tmp 7),none⟩,⟨(some 10),.faddr 4 (.tmp 9),none⟩,⟨none,.storeX 1 (.tmp 10) (.const (.int .i64 1)),none⟩,⟨(some 11),.nilCheck (.tmp 8),none⟩,⟨(some 12),.faddr 5 (.tmp 11),none⟩,⟨none,.storeX 1 (.tmp 12) (.const (.slice none 0 0)),none⟩])
 (.seq (.region [⟨(some 13),.mv (.tmp 0),none⟩,⟨(some 14),.nilCheck (.tmp 13),none⟩,⟨(some 15),.faddr 2 (.tmp 14),none⟩,⟨(some 16),.loadX false 1 (.tmp 15),none⟩,⟨(some 17),.call 235 [(.tmp 16)],none⟩,⟨(some 18),.call 166 [(.tmp 17)],none⟩,⟨(some 2),.mv (.tmp 18),none⟩])
 (.seq (.region [⟨(some 19),.mv (.tmp 2),none⟩,⟨(some 20),.mv (.tmp 0),none⟩,⟨(some 21),.makeFunc 169 [(.tmp 20)] [],none⟩,⟨(some 22),.call 168 [(.tmp 19),(.tmp 21)],none⟩])
 (.seq (.region [⟨(some 23),.mv (.tmp 2),none⟩,⟨(some 24),.lenX (.tmp 23),none⟩,⟨(some 25),.mv (.const (.int .i64 0)),none⟩])
 (.block 0 (.loop (.seq (.region [⟨(some 26),.bin .lss (.tmp 25) (.tmp 24),none⟩])
 (.seq (.cond (.tmp 26) .skip (.exit 0))
 (.seq (.block 1 (.seq (.region [⟨(some 27),.iaddrX 1 (.tmp 23) (.tmp 25),none⟩,⟨(some 28),.loadX false 1 (.tmp 27),none⟩,⟨(some 4),.mv (.tmp 28),none⟩])
 (.region [⟨(some 29),.mv (.tmp 0),none⟩,⟨(some 30),.mv (.tmp 4),none⟩,⟨(some 31),.call 163 [(.tmp 29),(.tmp 30)],none⟩])))
 (.region [⟨(some 32),.bin .add (.tmp 25) (.const (.int .i64 1)),none⟩,⟨(some 25),.mv (.tmp 32),none⟩])))))))))))⟩
theorem k160 : compFn Tryz.prog Tryz.f160 = some c160 := by kernel_rfl
-- (*croft/march.Store).turn
def c161 : AFunc := ⟨[.tmp 2],(.seq (.region [⟨(some 2),.mv (.const (.bool false)),none⟩])
 (.seq (.seq (.region [⟨(some 7),.mv (.tmp 0),none⟩,⟨(some 8),.nilCheck (.tmp 7),none⟩,⟨(some 9),.faddr 4 (.tmp 8),none⟩,⟨(some 10),.loadX false 1 (.tmp 9),none⟩,⟨(some 11),.bin .eql (.tmp 10) (.const (.int .i64 1)),none⟩,⟨(some 12),.mv (.tmp 11),none⟩,⟨(some 13),.mv (.tmp 0),some (12,true)⟩,⟨(some 14),.nilCheck (.tmp 13),some (12,true)⟩,⟨(some 15),.faddr 5 (.tmp 14),some (12,true)⟩,⟨(some 16),.loadX false 1 (.tmp 15),some (12,true)⟩,⟨(some 17),.lenX (.tmp 16),some (12,true)⟩,⟨(some 18),.bin .eql (.tmp 17) (.const (.int .i64 0)),some (12,true)⟩,⟨(some 19),.pick (.tmp 12) (.tmp 18) (.const (.bool false)),none⟩])
 (.cond (.tmp 19) (.seq (.seq (.region [⟨(some 20),.mv (.tmp 0),none⟩,⟨(some 21),.nilCheck (.tmp 20),none⟩,⟨(some 22),.faddr 1 (.tmp 21),none⟩,⟨(some 23),.loadX false 1 (.tmp 22),none⟩,⟨(some 24),.rangeM (.tmp 23),none⟩])
 (.block 0 (.loop (.seq (.region [⟨(some 25),.nextM (.tmp 24),none⟩,⟨(some 26),.extract (.tmp 25) 0,none⟩])
 (.seq (.cond (.tmp 26) .skip (.exit 0))
 (.block 1 (.seq (.region [⟨(some 27),.entryM (.tmp 24),none⟩,⟨(some 28),.extract (.tmp 27) 0,none⟩,⟨(some 29),.extract (.tmp 27) 1,none⟩,⟨(some 3),.mv (.tmp 28),none⟩,⟨(some 4),.mv (.tmp 29),none⟩])
 (.seq (.region [⟨(some 30),.mv (.tmp 4),none⟩,⟨(some 31),.nilCheck (.tmp 30),none⟩,⟨(some 32),.faddr 3 (.tmp 31),none⟩,⟨(some 33),.loadX false 1 (.tmp 32),none⟩,⟨(some 34),.bin .eql (.tmp 33) (.const (.int .i64 0)),none⟩])
 (.cond (.tmp 34) (.region [⟨(some 35),.mv (.tmp 0),none⟩,⟨(some 36),.mv (.tmp 0),none⟩,⟨(some 37),.nilCheck (.tmp 36),none⟩,⟨(some 38),.faddr 5 (.tmp 37),none⟩,⟨(some 39),.loadX false 1 (.tmp 38),none⟩,⟨(some 40),.mv (.tmp 3),none⟩,⟨(some 41),.mkSlice 1 1 [(.int .u64 0)] [(0,1,(.tmp 40))],none⟩,⟨(some 42),.appendX 1 8 (.tmp 39) (.tmp 41),none⟩,⟨(some 43),.nilCheck (.tmp 35),none⟩,⟨(some 44),.faddr 5 (.tmp 43),none⟩,⟨none,.storeX 1 (.tmp 44) (.tmp 42),none⟩]) .skip)))))))))
 (.seq (.region [⟨(some 45),.mv (.tmp 0),none⟩,⟨(some 46),.nilCheck (.tmp 45),none⟩,⟨(some 47),.faddr 5 (.tmp 46),none⟩,⟨(some 48),.loadX false 1 (.tmp 47),none⟩,⟨(some 49),.mv (.tmp 0),none⟩,⟨(some 50),.makeFunc 169 [(.tmp 49)] [],none⟩,⟨(some 51),.call 168 [(.tmp 48),(.tmp 50)],none⟩])
 (.seq (.seq (.region [⟨(some 52),.mv (.tmp 0),none⟩,⟨(some 53),.nilCheck (.tmp 52),none⟩,⟨(some 54),.faddr 5 (.tmp 53),none⟩,⟨(some 55),.loadX false 1 (.tmp 54),none⟩,⟨(some 56),.lenX (.tmp 55),none⟩,⟨(some 57),.mv (.const (.int .i64 0)),none⟩])
 (.block 2 (.loop (.seq (.region [⟨(some 58),.bin .lss (.tmp 57) (.tmp 56),none⟩])
 (.seq (.cond (.tmp 58) .skip (.exit 2))
 (.seq (.block 3 (.seq (.region [⟨(some 59),.iaddrX 1 (.tmp 55) (.tmp 57),none⟩,⟨(some 60),.loadX false 1 (.tmp 59),none⟩,⟨(some 6),.mv (.tmp 60),none⟩])
 (.region [⟨(some 61),.mv (.tmp 0),none⟩,⟨(some 62),.nilCheck (.tmp 61),none⟩,⟨(some 63),.faddr 1 (.tmp 62),none⟩,⟨(some 64),.loadX false 1 (.tmp 63),none⟩,⟨(some 65),.mv (.tmp 6),none⟩,⟨none,.delete .int (.tmp 64) (.tmp 65),none⟩])))
 (.region [⟨(some 66),.bin .add (.tmp 57) (.const (.int .i64 1)),none⟩,⟨(some 57),.mv (.tmp 66),none⟩])))))))
 (.region [⟨(some 67),.mv (.tmp 0),none⟩,⟨(some 68),.nilCheck (.tmp 67),none⟩,⟨(some 69),.faddr 4 (.tmp 68),none⟩,⟨none,.storeX 1 (.tmp 69) (.const (.int .i64 2)),none⟩])))) .skip))
 (.seq (.seq (.region [⟨(some 70),.mv (.tmp 0),none⟩,⟨(some 71),.nilCheck (.tmp 70),none⟩,⟨(some 72),.faddr 4 (.tmp 71),none⟩,⟨(some 73),.loadX false 1 (.tmp 72),none⟩,⟨(some 74),.bin .eql (.tmp 73) (.const (.int .i64 2)),none⟩,⟨(some 75),.mv (.tmp 74),none⟩,⟨(some 76),.mv (.tmp 0),some (75,true)⟩,⟨(some 77),.nilCheck (.tmp 76),some (75,true)⟩,⟨(some 78),.faddr 5 (.tmp 77),some (75,true)⟩,⟨(some 79),.loadX false 1 (.tmp 78),some (75,true)⟩,⟨(some 80),.lenX (.tmp 79),some (75,true)⟩,⟨(some 81),.bin .eql (.tmp 80) (.const (.int .i64 0)),some (75,true)⟩,⟨(some 82),.pick (.tmp 75) (.tmp 81) (.const (.bool false)),none⟩])
 (.cond (.tmp 82) (.seq (.region [⟨(some 83),.mv (.tmp 0),none⟩,⟨(some 84),.call 234 [(.tmp 83),(.const (.int .i64 0))],none⟩])
 (.seq (.region [⟨(some 85),.mv (.tmp 0),none⟩,⟨(some 86),.nilCheck (.tmp 85),none⟩,⟨(some 87),.faddr 4 (.tmp 86),none⟩,⟨none,.storeX 1 (.tmp 87) (.const (.int .i64 0)),none⟩])
 (.seq (.region [⟨(some 2),.mv (.const (.bool true)),none⟩])
 .ret))) .skip))
 (.seq (.region [⟨(some 2),.mv (.const (.bool false)),none⟩])
 .ret))))⟩
theorem k161 : compFn Tryz.prog Tryz.f161 = some c161 := by kernel_rfl
-- (*croft/malloc.Heap).Calloc
def c162 : AFunc := ⟨[.tmp 8,.tmp 9],(.seq (.region [⟨(some 8),.mv (.const (.int .u64 0)),none⟩,⟨(some 9),.mv (.const (.int .i64 0)),none⟩])
 (.seq (.region [⟨(some 14),.mv (.tmp 0),none⟩,⟨(some 15),.nilCheck (.tmp 14),none⟩,⟨(some 16),.faddr 0 (.tmp 15),none⟩,⟨(some 17),.call 111 [(.tmp 16)],none⟩])
 (.seq (.region [⟨(some 18),.mv (.tmp 0),none⟩,⟨(some 19),.nilCheck (.tmp 18),none⟩,⟨(some 20),.faddr 0 (.tmp 19),none⟩,⟨none,.defer 112 [(.tmp 20)],none⟩])
 (.seq (.region [⟨(some 22),.mv (.tmp 1),none⟩,⟨(some 23),.mv (.tmp 2),none⟩,⟨(some 24),.call 236 [(.tmp 22),(.tmp 23)],none⟩,⟨(some 21),.mv (.tmp 24),none⟩,⟨(some 25),.extract (.tmp 21) 0,none⟩,⟨(some 26),.extract (.tmp 21) 1,none⟩,⟨(some 10),.mv (.tmp 25),none⟩,⟨(some 11),.mv (.tmp 26),none⟩])
 (.seq (.seq (.region [⟨(some 27),.mv (.tmp 10),none⟩,⟨(some 28),.bin .neq (.tmp 27) (.const (.int .u64 0)),none⟩])
 (.cond (.tmp 28) (.seq (.region [⟨(some 8),.mv (.const (.int .u64 0)),none⟩,⟨(some 9),.mv (.const (.int .i64 3)),none⟩])
 .ret) .skip))
 (.seq (.region [⟨(some 30),.mv (.tmp 0),none⟩,⟨(some 31),.mv (.tmp 11),none⟩,⟨(some 32),.mv (.tmp 3),none⟩,⟨(some 33),.call 202 [(.tmp 30),(.tmp 31),(.const (.int .u64 1)),(.tmp 32)],none⟩,⟨(some 29),.mv (.tmp 33),none⟩,⟨(some 34),.extract (.tmp 29) 0,none⟩,⟨(some 35),.extract (.tmp 29) 1,none⟩,⟨(some 12),.alloc [(.int .u64 0),(.int .u64 0)],none⟩,⟨none,.storeX 2 (.tmp 12) (.tmp 34),none⟩,⟨(some 13),.mv (.tmp 35),none⟩])
 (.seq (.seq (.region [⟨(some 36),.mv (.tmp 13),none⟩,⟨(some 37),.bin .neq (.tmp 36) (.const (.int .i64 0)),none⟩])
 (.cond (.tmp 37) (.seq (.region [⟨(some 38),.mv (.tmp 13),none⟩,⟨(some 8),.mv (.const (.int .u64 0)),none⟩,⟨(some 9),.mv (.tmp 38),none⟩])
 .ret) .skip))
 (.seq (.draw [⟨⟨(some 39),.mv (.tmp 0),none⟩,0,0⟩,⟨⟨(some 40),.nilCheck (.tmp 39),none⟩,0,0⟩,⟨⟨(some 41),.faddr 5 (.tmp 40),none⟩,0,0⟩,⟨⟨(some 42),.loadX false 1 (.tmp 41),none⟩,0,0⟩,⟨⟨(some 43),.nilCheck (.tmp 42),none⟩,0,0⟩,⟨⟨(some 44),.faddr 0 (.tmp 43),none⟩,0,0⟩,⟨⟨(some 45),.call 113 [(.tmp 44)],none⟩,0,1⟩,⟨⟨(some 46),.faddr 0 (.tmp 12),none⟩,0,1⟩,⟨⟨(some 47),.loadX false 1 (.tmp 46),none⟩,0,1⟩,⟨⟨(some 48),.faddr 1 (.tmp 12),none⟩,0,1⟩,⟨⟨(some 49),.loadX false 1 (.tmp 48),none⟩,0,1⟩,⟨⟨(some 50),.call 237 [(.tmp 45),(.tmp 47),(.tmp 49),(.const (.int .u8 0))],none⟩,1,2⟩])
 (.seq (.region [⟨(some 51),.faddr 0 (.tmp 12),none⟩,⟨(some 52),.loadX false 1 (.tmp 51),none⟩,⟨(some 8),.mv (.tmp 52),none⟩,⟨(some 9),.mv (.const (.int .i64 0)),none⟩])
 .ret)))))))))⟩
theorem k162 : compFn Tryz.prog Tryz.f162 = some c162 := by kernel_rfl
-- (*croft/march.Store).grey
def c163 : AFunc := ⟨[],(.seq (.region [⟨(some 7),.mv (.tmp 0),none⟩,⟨(some 8),.nilCheck (.tmp 7),none⟩,⟨(some 9),.faddr 1 (.tmp 8),none⟩,⟨(some 10),.loadX false 1 (.tmp 9),none⟩,⟨(some 11),.mv (.tmp 1),none⟩,⟨(some 12),.lookup .int (.ptr none) true (.tmp 10) (.tmp 11),none⟩,⟨(some 6),.mv (.tmp 12),none⟩,⟨(some 13),.extract (.tmp 6) 0,none⟩,⟨(some 14),.extract (.tmp 6) 1,none⟩,⟨(some 4),.mv (.tmp 13),none⟩,⟨(some 5),.mv (.tmp 14),none⟩])
 (.seq (.region [⟨(some 15),.mv (.tmp 5),none⟩,⟨(some 16),.mv (.tmp 15),none⟩,⟨(some 17),.mv (.tmp 4),some (16,true)⟩,⟨(some 18),.nilCheck (.tmp 17),some (16,true)⟩,⟨(some 19),.faddr 3 (.tmp 18),some (16,true)⟩,⟨(some 20),.loadX false 1 (.tmp 19),some (16,true)⟩,⟨(some 21),.bin .eql (.tmp 20) (.const (.int .i64 0)),some (16,true)⟩,⟨(some 22),.pick (.tmp 16) (.tmp 21) (.const (.bool false)),none⟩])
 (.cond (.tmp 22) (.seq (.region [⟨(some 23),.mv (.tmp 4),none⟩,⟨(some 24),.nilCheck (.tmp 23),none⟩,⟨(some 25),.faddr 3 (.tmp 24),none⟩,⟨none,.storeX 1 (.tmp 25) (.const (.int .i64 1)),none⟩])
 (.region [⟨(some 26),.mv (.tmp 0),none⟩,⟨(some 27),.mv (.tmp 0),none⟩,⟨(some 28),.nilCheck (.tmp 27),none⟩,⟨(some 29),.faddr 5 (.tmp 28),none⟩,⟨(some 30),.loadX false 1 (.tmp 29),none⟩,⟨(some 31),.mv (.tmp 1),none⟩,⟨(some 32),.mkSlice 1 1 [(.int .u64 0)] [(0,1,(.tmp 31))],none⟩,⟨(some 33),.appendX 1 8 (.tmp 30) (.tmp 32),none⟩,⟨(some 34),.nilCheck (.tmp 26),none⟩,⟨(some 35),.faddr 5 (.tmp 34),none⟩,⟨none,.storeX 1 (.tmp 35) (.tmp 33),none⟩])) .skip)))⟩
theorem k163 : compFn Tryz.prog Tryz.f163 = some c163 := by kernel_rfl
-- (*croft/march.Store).word
def c164 : AFunc := ⟨[.tmp 6,.tmp 7],(.seq (.region [⟨(some 6),.mv (.const (.int .u64 0)),none⟩,⟨(some 7),.mv (.const (.bool false)),none⟩])
 (.seq (.region [⟨(some 11),.mv (.tmp 0),none⟩,⟨(some 12),.nilCheck (.tmp 11),none⟩,⟨(some 13),.faddr 1 (.tmp 12),none⟩,⟨(some 14),.loadX false 1 (.tmp 13),none⟩,⟨(some 15),.mv (.tmp 1),none⟩,⟨(some 16),.lookup .int (.ptr none) true (.tmp 14) (.tmp 15),none⟩,⟨(some 10),.mv (.tmp 16),none⟩,⟨(some 17),.extract (.tmp 10) 0,none⟩,⟨(some 18),.extract (.tmp 10) 1,none⟩,⟨(some 8),.mv (.tmp 17),none⟩,⟨(some 9),.mv (.tmp 18),none⟩])
 (.seq (.draw [⟨⟨(some 19),.mv (.tmp 1),none⟩,0,0⟩,⟨⟨(some 20),.mv (.tmp 2),none⟩,0,0⟩,⟨⟨(some 21),.conv .u64 (.tmp 20),none⟩,0,0⟩,⟨⟨(some 22),.bin .mul (.const (.int .u64 8)) (.tmp 21),none⟩,0,0⟩,⟨⟨(some 23),.bin .add (.tmp 19) (.tmp 22),none⟩,0,0⟩,⟨⟨(some 24),.mv (.tmp 9),none⟩,0,0⟩,⟨⟨(some 25),.mv (.tmp 24),none⟩,0,0⟩,⟨⟨(some 26),.mv (.tmp 2),some (25,true)⟩,0,0⟩,⟨⟨(some 27),.bin .geq (.tmp 26) (.const (.int .i64 0)),some (25,true)⟩,0,0⟩,⟨⟨(some 28),.pick (.tmp 25) (.tmp 27) (.const (.bool false)),none⟩,0,0⟩,⟨⟨(some 29),.mv (.tmp 28),none⟩,0,0⟩,⟨⟨(some 30),.mv (.tmp 2),some (29,true)⟩,0,0⟩,⟨⟨(some 31),.mv (.tmp 8),some (29,true)⟩,0,0⟩,⟨⟨(some 32),.nilCheck (.tmp 31),some (29,true)⟩,0,0⟩,⟨⟨(some 33),.faddr 0 (.tmp 32),some (29,true)⟩,0,0⟩,⟨⟨(some 34),.loadX false 1 (.tmp 33),some (29,true)⟩,0,0⟩,⟨⟨(some 35),.bin .lss (.tmp 30) (.tmp 34),some (29,true)⟩,0,0⟩,⟨⟨(some 36),.pick (.tmp 29) (.tmp 35) (.const (.bool false)),none⟩,0,0⟩,⟨⟨(some 6),.mv (.tmp 23),none⟩,0,0⟩,⟨⟨(some 7),.mv (.tmp 36),none⟩,0,0⟩])
 .ret)))⟩
theorem k164 : compFn Tryz.prog Tryz.f164 = some c164 := by kernel_rfl
-- (*croft/malloc.Heap).StoreWord
def c165 : AFunc := ⟨[.tmp 6],(.seq (.region [⟨(some 6),.mv (.const (.int .i64 0)),none⟩])
 (.seq (.region [⟨(some 7),.mv (.tmp 0),none⟩,⟨(some 8),.nilCheck (.tmp 7),none⟩,⟨(some 9),.faddr 0 (.tmp 8),none⟩,⟨(some 10),.call 111 [(.tmp 9)],none⟩])
 (.seq (.region [⟨(some 11),.mv (.tmp 0),none⟩,⟨(some 12),.nilCheck (.tmp 11),none⟩,⟨(some 13),.faddr 0 (.tmp 12),none⟩,⟨none,.defer 112 [(.tmp 13)],none⟩])
 (.seq (.seq (.region [⟨(some 14),.mv (.tmp 0),none⟩,⟨(some 15),.mv (.tmp 1),none⟩,⟨(some 16),.call 148 [(.tmp 14),(.tmp 15),(.const (.int .u64 8))],none⟩,⟨(some 17),.not (.tmp 16),none⟩])
 (.cond (.tmp 17) (.seq (.region [⟨(some 6),.mv (.const (.int .i64 4)),none⟩])
 .ret) .skip))
 (.seq (.region [⟨(some 18),.mv (.tmp 0),none⟩,⟨(some 19),.nilCheck (.tmp 18),none⟩,⟨(some 20),.faddr 5 (.tmp 19),none⟩,⟨(some 21),.loadX false 1 (.tmp 20),none⟩,⟨(some 22),.nilCheck (.tmp 21),none⟩,⟨(some 23),.faddr 0 (.tmp 22),none⟩,⟨(some 24),.call 113 [(.tmp 23)],none⟩,⟨(some 25),.mv (.tmp 1),none⟩,⟨(some 26),.mv (.tmp 2),none⟩,⟨(some 27),.call 238 [(.tmp 24),(.tmp 25),(.tmp 26)],none⟩,⟨(some 6),.mv (.tmp 27),none⟩])
 .ret)))))⟩
theorem k165 : compFn Tryz.prog Tryz.f165 = some c165 := by kernel_rfl
-- slices.Collect[uint64]
def c166 : AFunc := ⟨[.tmp 2],(.seq (.region [⟨(some 2),.mv (.const (.slice none 0 0)),none⟩])
 (.seq (.region [⟨(some 3),.mv (.tmp 0),none⟩,⟨(some 4),.call 239 [(.const (.slice none 0 0)),(.tmp 3)],none⟩,⟨(some 2),.mv (.tmp 4),none⟩])
 .ret))⟩
theorem k166 : compFn Tryz.prog Tryz.f166 = some c166 := by kernel_rfl
-- maps.Keys[map[uint64]*croft/march.object,uint64,*croft/march.object]
def c167 : AFunc := ⟨[.tmp 2],(.seq (.region [⟨(some 1),.box 1 (.tmp 0),none⟩,⟨(some 2),.mv (.const .nilFunc),none⟩])
 (.seq (.region [⟨(some 3),.makeFunc 240 [] [(.tmp 1)],none⟩,⟨(some 2),.mv (.tmp 3),none⟩])
 .ret))⟩
theorem k167 : compFn Tryz.prog Tryz.f167 = some c167 := by kernel_rfl
-- slices.SortFunc[[]uint64,uint64]
def c168 : AFunc := ⟨[],(.seq (.region [⟨(some 5),.mv (.tmp 0),none⟩,⟨(some 6),.lenX (.tmp 5),none⟩,⟨(some 4),.mv (.tmp 6),none⟩])
 (.region [⟨(some 7),.mv (.tmp 0),none⟩,⟨(some 8),.mv (.tmp 4),none⟩,⟨(some 9),.mv (.tmp 4),none⟩,⟨(some 10),.conv .u64 (.tmp 9),none⟩,⟨(some 11),.call 242 [(.tmp 10)],none⟩,⟨(some 12),.mv (.tmp 1),none⟩,⟨(some 13),.call 241 [(.tmp 7),(.const (.int .i64 0)),(.tmp 8),(.tmp 11),(.tmp 12)],none⟩]))⟩
theorem k168 : compFn Tryz.prog Tryz.f168 = some c168 := by kernel_rfl
-- (*croft/march.Store).elder
def c169 : AFunc := ⟨[.tmp 6],(.seq (.region [⟨(some 6),.mv (.const (.int .i64 0)),none⟩])
 (.seq (.draw [⟨⟨(some 7),.mv (.tmp 0),none⟩,0,0⟩,⟨⟨(some 8),.nilCheck (.tmp 7),none⟩,0,0⟩,⟨⟨(some 9),.faddr 1 (.tmp 8),none⟩,0,0⟩,⟨⟨(some 10),.loadX false 1 (.tmp 9),none⟩,0,0⟩,⟨⟨(some 11),.mv (.tmp 1),none⟩,0,0⟩,⟨⟨(some 12),.lookup .int (.ptr none) false (.tmp 10) (.tmp 11),none⟩,0,0⟩,⟨⟨(some 13),.nilCheck (.tmp 12),none⟩,0,0⟩,⟨⟨(some 14),.faddr 2 (.tmp 13),none⟩,0,0⟩,⟨⟨(some 15),.loadX false 1 (.tmp 14),none⟩,0,0⟩,⟨⟨(some 16),.mv (.tmp 0),none⟩,0,0⟩,⟨⟨(some 17),.nilCheck (.tmp 16),none⟩,0,0⟩,⟨⟨(some 18),.faddr 1 (.tmp 17),none⟩,0,0⟩,⟨⟨(some 19),.loadX false 1 (.tmp 18),none⟩,0,0⟩,⟨⟨(some 20),.mv (.tmp 2),none⟩,0,0⟩,⟨⟨(some 21),.lookup .int (.ptr none) false (.tmp 19) (.tmp 20),none⟩,0,0⟩,⟨⟨(some 22),.nilCheck (.tmp 21),none⟩,0,0⟩,⟨⟨(some 23),.faddr 2 (.tmp 22),none⟩,0,0⟩,⟨⟨(some 24),.loadX false 1 (.tmp 23),none⟩,0,0⟩,⟨⟨(some 25),.bin .sub (.tmp 15) (.tmp 24),none⟩,0,0⟩,⟨⟨(some 6),.mv (.tmp 25),none⟩,0,0⟩])
 .ret))⟩
theorem k169 : compFn Tryz.prog Tryz.f169 = some c169 := by kernel_rfl
-- (*croft/malloc.Heap).LoadWord
def c170 : AFunc := ⟨[.tmp 4,.tmp 5],(.seq (.region [⟨(some 4),.mv (.const (.int .u64 0)),none⟩,⟨(some 5),.mv (.const (.int .i64 0)),none⟩])
 (.seq (.region [⟨(some 6),.mv (.tmp 0),none⟩,⟨(some 7),.nilCheck (.tmp 6),none⟩,⟨(some 8),.faddr 0 (.tmp 7),none⟩,⟨(some 9),.call 111 [(.tmp 8)],none⟩])
 (.seq (.region [⟨(some 10),.mv (.tmp 0),none⟩,⟨(some 11),.nilCheck (.tmp 10),none⟩,⟨(some 12),.faddr 0 (.tmp 11),none⟩,⟨none,.defer 112 [(.tmp 12)],none⟩])
 (.seq (.seq (.region [⟨(some 13),.mv (.tmp 0),none⟩,⟨(some 14),.mv (.tmp 1),none⟩,⟨(some 15),.call 148 [(.tmp 13),(.tmp 14),(.const (.int .u64 8))],none⟩,⟨(some 16),.not (.tmp 15),none⟩])
 (.cond (.tmp 16) (.seq (.region [⟨(some 4),.mv (.const (.int .u64 0)),none⟩,⟨(some 5),.mv (.const (.int .i64 4)),none⟩])
 .ret) .skip))
 (.seq (.region [⟨(some 17),.mv (.tmp 0),none⟩,⟨(some 18),.nilCheck (.tmp 17),none⟩,⟨(some 19),.faddr 5 (.tmp 18),none⟩,⟨(some 20),.loadX false 1 (.tmp 19),none⟩,⟨(some 21),.nilCheck (.tmp 20),none⟩,⟨(some 22),.faddr 0 (.tmp 21),none⟩,⟨(some 23),.call 113 [(.tmp 22)],none⟩,⟨(some 24),.mv (.tmp 1),none⟩,⟨(some 25),.call 243 [(.tmp 23),(.tmp 24)],none⟩,⟨(some 26),.extract (.tmp 25) 0,none⟩,⟨(some 27),.extract (.tmp 25) 1,none⟩,⟨(some 4),.mv (.tmp 26),none⟩,⟨(some 5),.mv (.tmp 27),none⟩])
 .ret)))))⟩
theorem k170 : compFn Tryz.prog Tryz.f170 = some c170 := by kernel_rfl
-- croft/mem.New
def c199 : AFunc := ⟨[.tmp 2,.tmp 3],(.seq (.region [⟨(some 1),.box 3 (.tmp 0),none⟩,⟨(some 2),.mv (.const (.ptr none)),none⟩,⟨(some 3),.mv (.const (.int .i64 0)),none⟩])
 (.seq (.seq (.region [⟨(some 4),.loadX true 3 (.tmp 1),none⟩,⟨(some 5),.call 260 [(.tmp 4)],none⟩,⟨(some 6),.not (.tmp 5),none⟩])
 (.cond (.tmp 6) (.seq (.region [⟨(some 2),.mv (.const (.ptr none)),none⟩,⟨(some 3),.mv (.const (.int .i64 1)),none⟩])
 .ret) .skip))
 (.seq (.draw [⟨⟨(some 7),.loadX true 3 (.tmp 1),none⟩,0,0⟩,⟨⟨(some 8),.faddr 2 (.tmp 1),none⟩,0,0⟩,⟨⟨(some 9),.loadX false 1 (.tmp 8),none⟩,0,0⟩,⟨⟨(some 10),.bin .shl (.const (.int .u64 4096)) (.tmp 9),none⟩,0,0⟩,⟨⟨(some 11),.build [(.int .u64 0),(.int .i64 0),(.int .i64 0),(.int .u64 0),(.slice none 0 0)] [(0,3,(.tmp 7)),(3,1,(.tmp 10))],none⟩,0,0⟩,⟨⟨(some 12),.box 5 (.tmp 11),none⟩,0,1⟩,⟨⟨(some 2),.mv (.tmp 12),none⟩,1,1⟩,⟨⟨(some 3),.mv (.const (.int .i64 0)),none⟩,1,1⟩])
 .ret)))⟩
theorem k199 : compFn Tryz.prog Tryz.f199 = some c199 := by kernel_rfl
-- croft/pagemap.New
def c200 : AFunc := ⟨[.tmp 2],(.seq (.region [⟨(some 2),.mv (.const (.ptr none)),none⟩])
 (.seq (.region [⟨(some 4),.mv (.tmp 0),none⟩,⟨(some 5),.maxmin false [(.tmp 4),(.const (.int .i64 8))],none⟩,⟨(some 6),.maxmin true [(.const (.int .i64 0)),(.tmp 5)],none⟩,⟨(some 7),.build [(.int .i64 0),(.slice none 0 0),(.slice none 0 0)] [(0,1,(.tmp 6))],none⟩,⟨(some 8),.box 3 (.tmp 7),none⟩,⟨(some 3),.mv (.tmp 8),none⟩])
 (.seq (.seq (.region [⟨(some 9),.mv (.tmp 3),none⟩,⟨(some 10),.nilCheck (.tmp 9),none⟩,⟨(some 11),.faddr 0 (.tmp 10),none⟩,⟨(some 12),.loadX false 1 (.tmp 11),none⟩,⟨(some 13),.mv (.const (.int .i64 0)),none⟩])
 (.block 0 (.loop (.seq (.region [⟨(some 14),.bin .lss (.tmp 13) (.tmp 12),none⟩])
 (.seq (.cond (.tmp 14) .skip (.exit 0))
 (.seq (.block 1 (.draw [⟨⟨(some 15),.mv (.tmp 3),none⟩,0,3⟩,⟨⟨(some 16),.mv (.tmp 3),none⟩,0,2⟩,⟨⟨(some 17),.nilCheck (.tmp 16),none⟩,0,2⟩,⟨⟨(some 18),.faddr 2 (.tmp 17),none⟩,0,2⟩,⟨⟨(some 19),.loadX false 1 (.tmp 18),none⟩,0,2⟩,⟨⟨(some 20),.call 261 [(.const (.int .i64 0))],none⟩,0,1⟩,⟨⟨(some 21),.mkSlice 1 1 [(.ptr none)] [(0,1,(.tmp 20))],none⟩,1,2⟩,⟨⟨(some 22),.appendX 1 8 (.tmp 19) (.tmp 21),none⟩,2,3⟩,⟨⟨(some 23),.nilCheck (.tmp 15),none⟩,3,3⟩,⟨⟨(some 24),.faddr 2 (.tmp 23),none⟩,3,3⟩,⟨⟨none,.storeX 1 (.tmp 24) (.tmp 22),none⟩,3,4⟩]))
 (.region [⟨(some 25),.bin .add (.tmp 13) (.const (.int .i64 1)),none⟩,⟨(some 13),.mv (.tmp 25),none⟩])))))))
 (.seq (.region [⟨(some 26),.mv (.tmp 3),none⟩,⟨(some 2),.mv (.tmp 26),none⟩])
 .ret))))⟩
theorem k200 : compFn Tryz.prog Tryz.f200 = some c200 := by kernel_rfl
-- croft/buddy.New
def c201 : AFunc := ⟨[.tmp 6],(.seq (.region [⟨(some 3),.box 3 (.tmp 0),none⟩,⟨(some 6),.mv (.const (.ptr none)),none⟩])
 (.seq (.draw [⟨⟨(some 10),.loadX true 3 (.tmp 3),none⟩,0,1⟩,⟨⟨(some 11),.mv (.tmp 1),none⟩,0,1⟩,⟨⟨(some 12),.mv (.tmp 2),none⟩,0,1⟩,⟨⟨(some 13),.faddr 2 (.tmp 3),none⟩,0,0⟩,⟨⟨(some 14),.loadX false 1 (.tmp 13),none⟩,0,0⟩,⟨⟨(some 15),.bin .add (.tmp 14) (.const (.int .i64 1)),none⟩,0,0⟩,⟨⟨(some 16),.maxmin true [(.const (.int .i64 0)),(.tmp 15)],none⟩,0,0⟩,⟨⟨(some 17),.makeSlice 1 8 [(.int .u64 0)] (.tmp 16) (.tmp 16),none⟩,0,1⟩,⟨⟨(some 18),.call 262 [(.tmp 10),(.tmp 11),(.tmp 12),(.tmp 17)],none⟩,1,2⟩,⟨⟨(some 9),.mv (.tmp 18),none⟩,2,2⟩,⟨⟨(some 19),.extract (.tmp 9) 0,none⟩,2,2⟩,⟨⟨(some 20),.extract (.tmp 9) 1,none⟩,2,2⟩,⟨⟨(some 7),.mv (.tmp 19),none⟩,2,2⟩,⟨⟨(some 8),.mv (.tmp 20),none⟩,2,2⟩])
 (.seq (.region [⟨(some 21),.mv (.tmp 7),none⟩,⟨(some 6),.mv (.tmp 21),none⟩])
 .ret)))⟩
theorem k201 : compFn Tryz.prog Tryz.f201 = some c201 := by kernel_rfl
-- (*croft/malloc.Heap).malloc
def c202 : AFunc := ⟨[.cell 8 true 2,.tmp 9],(.seq (.region [⟨(some 8),.alloc [(.int .u64 0),(.int .u64 0)],none⟩,⟨(some 9),.mv (.const (.int .i64 0)),none⟩])
 (.seq (.region [⟨(some 14),.mv (.tmp 0),none⟩,⟨(some 15),.mv (.tmp 1),none⟩,⟨(some 16),.mv (.tmp 2),none⟩,⟨(some 17),.call 253 [(.tmp 14),(.tmp 15),(.tmp 16)],none⟩,⟨(some 13),.mv (.tmp 17),none⟩,⟨(some 18),.extract (.tmp 13) 0,none⟩,⟨(some 19),.extract (.tmp 13) 1,none⟩,⟨(some 10),.mv (.tmp 18),none⟩,⟨(some 11),.mv (.tmp 19),none⟩])
 (.seq (.seq (.region [⟨(some 20),.mv (.tmp 11),none⟩,⟨(some 21),.bin .neq (.tmp 20) (.const (.int .i64 0)),none⟩])
 (.cond (.tmp 21) (.seq (.region [⟨(some 22),.build [(.int .u64 0),(.int .u64 0)] [],none⟩,⟨(some 23),.mv (.tmp 11),none⟩,⟨none,.storeX 2 (.tmp 8) (.tmp 22),none⟩,⟨(some 9),.mv (.tmp 23),none⟩])
 .ret) .skip))
 (.seq (.region [⟨(some 25),.mv (.tmp 0),none⟩,⟨(some 26),.mv (.tmp 10),none⟩,⟨(some 27),.mv (.tmp 3),none⟩,⟨(some 28),.call 257 [(.tmp 25),(.tmp 26),(.tmp 27)],none⟩,⟨(some 24),.mv (.tmp 28),none⟩,⟨(some 29),.extract (.tmp 24) 0,none⟩,⟨(some 30),.extract (.tmp 24) 1,none⟩,⟨(some 12),.mv (.tmp 29),none⟩,⟨(some 11),.mv (.tmp 30),none⟩])
 (.seq (.seq (.region [⟨(some 31),.mv (.tmp 11),none⟩,⟨(some 32),.bin .neq (.tmp 31) (.const (.int .i64 0)),none⟩])
 (.cond (.tmp 32) (.seq (.region [⟨(some 33),.build [(.int .u64 0),(.int .u64 0)] [],none⟩,⟨(some 34),.mv (.tmp 11),none⟩,⟨none,.storeX 2 (.tmp 8) (.tmp 33),none⟩,⟨(some 9),.mv (.tmp 34),none⟩])
 .ret) .skip))
 (.seq (.region [⟨(some 35),.mv (.tmp 12),none⟩,⟨(some 36),.mv (.tmp 10),none⟩,⟨(some 37),.build [(.int .u64 0),(.int .u64 0)] [(0,1,(.tmp 35)),(1,1,(.tmp 36))],none⟩,⟨none,.storeX 2 (.tmp 8) (.tmp 37),none⟩,⟨(some 9),.mv (.const (.int .i64 0)),none⟩])
 .ret))))))⟩
theorem k202 : compFn Tryz.prog Tryz.f202 = some c202 := by kernel_rfl
-- croft/bits.IsPower[uint64]
def c209 : AFunc := ⟨[.tmp 2],(.seq (.region [⟨(some 2),.mv (.const (.bool false)),none⟩])
 (.seq (.region [⟨(some 3),.mv (.tmp 0),none⟩,⟨(some 4),.bin .neq (.tmp 3) (.const (.int .u64 0)),none⟩,⟨(some 5),.mv (.tmp 4),none⟩,⟨(some 6),.mv (.tmp 0),some (5,true)⟩,⟨(some 7),.mv (.tmp 0),some (5,true)⟩,⟨(some 8),.bin .sub (.tmp 7) (.const (.int .u64 1)),some (5,true)⟩,⟨(some 9),.bin .and (.tmp 6) (.tmp 8),some (5,true)⟩,⟨(some 10),.bin .eql (.tmp 9) (.const (.int .u64 0)),some (5,true)⟩,⟨(some 11),.pick (.tmp 5) (.tmp 10) (.const (.bool false)),none⟩,⟨(some 2),.mv (.tmp 11),none⟩])
 .ret))⟩
theorem k209 : compFn Tryz.prog Tryz.f209 = some c209 := by kernel_rfl
-- (*croft/malloc.Heap).give
def c214 : AFunc := ⟨[],(.seq (.region [⟨(some 3),.box 2 (.tmp 1),none⟩])
 (.seq (.seq (.region [⟨(some 4),.faddr 1 (.tmp 3),none⟩,⟨(some 5),.loadX false 1 (.tmp 4),none⟩,⟨(some 6),.bin .lss (.tmp 5) (.const (.int .u64 4096)),none⟩])
 (.cond (.tmp 6) (.seq (.draw [⟨⟨(some 7),.mv (.tmp 0),none⟩,0,0⟩,⟨⟨(some 8),.nilCheck (.tmp 7),none⟩,0,0⟩,⟨⟨(some 9),.faddr 6 (.tmp 8),none⟩,0,0⟩,⟨⟨(some 10),.loadX false 1 (.tmp 9),none⟩,0,0⟩,⟨⟨(some 11),.faddr 0 (.tmp 3),none⟩,0,0⟩,⟨⟨(some 12),.loadX false 1 (.tmp 11),none⟩,0,0⟩,⟨⟨(some 13),.call 275 [(.tmp 10),(.tmp 12)],none⟩,0,1⟩])
 .ret) .skip))
 (.draw [⟨⟨(some 14),.mv (.tmp 0),none⟩,0,1⟩,⟨⟨(some 15),.nilCheck (.tmp 14),none⟩,0,1⟩,⟨⟨(some 16),.faddr 5 (.tmp 15),none⟩,0,1⟩,⟨⟨(some 17),.loadX false 1 (.tmp 16),none⟩,0,1⟩,⟨⟨(some 18),.faddr 0 (.tmp 3),none⟩,0,1⟩,⟨⟨(some 19),.loadX false 1 (.tmp 18),none⟩,0,1⟩,⟨⟨(some 20),.faddr 1 (.tmp 3),none⟩,0,0⟩,⟨⟨(some 21),.loadX false 1 (.tmp 20),none⟩,0,0⟩,⟨⟨(some 22),.call 256 [(.tmp 21)],none⟩,0,1⟩,⟨⟨(some 23),.call 276 [(.tmp 17),(.tmp 19),(.tmp 22)],none⟩,1,2⟩])))⟩
theorem k214 : compFn Tryz.prog Tryz.f214 = some c214 := by kernel_rfl
-- (*croft/malloc.Heap).block
def c220 : AFunc := ⟨[.cell 4 true 2,.tmp 5],(.seq (.region [⟨(some 4),.alloc [(.int .u64 0),(.int .u64 0)],none⟩,⟨(some 5),.mv (.const (.bool false)),none⟩])
 (.seq (.seq (.region [⟨(some 13),.mv (.tmp 1),none⟩,⟨(some 14),.mv (.tmp 0),none⟩,⟨(some 15),.nilCheck (.tmp 14),none⟩,⟨(some 16),.faddr 2 (.tmp 15),none⟩,⟨(some 17),.faddr 0 (.tmp 16),none⟩,⟨(some 18),.loadX false 1 (.tmp 17),none⟩,⟨(some 19),.bin .lss (.tmp 13) (.tmp 18),none⟩,⟨(some 20),.mv (.tmp 19),none⟩,⟨(some 21),.mv (.tmp 1),some (20,false)⟩,⟨(some 22),.mv (.tmp 0),some (20,false)⟩,⟨(some 23),.nilCheck (.tmp 22),some (20,false)⟩,⟨(some 24),.faddr 5 (.tmp 23),some (20,false)⟩,⟨(some 25),.loadX false 1 (.tmp 24),some (20,false)⟩,⟨(some 26),.nilCheck (.tmp 25),some (20,false)⟩,⟨(some 27),.faddr 0 (.tmp 26),some (20,false)⟩,⟨(some 28),.call 113 [(.tmp 27)],some (20,false)⟩,⟨(some 29),.call 114 [(.tmp 28)],some (20,false)⟩,⟨(some 30),.bin .geq (.tmp 21) (.tmp 29),some (20,false)⟩,⟨(some 31),.pick (.tmp 20) (.const (.bool true)) (.tmp 30),none⟩])
 (.cond (.tmp 31) (.seq (.region [⟨(some 32),.build [(.int .u64 0),(.int .u64 0)] [],none⟩,⟨none,.storeX 2 (.tmp 4) (.tmp 32),none⟩,⟨(some 5),.mv (.const (.bool false)),none⟩])
 .ret) .skip))
 (.seq (.region [⟨(some 33),.mv (.tmp 1),none⟩,⟨(some 34),.mv (.tmp 0),none⟩,⟨(some 35),.nilCheck (.tmp 34),none⟩,⟨(some 36),.faddr 2 (.tmp 35),none⟩,⟨(some 37),.faddr 0 (.tmp 36),none⟩,⟨(some 38),.loadX false 1 (.tmp 37),none⟩,⟨(some 39),.bin .sub (.tmp 33) (.tmp 38),none⟩,⟨(some 40),.bin .quo (.tmp 39) (.const (.int .u64 4096)),none⟩,⟨(some 41),.conv .i64 (.tmp 40),none⟩,⟨(some 6),.mv (.tmp 41),none⟩])
 (.seq (.region [⟨(some 43),.mv (.tmp 0),none⟩,⟨(some 44),.nilCheck (.tmp 43),none⟩,⟨(some 45),.faddr 5 (.tmp 44),none⟩,⟨(some 46),.loadX false 1 (.tmp 45),none⟩,⟨(some 47),.nilCheck (.tmp 46),none⟩,⟨(some 48),.faddr 0 (.tmp 47),none⟩,⟨(some 49),.call 116 [(.tmp 48)],none⟩,⟨(some 50),.mv (.tmp 6),none⟩,⟨(some 51),.call 118 [(.tmp 49),(.tmp 50)],none⟩,⟨(some 42),.mv (.tmp 51),none⟩,⟨(some 52),.extract (.tmp 42) 0,none⟩,⟨(some 53),.extract (.tmp 42) 1,none⟩,⟨(some 7),.alloc [(.int .i64 0),(.int .i64 0),(.int .i64 0),(.int .i64 0),(.int .i64 0),(.int .i64 0),(.int .i64 0),(.int .u64 0),(.int .u64 0),(.int .u64 0),(.int .u64 0)],none⟩,⟨none,.storeX 11 (.tmp 7) (.tmp 52),none⟩,⟨(some 8),.mv (.tmp 53),none⟩])
 (.seq (.seq (.region [⟨(some 54),.faddr 0 (.tmp 7),none⟩,⟨(some 55),.loadX false 1 (.tmp 54),none⟩])
 (.block 0 (.seq (.region [⟨(some 57),.bin .eql (.tmp 55) (.const (.int .i64 4)),none⟩,⟨(some 56),.mv (.tmp 57),none⟩])
 (.cond (.tmp 56) (.seq (.region [⟨(some 58),.faddr 2 (.tmp 7),none⟩,⟨(some 59),.loadX false 1 (.tmp 58),none⟩,⟨(some 60),.bin .shl (.const (.int .u64 16)) (.tmp 59),none⟩,⟨(some 9),.mv (.tmp 60),none⟩])
 (.seq (.region [⟨(some 61),.mv (.tmp 1),none⟩,⟨(some 62),.mv (.tmp 9),none⟩,⟨(some 63),.bin .quo (.tmp 61) (.tmp 62),none⟩,⟨(some 64),.mv (.tmp 9),none⟩,⟨(some 65),.bin .mul (.tmp 63) (.tmp 64),none⟩,⟨(some 66),.mv (.tmp 9),none⟩,⟨(some 67),.build [(.int .u64 0),(.int .u64 0)] [(0,1,(.tmp 65)),(1,1,(.tmp 66))],none⟩,⟨(some 10),.alloc [(.int .u64 0),(.int .u64 0)],none⟩,⟨none,.storeX 2 (.tmp 10) (.tmp 67),none⟩])
 (.seq (.region [⟨(some 68),.faddr 0 (.tmp 10),none⟩,⟨(some 69),.loadX false 1 (.tmp 68),none⟩,⟨(some 70),.bin .rem (.tmp 69) (.const (.int .u64 4096)),none⟩,⟨(some 71),.mv (.tmp 9),none⟩,⟨(some 72),.bin .quo (.tmp 70) (.tmp 71),none⟩,⟨(some 11),.mv (.tmp 72),none⟩])
 (.seq (.draw [⟨⟨(some 73),.loadX true 2 (.tmp 10),none⟩,0,0⟩,⟨⟨(some 74),.mv (.tmp 11),none⟩,0,1⟩,⟨⟨(some 75),.bin .quo (.tmp 74) (.const (.int .u64 64)),none⟩,0,1⟩,⟨⟨(some 76),.faddr 7 (.tmp 7),none⟩,0,1⟩,⟨⟨(some 77),.iaddrA 4 1 (.tmp 76) (.tmp 75),none⟩,0,1⟩,⟨⟨(some 78),.loadX false 1 (.tmp 77),none⟩,0,1⟩,⟨⟨(some 79),.mv (.tmp 11),none⟩,0,1⟩,⟨⟨(some 80),.bin .rem (.tmp 79) (.const (.int .u64 64)),none⟩,0,1⟩,⟨⟨(some 81),.bin .shr (.tmp 78) (.tmp 80),none⟩,0,1⟩,⟨⟨(some 82),.bin .and (.tmp 81) (.const (.int .u64 1)),none⟩,0,1⟩,⟨⟨(some 83),.bin .eql (.tmp 82) (.const (.int .u64 1)),none⟩,0,1⟩,⟨⟨none,.storeX 2 (.tmp 4) (.tmp 73),none⟩,0,1⟩,⟨⟨(some 5),.mv (.tmp 83),none⟩,1,1⟩])
 .ret)))) (.seq (.seq (.region [⟨(some 85),.bin .eql (.tmp 55) (.const (.int .i64 2)),none⟩,⟨(some 84),.mv (.tmp 85),none⟩])
 (.cond (.tmp 84) .skip (.region [⟨(some 86),.bin .eql (.tmp 55) (.const (.int .i64 3)),none⟩,⟨(some 84),.mv (.tmp 86),none⟩])))
 (.cond (.tmp 84) (.seq (.region [⟨(some 87),.mv (.tmp 0),none⟩,⟨(some 88),.nilCheck (.tmp 87),none⟩,⟨(some 89),.faddr 5 (.tmp 88),none⟩,⟨(some 90),.loadX false 1 (.tmp 89),none⟩,⟨(some 91),.nilCheck (.tmp 90),none⟩,⟨(some 92),.faddr 0 (.tmp 91),none⟩,⟨(some 93),.call 116 [(.tmp 92)],none⟩,⟨(some 94),.mv (.tmp 6),none⟩,⟨(some 95),.call 278 [(.tmp 93),(.tmp 94)],none⟩,⟨(some 12),.mv (.tmp 95),none⟩])
 (.seq (.draw [⟨⟨(some 96),.mv (.tmp 0),none⟩,0,0⟩,⟨⟨(some 97),.nilCheck (.tmp 96),none⟩,0,0⟩,⟨⟨(some 98),.faddr 2 (.tmp 97),none⟩,0,0⟩,⟨⟨(some 99),.faddr 0 (.tmp 98),none⟩,0,0⟩,⟨⟨(some 100),.loadX false 1 (.tmp 99),none⟩,0,0⟩,⟨⟨(some 101),.mv (.tmp 12),none⟩,0,0⟩,⟨⟨(some 102),.conv .u64 (.tmp 101),none⟩,0,0⟩,⟨⟨(some 103),.bin .mul (.tmp 102) (.const (.int .u64 4096)),none⟩,0,0⟩,⟨⟨(some 104),.bin .add (.tmp 100) (.tmp 103),none⟩,0,0⟩,⟨⟨(some 105),.faddr 1 (.tmp 7),none⟩,0,0⟩,⟨⟨(some 106),.loadX false 1 (.tmp 105),none⟩,0,0⟩,⟨⟨(some 107),.bin .shl (.const (.int .u64 4096)) (.tmp 106),none⟩,0,0⟩,⟨⟨(some 108),.build [(.int .u64 0),(.int .u64 0)] [(0,1,(.tmp 104)),(1,1,(.tmp 107))],none⟩,0,0⟩,⟨⟨none,.storeX 2 (.tmp 4) (.tmp 108),none⟩,0,1⟩,⟨⟨(some 5),.mv (.const (.bool true)),none⟩,1,1⟩])
 .ret)) .skip))))))
 (.seq (.region [⟨(some 109),.build [(.int .u64 0),(.int .u64 0)] [],none⟩,⟨none,.storeX 2 (.tmp 4) (.tmp 109),none⟩,⟨(some 5),.mv (.const (.bool false)),none⟩])
 .ret))))))⟩
theorem k220 : compFn Tryz.prog Tryz.f220 = some c220 := by kernel_rfl
-- croft/mem.caught
def c222 : AFunc := ⟨[],(.seq (.seq (.region [⟨(some 6),.mv (.tmp 0),none⟩,⟨(some 7),.eq1 false .iface (.tmp 6) (.const .nilIface),none⟩])
 (.cond (.tmp 7) .ret .skip))
 (.seq (.bad "region")
 (.seq (.seq (.region [⟨(some 13),.mv (.tmp 5),none⟩,⟨(some 14),.not (.tmp 13),none⟩])
 (.cond (.tmp 14) (.bad "region") .skip))
 (.region [⟨(some 16),.mv (.tmp 1),none⟩,⟨(some 17),.faddr 0 (.tmp 4),none⟩,⟨(some 18),.loadX false 1 (.tmp 17),none⟩,⟨(some 19),.nilCheck (.tmp 16),none⟩,⟨none,.storeX 1 (.tmp 19) (.tmp 18),none⟩]))))⟩
theorem k222 : compFn Tryz.prog Tryz.f222 = some c222 := by kernel_rfl
-- (*croft/mem.Space).look
def c223 : AFunc := ⟨[],(.seq (.region [⟨(some 6),.mv (.tmp 2),none⟩,⟨(some 7),.bin .neq (.tmp 6) (.const (.int .u64 0)),none⟩,⟨(some 8),.mv (.tmp 7),none⟩,⟨(some 9),.mv (.tmp 1),some (8,true)⟩,⟨(some 10),.mv (.tmp 0),some (8,true)⟩,⟨(some 11),.nilCheck (.tmp 10),some (8,true)⟩,⟨(some 12),.faddr 0 (.tmp 11),some (8,true)⟩,⟨(some 13),.faddr 0 (.tmp 12),some (8,true)⟩,⟨(some 14),.loadX false 1 (.tmp 13),some (8,true)⟩,⟨(some 15),.bin .lss (.tmp 9) (.tmp 14),some (8,true)⟩,⟨(some 16),.mv (.tmp 15),some (8,true)⟩,⟨(some 17),.mv (.tmp 1),some (16,false)⟩,⟨(some 18),.mv (.tmp 0),some (16,false)⟩,⟨(some 19),.call 114 [(.tmp 18)],some (16,false)⟩,⟨(some 20),.bin .gtr (.tmp 17) (.tmp 19),some (16,false)⟩,⟨(some 21),.pick (.tmp 16) (.const (.bool true)) (.tmp 20),some (8,true)⟩,⟨(some 22),.mv (.tmp 21),some (8,true)⟩,⟨(some 23),.mv (.tmp 2),some (22,false)⟩,⟨(some 24),.mv (.tmp 0),some (22,false)⟩,⟨(some 25),.call 114 [(.tmp 24)],some (22,false)⟩,⟨(some 26),.mv (.tmp 1),some (22,false)⟩,⟨(some 27),.bin .sub (.tmp 25) (.tmp 26),some (22,false)⟩,⟨(some 28),.bin .gtr (.tmp 23) (.tmp 27),some (22,false)⟩,⟨(some 29),.pick (.tmp 22) (.const (.bool true)) (.tmp 28),some (8,true)⟩,⟨(some 30),.pick (.tmp 8) (.tmp 29) (.const (.bool false)),none⟩])
 (.cond (.tmp 30) (.bad "region") .skip))⟩
theorem k223 : compFn Tryz.prog Tryz.f223 = some c223 := by kernel_rfl
-- (*croft/mem.Space).get
def c224 : AFunc := ⟨[],(.block 0 (.loop (.seq (.seq (.region [⟨(some 8),.mv (.tmp 2),none⟩,⟨(some 9),.lenX (.tmp 8),none⟩,⟨(some 10),.bin .gtr (.tmp 9) (.const (.int .i64 0)),none⟩])
 (.cond (.tmp 10) .skip (.exit 0)))
 (.block 1 (.seq (.region [⟨(some 11),.mv (.tmp 1),none⟩,⟨(some 12),.mv (.tmp 0),none⟩,⟨(some 13),.nilCheck (.tmp 12),none⟩,⟨(some 14),.faddr 0 (.tmp 13),none⟩,⟨(some 15),.faddr 0 (.tmp 14),none⟩,⟨(some 16),.loadX false 1 (.tmp 15),none⟩,⟨(some 17),.bin .sub (.tmp 11) (.tmp 16),none⟩,⟨(some 6),.mv (.tmp 17),none⟩])
 (.seq (.draw [⟨⟨(some 18),.mv (.tmp 2),none⟩,0,0⟩,⟨⟨(some 19),.mv (.tmp 0),none⟩,0,0⟩,⟨⟨(some 20),.nilCheck (.tmp 19),none⟩,0,0⟩,⟨⟨(some 21),.faddr 4 (.tmp 20),none⟩,0,0⟩,⟨⟨(some 22),.loadX false 1 (.tmp 21),none⟩,0,0⟩,⟨⟨(some 23),.mv (.tmp 6),none⟩,0,0⟩,⟨⟨(some 24),.mv (.tmp 0),none⟩,0,0⟩,⟨⟨(some 25),.nilCheck (.tmp 24),none⟩,0,0⟩,⟨⟨(some 26),.faddr 3 (.tmp 25),none⟩,0,0⟩,⟨⟨(some 27),.loadX false 1 (.tmp 26),none⟩,0,0⟩,⟨⟨(some 28),.bin .quo (.tmp 23) (.tmp 27),none⟩,0,0⟩,⟨⟨(some 29),.iaddrX 1 (.tmp 22) (.tmp 28),none⟩,0,0⟩,⟨⟨(some 30),.loadX false 1 (.tmp 29),none⟩,0,0⟩,⟨⟨(some 31),.mv (.tmp 6),none⟩,0,0⟩,⟨⟨(some 32),.mv (.tmp 0),none⟩,0,0⟩,⟨⟨(some 33),.nilCheck (.tmp 32),none⟩,0,0⟩,⟨⟨(some 34),.faddr 3 (.tmp 33),none⟩,0,0⟩,⟨⟨(some 35),.loadX false 1 (.tmp 34),none⟩,0,0⟩,⟨⟨(some 36),.bin .rem (.tmp 31) (.tmp 35),none⟩,0,0⟩,⟨⟨(some 37),.sliceOfX 1 (.tmp 30) (some (.tmp 36)) none,none⟩,0,0⟩,⟨⟨(some 38),.copy 1 (.tmp 18) (.tmp 37),none⟩,0,1⟩,⟨⟨(some 7),.mv (.tmp 38),none⟩,1,1⟩])
 (.seq (.region [⟨(some 39),.mv (.tmp 2),none⟩,⟨(some 40),.mv (.tmp 7),none⟩,⟨(some 41),.sliceOfX 1 (.tmp 39) (some (.tmp 40)) none,none⟩,⟨(some 2),.mv (.tmp 41),none⟩])
 (.region [⟨(some 42),.mv (.tmp 1),none⟩,⟨(some 43),.mv (.tmp 7),none⟩,⟨(some 44),.conv .u64 (.tmp 43),none⟩,⟨(some 45),.bin .add (.tmp 42) (.tmp 44),none⟩,⟨(some 1),.mv (.tmp 45),none⟩]))))))))⟩
theorem k224 : compFn Tryz.prog Tryz.f224 = some c224 := by kernel_rfl
-- (*croft/march.Store).paint
def c234 : AFunc := ⟨[],(.seq (.region [⟨(some 6),.mv (.tmp 0),none⟩,⟨(some 7),.nilCheck (.tmp 6),none⟩,⟨(some 8),.faddr 1 (.tmp 7),none⟩,⟨(some 9),.loadX false 1 (.tmp 8),none⟩,⟨(some 10),.rangeM (.tmp 9),none⟩])
 (.block 0 (.loop (.seq (.region [⟨(some 11),.nextM (.tmp 10),none⟩,⟨(some 12),.extract (.tmp 11) 0,none⟩])
 (.seq (.cond (.tmp 12) .skip (.exit 0))
 (.block 1 (.seq (.region [⟨(some 13),.entryM (.tmp 10),none⟩,⟨(some 14),.extract (.tmp 13) 1,none⟩,⟨(some 5),.mv (.tmp 14),none⟩])
 (.region [⟨(some 15),.mv (.tmp 5),none⟩,⟨(some 16),.mv (.tmp 1),none⟩,⟨(some 17),.nilCheck (.tmp 15),none⟩,⟨(some 18),.faddr 3 (.tmp 17),none⟩,⟨none,.storeX 1 (.tmp 18) (.tmp 16),none⟩]))))))))⟩
theorem k234 : compFn Tryz.prog Tryz.f234 = some c234 := by kernel_rfl
-- maps.Values[map[string]uint64,string,uint64]
def c235 : AFunc := ⟨[.tmp 2],(.seq (.region [⟨(some 1),.box 1 (.tmp 0),none⟩,⟨(some 2),.mv (.const .nilFunc),none⟩])
 (.seq (.region [⟨(some 3),.makeFunc 283 [] [(.tmp 1)],none⟩,⟨(some 2),.mv (.tmp 3),none⟩])
 .ret))⟩
theorem k235 : compFn Tryz.prog Tryz.f235 = some c235 := by kernel_rfl
-- math/bits.Mul64
def c236 : AFunc := ⟨[.tmp 4,.tmp 5],(.seq (.region [⟨(some 4),.mv (.const (.int .u64 0)),none⟩,⟨(some 5),.mv (.const (.int .u64 0)),none⟩])
 (.seq (.region [⟨(some 14),.mv (.tmp 0),none⟩,⟨(some 15),.bin .and (.tmp 14) (.const (.int .u64 4294967295)),none⟩,⟨(some 6),.mv (.tmp 15),none⟩])
 (.seq (.region [⟨(some 16),.mv (.tmp 0),none⟩,⟨(some 17),.bin .shr (.tmp 16) (.const (.int .u64 32)),none⟩,⟨(some 7),.mv (.tmp 17),none⟩])
 (.seq (.region [⟨(some 18),.mv (.tmp 1),none⟩,⟨(some 19),.bin .and (.tmp 18) (.const (.int .u64 4294967295)),none⟩,⟨(some 8),.mv (.tmp 19),none⟩])
 (.seq (.region [⟨(some 20),.mv (.tmp 1),none⟩,⟨(some 21),.bin .shr (.tmp 20) (.const (.int .u64 32)),none⟩,⟨(some 9),.mv (.tmp 21),none⟩])
 (.seq (.region [⟨(some 22),.mv (.tmp 6),none⟩,⟨(some 23),.mv (.tmp 8),none⟩,⟨(some 24),.bin .mul (.tmp 22) (.tmp 23),none⟩,⟨(some 10),.mv (.tmp 24),none⟩])
 (.seq (.region [⟨(some 25),.mv (.tmp 7),none⟩,⟨(some 26),.mv (.tmp 8),none⟩,⟨(some 27),.bin .mul (.tmp 25) (.tmp 26),none⟩,⟨(some 28),.mv (.tmp 10),none⟩,⟨(some 29),.bin .shr (.tmp 28) (.const (.int .u64 32)),none⟩,⟨(some 30),.bin .add (.tmp 27) (.tmp 29),none⟩,⟨(some 11),.mv (.tmp 30),none⟩])
 (.seq (.region [⟨(some 31),.mv (.tmp 11),none⟩,⟨(some 32),.bin .and (.tmp 31) (.const (.int .u64 4294967295)),none⟩,⟨(some 12),.mv (.tmp 32),none⟩])
 (.seq (.region [⟨(some 33),.mv (.tmp 11),none⟩,⟨(some 34),.bin .shr (.tmp 33) (.const (.int .u64 32)),none⟩,⟨(some 13),.mv (.tmp 34),none⟩])
 (.seq (.region [⟨(some 35),.mv (.tmp 12),none⟩,⟨(some 36),.mv (.tmp 6),none⟩,⟨(some 37),.mv (.tmp 9),none⟩,⟨(some 38),.bin .mul (.tmp 36) (.tmp 37),none⟩,⟨(some 39),.bin .add (.tmp 35) (.tmp 38),none⟩,⟨(some 12),.mv (.tmp 39),none⟩])
 (.seq (.region [⟨(some 40),.mv (.tmp 7),none⟩,⟨(some 41),.mv (.tmp 9),none⟩,⟨(some 42),.bin .mul (.tmp 40) (.tmp 41),none⟩,⟨(some 43),.mv (.tmp 13),none⟩,⟨(some 44),.bin .add (.tmp 42) (.tmp 43),none⟩,⟨(some 45),.mv (.tmp 12),none⟩,⟨(some 46),.bin .shr (.tmp 45) (.const (.int .u64 32)),none⟩,⟨(some 47),.bin .add (.tmp 44) (.tmp 46),none⟩,⟨(some 4),.mv (.tmp 47),none⟩])
 (.seq (.region [⟨(some 48),.mv (.tmp 0),none⟩,⟨(some 49),.mv (.tmp 1),none⟩,⟨(some 50),.bin .mul (.tmp 48) (.tmp 49),none⟩,⟨(some 5),.mv (.tmp 50),none⟩])
 .ret))))))))))))⟩
theorem k236 : compFn Tryz.prog Tryz.f236 = some c236 := by kernel_rfl
-- (*croft/mem.Space).Fill
def c237 : AFunc := ⟨[.cell 8 false 1],(.seq (.region [⟨(some 8),.alloc [(.int .i64 0)],none⟩])
 (.seq (.region [⟨(some 9),.makeFunc 284 [] [(.tmp 8)],none⟩,⟨none,.deferv (.tmp 9) [],none⟩])
 (.seq (.region [⟨(some 10),.mv (.tmp 0),none⟩,⟨(some 11),.mv (.tmp 1),none⟩,⟨(some 12),.mv (.tmp 2),none⟩,⟨(some 13),.call 223 [(.tmp 10),(.tmp 11),(.tmp 12)],none⟩])
 (.seq (.block 0 (.loop (.seq (.seq (.region [⟨(some 14),.mv (.tmp 2),none⟩,⟨(some 15),.bin .gtr (.tmp 14) (.const (.int .u64 0)),none⟩])
 (.cond (.tmp 15) .skip (.exit 0)))
 (.seq (.block 1 (.seq (.region [⟨(some 18),.mv (.tmp 0),none⟩,⟨(some 19),.mv (.tmp 1),none⟩,⟨(some 20),.call 285 [(.tmp 18),(.tmp 19)],none⟩,⟨(some 21),.mv (.tmp 3),none⟩,⟨(some 22),.nilCheck (.tmp 20),none⟩,⟨none,.storeX 1 (.tmp 22) (.tmp 21),none⟩])
 (.region [⟨(some 23),.mv (.tmp 1),none⟩,⟨(some 24),.bin .add (.tmp 23) (.const (.int .u64 1)),none⟩,⟨(some 1),.mv (.tmp 24),none⟩])))
 (.region [⟨(some 16),.mv (.tmp 2),none⟩,⟨(some 17),.bin .sub (.tmp 16) (.const (.int .u64 1)),none⟩,⟨(some 2),.mv (.tmp 17),none⟩])))))
 (.seq (.region [⟨none,.storeX 1 (.tmp 8) (.const (.int .i64 0)),none⟩])
 .ret)))))⟩
theorem k237 : compFn Tryz.prog Tryz.f237 = some c237 := by kernel_rfl
-- (*croft/mem.Space).SetWord
def c238 : AFunc := ⟨[.cell 6 false 1],(.seq (.region [⟨(some 6),.alloc [(.int .i64 0)],none⟩])
 (.seq (.region [⟨(some 9),.makeFunc 286 [] [(.tmp 6)],none⟩,⟨none,.deferv (.tmp 9) [],none⟩])
 (.seq (.region [⟨(some 10),.mv (.tmp 0),none⟩,⟨(some 11),.mv (.tmp 1),none⟩,⟨(some 12),.call 223 [(.tmp 10),(.tmp 11),(.const (.int .u64 8))],none⟩])
 (.seq (.region [⟨(some 7),.alloc [(.int .u8 0),(.int .u8 0),(.int .u8 0),(.int .u8 0),(.int .u8 0),(.int .u8 0),(.int .u8 0),(.int .u8 0)],none⟩])
 (.seq (.seq (.region [⟨(some 13),.mv (.const (.int .i64 0)),none⟩])
 (.block 0 (.loop (.seq (.region [⟨(some 14),.bin .lss (.tmp 13) (.const (.int .i64 8)),none⟩])
 (.seq (.cond (.tmp 14) .skip (.exit 0))
 (.seq (.block 1 (.seq (.region [⟨(some 15),.mv (.tmp 13),none⟩,⟨(some 8),.mv (.tmp 15),none⟩])
 (.region [⟨(some 16),.mv (.tmp 8),none⟩,⟨(some 17),.mv (.tmp 2),none⟩,⟨(some 18),.mv (.tmp 8),none⟩,⟨(some 19),.bin .mul (.const (.int .i64 8)) (.tmp 18),none⟩,⟨(some 20),.bin .shr (.tmp 17) (.tmp 19),none⟩,⟨(some 21),.conv .u8 (.tmp 20),none⟩,⟨(some 22),.iaddrA 8 1 (.tmp 7) (.tmp 16),none⟩,⟨none,.storeX 1 (.tmp 22) (.tmp 21),none⟩])))
 (.region [⟨(some 23),.bin .add (.tmp 13) (.const (.int .i64 1)),none⟩,⟨(some 13),.mv (.tmp 23),none⟩])))))))
 (.seq (.region [⟨(some 24),.mv (.tmp 0),none⟩,⟨(some 25),.mv (.tmp 1),none⟩,⟨(some 26),.sliceArr 8 1 (.tmp 7) none none,none⟩,⟨(some 27),.call 280 [(.tmp 24),(.tmp 25),(.tmp 26)],none⟩])
 (.seq (.region [⟨none,.storeX 1 (.tmp 6) (.const (.int .i64 0)),none⟩])
 .ret)))))))⟩
theorem k238 : compFn Tryz.prog Tryz.f238 = some c238 := by kernel_rfl
-- slices.AppendSeq[[]uint64,uint64]
def c239 : AFunc := ⟨[.tmp 4],(.seq (.region [⟨(some 2),.box 1 (.tmp 0),none⟩,⟨(some 4),.mv (.const (.slice none 0 0)),none⟩])
 (.seq (.seq (.region [⟨(some 6),.mv (.tmp 1),none⟩])
 (.block 0 (.rangeFunc (.tmp 6) [7] (.region [⟨(some 5),.mv (.tmp 7),none⟩])
 (.block 1 (.region [⟨(some 8),.loadX false 1 (.tmp 2),none⟩,⟨(some 9),.mv (.tmp 5),none⟩,⟨(some 10),.mkSlice 1 1 [(.int .u64 0)] [(0,1,(.tmp 9))],none⟩,⟨(some 11),.appendX 1 8 (.tmp 8) (.tmp 10),none⟩,⟨none,.storeX 1 (.tmp 2) (.tmp 11),none⟩])))))
 (.seq (.region [⟨(some 12),.loadX false 1 (.tmp 2),none⟩,⟨(some 4),.mv (.tmp 12),none⟩])
 .ret)))⟩
theorem k239 : compFn Tryz.prog Tryz.f239 = some c239 := by kernel_rfl
-- maps.Keys[map[uint64]*croft/march.object,uint64,*croft/march.object]$1
def c240 : AFunc := ⟨[],(.seq (.region [⟨(some 4),.loadX false 1 (.tmp 1),none⟩,⟨(some 5),.rangeM (.tmp 4),none⟩])
 (.block 0 (.loop (.seq (.region [⟨(some 6),.nextM (.tmp 5),none⟩,⟨(some 7),.extract (.tmp 6) 0,none⟩])
 (.seq (.cond (.tmp 7) .skip (.exit 0))
 (.block 1 (.seq (.region [⟨(some 8),.entryM (.tmp 5),none⟩,⟨(some 9),.extract (.tmp 8) 0,none⟩,⟨(some 3),.mv (.tmp 9),none⟩])
 (.seq (.region [⟨(some 10),.mv (.tmp 0),none⟩,⟨(some 11),.mv (.tmp 3),none⟩,⟨(some 12),.callv (.tmp 10) [(.tmp 11)],none⟩,⟨(some 13),.not (.tmp 12),none⟩])
 (.cond (.tmp 13) .ret .skip)))))))))⟩
theorem k240 : compFn Tryz.prog Tryz.f240 = some c240 := by kernel_rfl
-- slices.pdqsortCmpFunc[uint64]
def c241 : AFunc := ⟨[],(.seq (.region [⟨(some 10),.mv (.const (.bool true)),none⟩])
 (.seq (.region [⟨(some 11),.mv (.const (.bool true)),none⟩])
 (.block 0 (.loop (.block 1 (.seq (.region [⟨(some 21),.mv (.tmp 2),none⟩,⟨(some 22),.mv (.tmp 1),none⟩,⟨(some 23),.bin .sub (.tmp 21) (.tmp 22),none⟩,⟨(some 12),.mv (.tmp 23),none⟩])
 (.seq (.seq (.region [⟨(some 24),.mv (.tmp 12),none⟩,⟨(some 25),.bin .leq (.tmp 24) (.const (.int .i64 12)),none⟩])
 (.cond (.tmp 25) (.seq (.region [⟨(some 26),.mv (.tmp 0),none⟩,⟨(some 27),.mv (.tmp 1),none⟩,⟨(some 28),.mv (.tmp 2),none⟩,⟨(some 29),.mv (.tmp 4),none⟩,⟨(some 30),.call 287 [(.tmp 26),(.tmp 27),(.tmp 28),(.tmp 29)],none⟩])
 .ret) .skip))
 (.seq (.seq (.region [⟨(some 31),.mv (.tmp 3),none⟩,⟨(some 32),.bin .eql (.tmp 31) (.const (.int .i64 0)),none⟩])
 (.cond (.tmp 32) (.seq (.region [⟨(some 33),.mv (.tmp 0),none⟩,⟨(some 34),.mv (.tmp 1),none⟩,⟨(some 35),.mv (.tmp 2),none⟩,⟨(some 36),.mv (.tmp 4),none⟩,⟨(some 37),.call 288 [(.tmp 33),(.tmp 34),(.tmp 35),(.tmp 36)],none⟩])
 .ret) .skip))
 (.seq (.seq (.region [⟨(some 38),.mv (.tmp 10),none⟩,⟨(some 39),.not (.tmp 38),none⟩])
 (.cond (.tmp 39) (.seq (.region [⟨(some 40),.mv (.tmp 0),none⟩,⟨(some 41),.mv (.tmp 1),none⟩,⟨(some 42),.mv (.tmp 2),none⟩,⟨(some 43),.mv (.tmp 4),none⟩,⟨(some 44),.call 289 [(.tmp 40),(.tmp 41),(.tmp 42),(.tmp 43)],none⟩])
 (.region [⟨(some 45),.mv (.tmp 3),none⟩,⟨(some 46),.bin .sub (.tmp 45) (.const (.int .i64 1)),none⟩,⟨(some 3),.mv (.tmp 46),none⟩])) .skip))
 (.seq (.region [⟨(some 48),.mv (.tmp 0),none⟩,⟨(some 49),.mv (.tmp 1),none⟩,⟨(some 50),.mv (.tmp 2),none⟩,⟨(some 51),.mv (.tmp 4),none⟩,⟨(some 52),.call 290 [(.tmp 48),(.tmp 49),(.tmp 50),(.tmp 51)],none⟩,⟨(some 47),.mv (.tmp 52),none⟩,⟨(some 53),.extract (.tmp 47) 0,none⟩,⟨(some 54),.extract (.tmp 47) 1,none⟩,⟨(some 13),.mv (.tmp 53),none⟩,⟨(some 14),.mv (.tmp 54),none⟩])
 (.seq (.seq (.region [⟨(some 55),.mv (.tmp 14),none⟩,⟨(some 56),.bin .eql (.tmp 55) (.const (.int .i64 2)),none⟩])
 (.cond (.tmp 56) (.seq (.region [⟨(some 57),.mv (.tmp 0),none⟩,⟨(some 58),.mv (.tmp 1),none⟩,⟨(some 59),.mv (.tmp 2),none⟩,⟨(some 60),.mv (.tmp 4),none⟩,⟨(some 61),.call 291 [(.tmp 57),(.tmp 58),(.tmp 59),(.tmp 60)],none⟩])
 (.seq (.region [⟨(some 62),.mv (.tmp 2),none⟩,⟨(some 63),.bin .sub (.tmp 62) (.const (.int .i64 1)),none⟩,⟨(some 64),.mv (.tmp 13),none⟩,⟨(some 65),.mv (.tmp 1),none⟩,⟨(some 66),.bin .sub (.tmp 64) (.tmp 65),none⟩,⟨(some 67),.bin .sub (.tmp 63) (.tmp 66),none⟩,⟨(some 13),.mv (.tmp 67),none⟩])
 (.region [⟨(some 14),.mv (.const (.int .i64 1)),none⟩]))) .skip))
 (.seq (.seq (.region [⟨(some 68),.mv (.tmp 10),none⟩,⟨(some 69),.mv (.tmp 68),none⟩,⟨(some 70),.mv (.tmp 11),some (69,true)⟩,⟨(some 71),.pick (.tmp 69) (.tmp 70) (.const (.bool false)),none⟩,⟨(some 72),.mv (.tmp 71),none⟩,⟨(some 73),.mv (.tmp 14),some (72,true)⟩,⟨(some 74),.bin .eql (.tmp 73) (.const (.int .i64 1)),some (72,true)⟩,⟨(some 75),.pick (.tmp 72) (.tmp 74) (.const (.bool false)),none⟩])
 (.cond (.tmp 75) (.seq (.region [⟨(some 76),.mv (.tmp 0),none⟩,⟨(some 77),.mv (.tmp 1),none⟩,⟨(some 78),.mv (.tmp 2),none⟩,⟨(some 79),.mv (.tmp 4),none⟩,⟨(some 80),.call 292 [(.tmp 76),(.tmp 77),(.tmp 78),(.tmp 79)],none⟩])
 (.cond (.tmp 80) .ret .skip)) .skip))
 (.seq (.seq (.draw [⟨⟨(some 81),.mv (.tmp 1),none⟩,0,0⟩,⟨⟨(some 82),.bin .gtr (.tmp 81) (.const (.int .i64 0)),none⟩,0,0⟩,⟨⟨(some 83),.mv (.tmp 82),none⟩,0,0⟩,⟨⟨(some 84),.mv (.tmp 4),some (83,true)⟩,0,0⟩,⟨⟨(some 85),.mv (.tmp 0),some (83,true)⟩,0,0⟩,⟨⟨(some 86),.mv (.tmp 1),some (83,true)⟩,0,0⟩,⟨⟨(some 87),.bin .sub (.tmp 86) (.const (.int .i64 1)),some (83,true)⟩,0,0⟩,⟨⟨(some 88),.iaddrX 1 (.tmp 85) (.tmp 87),some (83,true)⟩,0,0⟩,⟨⟨(some 89),.loadX false 1 (.tmp 88),some (83,true)⟩,0,0⟩,⟨⟨(some 90),.mv (.tmp 0),some (83,true)⟩,0,0⟩,⟨⟨(some 91),.mv (.tmp 13),some (83,true)⟩,0,0⟩,⟨⟨(some 92),.iaddrX 1 (.tmp 90) (.tmp 91),some (83,true)⟩,0,0⟩,⟨⟨(some 93),.loadX false 1 (.tmp 92),some (83,true)⟩,0,0⟩,⟨⟨(some 94),.callv (.tmp 84) [(.tmp 89),(.tmp 93)],some (83,true)⟩,0,1⟩,⟨⟨(some 95),.bin .lss (.tmp 94) (.const (.int .i64 0)),some (83,true)⟩,1,1⟩,⟨⟨(some 96),.not (.tmp 95),some (83,true)⟩,1,1⟩,⟨⟨(some 97),.pick (.tmp 83) (.tmp 96) (.const (.bool false)),none⟩,1,1⟩])
 (.cond (.tmp 97) (.seq (.region [⟨(some 98),.mv (.tmp 0),none⟩,⟨(some 99),.mv (.tmp 1),none⟩,⟨(some 100),.mv (.tmp 2),none⟩,⟨(some 101),.mv (.tmp 13),none⟩,⟨(some 102),.mv (.tmp 4),none⟩,⟨(some 103),.call 293 [(.tmp 98),(.tmp 99),(.tmp 100),(.tmp 101),(.tmp 102)],none⟩,⟨(some 15),.mv (.tmp 103),none⟩])
 (.seq (.region [⟨(some 104),.mv (.tmp 15),none⟩,⟨(some 1),.mv (.tmp 104),none⟩])
 (.exit 1))) .skip))
 (.seq (.region [⟨(some 106),.mv (.tmp 0),none⟩,⟨(some 107),.mv (.tmp 1),none⟩,⟨(some 108),.mv (.tmp 2),none⟩,⟨(some 109),.mv (.tmp 13),none⟩,⟨(some 110),.mv (.tmp 4),none⟩,⟨(some 111),.call 294 [(.tmp 106),(.tmp 107),(.tmp 108),(.tmp 109),(.tmp 110)],none⟩,⟨(some 105),.mv (.tmp 111),none⟩,⟨(some 112),.extract (.tmp 105) 0,none⟩,⟨(some 113),.extract (.tmp 105) 1,none⟩,⟨(some 16),.mv (.tmp 112),none⟩,⟨(some 17),.mv (.tmp 113),none⟩])
 (.seq (.region [⟨(some 114),.mv (.tmp 17),none⟩,⟨(some 11),.mv (.tmp 114),none⟩])
 (.seq (.region [⟨(some 115),.mv (.tmp 16),none⟩,⟨(some 116),.mv (.tmp 1),none⟩,⟨(some 117),.bin .sub (.tmp 115) (.tmp 116),none⟩,⟨(some 118),.mv (.tmp 2),none⟩,⟨(some 119),.mv (.tmp 16),none⟩,⟨(some 120),.bin .sub (.tmp 118) (.tmp 119),none⟩,⟨(some 18),.mv (.tmp 117),none⟩,⟨(some 19),.mv (.tmp 120),none⟩])
 (.seq (.region [⟨(some 121),.mv (.tmp 12),none⟩,⟨(some 122),.bin .quo (.tmp 121) (.const (.int .i64 8)),none⟩,⟨(some 20),.mv (.tmp 122),none⟩])
 (.seq (.region [⟨(some 123),.mv (.tmp 18),none⟩,⟨(some 124),.mv (.tmp 19),none⟩,⟨(some 125),.bin .lss (.tmp 123) (.tmp 124),none⟩])
 (.cond (.tmp 125) (.seq (.region [⟨(some 126),.mv (.tmp 18),none⟩,⟨(some 127),.mv (.tmp 20),none⟩,⟨(some 128),.bin .geq (.tmp 126) (.tmp 127),none⟩,⟨(some 10),.mv (.tmp 128),none⟩])
 (.seq (.region [⟨(some 129),.mv (.tmp 0),none⟩,⟨(some 130),.mv (.tmp 1),none⟩,⟨(some 131),.mv (.tmp 16),none⟩,⟨(some 132),.mv (.tmp 3),none⟩,⟨(some 133),.mv (.tmp 4),none⟩,⟨(some 134),.call 241 [(.tmp 129),(.tmp 130),(.tmp 131),(.tmp 132),(.tmp 133)],none⟩])
 (.region [⟨(some 135),.mv (.tmp 16),none⟩,⟨(some 136),.bin .add (.tmp 135) (.const (.int .i64 1)),none⟩,⟨(some 1),.mv (.tmp 136),none⟩]))) (.seq (.region [⟨(some 137),.mv (.tmp 19),none⟩,⟨(some 138),.mv (.tmp 20),none⟩,⟨(some 139),.bin .geq (.tmp 137) (.tmp 138),none⟩,⟨(some 10),.mv (.tmp 139),none⟩])
 (.seq (.region [⟨(some 140),.mv (.tmp 0),none⟩,⟨(some 141),.mv (.tmp 16),none⟩,⟨(some 142),.bin .add (.tmp 141) (.const (.int .i64 1)),none⟩,⟨(some 143),.mv (.tmp 2),none⟩,⟨(some 144),.mv (.tmp 3),none⟩,⟨(some 145),.mv (.tmp 4),none⟩,⟨(some 146),.call 241 [(.tmp 140),(.tmp 142),(.tmp 143),(.tmp 144),(.tmp 145)],none⟩])
 (.region [⟨(some 147),.mv (.tmp 16),none⟩,⟨(some 2),.mv (.tmp 147),none⟩]))))))))))))))))))))))⟩
theorem k241 : compFn Tryz.prog Tryz.f241 = some c241 := by kernel_rfl
-- math/bits.Len
def c242 : AFunc := ⟨[.tmp 2],(.seq (.region [⟨(some 2),.mv (.const (.int .i64 0)),none⟩])
 (.seq (.cond (.const (.bool false)) (.seq (.region [⟨(some 3),.mv (.tmp 0),none⟩,⟨(some 4),.conv .u32 (.tmp 3),none⟩,⟨(some 5),.call 295 [(.tmp 4)],none⟩,⟨(some 2),.mv (.tmp 5),none⟩])
 .ret) .skip)
 (.seq (.region [⟨(some 6),.mv (.tmp 0),none⟩,⟨(some 7),.call 296 [(.tmp 6)],none⟩,⟨(some 2),.mv (.tmp 7),none⟩])
 .ret)))⟩
theorem k242 : compFn Tryz.prog Tryz.f242 = some c242 := by kernel_rfl
-- (*croft/mem.Space).Word
def c243 : AFunc := ⟨[.tmp 4,.cell 5 false 1],(.seq (.region [⟨(some 4),.mv (.const (.int .u64 0)),none⟩,⟨(some 5),.alloc [(.int .i64 0)],none⟩])
 (.seq (.region [⟨(some 8),.makeFunc 297 [] [(.tmp 5)],none⟩,⟨none,.deferv (.tmp 8) [],none⟩])
 (.seq (.region [⟨(some 9),.mv (.tmp 0),none⟩,⟨(some 10),.mv (.tmp 1),none⟩,⟨(some 11),.call 223 [(.tmp 9),(.tmp 10),(.const (.int .u64 8))],none⟩])
 (.seq (.region [⟨(some 6),.alloc [(.int .u8 0),(.int .u8 0),(.int .u8 0),(.int .u8 0),(.int .u8 0),(.int .u8 0),(.int .u8 0),(.int .u8 0)],none⟩])
 (.seq (.region [⟨(some 12),.mv (.tmp 0),none⟩,⟨(some 13),.mv (.tmp 1),none⟩,⟨(some 14),.sliceArr 8 1 (.tmp 6) none none,none⟩,⟨(some 15),.call 224 [(.tmp 12),(.tmp 13),(.tmp 14)],none⟩])
 (.seq (.seq (.region [⟨(some 16),.mv (.const (.int .i64 0)),none⟩])
 (.block 0 (.loop (.seq (.region [⟨(some 17),.bin .lss (.tmp 16) (.const (.int .i64 8)),none⟩])
 (.seq (.cond (.tmp 17) .skip (.exit 0))
 (.seq (.block 1 (.seq (.region [⟨(some 18),.mv (.tmp 16),none⟩,⟨(some 7),.mv (.tmp 18),none⟩])
 (.region [⟨(some 19),.mv (.tmp 4),none⟩,⟨(some 20),.mv (.tmp 7),none⟩,⟨(some 21),.iaddrA 8 1 (.tmp 6) (.tmp 20),none⟩,⟨(some 22),.loadX false 1 (.tmp 21),none⟩,⟨(some 23),.conv .u64 (.tmp 22),none⟩,⟨(some 24),.mv (.tmp 7),none⟩,⟨(some 25),.bin .mul (.const (.int .i64 8)) (.tmp 24),none⟩,⟨(some 26),.bin .shl (.tmp 23) (.tmp 25),none⟩,⟨(some 27),.bin .or (.tmp 19) (.tmp 26),none⟩,⟨(some 4),.mv (.tmp 27),none⟩])))
 (.region [⟨(some 28),.bin .add (.tmp 16) (.const (.int .i64 1)),none⟩,⟨(some 16),.mv (.tmp 28),none⟩])))))))
 (.seq (.region [⟨(some 29),.mv (.tmp 4),none⟩,⟨(some 4),.mv (.tmp 29),none⟩,⟨none,.storeX 1 (.tmp 5) (.const (.int .i64 0)),none⟩])
 .ret)))))))⟩
theorem k243 : compFn Tryz.prog Tryz.f243 = some c243 := by kernel_rfl
-- croft/bits.Ceil[uint64]
def c251 : AFunc := ⟨[.tmp 2,.tmp 3],(.seq (.region [⟨(some 2),.mv (.const (.int .u64 0)),none⟩,⟨(some 3),.mv (.const (.bool false)),none⟩])
 (.seq (.seq (.region [⟨(some 5),.mv (.tmp 0),none⟩,⟨(some 6),.bin .leq (.tmp 5) (.const (.int .u64 1)),none⟩])
 (.cond (.tmp 6) (.seq (.region [⟨(some 2),.mv (.const (.int .u64 1)),none⟩,⟨(some 3),.mv (.const (.bool true)),none⟩])
 .ret) .skip))
 (.seq (.region [⟨(some 7),.conv .u64 (.const (.int .i64 1)),none⟩,⟨(some 8),.mv (.tmp 0),none⟩,⟨(some 9),.bin .sub (.tmp 8) (.const (.int .u64 1)),none⟩,⟨(some 10),.call 303 [(.tmp 9)],none⟩,⟨(some 11),.bin .add (.tmp 10) (.const (.int .i64 1)),none⟩,⟨(some 12),.bin .shl (.tmp 7) (.tmp 11),none⟩,⟨(some 4),.mv (.tmp 12),none⟩])
 (.seq (.region [⟨(some 13),.mv (.tmp 4),none⟩,⟨(some 14),.mv (.tmp 4),none⟩,⟨(some 15),.bin .neq (.tmp 14) (.const (.int .u64 0)),none⟩,⟨(some 2),.mv (.tmp 13),none⟩,⟨(some 3),.mv (.tmp 15),none⟩])
 .ret))))⟩
theorem k251 : compFn Tryz.prog Tryz.f251 = some c251 := by kernel_rfl
-- (*croft/malloc.Heap).round
def c253 : AFunc := ⟨[.tmp 6,.tmp 7],(.seq (.region [⟨(some 6),.mv (.const (.int .u64 0)),none⟩,⟨(some 7),.mv (.const (.int .i64 0)),none⟩])
 (.seq (.seq (.region [⟨(some 10),.mv (.tmp 2),none⟩,⟨(some 11),.call 209 [(.tmp 10)],none⟩,⟨(some 12),.not (.tmp 11),none⟩])
 (.cond (.tmp 12) (.seq (.region [⟨(some 6),.mv (.const (.int .u64 0)),none⟩,⟨(some 7),.mv (.const (.int .i64 1)),none⟩])
 .ret) .skip))
 (.seq (.region [⟨(some 14),.mv (.tmp 1),none⟩,⟨(some 15),.mv (.tmp 2),none⟩,⟨(some 16),.maxmin true [(.tmp 14),(.tmp 15),(.const (.int .u64 16))],none⟩,⟨(some 17),.call 251 [(.tmp 16)],none⟩,⟨(some 13),.mv (.tmp 17),none⟩,⟨(some 18),.extract (.tmp 13) 0,none⟩,⟨(some 19),.extract (.tmp 13) 1,none⟩,⟨(some 8),.mv (.tmp 18),none⟩,⟨(some 9),.mv (.tmp 19),none⟩])
 (.seq (.seq (.region [⟨(some 20),.mv (.tmp 9),none⟩,⟨(some 21),.not (.tmp 20),none⟩,⟨(some 22),.mv (.tmp 21),none⟩,⟨(some 23),.mv (.tmp 8),some (22,false)⟩,⟨(some 24),.mv (.tmp 0),some (22,false)⟩,⟨(some 25),.call 304 [(.tmp 24)],some (22,false)⟩,⟨(some 26),.bin .gtr (.tmp 23) (.tmp 25),some (22,false)⟩,⟨(some 27),.pick (.tmp 22) (.const (.bool true)) (.tmp 26),none⟩])
 (.cond (.tmp 27) (.seq (.region [⟨(some 6),.mv (.const (.int .u64 0)),none⟩,⟨(some 7),.mv (.const (.int .i64 3)),none⟩])
 .ret) .skip))
 (.seq (.region [⟨(some 28),.mv (.tmp 8),none⟩,⟨(some 6),.mv (.tmp 28),none⟩,⟨(some 7),.mv (.const (.int .i64 0)),none⟩])
 .ret)))))⟩
theorem k253 : compFn Tryz.prog Tryz.f253 = some c253 := by kernel_rfl
-- croft/malloc.order
def c256 : AFunc := ⟨[.tmp 2],(.seq (.region [⟨(some 2),.mv (.const (.int .i64 0)),none⟩])
 (.seq (.region [⟨(some 3),.mv (.tmp 0),none⟩,⟨(some 4),.bin .quo (.tmp 3) (.const (.int .u64 4096)),none⟩,⟨(some 5),.call 303 [(.tmp 4)],none⟩,⟨(some 2),.mv (.tmp 5),none⟩])
 .ret))⟩
theorem k256 : compFn Tryz.prog Tryz.f256 = some c256 := by kernel_rfl
-- (*croft/malloc.Heap).take
def c257 : AFunc := ⟨[.tmp 6,.tmp 7],(.seq (.region [⟨(some 6),.mv (.const (.int .u64 0)),none⟩,⟨(some 7),.mv (.const (.int .i64 0)),none⟩])
 (.seq (.seq (.region [⟨(some 14),.mv (.tmp 1),none⟩,⟨(some 15),.bin .lss (.tmp 14) (.const (.int .u64 4096)),none⟩])
 (.cond (.tmp 15) (.seq (.draw [⟨⟨(some 17),.mv (.tmp 0),none⟩,0,1⟩,⟨⟨(some 18),.nilCheck (.tmp 17),none⟩,0,1⟩,⟨⟨(some 19),.faddr 6 (.tmp 18),none⟩,0,1⟩,⟨⟨(some 20),.loadX false 1 (.tmp 19),none⟩,0,1⟩,⟨⟨(some 21),.mv (.tmp 1),none⟩,0,0⟩,⟨⟨(some 22),.call 308 [(.tmp 21)],none⟩,0,1⟩,⟨⟨(some 23),.mv (.tmp 2),none⟩,0,1⟩,⟨⟨(some 24),.call 307 [(.tmp 20),(.tmp 22),(.tmp 23)],none⟩,1,2⟩,⟨⟨(some 16),.mv (.tmp 24),none⟩,2,2⟩,⟨⟨(some 25),.extract (.tmp 16) 0,none⟩,2,2⟩,⟨⟨(some 26),.extract (.tmp 16) 1,none⟩,2,2⟩,⟨⟨(some 27),.extract (.tmp 16) 2,none⟩,2,2⟩,⟨⟨(some 8),.mv (.tmp 25),none⟩,2,2⟩,⟨⟨(some 9),.mv (.tmp 26),none⟩,2,2⟩,⟨⟨(some 10),.mv (.tmp 27),none⟩,2,2⟩])
 (.seq (.region [⟨(some 28),.mv (.tmp 8),none⟩,⟨(some 29),.mv (.tmp 10),none⟩,⟨(some 6),.mv (.tmp 28),none⟩,⟨(some 7),.mv (.tmp 29),none⟩])
 .ret)) .skip))
 (.seq (.draw [⟨⟨(some 31),.mv (.tmp 0),none⟩,0,1⟩,⟨⟨(some 32),.nilCheck (.tmp 31),none⟩,0,1⟩,⟨⟨(some 33),.faddr 5 (.tmp 32),none⟩,0,1⟩,⟨⟨(some 34),.loadX false 1 (.tmp 33),none⟩,0,1⟩,⟨⟨(some 35),.mv (.tmp 1),none⟩,0,0⟩,⟨⟨(some 36),.call 256 [(.tmp 35)],none⟩,0,1⟩,⟨⟨(some 37),.mv (.tmp 2),none⟩,0,1⟩,⟨⟨(some 38),.call 309 [(.tmp 34),(.tmp 36),(.tmp 37)],none⟩,1,2⟩,⟨⟨(some 30),.mv (.tmp 38),none⟩,2,2⟩,⟨⟨(some 39),.extract (.tmp 30) 0,none⟩,2,2⟩,⟨⟨(some 40),.extract (.tmp 30) 1,none⟩,2,2⟩,⟨⟨(some 41),.extract (.tmp 30) 2,none⟩,2,2⟩,⟨⟨(some 11),.mv (.tmp 39),none⟩,2,2⟩,⟨⟨(some 12),.mv (.tmp 40),none⟩,2,2⟩,⟨⟨(some 13),.mv (.tmp 41),none⟩,2,2⟩])
 (.seq (.region [⟨(some 42),.mv (.tmp 11),none⟩,⟨(some 43),.mv (.tmp 13),none⟩,⟨(some 6),.mv (.tmp 42),none⟩,⟨(some 7),.mv (.tmp 43),none⟩])
 .ret))))⟩
theorem k257 : compFn Tryz.prog Tryz.f257 = some c257 := by kernel_rfl
-- croft/mem.may
def c260 : AFunc := ⟨[.tmp 2],(.seq (.region [⟨(some 1),.box 3 (.tmp 0),none⟩,⟨(some 2),.mv (.const (.bool false)),none⟩])
 (.seq (.seq (.region [⟨(some 4),.faddr 2 (.tmp 1),none⟩,⟨(some 5),.loadX false 1 (.tmp 4),none⟩,⟨(some 6),.bin .lss (.tmp 5) (.const (.int .i64 0)),none⟩,⟨(some 7),.mv (.tmp 6),none⟩,⟨(some 8),.faddr 2 (.tmp 1),some (7,false)⟩,⟨(some 9),.loadX false 1 (.tmp 8),some (7,false)⟩,⟨(some 10),.bin .gtr (.tmp 9) (.const (.int .i64 8)),some (7,false)⟩,⟨(some 11),.pick (.tmp 7) (.const (.bool true)) (.tmp 10),none⟩,⟨(some 12),.mv (.tmp 11),none⟩,⟨(some 13),.faddr 1 (.tmp 1),some (12,false)⟩,⟨(some 14),.loadX false 1 (.tmp 13),some (12,false)⟩,⟨(some 15),.bin .lss (.tmp 14) (.const (.int .i64 1)),some (12,false)⟩,⟨(some 16),.pick (.tmp 12) (.const (.bool true)) (.tmp 15),none⟩,⟨(some 17),.mv (.tmp 16),none⟩,⟨(some 18),.faddr 1 (.tmp 1),some (17,false)⟩,⟨(some 19),.loadX false 1 (.tmp 18),some (17,false)⟩,⟨(some 20),.bin .gtr (.tmp 19) (.const (.int .i64 64)),some (17,false)⟩,⟨(some 21),.pick (.tmp 17) (.const (.bool true)) (.tmp 20),none⟩,⟨(some 22),.mv (.tmp 21),none⟩,⟨(some 23),.faddr 1 (.tmp 1),some (22,false)⟩,⟨(some 24),.loadX false 1 (.tmp 23),some (22,false)⟩,⟨(some 25),.faddr 2 (.tmp 1),some (22,false)⟩,⟨(some 26),.loadX false 1 (.tmp 25),some (22,false)⟩,⟨(some 27),.bin .shl (.tmp 24) (.tmp 26),some (22,false)⟩,⟨(some 28),.bin .gtr (.tmp 27) (.const (.int .i64 1024)),some (22,false)⟩,⟨(some 29),.pick (.tmp 22) (.const (.bool true)) (.tmp 28),none⟩])
 (.cond (.tmp 29) (.seq (.region [⟨(some 2),.mv (.const (.bool false)),none⟩])
 .ret) .skip))
 (.seq (.region [⟨(some 30),.faddr 2 (.tmp 1),none⟩,⟨(some 31),.loadX false 1 (.tmp 30),none⟩,⟨(some 32),.bin .shl (.const (.int .u64 4096)) (.tmp 31),none⟩,⟨(some 3),.mv (.tmp 32),none⟩])
 (.seq (.region [⟨(some 33),.faddr 0 (.tmp 1),none⟩,⟨(some 34),.loadX false 1 (.tmp 33),none⟩,⟨(some 35),.bin .neq (.tmp 34) (.const (.int .u64 0)),none⟩,⟨(some 36),.mv (.tmp 35),none⟩,⟨(some 37),.faddr 0 (.tmp 1),some (36,true)⟩,⟨(some 38),.loadX false 1 (.tmp 37),some (36,true)⟩,⟨(some 39),.mv (.tmp 3),some (36,true)⟩,⟨(some 40),.bin .rem (.tmp 38) (.tmp 39),some (36,true)⟩,⟨(some 41),.bin .eql (.tmp 40) (.const (.int .u64 0)),some (36,true)⟩,⟨(some 42),.pick (.tmp 36) (.tmp 41) (.const (.bool false)),none⟩,⟨(some 43),.mv (.tmp 42),none⟩,⟨(some 44),.faddr 0 (.tmp 1),some (43,true)⟩,⟨(some 45),.loadX false 1 (.tmp 44),some (43,true)⟩,⟨(some 46),.bin .leq (.tmp 45) (.const (.int .u64 9223372036854775808)),some (43,true)⟩,⟨(some 47),.pick (.tmp 43) (.tmp 46) (.const (.bool false)),none⟩,⟨(some 48),.mv (.tmp 47),none⟩,⟨(some 49),.mv (.tmp 3),some (48,true)⟩,⟨(some 50),.faddr 1 (.tmp 1),some (48,true)⟩,⟨(some 51),.loadX false 1 (.tmp 50),some (48,true)⟩,⟨(some 52),.conv .u64 (.tmp 51),some (48,true)⟩,⟨(some 53),.bin .mul (.tmp 49) (.tmp 52),some (48,true)⟩,⟨(some 54),.faddr 0 (.tmp 1),some (48,true)⟩,⟨(some 55),.loadX false 1 (.tmp 54),some (48,true)⟩,⟨(some 56),.bin .sub (.const (.int .u64 9223372036854775808)) (.tmp 55),some (48,true)⟩,⟨(some 57),.bin .leq (.tmp 53) (.tmp 56),some (48,true)⟩,⟨(some 58),.pick (.tmp 48) (.tmp 57) (.const (.bool false)),none⟩,⟨(some 2),.mv (.tmp 58),none⟩])
 .ret))))⟩
theorem k260 : compFn Tryz.prog Tryz.f260 = some c260 := by kernel_rfl
-- croft/bits.NewSet
def c261 : AFunc := ⟨[.tmp 2],(.seq (.region [⟨(some 2),.mv (.const (.ptr none)),none⟩])
 (.seq (.region [⟨(some 3),.mv (.tmp 0),none⟩,⟨(some 4),.call 311 [(.const (.slice none 0 0)),(.tmp 3)],none⟩,⟨(some 2),.mv (.tmp 4),none⟩])
 .ret))⟩
theorem k261 : compFn Tryz.prog Tryz.f261 = some c261 := by kernel_rfl
-- croft/buddy.Open
def c262 : AFunc := ⟨[.tmp 8,.tmp 9],(.seq (.region [⟨(some 4),.box 3 (.tmp 0),none⟩,⟨(some 8),.mv (.const (.ptr none)),none⟩,⟨(some 9),.mv (.const (.int .i64 0)),none⟩])
 (.seq (.seq (.region [⟨(some 13),.mv (.tmp 3),none⟩,⟨(some 14),.lenX (.tmp 13),none⟩,⟨(some 15),.faddr 2 (.tmp 4),none⟩,⟨(some 16),.loadX false 1 (.tmp 15),none⟩,⟨(some 17),.bin .add (.tmp 16) (.const (.int .i64 1)),none⟩,⟨(some 18),.bin .neq (.tmp 14) (.tmp 17),none⟩])
 (.cond (.tmp 18) (.seq (.region [⟨(some 8),.mv (.const (.ptr none)),none⟩,⟨(some 9),.mv (.const (.int .i64 7)),none⟩])
 .ret) .skip))
 (.seq (.region [⟨(some 19),.loadX true 3 (.tmp 4),none⟩,⟨(some 20),.mv (.tmp 1),none⟩,⟨(some 21),.mv (.tmp 2),none⟩,⟨(some 22),.build [(.int .u64 0),(.int .i64 0),(.int .i64 0),(.ptr none),(.ptr none),(.slice none 0 0)] [(0,3,(.tmp 19)),(3,1,(.tmp 20)),(4,1,(.tmp 21))],none⟩,⟨(some 23),.box 6 (.tmp 22),none⟩,⟨(some 10),.mv (.tmp 23),none⟩])
 (.seq (.seq (.region [⟨(some 24),.mv (.tmp 3),none⟩,⟨(some 25),.lenX (.tmp 24),none⟩,⟨(some 26),.mv (.const (.int .i64 0)),none⟩])
 (.block 0 (.loop (.seq (.region [⟨(some 27),.bin .lss (.tmp 26) (.tmp 25),none⟩])
 (.seq (.cond (.tmp 27) .skip (.exit 0))
 (.seq (.block 1 (.seq (.region [⟨(some 28),.iaddrX 1 (.tmp 24) (.tmp 26),none⟩,⟨(some 29),.loadX false 1 (.tmp 28),none⟩,⟨(some 12),.mv (.tmp 29),none⟩])
 (.draw [⟨⟨(some 30),.mv (.tmp 10),none⟩,0,3⟩,⟨⟨(some 31),.mv (.tmp 10),none⟩,0,2⟩,⟨⟨(some 32),.nilCheck (.tmp 31),none⟩,0,2⟩,⟨⟨(some 33),.faddr 5 (.tmp 32),none⟩,0,2⟩,⟨⟨(some 34),.loadX false 1 (.tmp 33),none⟩,0,2⟩,⟨⟨(some 35),.mv (.tmp 1),none⟩,0,0⟩,⟨⟨(some 36),.mv (.tmp 12),none⟩,0,0⟩,⟨⟨(some 37),.call 312 [(.tmp 35),(.tmp 36)],none⟩,0,1⟩,⟨⟨(some 38),.mkSlice 1 1 [(.ptr none)] [(0,1,(.tmp 37))],none⟩,1,2⟩,⟨⟨(some 39),.appendX 1 8 (.tmp 34) (.tmp 38),none⟩,2,3⟩,⟨⟨(some 40),.nilCheck (.tmp 30),none⟩,3,3⟩,⟨⟨(some 41),.faddr 5 (.tmp 40),none⟩,3,3⟩,⟨⟨none,.storeX 1 (.tmp 41) (.tmp 39),none⟩,3,4⟩])))
 (.region [⟨(some 42),.bin .add (.tmp 26) (.const (.int .i64 1)),none⟩,⟨(some 26),.mv (.tmp 42),none⟩])))))))
 (.seq (.region [⟨(some 43),.mv (.tmp 10),none⟩,⟨(some 8),.mv (.tmp 43),none⟩,⟨(some 9),.mv (.const (.int .i64 0)),none⟩])
 .ret)))))⟩
theorem k262 : compFn Tryz.prog Tryz.f262 = some c262 := by kernel_rfl
-- (*croft/slab.Slab).Give
def c275 : AFunc := ⟨[.tmp 4],(.seq (.region [⟨(some 4),.mv (.const (.int .i64 0)),none⟩])
 (.seq (.region [⟨(some 13),.mv (.tmp 0),none⟩,⟨(some 14),.mv (.tmp 1),none⟩,⟨(some 15),.call 322 [(.tmp 13),(.tmp 14)],none⟩,⟨(some 12),.mv (.tmp 15),none⟩,⟨(some 16),.extract (.tmp 12) 0,none⟩,⟨(some 17),.extract (.tmp 12) 1,none⟩,⟨(some 18),.extract (.tmp 12) 2,none⟩,⟨(some 19),.extract (.tmp 12) 3,none⟩,⟨(some 7),.alloc [(.int .i64 0),(.int .i64 0),(.int .i64 0),(.int .i64 0),(.int .i64 0),(.int .i64 0),(.int .i64 0),(.int .u64 0),(.int .u64 0),(.int .u64 0),(.int .u64 0)],none⟩,⟨(some 5),.mv (.tmp 16),none⟩,⟨(some 6),.mv (.tmp 17),none⟩,⟨none,.storeX 11 (.tmp 7) (.tmp 18),none⟩,⟨(some 8),.mv (.tmp 19),none⟩])
 (.seq (.seq (.region [⟨(some 20),.mv (.tmp 8),none⟩,⟨(some 21),.not (.tmp 20),none⟩])
 (.cond (.tmp 21) (.seq (.region [⟨(some 4),.mv (.const (.int .i64 1)),none⟩])
 .ret) .skip))
 (.seq (.region [⟨(some 22),.mv (.tmp 0),none⟩,⟨(some 23),.nilCheck (.tmp 22),none⟩,⟨(some 24),.faddr 0 (.tmp 23),none⟩,⟨(some 25),.loadX false 1 (.tmp 24),none⟩,⟨(some 26),.nilCheck (.tmp 25),none⟩,⟨(some 27),.faddr 0 (.tmp 26),none⟩,⟨(some 28),.call 116 [(.tmp 27)],none⟩,⟨(some 9),.mv (.tmp 28),none⟩])
 (.seq (.region [⟨(some 29),.mv (.tmp 9),none⟩,⟨(some 30),.mv (.tmp 5),none⟩,⟨(some 31),.mv (.tmp 6),none⟩,⟨(some 32),.call 323 [(.tmp 29),(.tmp 30),(.tmp 31),(.const (.bool false))],none⟩])
 (.seq (.region [⟨(some 33),.mv (.tmp 0),none⟩,⟨(some 34),.call 324 [(.tmp 33)],none⟩,⟨(some 35),.mv (.tmp 5),none⟩,⟨(some 36),.conv .u64 (.tmp 35),none⟩,⟨(some 37),.bin .mul (.const (.int .u64 4096)) (.tmp 36),none⟩,⟨(some 38),.bin .add (.tmp 34) (.tmp 37),none⟩,⟨(some 10),.mv (.tmp 38),none⟩])
 (.seq (.block 0 (.seq (.block 3 (.seq (.block 2 (.seq (.block 1 (.seq (.seq (.seq (.region [⟨(some 40),.faddr 3 (.tmp 7),none⟩,⟨(some 41),.loadX false 1 (.tmp 40),none⟩,⟨(some 42),.bin .eql (.tmp 41) (.const (.int .i64 1)),none⟩,⟨(some 39),.mv (.tmp 42),none⟩])
 (.cond (.tmp 39) (.exit 1) .skip))
 (.seq (.region [⟨(some 44),.faddr 6 (.tmp 7),none⟩,⟨(some 45),.loadX false 1 (.tmp 44),none⟩,⟨(some 46),.bin .lss (.tmp 45) (.const (.int .i64 0)),none⟩,⟨(some 43),.mv (.tmp 46),none⟩])
 (.cond (.tmp 43) (.exit 2) .skip)))
 (.exit 3)))
 (.seq (.seq (.region [⟨(some 47),.mv (.tmp 0),none⟩,⟨(some 48),.mv (.tmp 5),none⟩,⟨(some 49),.faddr 2 (.tmp 7),none⟩,⟨(some 50),.loadX false 1 (.tmp 49),none⟩,⟨(some 51),.call 325 [(.tmp 47),(.tmp 48),(.tmp 50)],none⟩])
 (.seq (.region [⟨(some 52),.mv (.tmp 9),none⟩,⟨(some 53),.mv (.tmp 5),none⟩,⟨(some 54),.call 326 [(.tmp 52),(.tmp 53),(.const (.int .i64 0)),(.const (.int .i64 2))],none⟩])
 (.seq (.region [⟨(some 55),.mv (.tmp 0),none⟩,⟨(some 56),.nilCheck (.tmp 55),none⟩,⟨(some 57),.faddr 0 (.tmp 56),none⟩,⟨(some 58),.loadX false 1 (.tmp 57),none⟩,⟨(some 59),.mv (.tmp 10),none⟩,⟨(some 60),.call 276 [(.tmp 58),(.tmp 59),(.const (.int .i64 0))],none⟩,⟨(some 4),.mv (.tmp 60),none⟩])
 .ret)))
 (.exit 0))))
 (.region [⟨(some 61),.mv (.tmp 0),none⟩,⟨(some 62),.mv (.tmp 5),none⟩,⟨(some 63),.faddr 2 (.tmp 7),none⟩,⟨(some 64),.loadX false 1 (.tmp 63),none⟩,⟨(some 65),.call 327 [(.tmp 61),(.tmp 62),(.tmp 64)],none⟩])))
 (.seq (.seq (.region [⟨(some 11),.mv (.const (.int .u64 0)),none⟩])
 (.seq (.seq (.region [⟨(some 66),.faddr 6 (.tmp 7),none⟩,⟨(some 67),.loadX false 1 (.tmp 66),none⟩,⟨(some 68),.bin .geq (.tmp 67) (.const (.int .i64 0)),none⟩])
 (.cond (.tmp 68) (.draw [⟨⟨(some 69),.mv (.tmp 10),none⟩,0,0⟩,⟨⟨(some 70),.faddr 6 (.tmp 7),none⟩,0,0⟩,⟨⟨(some 71),.loadX false 1 (.tmp 70),none⟩,0,0⟩,⟨⟨(some 72),.conv .u64 (.tmp 71),none⟩,0,0⟩,⟨⟨(some 73),.faddr 2 (.tmp 7),none⟩,0,0⟩,⟨⟨(some 74),.loadX false 1 (.tmp 73),none⟩,0,0⟩,⟨⟨(some 75),.iaddrA 8 1 (.glob 1) (.tmp 74),none⟩,0,0⟩,⟨⟨(some 76),.loadX false 1 (.tmp 75),none⟩,0,0⟩,⟨⟨(some 77),.bin .mul (.tmp 72) (.tmp 76),none⟩,0,0⟩,⟨⟨(some 78),.bin .add (.tmp 69) (.tmp 77),none⟩,0,0⟩,⟨⟨(some 11),.mv (.tmp 78),none⟩,0,0⟩]) .skip))
 (.seq (.region [⟨(some 79),.mv (.tmp 0),none⟩,⟨(some 80),.nilCheck (.tmp 79),none⟩,⟨(some 81),.faddr 0 (.tmp 80),none⟩,⟨(some 82),.loadX false 1 (.tmp 81),none⟩,⟨(some 83),.nilCheck (.tmp 82),none⟩,⟨(some 84),.faddr 0 (.tmp 83),none⟩,⟨(some 85),.call 113 [(.tmp 84)],none⟩,⟨(some 86),.mv (.tmp 1),none⟩,⟨(some 87),.mv (.tmp 11),none⟩,⟨(some 88),.call 238 [(.tmp 85),(.tmp 86),(.tmp 87)],none⟩])
 (.region [⟨(some 89),.mv (.tmp 9),none⟩,⟨(some 90),.mv (.tmp 5),none⟩,⟨(some 91),.mv (.tmp 6),none⟩,⟨(some 92),.call 328 [(.tmp 89),(.tmp 90),(.tmp 91)],none⟩]))))
 (.exit 0))))
 (.seq (.region [⟨(some 4),.mv (.const (.int .i64 0)),none⟩])
 .ret))))))))⟩
theorem k275 : compFn Tryz.prog Tryz.f275 = some c275 := by kernel_rfl
-- (*croft/region.Pool).Give
def c276 : AFunc := ⟨[.tmp 6],(.seq (.region [⟨(some 6),.mv (.const (.int .i64 0)),none⟩])
 (.seq (.region [⟨(some 7),.mv (.tmp 0),none⟩,⟨(some 8),.nilCheck (.tmp 7),none⟩,⟨(some 9),.faddr 0 (.tmp 8),none⟩,⟨(some 10),.faddr 2 (.tmp 9),none⟩,⟨(some 11),.loadX false 1 (.tmp 10),none⟩,⟨(some 12),.mv (.tmp 1),none⟩,⟨(some 13),.mv (.tmp 2),none⟩,⟨(some 14),.call 329 [(.tmp 11),(.tmp 12),(.tmp 13)],none⟩,⟨(some 6),.mv (.tmp 14),none⟩])
 .ret))⟩
theorem k276 : compFn Tryz.prog Tryz.f276 = some c276 := by kernel_rfl
-- (*croft/pagemap.Map).Head
def c278 : AFunc := ⟨[.tmp 4],(.seq (.region [⟨(some 4),.mv (.const (.int .i64 0)),none⟩])
 (.seq (.region [⟨(some 8),.mv (.tmp 0),none⟩,⟨(some 9),.mv (.tmp 1),none⟩,⟨(some 10),.call 118 [(.tmp 8),(.tmp 9)],none⟩,⟨(some 7),.mv (.tmp 10),none⟩,⟨(some 11),.extract (.tmp 7) 0,none⟩,⟨(some 12),.extract (.tmp 7) 1,none⟩,⟨(some 5),.alloc [(.int .i64 0),(.int .i64 0),(.int .i64 0),(.int .i64 0),(.int .i64 0),(.int .i64 0),(.int .i64 0),(.int .u64 0),(.int .u64 0),(.int .u64 0),(.int .u64 0)],none⟩,⟨none,.storeX 11 (.tmp 5) (.tmp 11),none⟩,⟨(some 6),.mv (.tmp 12),none⟩])
 (.seq (.seq (.region [⟨(some 13),.mv (.tmp 6),none⟩,⟨(some 14),.not (.tmp 13),none⟩])
 (.cond (.tmp 14) (.seq (.region [⟨(some 4),.mv (.const (.int .i64 (-1))),none⟩])
 .ret) .skip))
 (.seq (.draw [⟨⟨(some 15),.mv (.tmp 1),none⟩,0,0⟩,⟨⟨(some 16),.faddr 1 (.tmp 5),none⟩,0,0⟩,⟨⟨(some 17),.loadX false 1 (.tmp 16),none⟩,0,0⟩,⟨⟨(some 18),.bin .shr (.tmp 15) (.tmp 17),none⟩,0,0⟩,⟨⟨(some 19),.faddr 1 (.tmp 5),none⟩,0,0⟩,⟨⟨(some 20),.loadX false 1 (.tmp 19),none⟩,0,0⟩,⟨⟨(some 21),.bin .shl (.tmp 18) (.tmp 20),none⟩,0,0⟩,⟨⟨(some 4),.mv (.tmp 21),none⟩,0,0⟩])
 .ret))))⟩
theorem k278 : compFn Tryz.prog Tryz.f278 = some c278 := by kernel_rfl
-- (*croft/mem.Space).put
def c280 : AFunc := ⟨[],(.block 0 (.loop (.seq (.seq (.region [⟨(some 8),.mv (.tmp 2),none⟩,⟨(some 9),.lenX (.tmp 8),none⟩,⟨(some 10),.bin .gtr (.tmp 9) (.const (.int .i64 0)),none⟩])
 (.cond (.tmp 10) .skip (.exit 0)))
 (.block 1 (.seq (.region [⟨(some 11),.mv (.tmp 1),none⟩,⟨(some 12),.mv (.tmp 0),none⟩,⟨(some 13),.nilCheck (.tmp 12),none⟩,⟨(some 14),.faddr 0 (.tmp 13),none⟩,⟨(some 15),.faddr 0 (.tmp 14),none⟩,⟨(some 16),.loadX false 1 (.tmp 15),none⟩,⟨(some 17),.bin .sub (.tmp 11) (.tmp 16),none⟩,⟨(some 6),.mv (.tmp 17),none⟩])
 (.seq (.draw [⟨⟨(some 18),.mv (.tmp 0),none⟩,0,0⟩,⟨⟨(some 19),.nilCheck (.tmp 18),none⟩,0,0⟩,⟨⟨(some 20),.faddr 4 (.tmp 19),none⟩,0,0⟩,⟨⟨(some 21),.loadX false 1 (.tmp 20),none⟩,0,0⟩,⟨⟨(some 22),.mv (.tmp 6),none⟩,0,0⟩,⟨⟨(some 23),.mv (.tmp 0),none⟩,0,0⟩,⟨⟨(some 24),.nilCheck (.tmp 23),none⟩,0,0⟩,⟨⟨(some 25),.faddr 3 (.tmp 24),none⟩,0,0⟩,⟨⟨(some 26),.loadX false 1 (.tmp 25),none⟩,0,0⟩,⟨⟨(some 27),.bin .quo (.tmp 22) (.tmp 26),none⟩,0,0⟩,⟨⟨(some 28),.iaddrX 1 (.tmp 21) (.tmp 27),none⟩,0,0⟩,⟨⟨(some 29),.loadX false 1 (.tmp 28),none⟩,0,0⟩,⟨⟨(some 30),.mv (.tmp 6),none⟩,0,0⟩,⟨⟨(some 31),.mv (.tmp 0),none⟩,0,0⟩,⟨⟨(some 32),.nilCheck (.tmp 31),none⟩,0,0⟩,⟨⟨(some 33),.faddr 3 (.tmp 32),none⟩,0,0⟩,⟨⟨(some 34),.loadX false 1 (.tmp 33),none⟩,0,0⟩,⟨⟨(some 35),.bin .rem (.tmp 30) (.tmp 34),none⟩,0,0⟩,⟨⟨(some 36),.sliceOfX 1 (.tmp 29) (some (.tmp 35)) none,none⟩,0,0⟩,⟨⟨(some 37),.mv (.tmp 2),none⟩,0,0⟩,⟨⟨(some 38),.copy 1 (.tmp 36) (.tmp 37),none⟩,0,1⟩,⟨⟨(some 7),.mv (.tmp 38),none⟩,1,1⟩])
 (.seq (.region [⟨(some 39),.mv (.tmp 2),none⟩,⟨(some 40),.mv (.tmp 7),none⟩,⟨(some 41),.sliceOfX 1 (.tmp 39) (some (.tmp 40)) none,none⟩,⟨(some 2),.mv (.tmp 41),none⟩])
 (.region [⟨(some 42),.mv (.tmp 1),none⟩,⟨(some 43),.mv (.tmp 7),none⟩,⟨(some 44),.conv .u64 (.tmp 43),none⟩,⟨(some 45),.bin .add (.tmp 42) (.tmp 44),none⟩,⟨(some 1),.mv (.tmp 45),none⟩]))))))))⟩
theorem k280 : compFn Tryz.prog Tryz.f280 = some c280 := by kernel_rfl
-- maps.Values[map[string]uint64,string,uint64]$1
def c283 : AFunc := ⟨[],(.seq (.region [⟨(some 5),.loadX false 1 (.tmp 1),none⟩,⟨(some 6),.rangeM (.tmp 5),none⟩])
 (.block 0 (.loop (.seq (.region [⟨(some 7),.nextM (.tmp 6),none⟩,⟨(some 8),.extract (.tmp 7) 0,none⟩])
 (.seq (.cond (.tmp 8) .skip (.exit 0))
 (.block 1 (.seq (.region [⟨(some 9),.entryM (.tmp 6),none⟩,⟨(some 10),.extract (.tmp 9) 1,none⟩,⟨(some 4),.mv (.tmp 10),none⟩])
 (.seq (.region [⟨(some 11),.mv (.tmp 0),none⟩,⟨(some 12),.mv (.tmp 4),none⟩,⟨(some 13),.callv (.tmp 11) [(.tmp 12)],none⟩,⟨(some 14),.not (.tmp 13),none⟩])
 (.cond (.tmp 14) .ret .skip)))))))))⟩
theorem k283 : compFn Tryz.prog Tryz.f283 = some c283 := by kernel_rfl
-- (*croft/mem.Space).Fill$1
def c284 : AFunc := ⟨[],(.regionR (some 1) [⟨(some 2),.call 222 [(.tmp 1),(.tmp 0)],none⟩])⟩
theorem k284 : compFn Tryz.prog Tryz.f284 = some c284 := by kernel_rfl
-- (*croft/mem.Space).byteAt
def c285 : AFunc := ⟨[.tmp 4],(.seq (.region [⟨(some 4),.mv (.const (.ptr none)),none⟩])
 (.seq (.region [⟨(some 6),.mv (.tmp 1),none⟩,⟨(some 7),.mv (.tmp 0),none⟩,⟨(some 8),.nilCheck (.tmp 7),none⟩,⟨(some 9),.faddr 0 (.tmp 8),none⟩,⟨(some 10),.faddr 0 (.tmp 9),none⟩,⟨(some 11),.loadX false 1 (.tmp 10),none⟩,⟨(some 12),.bin .sub (.tmp 6) (.tmp 11),none⟩,⟨(some 5),.mv (.tmp 12),none⟩])
 (.seq (.draw [⟨⟨(some 13),.mv (.tmp 0),none⟩,0,0⟩,⟨⟨(some 14),.nilCheck (.tmp 13),none⟩,0,0⟩,⟨⟨(some 15),.faddr 4 (.tmp 14),none⟩,0,0⟩,⟨⟨(some 16),.loadX false 1 (.tmp 15),none⟩,0,0⟩,⟨⟨(some 17),.mv (.tmp 5),none⟩,0,0⟩,⟨⟨(some 18),.mv (.tmp 0),none⟩,0,0⟩,⟨⟨(some 19),.nilCheck (.tmp 18),none⟩,0,0⟩,⟨⟨(some 20),.faddr 3 (.tmp 19),none⟩,0,0⟩,⟨⟨(some 21),.loadX false 1 (.tmp 20),none⟩,0,0⟩,⟨⟨(some 22),.bin .quo (.tmp 17) (.tmp 21),none⟩,0,0⟩,⟨⟨(some 23),.iaddrX 1 (.tmp 16) (.tmp 22),none⟩,0,0⟩,⟨⟨(some 24),.loadX false 1 (.tmp 23),none⟩,0,0⟩,⟨⟨(some 25),.mv (.tmp 5),none⟩,0,0⟩,⟨⟨(some 26),.mv (.tmp 0),none⟩,0,0⟩,⟨⟨(some 27),.nilCheck (.tmp 26),none⟩,0,0⟩,⟨⟨(some 28),.faddr 3 (.tmp 27),none⟩,0,0⟩,⟨⟨(some 29),.loadX false 1 (.tmp 28),none⟩,0,0⟩,⟨⟨(some 30),.bin .rem (.tmp 25) (.tmp 29),none⟩,0,0⟩,⟨⟨(some 31),.iaddrX 1 (.tmp 24) (.tmp 30),none⟩,0,0⟩,⟨⟨(some 4),.mv (.tmp 31),none⟩,0,0⟩])
 .ret)))⟩
theorem k285 : compFn Tryz.prog Tryz.f285 = some c285 := by kernel_rfl
-- (*croft/mem.Space).SetWord$1
def c286 : AFunc := ⟨[],(.regionR (some 1) [⟨(some 2),.call 222 [(.tmp 1),(.tmp 0)],none⟩])⟩
theorem k286 : compFn Tryz.prog Tryz.f286 = some c286 := by kernel_rfl
-- slices.insertionSortCmpFunc[uint64]
def c287 : AFunc := ⟨[],(.seq (.region [⟨(some 10),.mv (.tmp 1),none⟩,⟨(some 11),.bin .add (.tmp 10) (.const (.int .i64 1)),none⟩,⟨(some 8),.mv (.tmp 11),none⟩])
 (.block 0 (.loop (.seq (.seq (.region [⟨(some 12),.mv (.tmp 8),none⟩,⟨(some 13),.mv (.tmp 2),none⟩,⟨(some 14),.bin .lss (.tmp 12) (.tmp 13),none⟩])
 (.cond (.tmp 14) .skip (.exit 0)))
 (.seq (.block 1 (.seq (.region [⟨(some 17),.mv (.tmp 8),none⟩,⟨(some 9),.mv (.tmp 17),none⟩])
 (.block 2 (.loop (.seq (.seq (.draw [⟨⟨(some 18),.mv (.tmp 9),none⟩,0,0⟩,⟨⟨(some 19),.mv (.tmp 1),none⟩,0,0⟩,⟨⟨(some 20),.bin .gtr (.tmp 18) (.tmp 19),none⟩,0,0⟩,⟨⟨(some 21),.mv (.tmp 20),none⟩,0,0⟩,⟨⟨(some 22),.mv (.tmp 3),some (21,true)⟩,0,0⟩,⟨⟨(some 23),.mv (.tmp 0),some (21,true)⟩,0,0⟩,⟨⟨(some 24),.mv (.tmp 9),some (21,true)⟩,0,0⟩,⟨⟨(some 25),.iaddrX 1 (.tmp 23) (.tmp 24),some (21,true)⟩,0,0⟩,⟨⟨(some 26),.loadX false 1 (.tmp 25),some (21,true)⟩,0,0⟩,⟨⟨(some 27),.mv (.tmp 0),some (21,true)⟩,0,0⟩,⟨⟨(some 28),.mv (.tmp 9),some (21,true)⟩,0,0⟩,⟨⟨(some 29),.bin .sub (.tmp 28) (.const (.int .i64 1)),some (21,true)⟩,0,0⟩,⟨⟨(some 30),.iaddrX 1 (.tmp 27) (.tmp 29),some (21,true)⟩,0,0⟩,⟨⟨(some 31),.loadX false 1 (.tmp 30),some (21,true)⟩,0,0⟩,⟨⟨(some 32),.callv (.tmp 22) [(.tmp 26),(.tmp 31)],some (21,true)⟩,0,1⟩,⟨⟨(some 33),.bin .lss (.tmp 32) (.const (.int .i64 0)),some (21,true)⟩,1,1⟩,⟨⟨(some 34),.pick (.tmp 21) (.tmp 33) (.const (.bool false)),none⟩,1,1⟩])
 (.cond (.tmp 34) .skip (.exit 2)))
 (.seq (.block 3 (.draw [⟨⟨(some 37),.mv (.tmp 0),none⟩,0,0⟩,⟨⟨(some 38),.mv (.tmp 9),none⟩,0,0⟩,⟨⟨(some 39),.mv (.tmp 0),none⟩,0,1⟩,⟨⟨(some 40),.mv (.tmp 9),none⟩,0,1⟩,⟨⟨(some 41),.bin .sub (.tmp 40) (.const (.int .i64 1)),none⟩,0,1⟩,⟨⟨(some 42),.mv (.tmp 0),none⟩,0,0⟩,⟨⟨(some 43),.mv (.tmp 9),none⟩,0,0⟩,⟨⟨(some 44),.bin .sub (.tmp 43) (.const (.int .i64 1)),none⟩,0,0⟩,⟨⟨(some 45),.iaddrX 1 (.tmp 42) (.tmp 44),none⟩,0,0⟩,⟨⟨(some 46),.loadX false 1 (.tmp 45),none⟩,0,0⟩,⟨⟨(some 47),.mv (.tmp 0),none⟩,0,0⟩,⟨⟨(some 48),.mv (.tmp 9),none⟩,0,0⟩,⟨⟨(some 49),.iaddrX 1 (.tmp 47) (.tmp 48),none⟩,0,0⟩,⟨⟨(some 50),.loadX false 1 (.tmp 49),none⟩,0,0⟩,⟨⟨(some 51),.iaddrX 1 (.tmp 37) (.tmp 38),none⟩,0,0⟩,⟨⟨none,.storeX 1 (.tmp 51) (.tmp 46),none⟩,0,1⟩,⟨⟨(some 52),.iaddrX 1 (.tmp 39) (.tmp 41),none⟩,1,1⟩,⟨⟨none,.storeX 1 (.tmp 52) (.tmp 50),none⟩,1,2⟩]))
 (.region [⟨(some 35),.mv (.tmp 9),none⟩,⟨(some 36),.bin .sub (.tmp 35) (.const (.int .i64 1)),none⟩,⟨(some 9),.mv (.tmp 36),none⟩])))))))
 (.region [⟨(some 15),.mv (.tmp 8),none⟩,⟨(some 16),.bin .add (.tmp 15) (.const (.int .i64 1)),none⟩,⟨(some 8),.mv (.tmp 16),none⟩]))))))⟩
theorem k287 : compFn Tryz.prog Tryz.f287 = some c287 := by kernel_rfl
-- slices.heapSortCmpFunc[uint64]
def c288 : AFunc := ⟨[],(.seq (.region [⟨(some 13),.mv (.tmp 1),none⟩,⟨(some 8),.mv (.tmp 13),none⟩])
 (.seq (.region [⟨(some 9),.mv (.const (.int .i64 0)),none⟩])
 (.seq (.region [⟨(some 14),.mv (.tmp 2),none⟩,⟨(some 15),.mv (.tmp 1),none⟩,⟨(some 16),.bin .sub (.tmp 14) (.tmp 15),none⟩,⟨(some 10),.mv (.tmp 16),none⟩])
 (.seq (.seq (.region [⟨(some 17),.mv (.tmp 10),none⟩,⟨(some 18),.bin .sub (.tmp 17) (.const (.int .i64 1)),none⟩,⟨(some 19),.bin .quo (.tmp 18) (.const (.int .i64 2)),none⟩,⟨(some 11),.mv (.tmp 19),none⟩])
 (.block 0 (.loop (.seq (.seq (.region [⟨(some 20),.mv (.tmp 11),none⟩,⟨(some 21),.bin .geq (.tmp 20) (.const (.int .i64 0)),none⟩])
 (.cond (.tmp 21) .skip (.exit 0)))
 (.seq (.block 1 (.region [⟨(some 24),.mv (.tmp 0),none⟩,⟨(some 25),.mv (.tmp 11),none⟩,⟨(some 26),.mv (.tmp 10),none⟩,⟨(some 27),.mv (.tmp 8),none⟩,⟨(some 28),.mv (.tmp 3),none⟩,⟨(some 29),.call 333 [(.tmp 24),(.tmp 25),(.tmp 26),(.tmp 27),(.tmp 28)],none⟩]))
 (.region [⟨(some 22),.mv (.tmp 11),none⟩,⟨(some 23),.bin .sub (.tmp 22) (.const (.int .i64 1)),none⟩,⟨(some 11),.mv (.tmp 23),none⟩]))))))
 (.seq (.region [⟨(some 30),.mv (.tmp 10),none⟩,⟨(some 31),.bin .sub (.tmp 30) (.const (.int .i64 1)),none⟩,⟨(some 12),.mv (.tmp 31),none⟩])
 (.block 2 (.loop (.seq (.seq (.region [⟨(some 32),.mv (.tmp 12),none⟩,⟨(some 33),.bin .geq (.tmp 32) (.const (.int .i64 0)),none⟩])
 (.cond (.tmp 33) .skip (.exit 2)))
 (.seq (.block 3 (.seq (.draw [⟨⟨(some 36),.mv (.tmp 0),none⟩,0,0⟩,⟨⟨(some 37),.mv (.tmp 8),none⟩,0,0⟩,⟨⟨(some 38),.mv (.tmp 0),none⟩,0,1⟩,⟨⟨(some 39),.mv (.tmp 8),none⟩,0,1⟩,⟨⟨(some 40),.mv (.tmp 12),none⟩,0,1⟩,⟨⟨(some 41),.bin .add (.tmp 39) (.tmp 40),none⟩,0,1⟩,⟨⟨(some 42),.mv (.tmp 0),none⟩,0,0⟩,⟨⟨(some 43),.mv (.tmp 8),none⟩,0,0⟩,⟨⟨(some 44),.mv (.tmp 12),none⟩,0,0⟩,⟨⟨(some 45),.bin .add (.tmp 43) (.tmp 44),none⟩,0,0⟩,⟨⟨(some 46),.iaddrX 1 (.tmp 42) (.tmp 45),none⟩,0,0⟩,⟨⟨(some 47),.loadX false 1 (.tmp 46),none⟩,0,0⟩,⟨⟨(some 48),.mv (.tmp 0),none⟩,0,0⟩,⟨⟨(some 49),.mv (.tmp 8),none⟩,0,0⟩,⟨⟨(some 50),.iaddrX 1 (.tmp 48) (.tmp 49),none⟩,0,0⟩,⟨⟨(some 51),.loadX false 1 (.tmp 50),none⟩,0,0⟩,⟨⟨(some 52),.iaddrX 1 (.tmp 36) (.tmp 37),none⟩,0,0⟩,⟨⟨none,.storeX 1 (.tmp 52) (.tmp 47),none⟩,0,1⟩,⟨⟨(some 53),.iaddrX 1 (.tmp 38) (.tmp 41),none⟩,1,1⟩,⟨⟨none,.storeX 1 (.tmp 53) (.tmp 51),none⟩,1,2⟩])
 (.region [⟨(some 54),.mv (.tmp 0),none⟩,⟨(some 55),.mv (.tmp 9),none⟩,⟨(some 56),.mv (.tmp 12),none⟩,⟨(some 57),.mv (.tmp 8),none⟩,⟨(some 58),.mv (.tmp 3),none⟩,⟨(some 59),.call 333 [(.tmp 54),(.tmp 55),(.tmp 56),(.tmp 57),(.tmp 58)],none⟩])))
 (.region [⟨(some 34),.mv (.tmp 12),none⟩,⟨(some 35),.bin .sub (.tmp 34) (.const (.int .i64 1)),none⟩,⟨(some 12),.mv (.tmp 35),none⟩]))))))))))⟩
theorem k288 : compFn Tryz.prog Tryz.f288 = some c288 := by kernel_rfl
-- slices.breakPatternsCmpFunc[uint64]
def c289 : AFunc := ⟨[],(.seq (.region [⟨(some 13),.mv (.tmp 2),none⟩,⟨(some 14),.mv (.tmp 1),none⟩,⟨(some 15),.bin .sub (.tmp 13) (.tmp 14),none⟩,⟨(some 8),.mv (.tmp 15),none⟩])
 (.seq (.region [⟨(some 16),.mv (.tmp 8),none⟩,⟨(some 17),.bin .geq (.tmp 16) (.const (.int .i64 8)),none⟩])
 (.cond (.tmp 17) (.seq (.region [⟨(some 18),.mv (.tmp 8),none⟩,⟨(some 19),.conv .u64 (.tmp 18),none⟩,⟨(some 9),.alloc [(.int .u64 0)],none⟩,⟨none,.storeX 1 (.tmp 9) (.tmp 19),none⟩])
 (.seq (.region [⟨(some 20),.mv (.tmp 8),none⟩,⟨(some 21),.call 334 [(.tmp 20)],none⟩,⟨(some 10),.mv (.tmp 21),none⟩])
 (.seq (.region [⟨(some 22),.mv (.tmp 1),none⟩,⟨(some 23),.mv (.tmp 8),none⟩,⟨(some 24),.bin .quo (.tmp 23) (.const (.int .i64 4)),none⟩,⟨(some 25),.bin .mul (.tmp 24) (.const (.int .i64 2)),none⟩,⟨(some 26),.bin .add (.tmp 22) (.tmp 25),none⟩,⟨(some 27),.bin .sub (.tmp 26) (.const (.int .i64 1)),none⟩,⟨(some 11),.mv (.tmp 27),none⟩])
 (.block 0 (.loop (.seq (.seq (.region [⟨(some 28),.mv (.tmp 11),none⟩,⟨(some 29),.mv (.tmp 1),none⟩,⟨(some 30),.mv (.tmp 8),none⟩,⟨(some 31),.bin .quo (.tmp 30) (.const (.int .i64 4)),none⟩,⟨(some 32),.bin .mul (.tmp 31) (.const (.int .i64 2)),none⟩,⟨(some 33),.bin .add (.tmp 29) (.tmp 32),none⟩,⟨(some 34),.bin .add (.tmp 33) (.const (.int .i64 1)),none⟩,⟨(some 35),.bin .leq (.tmp 28) (.tmp 34),none⟩])
 (.cond (.tmp 35) .skip (.exit 0)))
 (.seq (.block 1 (.seq (.region [⟨(some 38),.call 335 [(.tmp 9)],none⟩,⟨(some 39),.mv (.tmp 10),none⟩,⟨(some 40),.bin .sub (.tmp 39) (.const (.int .u64 1)),none⟩,⟨(some 41),.bin .and (.tmp 38) (.tmp 40),none⟩,⟨(some 42),.conv .i64 (.tmp 41),none⟩,⟨(some 12),.mv (.tmp 42),none⟩])
 (.seq (.seq (.region [⟨(some 43),.mv (.tmp 12),none⟩,⟨(some 44),.mv (.tmp 8),none⟩,⟨(some 45),.bin .geq (.tmp 43) (.tmp 44),none⟩])
 (.cond (.tmp 45) (.region [⟨(some 46),.mv (.tmp 12),none⟩,⟨(some 47),.mv (.tmp 8),none⟩,⟨(some 48),.bin .sub (.tmp 46) (.tmp 47),none⟩,⟨(some 12),.mv (.tmp 48),none⟩]) .skip))
 (.draw [⟨⟨(some 49),.mv (.tmp 0),none⟩,0,0⟩,⟨⟨(some 50),.mv (.tmp 11),none⟩,0,0⟩,⟨⟨(some 51),.mv (.tmp 0),none⟩,0,1⟩,⟨⟨(some 52),.mv (.tmp 1),none⟩,0,1⟩,⟨⟨(some 53),.mv (.tmp 12),none⟩,0,1⟩,⟨⟨(some 54),.bin .add (.tmp 52) (.tmp 53),none⟩,0,1⟩,⟨⟨(some 55),.mv (.tmp 0),none⟩,0,0⟩,⟨⟨(some 56),.mv (.tmp 1),none⟩,0,0⟩,⟨⟨(some 57),.mv (.tmp 12),none⟩,0,0⟩,⟨⟨(some 58),.bin .add (.tmp 56) (.tmp 57),none⟩,0,0⟩,⟨⟨(some 59),.iaddrX 1 (.tmp 55) (.tmp 58),none⟩,0,0⟩,⟨⟨(some 60),.loadX false 1 (.tmp 59),none⟩,0,0⟩,⟨⟨(some 61),.mv (.tmp 0),none⟩,0,0⟩,⟨⟨(some 62),.mv (.tmp 11),none⟩,0,0⟩,⟨⟨(some 63),.iaddrX 1 (.tmp 61) (.tmp 62),none⟩,0,0⟩,⟨⟨(some 64),.loadX false 1 (.tmp 63),none⟩,0,0⟩,⟨⟨(some 65),.iaddrX 1 (.tmp 49) (.tmp 50),none⟩,0,0⟩,⟨⟨none,.storeX 1 (.tmp 65) (.tmp 60),none⟩,0,1⟩,⟨⟨(some 66),.iaddrX 1 (.tmp 51) (.tmp 54),none⟩,1,1⟩,⟨⟨none,.storeX 1 (.tmp 66) (.tmp 64),none⟩,1,2⟩]))))
 (.region [⟨(some 36),.mv (.tmp 11),none⟩,⟨(some 37),.bin .add (.tmp 36) (.const (.int .i64 1)),none⟩,⟨(some 11),.mv (.tmp 37),none⟩])))))))) .skip)))⟩
theorem k289 : compFn Tryz.prog Tryz.f289 = some c289 := by kernel_rfl
-- slices.choosePivotCmpFunc[uint64]
def c290 : AFunc := ⟨[.tmp 8,.tmp 9],(.seq (.region [⟨(some 8),.mv (.const (.int .i64 0)),none⟩,⟨(some 9),.mv (.const (.int .i64 0)),none⟩])
 (.seq (.region [⟨(some 15),.mv (.tmp 2),none⟩,⟨(some 16),.mv (.tmp 1),none⟩,⟨(some 17),.bin .sub (.tmp 15) (.tmp 16),none⟩,⟨(some 10),.mv (.tmp 17),none⟩])
 (.seq (.region [⟨(some 11),.alloc [(.int .i64 0)],none⟩])
 (.seq (.region [⟨(some 18),.mv (.tmp 1),none⟩,⟨(some 19),.mv (.tmp 10),none⟩,⟨(some 20),.bin .quo (.tmp 19) (.const (.int .i64 4)),none⟩,⟨(some 21),.bin .mul (.tmp 20) (.const (.int .i64 1)),none⟩,⟨(some 22),.bin .add (.tmp 18) (.tmp 21),none⟩,⟨(some 12),.mv (.tmp 22),none⟩])
 (.seq (.region [⟨(some 23),.mv (.tmp 1),none⟩,⟨(some 24),.mv (.tmp 10),none⟩,⟨(some 25),.bin .quo (.tmp 24) (.const (.int .i64 4)),none⟩,⟨(some 26),.bin .mul (.tmp 25) (.const (.int .i64 2)),none⟩,⟨(some 27),.bin .add (.tmp 23) (.tmp 26),none⟩,⟨(some 13),.mv (.tmp 27),none⟩])
 (.seq (.region [⟨(some 28),.mv (.tmp 1),none⟩,⟨(some 29),.mv (.tmp 10),none⟩,⟨(some 30),.bin .quo (.tmp 29) (.const (.int .i64 4)),none⟩,⟨(some 31),.bin .mul (.tmp 30) (.const (.int .i64 3)),none⟩,⟨(some 32),.bin .add (.tmp 28) (.tmp 31),none⟩,⟨(some 14),.mv (.tmp 32),none⟩])
 (.seq (.seq (.region [⟨(some 33),.mv (.tmp 10),none⟩,⟨(some 34),.bin .geq (.tmp 33) (.const (.int .i64 8)),none⟩])
 (.cond (.tmp 34) (.seq (.seq (.region [⟨(some 35),.mv (.tmp 10),none⟩,⟨(some 36),.bin .geq (.tmp 35) (.const (.int .i64 50)),none⟩])
 (.cond (.tmp 36) (.seq (.region [⟨(some 37),.mv (.tmp 0),none⟩,⟨(some 38),.mv (.tmp 12),none⟩,⟨(some 39),.mv (.tmp 3),none⟩,⟨(some 40),.call 336 [(.tmp 37),(.tmp 38),(.tmp 11),(.tmp 39)],none⟩,⟨(some 12),.mv (.tmp 40),none⟩])
 (.seq (.region [⟨(some 41),.mv (.tmp 0),none⟩,⟨(some 42),.mv (.tmp 13),none⟩,⟨(some 43),.mv (.tmp 3),none⟩,⟨(some 44),.call 336 [(.tmp 41),(.tmp 42),(.tmp 11),(.tmp 43)],none⟩,⟨(some 13),.mv (.tmp 44),none⟩])
 (.region [⟨(some 45),.mv (.tmp 0),none⟩,⟨(some 46),.mv (.tmp 14),none⟩,⟨(some 47),.mv (.tmp 3),none⟩,⟨(some 48),.call 336 [(.tmp 45),(.tmp 46),(.tmp 11),(.tmp 47)],none⟩,⟨(some 14),.mv (.tmp 48),none⟩]))) .skip))
 (.region [⟨(some 49),.mv (.tmp 0),none⟩,⟨(some 50),.mv (.tmp 12),none⟩,⟨(some 51),.mv (.tmp 13),none⟩,⟨(some 52),.mv (.tmp 14),none⟩,⟨(some 53),.mv (.tmp 3),none⟩,⟨(some 54),.call 337 [(.tmp 49),(.tmp 50),(.tmp 51),(.tmp 52),(.tmp 11),(.tmp 53)],none⟩,⟨(some 13),.mv (.tmp 54),none⟩])) .skip))
 (.seq (.region [⟨(some 55),.loadX false 1 (.tmp 11),none⟩])
 (.block 0 (.seq (.region [⟨(some 58),.bin .eql (.tmp 55) (.const (.int .i64 0)),none⟩,⟨(some 57),.mv (.tmp 58),none⟩])
 (.cond (.tmp 57) (.seq (.region [⟨(some 59),.mv (.tmp 13),none⟩,⟨(some 8),.mv (.tmp 59),none⟩,⟨(some 9),.mv (.const (.int .i64 1)),none⟩])
 .ret) (.seq (.region [⟨(some 61),.bin .eql (.tmp 55) (.const (.int .i64 12)),none⟩,⟨(some 60),.mv (.tmp 61),none⟩])
 (.cond (.tmp 60) (.seq (.region [⟨(some 62),.mv (.tmp 13),none⟩,⟨(some 8),.mv (.tmp 62),none⟩,⟨(some 9),.mv (.const (.int .i64 2)),none⟩])
 .ret) (.seq (.region [⟨(some 56),.mv (.tmp 13),none⟩,⟨(some 8),.mv (.tmp 56),none⟩,⟨(some 9),.mv (.const (.int .i64 0)),none⟩])
 .ret))))))))))))))⟩
theorem k290 : compFn Tryz.prog Tryz.f290 = some c290 := by kernel_rfl
-- slices.reverseRangeCmpFunc[uint64]
def c291 : AFunc := ⟨[],(.seq (.region [⟨(some 10),.mv (.tmp 1),none⟩,⟨(some 8),.mv (.tmp 10),none⟩])
 (.seq (.region [⟨(some 11),.mv (.tmp 2),none⟩,⟨(some 12),.bin .sub (.tmp 11) (.const (.int .i64 1)),none⟩,⟨(some 9),.mv (.tmp 12),none⟩])
 (.block 0 (.loop (.seq (.seq (.region [⟨(some 13),.mv (.tmp 8),none⟩,⟨(some 14),.mv (.tmp 9),none⟩,⟨(some 15),.bin .lss (.tmp 13) (.tmp 14),none⟩])
 (.cond (.tmp 15) .skip (.exit 0)))
 (.block 1 (.seq (.draw [⟨⟨(some 16),.mv (.tmp 0),none⟩,0,0⟩,⟨⟨(some 17),.mv (.tmp 8),none⟩,0,0⟩,⟨⟨(some 18),.mv (.tmp 0),none⟩,0,1⟩,⟨⟨(some 19),.mv (.tmp 9),none⟩,0,1⟩,⟨⟨(some 20),.mv (.tmp 0),none⟩,0,0⟩,⟨⟨(some 21),.mv (.tmp 9),none⟩,0,0⟩,⟨⟨(some 22),.iaddrX 1 (.tmp 20) (.tmp 21),none⟩,0,0⟩,⟨⟨(some 23),.loadX false 1 (.tmp 22),none⟩,0,0⟩,⟨⟨(some 24),.mv (.tmp 0),none⟩,0,0⟩,⟨⟨(some 25),.mv (.tmp 8),none⟩,0,0⟩,⟨⟨(some 26),.iaddrX 1 (.tmp 24) (.tmp 25),none⟩,0,0⟩,⟨⟨(some 27),.loadX false 1 (.tmp 26),none⟩,0,0⟩,⟨⟨(some 28),.iaddrX 1 (.tmp 16) (.tmp 17),none⟩,0,0⟩,⟨⟨none,.storeX 1 (.tmp 28) (.tmp 23),none⟩,0,1⟩,⟨⟨(some 29),.iaddrX 1 (.tmp 18) (.tmp 19),none⟩,1,1⟩,⟨⟨none,.storeX 1 (.tmp 29) (.tmp 27),none⟩,1,2⟩])
 (.seq (.region [⟨(some 30),.mv (.tmp 8),none⟩,⟨(some 31),.bin .add (.tmp 30) (.const (.int .i64 1)),none⟩,⟨(some 8),.mv (.tmp 31),none⟩])
 (.region [⟨(some 32),.mv (.tmp 9),none⟩,⟨(some 33),.bin .sub (.tmp 32) (.const (.int .i64 1)),none⟩,⟨(some 9),.mv (.tmp 33),none⟩])))))))))⟩
theorem k291 : compFn Tryz.prog Tryz.f291 = some c291 := by kernel_rfl
-- slices.partialInsertionSortCmpFunc[uint64]
def c292 : AFunc := ⟨[.tmp 8],(.seq (.region [⟨(some 8),.mv (.const (.bool false)),none⟩])
 (.seq (.region [⟨(some 13),.mv (.tmp 1),none⟩,⟨(some 14),.bin .add (.tmp 13) (.const (.int .i64 1)),none⟩,⟨(some 9),.mv (.tmp 14),none⟩])
 (.seq (.seq (.region [⟨(some 10),.mv (.const (.int .i64 0)),none⟩])
 (.block 0 (.loop (.seq (.seq (.region [⟨(some 15),.mv (.tmp 10),none⟩,⟨(some 16),.bin .lss (.tmp 15) (.const (.int .i64 5)),none⟩])
 (.cond (.tmp 16) .skip (.exit 0)))
 (.seq (.block 1 (.seq (.block 2 (.loop (.seq (.seq (.draw [⟨⟨(some 19),.mv (.tmp 9),none⟩,0,0⟩,⟨⟨(some 20),.mv (.tmp 2),none⟩,0,0⟩,⟨⟨(some 21),.bin .lss (.tmp 19) (.tmp 20),none⟩,0,0⟩,⟨⟨(some 22),.mv (.tmp 21),none⟩,0,0⟩,⟨⟨(some 23),.mv (.tmp 3),some (22,true)⟩,0,0⟩,⟨⟨(some 24),.mv (.tmp 0),some (22,true)⟩,0,0⟩,⟨⟨(some 25),.mv (.tmp 9),some (22,true)⟩,0,0⟩,⟨⟨(some 26),.iaddrX 1 (.tmp 24) (.tmp 25),some (22,true)⟩,0,0⟩,⟨⟨(some 27),.loadX false 1 (.tmp 26),some (22,true)⟩,0,0⟩,⟨⟨(some 28),.mv (.tmp 0),some (22,true)⟩,0,0⟩,⟨⟨(some 29),.mv (.tmp 9),some (22,true)⟩,0,0⟩,⟨⟨(some 30),.bin .sub (.tmp 29) (.const (.int .i64 1)),some (22,true)⟩,0,0⟩,⟨⟨(some 31),.iaddrX 1 (.tmp 28) (.tmp 30),some (22,true)⟩,0,0⟩,⟨⟨(some 32),.loadX false 1 (.tmp 31),some (22,true)⟩,0,0⟩,⟨⟨(some 33),.callv (.tmp 23) [(.tmp 27),(.tmp 32)],some (22,true)⟩,0,1⟩,⟨⟨(some 34),.bin .lss (.tmp 33) (.const (.int .i64 0)),some (22,true)⟩,1,1⟩,⟨⟨(some 35),.not (.tmp 34),some (22,true)⟩,1,1⟩,⟨⟨(some 36),.pick (.tmp 22) (.tmp 35) (.const (.bool false)),none⟩,1,1⟩])
 (.cond (.tmp 36) .skip (.exit 2)))
 (.block 3 (.region [⟨(some 37),.mv (.tmp 9),none⟩,⟨(some 38),.bin .add (.tmp 37) (.const (.int .i64 1)),none⟩,⟨(some 9),.mv (.tmp 38),none⟩])))))
 (.seq (.seq (.region [⟨(some 39),.mv (.tmp 9),none⟩,⟨(some 40),.mv (.tmp 2),none⟩,⟨(some 41),.bin .eql (.tmp 39) (.tmp 40),none⟩])
 (.cond (.tmp 41) (.seq (.region [⟨(some 8),.mv (.const (.bool true)),none⟩])
 .ret) .skip))
 (.seq (.seq (.region [⟨(some 42),.mv (.tmp 2),none⟩,⟨(some 43),.mv (.tmp 1),none⟩,⟨(some 44),.bin .sub (.tmp 42) (.tmp 43),none⟩,⟨(some 45),.bin .lss (.tmp 44) (.const (.int .i64 50)),none⟩])
 (.cond (.tmp 45) (.seq (.region [⟨(some 8),.mv (.const (.bool false)),none⟩])
 .ret) .skip))
 (.seq (.draw [⟨⟨(some 46),.mv (.tmp 0),none⟩,0,0⟩,⟨⟨(some 47),.mv (.tmp 9),none⟩,0,0⟩,⟨⟨(some 48),.mv (.tmp 0),none⟩,0,1⟩,⟨⟨(some 49),.mv (.tmp 9),none⟩,0,1⟩,⟨⟨(some 50),.bin .sub (.tmp 49) (.const (.int .i64 1)),none⟩,0,1⟩,⟨⟨(some 51),.mv (.tmp 0),none⟩,0,0⟩,⟨⟨(some 52),.mv (.tmp 9),none⟩,0,0⟩,⟨⟨(some 53),.bin .sub (.tmp 52) (.const (.int .i64 1)),none⟩,0,0⟩,⟨⟨(some 54),.iaddrX 1 (.tmp 51) (.tmp 53),none⟩,0,0⟩,⟨⟨(some 55),.loadX false 1 (.tmp 54),none⟩,0,0⟩,⟨⟨(some 56),.mv (.tmp 0),none⟩,0,0⟩,⟨⟨(some 57),.mv (.tmp 9),none⟩,0,0⟩,⟨⟨(some 58),.iaddrX 1 (.tmp 56) (.tmp 57),none⟩,0,0⟩,⟨⟨(some 59),.loadX false 1 (.tmp 58),none⟩,0,0⟩,⟨⟨(some 60),.iaddrX 1 (.tmp 46) (.tmp 47),none⟩,0,0⟩,⟨⟨none,.storeX 1 (.tmp 60) (.tmp 55),none⟩,0,1⟩,⟨⟨(some 61),.iaddrX 1 (.tmp 48) (.tmp 50),none⟩,1,1⟩,⟨⟨none,.storeX 1 (.tmp 61) (.tmp 59),none⟩,1,2⟩])
 (.seq (.seq (.region [⟨(some 62),.mv (.tmp 9),none⟩,⟨(some 63),.mv (.tmp 1),none⟩,⟨(some 64),.bin .sub (.tmp 62) (.tmp 63),none⟩,⟨(some 65),.bin .geq (.tmp 64) (.const (.int .i64 2)),none⟩])
 (.cond (.tmp 65) (.seq (.region [⟨(some 66),.mv (.tmp 9),none⟩,⟨(some 67),.bin .sub (.tmp 66) (.const (.int .i64 1)),none⟩,⟨(some 11),.mv (.tmp 67),none⟩])
 (.block 4 (.loop (.seq (.seq (.region [⟨(some 68),.mv (.tmp 11),none⟩,⟨(some 69),.bin .geq (.tmp 68) (.const (.int .i64 1)),none⟩])
 (.cond (.tmp 69) .skip (.exit 4)))
 (.seq (.block 5 (.seq (.seq (.draw [⟨⟨(some 72),.mv (.tmp 3),none⟩,0,0⟩,⟨⟨(some 73),.mv (.tmp 0),none⟩,0,0⟩,⟨⟨(some 74),.mv (.tmp 11),none⟩,0,0⟩,⟨⟨(some 75),.iaddrX 1 (.tmp 73) (.tmp 74),none⟩,0,0⟩,⟨⟨(some 76),.loadX false 1 (.tmp 75),none⟩,0,0⟩,⟨⟨(some 77),.mv (.tmp 0),none⟩,0,0⟩,⟨⟨(some 78),.mv (.tmp 11),none⟩,0,0⟩,⟨⟨(some 79),.bin .sub (.tmp 78) (.const (.int .i64 1)),none⟩,0,0⟩,⟨⟨(some 80),.iaddrX 1 (.tmp 77) (.tmp 79),none⟩,0,0⟩,⟨⟨(some 81),.loadX false 1 (.tmp 80),none⟩,0,0⟩,⟨⟨(some 82),.callv (.tmp 72) [(.tmp 76),(.tmp 81)],none⟩,0,1⟩,⟨⟨(some 83),.bin .lss (.tmp 82) (.const (.int .i64 0)),none⟩,1,1⟩,⟨⟨(some 84),.not (.tmp 83),none⟩,1,1⟩])
 (.cond (.tmp 84) (.exit 4) .skip))
 (.draw [⟨⟨(some 85),.mv (.tmp 0),none⟩,0,0⟩,⟨⟨(some 86),.mv (.tmp 11),none⟩,0,0⟩,⟨⟨(some 87),.mv (.tmp 0),none⟩,0,1⟩,⟨⟨(some 88),.mv (.tmp 11),none⟩,0,1⟩,⟨⟨(some 89),.bin .sub (.tmp 88) (.const (.int .i64 1)),none⟩,0,1⟩,⟨⟨(some 90),.mv (.tmp 0),none⟩,0,0⟩,⟨⟨(some 91),.mv (.tmp 11),none⟩,0,0⟩,⟨⟨(some 92),.bin .sub (.tmp 91) (.const (.int .i64 1)),none⟩,0,0⟩,⟨⟨(some 93),.iaddrX 1 (.tmp 90) (.tmp 92),none⟩,0,0⟩,⟨⟨(some 94),.loadX false 1 (.tmp 93),none⟩,0,0⟩,⟨⟨(some 95),.mv (.tmp 0),none⟩,0,0⟩,⟨⟨(some 96),.mv (.tmp 11),none⟩,0,0⟩,⟨⟨(some 97),.iaddrX 1 (.tmp 95) (.tmp 96),none⟩,0,0⟩,⟨⟨(some 98),.loadX false 1 (.tmp 97),none⟩,0,0⟩,⟨⟨(some 99),.iaddrX 1 (.tmp 85) (.tmp 86),none⟩,0,0⟩,⟨⟨none,.storeX 1 (.tmp 99) (.tmp 94),none⟩,0,1⟩,⟨⟨(some 100),.iaddrX 1 (.tmp 87) (.tmp 89),none⟩,1,1⟩,⟨⟨none,.storeX 1 (.tmp 100) (.tmp 98),none⟩,1,2⟩])))
 (.region [⟨(some 70),.mv (.tmp 11),none⟩,⟨(some 71),.bin .sub (.tmp 70) (.const (.int .i64 1)),none⟩,⟨(some 11),.mv (.tmp 71),none⟩])))))) .skip))
 (.seq (.region [⟨(some 101),.mv (.tmp 2),none⟩,⟨(some 102),.mv (.tmp 9),none⟩,⟨(some 103),.bin .sub (.tmp 101) (.tmp 102),none⟩,⟨(some 104),.bin .geq (.tmp 103) (.const (.int .i64 2)),none⟩])
 (.cond (.tmp 104) (.seq (.region [⟨(some 105),.mv (.tmp 9),none⟩,⟨(some 106),.bin .add (.tmp 105) (.const (.int .i64 1)),none⟩,⟨(some 12),.mv (.tmp 106),none⟩])
 (.block 6 (.loop (.seq (.seq (.region [⟨(some 107),.mv (.tmp 12),none⟩,⟨(some 108),.mv (.tmp 2),none⟩,⟨(some 109),.bin .lss (.tmp 107) (.tmp 108),none⟩])
 (.cond (.tmp 109) .skip (.exit 6)))
 (.seq (.block 7 (.seq (.seq (.draw [⟨⟨(some 112),.mv (.tmp 3),none⟩,0,0⟩,⟨⟨(some 113),.mv (.tmp 0),none⟩,0,0⟩,⟨⟨(some 114),.mv (.tmp 12),none⟩,0,0⟩,⟨⟨(some 115),.iaddrX 1 (.tmp 113) (.tmp 114),none⟩,0,0⟩,⟨⟨(some 116),.loadX false 1 (.tmp 115),none⟩,0,0⟩,⟨⟨(some 117),.mv (.tmp 0),none⟩,0,0⟩,⟨⟨(some 118),.mv (.tmp 12),none⟩,0,0⟩,⟨⟨(some 119),.bin .sub (.tmp 118) (.const (.int .i64 1)),none⟩,0,0⟩,⟨⟨(some 120),.iaddrX 1 (.tmp 117) (.tmp 119),none⟩,0,0⟩,⟨⟨(some 121),.loadX false 1 (.tmp 120),none⟩,0,0⟩,⟨⟨(some 122),.callv (.tmp 112) [(.tmp 116),(.tmp 121)],none⟩,0,1⟩,⟨⟨(some 123),.bin .lss (.tmp 122) (.const (.int .i64 0)),none⟩,1,1⟩,⟨⟨(some 124),.not (.tmp 123),none⟩,1,1⟩])
 (.cond (.tmp 124) (.exit 6) .skip))
 (.draw [⟨⟨(some 125),.mv (.tmp 0),none⟩,0,0⟩,⟨⟨(some 126),.mv (.tmp 12),none⟩,0,0⟩,⟨⟨(some 127),.mv (.tmp 0),none⟩,0,1⟩,⟨⟨(some 128),.mv (.tmp 12),none⟩,0,1⟩,⟨⟨(some 129),.bin .sub (.tmp 128) (.const (.int .i64 1)),none⟩,0,1⟩,⟨⟨(some 130),.mv (.tmp 0),none⟩,0,0⟩,⟨⟨(some 131),.mv (.tmp 12),none⟩,0,0⟩,⟨⟨(some 132),.bin .sub (.tmp 131) (.const (.int .i64 1)),none⟩,0,0⟩,⟨⟨(some 133),.iaddrX 1 (.tmp 130) (.tmp 132),none⟩,0,0⟩,⟨⟨(some 134),.loadX false 1 (.tmp 133),none⟩,0,0⟩,⟨⟨(some 135),.mv (.tmp 0),none⟩,0,0⟩,⟨⟨(some 136),.mv (.tmp 12),none⟩,0,0⟩,⟨⟨(some 137),.iaddrX 1 (.tmp 135) (.tmp 136),none⟩,0,0⟩,⟨⟨(some 138),.loadX false 1 (.tmp 137),none⟩,0,0⟩,⟨⟨(some 139),.iaddrX 1 (.tmp 125) (.tmp 126),none⟩,0,0⟩,⟨⟨none,.storeX 1 (.tmp 139) (.tmp 134),none⟩,0,1⟩,⟨⟨(some 140),.iaddrX 1 (.tmp 127) (.tmp 129),none⟩,1,1⟩,⟨⟨none,.storeX 1 (.tmp 140) (.tmp 138),none⟩,1,2⟩])))
 (.region [⟨(some 110),.mv (.tmp 12),none⟩,⟨(some 111),.bin .add (.tmp 110) (.const (.int .i64 1)),none⟩,⟨(some 12),.mv (.tmp 111),none⟩])))))) .skip))))))))
 (.region [⟨(some 17),.mv (.tmp 10),none⟩,⟨(some 18),.bin .add (.tmp 17) (.const (.int .i64 1)),none⟩,⟨(some 10),.mv (.tmp 18),none⟩]))))))
 (.seq (.region [⟨(some 8),.mv (.const (.bool false)),none⟩])
 .ret))))⟩
theorem k292 : compFn Tryz.prog Tryz.f292 = some c292 := by kernel_rfl
-- slices.partitionEqualCmpFunc[uint64]
def c293 : AFunc := ⟨[.tmp 10],(.seq (.region [⟨(some 10),.mv (.const (.int .i64 0)),none⟩])
 (.seq (.draw [⟨⟨(some 13),.mv (.tmp 0),none⟩,0,0⟩,⟨⟨(some 14),.mv (.tmp 1),none⟩,0,0⟩,⟨⟨(some 15),.mv (.tmp 0),none⟩,0,1⟩,⟨⟨(some 16),.mv (.tmp 3),none⟩,0,1⟩,⟨⟨(some 17),.mv (.tmp 0),none⟩,0,0⟩,⟨⟨(some 18),.mv (.tmp 3),none⟩,0,0⟩,⟨⟨(some 19),.iaddrX 1 (.tmp 17) (.tmp 18),none⟩,0,0⟩,⟨⟨(some 20),.loadX false 1 (.tmp 19),none⟩,0,0⟩,⟨⟨(some 21),.mv (.tmp 0),none⟩,0,0⟩,⟨⟨(some 22),.mv (.tmp 1),none⟩,0,0⟩,⟨⟨(some 23),.iaddrX 1 (.tmp 21) (.tmp 22),none⟩,0,0⟩,⟨⟨(some 24),.loadX false 1 (.tmp 23),none⟩,0,0⟩,⟨⟨(some 25),.iaddrX 1 (.tmp 13) (.tmp 14),none⟩,0,0⟩,⟨⟨none,.storeX 1 (.tmp 25) (.tmp 20),none⟩,0,1⟩,⟨⟨(some 26),.iaddrX 1 (.tmp 15) (.tmp 16),none⟩,1,1⟩,⟨⟨none,.storeX 1 (.tmp 26) (.tmp 24),none⟩,1,2⟩])
 (.seq (.region [⟨(some 27),.mv (.tmp 1),none⟩,⟨(some 28),.bin .add (.tmp 27) (.const (.int .i64 1)),none⟩,⟨(some 29),.mv (.tmp 2),none⟩,⟨(some 30),.bin .sub (.tmp 29) (.const (.int .i64 1)),none⟩,⟨(some 11),.mv (.tmp 28),none⟩,⟨(some 12),.mv (.tmp 30),none⟩])
 (.seq (.block 0 (.loop (.block 1 (.seq (.block 2 (.loop (.seq (.seq (.draw [⟨⟨(some 31),.mv (.tmp 11),none⟩,0,0⟩,⟨⟨(some 32),.mv (.tmp 12),none⟩,0,0⟩,⟨⟨(some 33),.bin .leq (.tmp 31) (.tmp 32),none⟩,0,0⟩,⟨⟨(some 34),.mv (.tmp 33),none⟩,0,0⟩,⟨⟨(some 35),.mv (.tmp 4),some (34,true)⟩,0,0⟩,⟨⟨(some 36),.mv (.tmp 0),some (34,true)⟩,0,0⟩,⟨⟨(some 37),.mv (.tmp 1),some (34,true)⟩,0,0⟩,⟨⟨(some 38),.iaddrX 1 (.tmp 36) (.tmp 37),some (34,true)⟩,0,0⟩,⟨⟨(some 39),.loadX false 1 (.tmp 38),some (34,true)⟩,0,0⟩,⟨⟨(some 40),.mv (.tmp 0),some (34,true)⟩,0,0⟩,⟨⟨(some 41),.mv (.tmp 11),some (34,true)⟩,0,0⟩,⟨⟨(some 42),.iaddrX 1 (.tmp 40) (.tmp 41),some (34,true)⟩,0,0⟩,⟨⟨(some 43),.loadX false 1 (.tmp 42),some (34,true)⟩,0,0⟩,⟨⟨(some 44),.callv (.tmp 35) [(.tmp 39),(.tmp 43)],some (34,true)⟩,0,1⟩,⟨⟨(some 45),.bin .lss (.tmp 44) (.const (.int .i64 0)),some (34,true)⟩,1,1⟩,⟨⟨(some 46),.not (.tmp 45),some (34,true)⟩,1,1⟩,⟨⟨(some 47),.pick (.tmp 34) (.tmp 46) (.const (.bool false)),none⟩,1,1⟩])
 (.cond (.tmp 47) .skip (.exit 2)))
 (.block 3 (.region [⟨(some 48),.mv (.tmp 11),none⟩,⟨(some 49),.bin .add (.tmp 48) (.const (.int .i64 1)),none⟩,⟨(some 11),.mv (.tmp 49),none⟩])))))
 (.seq (.block 4 (.loop (.seq (.seq (.draw [⟨⟨(some 50),.mv (.tmp 11),none⟩,0,0⟩,⟨⟨(some 51),.mv (.tmp 12),none⟩,0,0⟩,⟨⟨(some 52),.bin .leq (.tmp 50) (.tmp 51),none⟩,0,0⟩,⟨⟨(some 53),.mv (.tmp 52),none⟩,0,0⟩,⟨⟨(some 54),.mv (.tmp 4),some (53,true)⟩,0,0⟩,⟨⟨(some 55),.mv (.tmp 0),some (53,true)⟩,0,0⟩,⟨⟨(some 56),.mv (.tmp 1),some (53,true)⟩,0,0⟩,⟨⟨(some 57),.iaddrX 1 (.tmp 55) (.tmp 56),some (53,true)⟩,0,0⟩,⟨⟨(some 58),.loadX false 1 (.tmp 57),some (53,true)⟩,0,0⟩,⟨⟨(some 59),.mv (.tmp 0),some (53,true)⟩,0,0⟩,⟨⟨(some 60),.mv (.tmp 12),some (53,true)⟩,0,0⟩,⟨⟨(some 61),.iaddrX 1 (.tmp 59) (.tmp 60),some (53,true)⟩,0,0⟩,⟨⟨(some 62),.loadX false 1 (.tmp 61),some (53,true)⟩,0,0⟩,⟨⟨(some 63),.callv (.tmp 54) [(.tmp 58),(.tmp 62)],some (53,true)⟩,0,1⟩,⟨⟨(some 64),.bin .lss (.tmp 63) (.const (.int .i64 0)),some (53,true)⟩,1,1⟩,⟨⟨(some 65),.pick (.tmp 53) (.tmp 64) (.const (.bool false)),none⟩,1,1⟩])
 (.cond (.tmp 65) .skip (.exit 4)))
 (.block 5 (.region [⟨(some 66),.mv (.tmp 12),none⟩,⟨(some 67),.bin .sub (.tmp 66) (.const (.int .i64 1)),none⟩,⟨(some 12),.mv (.tmp 67),none⟩])))))
 (.seq (.seq (.region [⟨(some 68),.mv (.tmp 11),none⟩,⟨(some 69),.mv (.tmp 12),none⟩,⟨(some 70),.bin .gtr (.tmp 68) (.tmp 69),none⟩])
 (.cond (.tmp 70) (.exit 0) .skip))
 (.seq (.draw [⟨⟨(some 71),.mv (.tmp 0),none⟩,0,0⟩,⟨⟨(some 72),.mv (.tmp 11),none⟩,0,0⟩,⟨⟨(some 73),.mv (.tmp 0),none⟩,0,1⟩,⟨⟨(some 74),.mv (.tmp 12),none⟩,0,1⟩,⟨⟨(some 75),.mv (.tmp 0),none⟩,0,0⟩,⟨⟨(some 76),.mv (.tmp 12),none⟩,0,0⟩,⟨⟨(some 77),.iaddrX 1 (.tmp 75) (.tmp 76),none⟩,0,0⟩,⟨⟨(some 78),.loadX false 1 (.tmp 77),none⟩,0,0⟩,⟨⟨(some 79),.mv (.tmp 0),none⟩,0,0⟩,⟨⟨(some 80),.mv (.tmp 11),none⟩,0,0⟩,⟨⟨(some 81),.iaddrX 1 (.tmp 79) (.tmp 80),none⟩,0,0⟩,⟨⟨(some 82),.loadX false 1 (.tmp 81),none⟩,0,0⟩,⟨⟨(some 83),.iaddrX 1 (.tmp 71) (.tmp 72),none⟩,0,0⟩,⟨⟨none,.storeX 1 (.tmp 83) (.tmp 78),none⟩,0,1⟩,⟨⟨(some 84),.iaddrX 1 (.tmp 73) (.tmp 74),none⟩,1,1⟩,⟨⟨none,.storeX 1 (.tmp 84) (.tmp 82),none⟩,1,2⟩])
 (.seq (.region [⟨(some 85),.mv (.tmp 11),none⟩,⟨(some 86),.bin .add (.tmp 85) (.const (.int .i64 1)),none⟩,⟨(some 11),.mv (.tmp 86),none⟩])
 (.region [⟨(some 87),.mv (.tmp 12),none⟩,⟨(some 88),.bin .sub (.tmp 87) (.const (.int .i64 1)),none⟩,⟨(some 12),.mv (.tmp 88),none⟩])))))))))
 (.seq (.region [⟨(some 89),.mv (.tmp 11),none⟩,⟨(some 10),.mv (.tmp 89),none⟩])
 .ret)))))⟩
theorem k293 : compFn Tryz.prog Tryz.f293 = some c293 := by kernel_rfl
-- slices.partitionCmpFunc[uint64]
def c294 : AFunc := ⟨[.tmp 10,.tmp 11],(.seq (.region [⟨(some 10),.mv (.const (.int .i64 0)),none⟩,⟨(some 11),.mv (.const (.bool false)),none⟩])
 (.seq (.draw [⟨⟨(some 14),.mv (.tmp 0),none⟩,0,0⟩,⟨⟨(some 15),.mv (.tmp 1),none⟩,0,0⟩,⟨⟨(some 16),.mv (.tmp 0),none⟩,0,1⟩,⟨⟨(some 17),.mv (.tmp 3),none⟩,0,1⟩,⟨⟨(some 18),.mv (.tmp 0),none⟩,0,0⟩,⟨⟨(some 19),.mv (.tmp 3),none⟩,0,0⟩,⟨⟨(some 20),.iaddrX 1 (.tmp 18) (.tmp 19),none⟩,0,0⟩,⟨⟨(some 21),.loadX false 1 (.tmp 20),none⟩,0,0⟩,⟨⟨(some 22),.mv (.tmp 0),none⟩,0,0⟩,⟨⟨(some 23),.mv (.tmp 1),none⟩,0,0⟩,⟨⟨(some 24),.iaddrX 1 (.tmp 22) (.tmp 23),none⟩,0,0⟩,⟨⟨(some 25),.loadX false 1 (.tmp 24),none⟩,0,0⟩,⟨⟨(some 26),.iaddrX 1 (.tmp 14) (.tmp 15),none⟩,0,0⟩,⟨⟨none,.storeX 1 (.tmp 26) (.tmp 21),none⟩,0,1⟩,⟨⟨(some 27),.iaddrX 1 (.tmp 16) (.tmp 17),none⟩,1,1⟩,⟨⟨none,.storeX 1 (.tmp 27) (.tmp 25),none⟩,1,2⟩])
 (.seq (.region [⟨(some 28),.mv (.tmp 1),none⟩,⟨(some 29),.bin .add (.tmp 28) (.const (.int .i64 1)),none⟩,⟨(some 30),.mv (.tmp 2),none⟩,⟨(some 31),.bin .sub (.tmp 30) (.const (.int .i64 1)),none⟩,⟨(some 12),.mv (.tmp 29),none⟩,⟨(some 13),.mv (.tmp 31),none⟩])
 (.seq (.block 0 (.loop (.seq (.seq (.draw [⟨⟨(some 32),.mv (.tmp 12),none⟩,0,0⟩,⟨⟨(some 33),.mv (.tmp 13),none⟩,0,0⟩,⟨⟨(some 34),.bin .leq (.tmp 32) (.tmp 33),none⟩,0,0⟩,⟨⟨(some 35),.mv (.tmp 34),none⟩,0,0⟩,⟨⟨(some 36),.mv (.tmp 4),some (35,true)⟩,0,0⟩,⟨⟨(some 37),.mv (.tmp 0),some (35,true)⟩,0,0⟩,⟨⟨(some 38),.mv (.tmp 12),some (35,true)⟩,0,0⟩,⟨⟨(some 39),.iaddrX 1 (.tmp 37) (.tmp 38),some (35,true)⟩,0,0⟩,⟨⟨(some 40),.loadX false 1 (.tmp 39),some (35,true)⟩,0,0⟩,⟨⟨(some 41),.mv (.tmp 0),some (35,true)⟩,0,0⟩,⟨⟨(some 42),.mv (.tmp 1),some (35,true)⟩,0,0⟩,⟨⟨(some 43),.iaddrX 1 (.tmp 41) (.tmp 42),some (35,true)⟩,0,0⟩,⟨⟨(some 44),.loadX false 1 (.tmp 43),some (35,true)⟩,0,0⟩,⟨⟨(some 45),.callv (.tmp 36) [(.tmp 40),(.tmp 44)],some (35,true)⟩,0,1⟩,⟨⟨(some 46),.bin .lss (.tmp 45) (.const (.int .i64 0)),some (35,true)⟩,1,1⟩,⟨⟨(some 47),.pick (.tmp 35) (.tmp 46) (.const (.bool false)),none⟩,1,1⟩])
 (.cond (.tmp 47) .skip (.exit 0)))
 (.block 1 (.region [⟨(some 48),.mv (.tmp 12),none⟩,⟨(some 49),.bin .add (.tmp 48) (.const (.int .i64 1)),none⟩,⟨(some 12),.mv (.tmp 49),none⟩])))))
 (.seq (.block 2 (.loop (.seq (.seq (.draw [⟨⟨(some 50),.mv (.tmp 12),none⟩,0,0⟩,⟨⟨(some 51),.mv (.tmp 13),none⟩,0,0⟩,⟨⟨(some 52),.bin .leq (.tmp 50) (.tmp 51),none⟩,0,0⟩,⟨⟨(some 53),.mv (.tmp 52),none⟩,0,0⟩,⟨⟨(some 54),.mv (.tmp 4),some (53,true)⟩,0,0⟩,⟨⟨(some 55),.mv (.tmp 0),some (53,true)⟩,0,0⟩,⟨⟨(some 56),.mv (.tmp 13),some (53,true)⟩,0,0⟩,⟨⟨(some 57),.iaddrX 1 (.tmp 55) (.tmp 56),some (53,true)⟩,0,0⟩,⟨⟨(some 58),.loadX false 1 (.tmp 57),some (53,true)⟩,0,0⟩,⟨⟨(some 59),.mv (.tmp 0),some (53,true)⟩,0,0⟩,⟨⟨(some 60),.mv (.tmp 1),some (53,true)⟩,0,0⟩,⟨⟨(some 61),.iaddrX 1 (.tmp 59) (.tmp 60),some (53,true)⟩,0,0⟩,⟨⟨(some 62),.loadX false 1 (.tmp 61),some (53,true)⟩,0,0⟩,⟨⟨(some 63),.callv (.tmp 54) [(.tmp 58),(.tmp 62)],some (53,true)⟩,0,1⟩,⟨⟨(some 64),.bin .lss (.tmp 63) (.const (.int .i64 0)),some (53,true)⟩,1,1⟩,⟨⟨(some 65),.not (.tmp 64),some (53,true)⟩,1,1⟩,⟨⟨(some 66),.pick (.tmp 53) (.tmp 65) (.const (.bool false)),none⟩,1,1⟩])
 (.cond (.tmp 66) .skip (.exit 2)))
 (.block 3 (.region [⟨(some 67),.mv (.tmp 13),none⟩,⟨(some 68),.bin .sub (.tmp 67) (.const (.int .i64 1)),none⟩,⟨(some 13),.mv (.tmp 68),none⟩])))))
 (.seq (.seq (.region [⟨(some 69),.mv (.tmp 12),none⟩,⟨(some 70),.mv (.tmp 13),none⟩,⟨(some 71),.bin .gtr (.tmp 69) (.tmp 70),none⟩])
 (.cond (.tmp 71) (.seq (.draw [⟨⟨(some 72),.mv (.tmp 0),none⟩,0,0⟩,⟨⟨(some 73),.mv (.tmp 13),none⟩,0,0⟩,⟨⟨(some 74),.mv (.tmp 0),none⟩,0,1⟩,⟨⟨(some 75),.mv (.tmp 1),none⟩,0,1⟩,⟨⟨(some 76),.mv (.tmp 0),none⟩,0,0⟩,⟨⟨(some 77),.mv (.tmp 1),none⟩,0,0⟩,⟨⟨(some 78),.iaddrX 1 (.tmp 76) (.tmp 77),none⟩,0,0⟩,⟨⟨(some 79),.loadX false 1 (.tmp 78),none⟩,0,0⟩,⟨⟨(some 80),.mv (.tmp 0),none⟩,0,0⟩,⟨⟨(some 81),.mv (.tmp 13),none⟩,0,0⟩,⟨⟨(some 82),.iaddrX 1 (.tmp 80) (.tmp 81),none⟩,0,0⟩,⟨⟨(some 83),.loadX false 1 (.tmp 82),none⟩,0,0⟩,⟨⟨(some 84),.iaddrX 1 (.tmp 72) (.tmp 73),none⟩,0,0⟩,⟨⟨none,.storeX 1 (.tmp 84) (.tmp 79),none⟩,0,1⟩,⟨⟨(some 85),.iaddrX 1 (.tmp 74) (.tmp 75),none⟩,1,1⟩,⟨⟨none,.storeX 1 (.tmp 85) (.tmp 83),none⟩,1,2⟩])
 (.seq (.region [⟨(some 86),.mv (.tmp 13),none⟩,⟨(some 10),.mv (.tmp 86),none⟩,⟨(some 11),.mv (.const (.bool true)),none⟩])
 .ret)) .skip))
 (.seq (.draw [⟨⟨(some 87),.mv (.tmp 0),none⟩,0,0⟩,⟨⟨(some 88),.mv (.tmp 12),none⟩,0,0⟩,⟨⟨(some 89),.mv (.tmp 0),none⟩,0,1⟩,⟨⟨(some 90),.mv (.tmp 13),none⟩,0,1⟩,⟨⟨(some 91),.mv (.tmp 0),none⟩,0,0⟩,⟨⟨(some 92),.mv (.tmp 13),none⟩,0,0⟩,⟨⟨(some 93),.iaddrX 1 (.tmp 91) (.tmp 92),none⟩,0,0⟩,⟨⟨(some 94),.loadX false 1 (.tmp 93),none⟩,0,0⟩,⟨⟨(some 95),.mv (.tmp 0),none⟩,0,0⟩,⟨⟨(some 96),.mv (.tmp 12),none⟩,0,0⟩,⟨⟨(some 97),.iaddrX 1 (.tmp 95) (.tmp 96),none⟩,0,0⟩,⟨⟨(some 98),.loadX false 1 (.tmp 97),none⟩,0,0⟩,⟨⟨(some 99),.iaddrX 1 (.tmp 87) (.tmp 88),none⟩,0,0⟩,⟨⟨none,.storeX 1 (.tmp 99) (.tmp 94),none⟩,0,1⟩,⟨⟨(some 100),.iaddrX 1 (.tmp 89) (.tmp 90),none⟩,1,1⟩,⟨⟨none,.storeX 1 (.tmp 100) (.tmp 98),none⟩,1,2⟩])
 (.seq (.region [⟨(some 101),.mv (.tmp 12),none⟩,⟨(some 102),.bin .add (.tmp 101) (.const (.int .i64 1)),none⟩,⟨(some 12),.mv (.tmp 102),none⟩])
 (.seq (.region [⟨(some 103),.mv (.tmp 13),none⟩,⟨(some 104),.bin .sub (.tmp 103) (.const (.int .i64 1)),none⟩,⟨(some 13),.mv (.tmp 104),none⟩])
 (.seq (.block 4 (.loop (.block 5 (.seq (.block 6 (.loop (.seq (.seq (.draw [⟨⟨(some 105),.mv (.tmp 12),none⟩,0,0⟩,⟨⟨(some 106),.mv (.tmp 13),none⟩,0,0⟩,⟨⟨(some 107),.bin .leq (.tmp 105) (.tmp 106),none⟩,0,0⟩,⟨⟨(some 108),.mv (.tmp 107),none⟩,0,0⟩,⟨⟨(some 109),.mv (.tmp 4),some (108,true)⟩,0,0⟩,⟨⟨(some 110),.mv (.tmp 0),some (108,true)⟩,0,0⟩,⟨⟨(some 111),.mv (.tmp 12),some (108,true)⟩,0,0⟩,⟨⟨(some 112),.iaddrX 1 (.tmp 110) (.tmp 111),some (108,true)⟩,0,0⟩,⟨⟨(some 113),.loadX false 1 (.tmp 112),some (108,true)⟩,0,0⟩,⟨⟨(some 114),.mv (.tmp 0),some (108,true)⟩,0,0⟩,⟨⟨(some 115),.mv (.tmp 1),some (108,true)⟩,0,0⟩,⟨⟨(some 116),.iaddrX 1 (.tmp 114) (.tmp 115),some (108,true)⟩,0,0⟩,⟨⟨(some 117),.loadX false 1 (.tmp 116),some (108,true)⟩,0,0⟩,⟨⟨(some 118),.callv (.tmp 109) [(.tmp 113),(.tmp 117)],some (108,true)⟩,0,1⟩,⟨⟨(some 119),.bin .lss (.tmp 118) (.const (.int .i64 0)),some (108,true)⟩,1,1⟩,⟨⟨(some 120),.pick (.tmp 108) (.tmp 119) (.const (.bool false)),none⟩,1,1⟩])
 (.cond (.tmp 120) .skip (.exit 6)))
 (.block 7 (.region [⟨(some 121),.mv (.tmp 12),none⟩,⟨(some 122),.bin .add (.tmp 121) (.const (.int .i64 1)),none⟩,⟨(some 12),.mv (.tmp 122),none⟩])))))
 (.seq (.block 8 (.loop (.seq (.seq (.draw [⟨⟨(some 123),.mv (.tmp 12),none⟩,0,0⟩,⟨⟨(some 124),.mv (.tmp 13),none⟩,0,0⟩,⟨⟨(some 125),.bin .leq (.tmp 123) (.tmp 124),none⟩,0,0⟩,⟨⟨(some 126),.mv (.tmp 125),none⟩,0,0⟩,⟨⟨(some 127),.mv (.tmp 4),some (126,true)⟩,0,0⟩,⟨⟨(some 128),.mv (.tmp 0),some (126,true)⟩,0,0⟩,⟨⟨(some 129),.mv (.tmp 13),some (126,true)⟩,0,0⟩,⟨⟨(some 130),.iaddrX 1 (.tmp 128) (.tmp 129),some (126,true)⟩,0,0⟩,⟨⟨(some 131),.loadX false 1 (.tmp 130),some (126,true)⟩,0,0⟩,⟨⟨(some 132),.mv (.tmp 0),some (126,true)⟩,0,0⟩,⟨⟨(some 133),.mv (.tmp 1),some (126,true)⟩,0,0⟩,⟨⟨(some 134),.iaddrX 1 (.tmp 132) (.tmp 133),some (126,true)⟩,0,0⟩,⟨⟨(some 135),.loadX false 1 (.tmp 134),some (126,true)⟩,0,0⟩,⟨⟨(some 136),.callv (.tmp 127) [(.tmp 131),(.tmp 135)],some (126,true)⟩,0,1⟩,⟨⟨(some 137),.bin .lss (.tmp 136) (.const (.int .i64 0)),some (126,true)⟩,1,1⟩,⟨⟨(some 138),.not (.tmp 137),some (126,true)⟩,1,1⟩,⟨⟨(some 139),.pick (.tmp 126) (.tmp 138) (.const (.bool false)),none⟩,1,1⟩])
 (.cond (.tmp 139) .skip (.exit 8)))
 (.block 9 (.region [⟨(some 140),.mv (.tmp 13),none⟩,⟨(some 141),.bin .sub (.tmp 140) (.const (.int .i64 1)),none⟩,⟨(some 13),.mv (.tmp 141),none⟩])))))
 (.seq (.seq (.region [⟨(some 142),.mv (.tmp 12),none⟩,⟨(some 143),.mv (.tmp 13),none⟩,⟨(some 144),.bin .gtr (.tmp 142) (.tmp 143),none⟩])
 (.cond (.tmp 144) (.exit 4) .skip))
 (.seq (.draw [⟨⟨(some 145),.mv (.tmp 0),none⟩,0,0⟩,⟨⟨(some 146),.mv (.tmp 12),none⟩,0,0⟩,⟨⟨(some 147),.mv (.tmp 0),none⟩,0,1⟩,⟨⟨(some 148),.mv (.tmp 13),none⟩,0,1⟩,⟨⟨(some 149),.mv (.tmp 0),none⟩,0,0⟩,⟨⟨(some 150),.mv (.tmp 13),none⟩,0,0⟩,⟨⟨(some 151),.iaddrX 1 (.tmp 149) (.tmp 150),none⟩,0,0⟩,⟨⟨(some 152),.loadX false 1 (.tmp 151),none⟩,0,0⟩,⟨⟨(some 153),.mv (.tmp 0),none⟩,0,0⟩,⟨⟨(some 154),.mv (.tmp 12),none⟩,0,0⟩,⟨⟨(some 155),.iaddrX 1 (.tmp 153) (.tmp 154),none⟩,0,0⟩,⟨⟨(some 156),.loadX false 1 (.tmp 155),none⟩,0,0⟩,⟨⟨(some 157),.iaddrX 1 (.tmp 145) (.tmp 146),none⟩,0,0⟩,⟨⟨none,.storeX 1 (.tmp 157) (.tmp 152),none⟩,0,1⟩,⟨⟨(some 158),.iaddrX 1 (.tmp 147) (.tmp 148),none⟩,1,1⟩,⟨⟨none,.storeX 1 (.tmp 158) (.tmp 156),none⟩,1,2⟩])
 (.seq (.region [⟨(some 159),.mv (.tmp 12),none⟩,⟨(some 160),.bin .add (.tmp 159) (.const (.int .i64 1)),none⟩,⟨(some 12),.mv (.tmp 160),none⟩])
 (.region [⟨(some 161),.mv (.tmp 13),none⟩,⟨(some 162),.bin .sub (.tmp 161) (.const (.int .i64 1)),none⟩,⟨(some 13),.mv (.tmp 162),none⟩])))))))))
 (.seq (.draw [⟨⟨(some 163),.mv (.tmp 0),none⟩,0,0⟩,⟨⟨(some 164),.mv (.tmp 13),none⟩,0,0⟩,⟨⟨(some 165),.mv (.tmp 0),none⟩,0,1⟩,⟨⟨(some 166),.mv (.tmp 1),none⟩,0,1⟩,⟨⟨(some 167),.mv (.tmp 0),none⟩,0,0⟩,⟨⟨(some 168),.mv (.tmp 1),none⟩,0,0⟩,⟨⟨(some 169),.iaddrX 1 (.tmp 167) (.tmp 168),none⟩,0,0⟩,⟨⟨(some 170),.loadX false 1 (.tmp 169),none⟩,0,0⟩,⟨⟨(some 171),.mv (.tmp 0),none⟩,0,0⟩,⟨⟨(some 172),.mv (.tmp 13),none⟩,0,0⟩,⟨⟨(some 173),.iaddrX 1 (.tmp 171) (.tmp 172),none⟩,0,0⟩,⟨⟨(some 174),.loadX false 1 (.tmp 173),none⟩,0,0⟩,⟨⟨(some 175),.iaddrX 1 (.tmp 163) (.tmp 164),none⟩,0,0⟩,⟨⟨none,.storeX 1 (.tmp 175) (.tmp 170),none⟩,0,1⟩,⟨⟨(some 176),.iaddrX 1 (.tmp 165) (.tmp 166),none⟩,1,1⟩,⟨⟨none,.storeX 1 (.tmp 176) (.tmp 174),none⟩,1,2⟩])
 (.seq (.region [⟨(some 177),.mv (.tmp 13),none⟩,⟨(some 10),.mv (.tmp 177),none⟩,⟨(some 11),.mv (.const (.bool false)),none⟩])
 .ret))))))))))))⟩
theorem k294 : compFn Tryz.prog Tryz.f294 = some c294 := by kernel_rfl
-- math/bits.Len32
def c295 : AFunc := ⟨[.tmp 2],(.seq (.region [⟨(some 2),.mv (.const (.int .i64 0)),none⟩])
 (.seq (.seq (.region [⟨(some 3),.mv (.tmp 0),none⟩,⟨(some 4),.bin .geq (.tmp 3) (.const (.int .u32 65536)),none⟩])
 (.cond (.tmp 4) (.seq (.region [⟨(some 5),.mv (.tmp 0),none⟩,⟨(some 6),.bin .shr (.tmp 5) (.const (.int .u64 16)),none⟩,⟨(some 0),.mv (.tmp 6),none⟩])
 (.region [⟨(some 2),.mv (.const (.int .i64 16)),none⟩])) .skip))
 (.seq (.seq (.region [⟨(some 7),.mv (.tmp 0),none⟩,⟨(some 8),.bin .geq (.tmp 7) (.const (.int .u32 256)),none⟩])
 (.cond (.tmp 8) (.seq (.region [⟨(some 9),.mv (.tmp 0),none⟩,⟨(some 10),.bin .shr (.tmp 9) (.const (.int .u64 8)),none⟩,⟨(some 0),.mv (.tmp 10),none⟩])
 (.region [⟨(some 11),.mv (.tmp 2),none⟩,⟨(some 12),.bin .add (.tmp 11) (.const (.int .i64 8)),none⟩,⟨(some 2),.mv (.tmp 12),none⟩])) .skip))
 (.seq (.region [⟨(some 13),.mv (.tmp 2),none⟩,⟨(some 14),.mv (.tmp 0),none⟩,⟨(some 15),.conv .u8 (.tmp 14),none⟩,⟨(some 16),.indexS (.const (.str [0,1,2,2,3,3,3,3,4,4,4,4,4,4,4,4,5,5,5,5,5,5,5,5,5,5,5,5,5,5,5,5,6,6,6,6,6,6,6,6,6,6,6,6,6,6,6,6,6,6,6,6,6,6,6,6,6,6,6,6,6,6,6,6,7,7,7,7,7,7,7,7,7,7,7,7,7,7,7,7,7,7,7,7,7,7,7,7,7,7,7,7,7,7,7,7,7,7,7,7,7,7,7,7,7,7,7,7,7,7,7,7,7,7,7,7,7,7,7,7,7,7,7,7,7,7,7,7,8,8,8,8,8,8,8,8,8,8,8,8,8,8,8,8,8,8,8,8,8,8,8,8,8,8,8,8,8,8,8,8,8,8,8,8,8,8,8,8,8,8,8,8,8,8,8,8,8,8,8,8,8,8,8,8,8,8,8,8,8,8,8,8,8,8,8,8,8,8,8,8,8,8,8,8,8,8,8,8,8,8,8,8,8,8,8,8,8,8,8,8,8,8,8,8,8,8,8,8,8,8,8,8,8,8,8,8,8,8,8,8,8,8,8,8,8,8,8,8,8,8,8,8,8,8,8,8])) (.tmp 15),none⟩,⟨(some 17),.conv .i64 (.tmp 16),none⟩,⟨(some 18),.bin .add (.tmp 13) (.tmp 17),none⟩,⟨(some 2),.mv (.tmp 18),none⟩])
 .ret))))⟩
theorem k295 : compFn Tryz.prog Tryz.f295 = some c295 := by kernel_rfl
-- math/bits.Len64
def c296 : AFunc := ⟨[.tmp 2],(.seq (.region [⟨(some 2),.mv (.const (.int .i64 0)),none⟩])
 (.seq (.seq (.region [⟨(some 3),.mv (.tmp 0),none⟩,⟨(some 4),.bin .geq (.tmp 3) (.const (.int .u64 4294967296)),none⟩])
 (.cond (.tmp 4) (.seq (.region [⟨(some 5),.mv (.tmp 0),none⟩,⟨(some 6),.bin .shr (.tmp 5) (.const (.int .u64 32)),none⟩,⟨(some 0),.mv (.tmp 6),none⟩])
 (.region [⟨(some 2),.mv (.const (.int .i64 32)),none⟩])) .skip))
 (.seq (.seq (.region [⟨(some 7),.mv (.tmp 0),none⟩,⟨(some 8),.bin .geq (.tmp 7) (.const (.int .u64 65536)),none⟩])
 (.cond (.tmp 8) (.seq (.region [⟨(some 9),.mv (.tmp 0),none⟩,⟨(some 10),.bin .shr (.tmp 9) (.const (.int .u64 16)),none⟩,⟨(some 0),.mv (.tmp 10),none⟩])
 (.region [⟨(some 11),.mv (.tmp 2),none⟩,⟨(some 12),.bin .add (.tmp 11) (.const (.int .i64 16)),none⟩,⟨(some 2),.mv (.tmp 12),none⟩])) .skip))
 (.seq (.seq (.region [⟨(some 13),.mv (.tmp 0),none⟩,⟨(some 14),.bin .geq (.tmp 13) (.const (.int .u64 256)),none⟩])
 (.cond (.tmp 14) (.seq (.region [⟨(some 15),.mv (.tmp 0),none⟩,⟨(some 16),.bin .shr (.tmp 15) (.const (.int .u64 8)),none⟩,⟨(some 0),.mv (.tmp 16),none⟩])
 (.region [⟨(some 17),.mv (.tmp 2),none⟩,⟨(some 18),.bin .add (.tmp 17) (.const (.int .i64 8)),none⟩,⟨(some 2),.mv (.tmp 18),none⟩])) .skip))
 (.seq (.region [⟨(some 19),.mv (.tmp 2),none⟩,⟨(some 20),.mv (.tmp 0),none⟩,⟨(some 21),.conv .u8 (.tmp 20),none⟩,⟨(some 22),.indexS (.const (.str [0,1,2,2,3,3,3,3,4,4,4,4,4,4,4,4,5,5,5,5,5,5,5,5,5,5,5,5,5,5,5,5,6,6,6,6,6,6,6,6,6,6,6,6,6,6,6,6,6,6,6,6,6,6,6,6,6,6,6,6,6,6,6,6,7,7,7,7,7,7,7,7,7,7,7,7,7,7,7,7,7,7,7,7,7,7,7,7,7,7,7,7,7,7,7,7,7,7,7,7,7,7,7,7,7,7,7,7,7,7,7,7,7,7,7,7,7,7,7,7,7,7,7,7,7,7,7,7,8,8,8,8,8,8,8,8,8,8,8,8,8,8,8,8,8,8,8,8,8,8,8,8,8,8,8,8,8,8,8,8,8,8,8,8,8,8,8,8,8,8,8,8,8,8,8,8,8,8,8,8,8,8,8,8,8,8,8,8,8,8,8,8,8,8,8,8,8,8,8,8,8,8,8,8,8,8,8,8,8,8,8,8,8,8,8,8,8,8,8,8,8,8,8,8,8,8,8,8,8,8,8,8,8,8,8,8,8,8,8,8,8,8,8,8,8,8,8,8,8,8,8,8,8,8,8,8])) (.tmp 21),none⟩,⟨(some 23),.conv .i64 (.tmp 22),none⟩,⟨(some 24),.bin .add (.tmp 19) (.tmp 23),none⟩,⟨(some 2),.mv (.tmp 24),none⟩])
 .ret)))))⟩
theorem k296 : compFn Tryz.prog Tryz.f296 = some c296 := by kernel_rfl
-- (*croft/mem.Space).Word$1
def c297 : AFunc := ⟨[],(.regionR (some 1) [⟨(some 2),.call 222 [(.tmp 1),(.tmp 0)],none⟩])⟩
theorem k297 : compFn Tryz.prog Tryz.f297 = some c297 := by kernel_rfl
-- croft/bits.Log[uint64]
def c303 : AFunc := ⟨[.tmp 2],(.seq (.region [⟨(some 2),.mv (.const (.int .i64 0)),none⟩])
 (.seq (.region [⟨(some 3),.mv (.tmp 0),none⟩,⟨(some 4),.call 296 [(.tmp 3)],none⟩,⟨(some 5),.bin .sub (.tmp 4) (.const (.int .i64 1)),none⟩,⟨(some 2),.mv (.tmp 5),none⟩])
 .ret))⟩
theorem k303 : compFn Tryz.prog Tryz.f303 = some c303 := by kernel_rfl
-- (*croft/malloc.Heap).region
def c304 : AFunc := ⟨[.tmp 2],(.seq (.region [⟨(some 2),.mv (.const (.int .u64 0)),none⟩])
 (.seq (.region [⟨(some 3),.mv (.tmp 0),none⟩,⟨(some 4),.nilCheck (.tmp 3),none⟩,⟨(some 5),.faddr 2 (.tmp 4),none⟩,⟨(some 6),.faddr 2 (.tmp 5),none⟩,⟨(some 7),.loadX false 1 (.tmp 6),none⟩,⟨(some 8),.bin .shl (.const (.int .u64 4096)) (.tmp 7),none⟩,⟨(some 2),.mv (.tmp 8),none⟩])
 .ret))⟩
theorem k304 : compFn Tryz.prog Tryz.f304 = some c304 := by kernel_rfl
-- (*croft/buddy.Buddy).live
def c305 : AFunc := ⟨[.tmp 6,.tmp 7],(.seq (.region [⟨(some 6),.mv (.const (.int .i64 0)),none⟩,⟨(some 7),.mv (.const (.bool false)),none⟩])
 (.seq (.region [⟨(some 13),.mv (.tmp 0),none⟩,⟨(some 14),.mv (.tmp 1),none⟩,⟨(some 15),.call 364 [(.tmp 13),(.tmp 14)],none⟩,⟨(some 12),.mv (.tmp 15),none⟩,⟨(some 16),.extract (.tmp 12) 0,none⟩,⟨(some 17),.extract (.tmp 12) 1,none⟩,⟨(some 8),.mv (.tmp 16),none⟩,⟨(some 9),.mv (.tmp 17),none⟩])
 (.seq (.seq (.region [⟨(some 18),.mv (.tmp 9),none⟩,⟨(some 19),.not (.tmp 18),none⟩])
 (.cond (.tmp 19) (.seq (.region [⟨(some 6),.mv (.const (.int .i64 0)),none⟩,⟨(some 7),.mv (.const (.bool false)),none⟩])
 .ret) .skip))
 (.seq (.region [⟨(some 21),.mv (.tmp 0),none⟩,⟨(some 22),.nilCheck (.tmp 21),none⟩,⟨(some 23),.faddr 4 (.tmp 22),none⟩,⟨(some 24),.loadX false 1 (.tmp 23),none⟩,⟨(some 25),.mv (.tmp 8),none⟩,⟨(some 26),.call 118 [(.tmp 24),(.tmp 25)],none⟩,⟨(some 20),.mv (.tmp 26),none⟩,⟨(some 27),.extract (.tmp 20) 0,none⟩,⟨(some 28),.extract (.tmp 20) 1,none⟩,⟨(some 10),.alloc [(.int .i64 0),(.int .i64 0),(.int .i64 0),(.int .i64 0),(.int .i64 0),(.int .i64 0),(.int .i64 0),(.int .u64 0),(.int .u64 0),(.int .u64 0),(.int .u64 0)],none⟩,⟨none,.storeX 11 (.tmp 10) (.tmp 27),none⟩,⟨(some 11),.mv (.tmp 28),none⟩])
 (.seq (.draw [⟨⟨(some 29),.mv (.tmp 8),none⟩,0,0⟩,⟨⟨(some 30),.faddr 0 (.tmp 10),none⟩,0,0⟩,⟨⟨(some 31),.loadX false 1 (.tmp 30),none⟩,0,0⟩,⟨⟨(some 32),.bin .eql (.tmp 31) (.const (.int .i64 2)),none⟩,0,0⟩,⟨⟨(some 33),.mv (.tmp 32),none⟩,0,0⟩,⟨⟨(some 34),.faddr 1 (.tmp 10),some (33,true)⟩,0,0⟩,⟨⟨(some 35),.loadX false 1 (.tmp 34),some (33,true)⟩,0,0⟩,⟨⟨(some 36),.mv (.tmp 2),some (33,true)⟩,0,0⟩,⟨⟨(some 37),.bin .eql (.tmp 35) (.tmp 36),some (33,true)⟩,0,0⟩,⟨⟨(some 38),.pick (.tmp 33) (.tmp 37) (.const (.bool false)),none⟩,0,0⟩,⟨⟨(some 6),.mv (.tmp 29),none⟩,0,0⟩,⟨⟨(some 7),.mv (.tmp 38),none⟩,0,0⟩])
 .ret)))))⟩
theorem k305 : compFn Tryz.prog Tryz.f305 = some c305 := by kernel_rfl
-- (*croft/buddy.Buddy).cut
def c306 : AFunc := ⟨[],(.seq (.seq (.region [⟨(some 9),.mv (.tmp 2),none⟩,⟨(some 10),.bin .sub (.tmp 9) (.const (.int .i64 1)),none⟩,⟨(some 8),.mv (.tmp 10),none⟩])
 (.block 0 (.loop (.seq (.seq (.region [⟨(some 11),.mv (.tmp 8),none⟩,⟨(some 12),.mv (.tmp 3),none⟩,⟨(some 13),.bin .geq (.tmp 11) (.tmp 12),none⟩])
 (.cond (.tmp 13) .skip (.exit 0)))
 (.seq (.block 1 (.seq (.region [⟨(some 16),.mv (.tmp 0),none⟩,⟨(some 17),.mv (.tmp 1),none⟩,⟨(some 18),.mv (.tmp 8),none⟩,⟨(some 19),.bin .shl (.const (.int .i64 1)) (.tmp 18),none⟩,⟨(some 20),.bin .add (.tmp 17) (.tmp 19),none⟩,⟨(some 21),.mv (.tmp 8),none⟩,⟨(some 22),.call 365 [(.tmp 16),(.tmp 20),(.tmp 21)],none⟩])
 (.region [⟨(some 23),.mv (.tmp 0),none⟩,⟨(some 24),.mv (.tmp 1),none⟩,⟨(some 25),.mv (.tmp 8),none⟩,⟨(some 26),.bin .shl (.const (.int .i64 1)) (.tmp 25),none⟩,⟨(some 27),.bin .add (.tmp 24) (.tmp 26),none⟩,⟨(some 28),.mv (.tmp 8),none⟩,⟨(some 29),.call 366 [(.tmp 23),(.tmp 27),(.tmp 28)],none⟩])))
 (.region [⟨(some 14),.mv (.tmp 8),none⟩,⟨(some 15),.bin .sub (.tmp 14) (.const (.int .i64 1)),none⟩,⟨(some 8),.mv (.tmp 15),none⟩]))))))
 (.region [⟨(some 30),.mv (.tmp 0),none⟩,⟨(some 31),.nilCheck (.tmp 30),none⟩,⟨(some 32),.faddr 4 (.tmp 31),none⟩,⟨(some 33),.loadX false 1 (.tmp 32),none⟩,⟨(some 34),.mv (.tmp 1),none⟩,⟨(some 35),.mv (.tmp 3),none⟩,⟨(some 36),.call 326 [(.tmp 33),(.tmp 34),(.tmp 35),(.const (.int .i64 2))],none⟩]))⟩
theorem k306 : compFn Tryz.prog Tryz.f306 = some c306 := by kernel_rfl
end
end Go.Proofs.YtdnefddmghhgpaaGreatDoor
