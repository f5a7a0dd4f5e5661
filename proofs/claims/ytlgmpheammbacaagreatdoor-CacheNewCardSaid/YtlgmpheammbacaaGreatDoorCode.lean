import Derived.Test.YtlgmpheammbacaaGreatDoorLink
set_option maxRecDepth 1000000
set_option maxHeartbeats 4000000
set_option linter.unusedVariables false
namespace Go.Proofs.YtlgmpheammbacaaGreatDoor
open AM Go
noncomputable section
def c4 : AFunc := ⟨[.tmp 2],(.seq (.region [⟨some 1,.box 6 (.tmp 0),none⟩,⟨some 2,.mv (.const (.bool false)),none⟩])
 (.seq (.draw [⟨⟨some 6,.faddr 0 (.tmp 1),none⟩,0,0⟩,⟨⟨some 7,.load true 3 (.tmp 6),none⟩,0,0⟩,⟨⟨some 8,.call 21 [(.tmp 7)],none⟩,0,1⟩,⟨⟨some 9,.faddr 3 (.tmp 1),none⟩,0,1⟩,⟨⟨some 10,.load false 1 (.tmp 9),none⟩,0,1⟩,⟨⟨some 11,.faddr 4 (.tmp 1),none⟩,0,1⟩,⟨⟨some 12,.load false 1 (.tmp 11),none⟩,0,1⟩,⟨⟨some 13,.call 20 [(.tmp 8),(.tmp 10),(.tmp 12)],none⟩,1,2⟩,⟨⟨some 5,.mv (.tmp 13),none⟩,2,2⟩,⟨⟨some 14,.extract (.tmp 5) 0,none⟩,2,2⟩,⟨⟨some 15,.extract (.tmp 5) 1,none⟩,2,2⟩,⟨⟨some 3,.mv (.tmp 14),none⟩,2,2⟩,⟨⟨some 4,.mv (.tmp 15),none⟩,2,2⟩])
 (.seq (.seq (.region [⟨some 16,.load true 6 (.tmp 1),none⟩,⟨some 17,.call 22 [(.tmp 16)],none⟩,⟨some 18,.not (.tmp 17),none⟩])
 (.cond (.tmp 18) (.seq (.region [⟨some 19,.mv (.tmp 4),none⟩,⟨some 20,.bin .eql (.tmp 19) (.const (.int .i64 1)),none⟩,⟨some 21,.mv (.tmp 20),none⟩,⟨some 22,.mv (.tmp 3),some (21,true)⟩,⟨some 23,.eq1 false .ptr (.tmp 22) (.const (.ptr none)),some (21,true)⟩,⟨some 24,.pick (.tmp 21) (.tmp 23) (.const (.bool false)),none⟩,⟨some 25,.mv (.tmp 24),none⟩,⟨some 26,.call 23 [],some (25,true)⟩,⟨some 27,.pick (.tmp 25) (.tmp 26) (.const (.bool false)),none⟩,⟨some 2,.mv (.tmp 27),none⟩])
 .ret) .skip))
 (.seq (.region [⟨some 28,.mv (.tmp 4),none⟩,⟨some 29,.bin .eql (.tmp 28) (.const (.int .i64 0)),none⟩,⟨some 30,.mv (.tmp 29),none⟩,⟨some 31,.mv (.tmp 3),some (30,true)⟩,⟨some 32,.eq1 true .ptr (.tmp 31) (.const (.ptr none)),some (30,true)⟩,⟨some 33,.pick (.tmp 30) (.tmp 32) (.const (.bool false)),none⟩,⟨some 34,.mv (.tmp 33),none⟩,⟨some 35,.mv (.tmp 3),some (34,true)⟩,⟨some 36,.faddr 3 (.tmp 1),some (34,true)⟩,⟨some 37,.load false 1 (.tmp 36),some (34,true)⟩,⟨some 38,.call 24 [(.tmp 35),(.tmp 37)],some (34,true)⟩,⟨some 39,.lenS (.tmp 38),some (34,true)⟩,⟨some 40,.bin .eql (.tmp 39) (.const (.int .i64 0)),some (34,true)⟩,⟨some 41,.pick (.tmp 34) (.tmp 40) (.const (.bool false)),none⟩,⟨some 42,.mv (.tmp 41),none⟩,⟨some 43,.mv (.tmp 3),some (42,true)⟩,⟨some 44,.call 24 [(.tmp 43),(.const (.int .i64 (-1)))],some (42,true)⟩,⟨some 45,.lenS (.tmp 44),some (42,true)⟩,⟨some 46,.bin .eql (.tmp 45) (.const (.int .i64 0)),some (42,true)⟩,⟨some 47,.pick (.tmp 42) (.tmp 46) (.const (.bool false)),none⟩,⟨some 48,.mv (.tmp 47),none⟩,⟨some 49,.mv (.tmp 3),some (48,true)⟩,⟨some 50,.faddr 3 (.tmp 1),some (48,true)⟩,⟨some 51,.load false 1 (.tmp 50),some (48,true)⟩,⟨some 52,.bin .sub (.tmp 51) (.const (.int .i64 1)),some (48,true)⟩,⟨some 53,.call 24 [(.tmp 49),(.tmp 52)],some (48,true)⟩,⟨some 54,.lenS (.tmp 53),some (48,true)⟩,⟨some 55,.bin .eql (.tmp 54) (.const (.int .i64 8)),some (48,true)⟩,⟨some 56,.pick (.tmp 48) (.tmp 55) (.const (.bool false)),none⟩,⟨some 57,.mv (.tmp 56),none⟩,⟨some 58,.mv (.tmp 3),some (57,true)⟩,⟨some 59,.call 25 [(.tmp 58)],some (57,true)⟩,⟨some 60,.lenS (.tmp 59),some (57,true)⟩,⟨some 61,.bin .eql (.tmp 60) (.const (.int .i64 0)),some (57,true)⟩,⟨some 62,.pick (.tmp 57) (.tmp 61) (.const (.bool false)),none⟩,⟨some 63,.mv (.tmp 62),none⟩,⟨some 64,.call 23 [],some (63,true)⟩,⟨some 65,.pick (.tmp 63) (.tmp 64) (.const (.bool false)),none⟩,⟨some 2,.mv (.tmp 65),none⟩])
 .ret))))⟩
theorem k4 : compFn Tryz.prog Tryz.f4 = some c4 := by kernel_rfl
def c16 : AFunc := ⟨[.tmp 2,.tmp 3],(.seq (.region [⟨some 1,.box 3 (.tmp 0),none⟩,⟨some 2,.mv (.const (.ptr none)),none⟩,⟨some 3,.mv (.const (.int .i64 0)),none⟩])
 (.seq (.region [⟨some 7,.load true 3 (.tmp 1),none⟩,⟨some 8,.call 58 [(.tmp 7)],none⟩,⟨some 6,.mv (.tmp 8),none⟩,⟨some 9,.extract (.tmp 6) 0,none⟩,⟨some 10,.extract (.tmp 6) 1,none⟩,⟨some 4,.mv (.tmp 9),none⟩,⟨some 5,.mv (.tmp 10),none⟩])
 (.seq (.seq (.region [⟨some 11,.mv (.tmp 5),none⟩,⟨some 12,.bin .neq (.tmp 11) (.const (.int .i64 0)),none⟩])
 (.cond (.tmp 12) (.seq (.region [⟨some 13,.mv (.tmp 5),none⟩,⟨some 2,.mv (.const (.ptr none)),none⟩,⟨some 3,.mv (.tmp 13),none⟩])
 .ret) .skip))
 (.seq (.draw [⟨⟨some 14,.load true 3 (.tmp 1),none⟩,0,1⟩,⟨⟨some 15,.mv (.tmp 4),none⟩,0,1⟩,⟨⟨some 16,.mv (.tmp 4),none⟩,0,0⟩,⟨⟨some 17,.call 59 [(.tmp 16)],none⟩,0,1⟩,⟨⟨some 18,.build [(.int .i32 0),(.int .u32 0),(.int .u64 0),(.int .i64 0),(.int .i64 0),(.ptr none),(.ptr none)] [(2,3,(.tmp 14)),(5,1,(.tmp 15)),(6,1,(.tmp 17))],none⟩,1,1⟩,⟨⟨some 19,.box 7 (.tmp 18),none⟩,1,2⟩,⟨⟨some 2,.mv (.tmp 19),none⟩,2,2⟩,⟨⟨some 3,.mv (.const (.int .i64 0)),none⟩,2,2⟩])
 .ret))))⟩
theorem k16 : compFn Tryz.prog Tryz.f16 = some c16 := by kernel_rfl
def c20 : AFunc := ⟨[.tmp 6,.tmp 7],(.seq (.region [⟨some 3,.box 3 (.tmp 0),none⟩,⟨some 6,.mv (.const (.ptr none)),none⟩,⟨some 7,.mv (.const (.int .i64 0)),none⟩])
 (.seq (.seq (.region [⟨some 10,.mv (.tmp 1),none⟩,⟨some 11,.bin .lss (.tmp 10) (.const (.int .i64 1)),none⟩,⟨some 12,.mv (.tmp 11),none⟩,⟨some 13,.mv (.tmp 1),some (12,false)⟩,⟨some 14,.bin .gtr (.tmp 13) (.const (.int .i64 16)),some (12,false)⟩,⟨some 15,.pick (.tmp 12) (.const (.bool true)) (.tmp 14),none⟩,⟨some 16,.mv (.tmp 15),none⟩,⟨some 17,.mv (.tmp 2),some (16,false)⟩,⟨some 18,.bin .lss (.tmp 17) (.const (.int .i64 0)),some (16,false)⟩,⟨some 19,.pick (.tmp 16) (.const (.bool true)) (.tmp 18),none⟩,⟨some 20,.mv (.tmp 19),none⟩,⟨some 21,.mv (.tmp 2),some (20,false)⟩,⟨some 22,.bin .gtr (.tmp 21) (.const (.int .i64 64)),some (20,false)⟩,⟨some 23,.pick (.tmp 20) (.const (.bool true)) (.tmp 22),none⟩])
 (.cond (.tmp 23) (.seq (.region [⟨some 6,.mv (.const (.ptr none)),none⟩,⟨some 7,.mv (.const (.int .i64 1)),none⟩])
 .ret) .skip))
 (.seq (.region [⟨some 25,.load true 3 (.tmp 3),none⟩,⟨some 26,.call 16 [(.tmp 25)],none⟩,⟨some 24,.mv (.tmp 26),none⟩,⟨some 27,.extract (.tmp 24) 0,none⟩,⟨some 28,.extract (.tmp 24) 1,none⟩,⟨some 8,.mv (.tmp 27),none⟩,⟨some 9,.mv (.tmp 28),none⟩])
 (.seq (.seq (.region [⟨some 29,.mv (.tmp 9),none⟩,⟨some 30,.bin .neq (.tmp 29) (.const (.int .i64 0)),none⟩])
 (.cond (.tmp 30) (.seq (.region [⟨some 31,.mv (.tmp 9),none⟩,⟨some 6,.mv (.const (.ptr none)),none⟩,⟨some 7,.mv (.tmp 31),none⟩])
 .ret) .skip))
 (.seq (.region [⟨some 32,.mv (.tmp 8),none⟩,⟨some 33,.mv (.tmp 2),none⟩,⟨some 34,.mv (.tmp 1),none⟩,⟨some 35,.makeSlice 8 192 [(.slice none 0 0),(.slice none 0 0),(.slice none 0 0),(.slice none 0 0),(.slice none 0 0),(.slice none 0 0),(.slice none 0 0),(.slice none 0 0)] (.tmp 34) (.tmp 34),none⟩,⟨some 36,.makeMap,none⟩,⟨some 37,.build [(.int .i32 0),(.int .u32 0),(.ptr none),(.int .i64 0),(.slice none 0 0),(.map none)] [(2,1,(.tmp 32)),(3,1,(.tmp 33)),(4,1,(.tmp 35)),(5,1,(.tmp 36))],none⟩,⟨some 38,.box 6 (.tmp 37),none⟩,⟨some 6,.mv (.tmp 38),none⟩,⟨some 7,.mv (.const (.int .i64 0)),none⟩])
 .ret)))))⟩
theorem k20 : compFn Tryz.prog Tryz.f20 = some c20 := by kernel_rfl
def c21 : AFunc := ⟨[.cell 2 true 3],(.seq (.region [⟨some 1,.box 3 (.tmp 0),none⟩,⟨some 2,.alloc [(.int .u64 0),(.int .i64 0),(.int .i64 0)],none⟩])
 (.seq (.region [⟨some 3,.faddr 0 (.tmp 1),none⟩,⟨some 4,.load false 1 (.tmp 3),none⟩,⟨some 5,.faddr 1 (.tmp 1),none⟩,⟨some 6,.load false 1 (.tmp 5),none⟩,⟨some 7,.faddr 2 (.tmp 1),none⟩,⟨some 8,.load false 1 (.tmp 7),none⟩,⟨some 9,.build [(.int .u64 0),(.int .i64 0),(.int .i64 0)] [(0,1,(.tmp 4)),(1,1,(.tmp 6)),(2,1,(.tmp 8))],none⟩,⟨none,.store 3 (.tmp 2) (.tmp 9),none⟩])
 .ret))⟩
theorem k21 : compFn Tryz.prog Tryz.f21 = some c21 := by kernel_rfl
def c22 : AFunc := ⟨[.tmp 2],(.seq (.region [⟨some 1,.box 6 (.tmp 0),none⟩,⟨some 2,.mv (.const (.bool false)),none⟩])
 (.seq (.region [⟨some 3,.faddr 0 (.tmp 1),none⟩,⟨some 4,.load true 3 (.tmp 3),none⟩,⟨some 5,.call 63 [(.tmp 4)],none⟩,⟨some 6,.mv (.tmp 5),none⟩,⟨some 7,.faddr 3 (.tmp 1),some (6,true)⟩,⟨some 8,.load false 1 (.tmp 7),some (6,true)⟩,⟨some 9,.bin .geq (.tmp 8) (.const (.int .i64 1)),some (6,true)⟩,⟨some 10,.pick (.tmp 6) (.tmp 9) (.const (.bool false)),none⟩,⟨some 11,.mv (.tmp 10),none⟩,⟨some 12,.faddr 3 (.tmp 1),some (11,true)⟩,⟨some 13,.load false 1 (.tmp 12),some (11,true)⟩,⟨some 14,.bin .leq (.tmp 13) (.const (.int .i64 16)),some (11,true)⟩,⟨some 15,.pick (.tmp 11) (.tmp 14) (.const (.bool false)),none⟩,⟨some 16,.mv (.tmp 15),none⟩,⟨some 17,.faddr 4 (.tmp 1),some (16,true)⟩,⟨some 18,.load false 1 (.tmp 17),some (16,true)⟩,⟨some 19,.bin .geq (.tmp 18) (.const (.int .i64 0)),some (16,true)⟩,⟨some 20,.pick (.tmp 16) (.tmp 19) (.const (.bool false)),none⟩,⟨some 21,.mv (.tmp 20),none⟩,⟨some 22,.faddr 4 (.tmp 1),some (21,true)⟩,⟨some 23,.load false 1 (.tmp 22),some (21,true)⟩,⟨some 24,.bin .leq (.tmp 23) (.const (.int .i64 64)),some (21,true)⟩,⟨some 25,.pick (.tmp 21) (.tmp 24) (.const (.bool false)),none⟩,⟨some 2,.mv (.tmp 25),none⟩])
 .ret))⟩
theorem k22 : compFn Tryz.prog Tryz.f22 = some c22 := by kernel_rfl
def c24 : AFunc := ⟨[.tmp 4],(.seq (.region [⟨some 4,.mv (.const (.slice none 0 0)),none⟩])
 (.seq (.region [⟨some 8,.mv (.tmp 0),none⟩,⟨some 9,.nilCheck (.tmp 8),none⟩,⟨some 10,.faddr 0 (.tmp 9),none⟩,⟨some 11,.call 68 [(.tmp 10)],none⟩])
 (.seq (.region [⟨some 12,.mv (.tmp 0),none⟩,⟨some 13,.nilCheck (.tmp 12),none⟩,⟨some 14,.faddr 0 (.tmp 13),none⟩,⟨none,.defer 69 [(.tmp 14)],none⟩])
 (.seq (.seq (.region [⟨some 15,.mv (.tmp 0),none⟩,⟨some 16,.mv (.tmp 1),none⟩,⟨some 17,.call 70 [(.tmp 15),(.tmp 16)],none⟩,⟨some 18,.not (.tmp 17),none⟩])
 (.cond (.tmp 18) (.seq (.region [⟨some 4,.mv (.const (.slice none 0 0)),none⟩])
 .ret) .skip))
 (.seq (.region [⟨some 5,.mv (.const (.slice none 0 0)),none⟩])
 (.seq (.seq (.region [⟨some 19,.mv (.tmp 0),none⟩,⟨some 20,.nilCheck (.tmp 19),none⟩,⟨some 21,.faddr 4 (.tmp 20),none⟩,⟨some 22,.load false 1 (.tmp 21),none⟩,⟨some 23,.mv (.tmp 1),none⟩,⟨some 24,.iaddrS 8 (.tmp 22) (.tmp 23),none⟩,⟨some 25,.load true 8 (.tmp 24),none⟩,⟨some 26,.mv (.const (.int .i64 0)),none⟩])
 (.block 0 (.loop (.seq (.region [⟨some 27,.bin .lss (.tmp 26) (.const (.int .i64 8)),none⟩])
 (.seq (.cond (.tmp 27) .skip (.exit 0))
 (.seq (.block 1 (.seq (.region [⟨some 28,.indexA 8 1 false (.tmp 25) (.tmp 26),none⟩,⟨some 7,.mv (.tmp 28),none⟩])
 (.region [⟨some 29,.mv (.tmp 5),none⟩,⟨some 30,.mv (.tmp 7),none⟩,⟨some 31,.lenS (.tmp 30),none⟩,⟨some 32,.mkSlice 1 1 [(.int .i64 0)] [(0,1,(.tmp 31))],none⟩,⟨some 33,.append 1 8 (.tmp 29) (.tmp 32),none⟩,⟨some 5,.mv (.tmp 33),none⟩])))
 (.region [⟨some 34,.bin .add (.tmp 26) (.const (.int .i64 1)),none⟩,⟨some 26,.mv (.tmp 34),none⟩])))))))
 (.seq (.region [⟨some 35,.mv (.tmp 5),none⟩,⟨some 4,.mv (.tmp 35),none⟩])
 .ret)))))))⟩
theorem k24 : compFn Tryz.prog Tryz.f24 = some c24 := by kernel_rfl
def c25 : AFunc := ⟨[.tmp 2],(.seq (.region [⟨some 2,.mv (.const (.slice none 0 0)),none⟩])
 (.seq (.region [⟨some 8,.mv (.tmp 0),none⟩,⟨some 9,.nilCheck (.tmp 8),none⟩,⟨some 10,.faddr 0 (.tmp 9),none⟩,⟨some 11,.call 68 [(.tmp 10)],none⟩])
 (.seq (.region [⟨some 12,.mv (.tmp 0),none⟩,⟨some 13,.nilCheck (.tmp 12),none⟩,⟨some 14,.faddr 0 (.tmp 13),none⟩,⟨none,.defer 69 [(.tmp 14)],none⟩])
 (.seq (.region [⟨some 3,.mv (.const (.slice none 0 0)),none⟩])
 (.seq (.seq (.region [⟨some 15,.mv (.tmp 0),none⟩,⟨some 16,.nilCheck (.tmp 15),none⟩,⟨some 17,.faddr 2 (.tmp 16),none⟩,⟨some 18,.load false 1 (.tmp 17),none⟩,⟨some 19,.call 41 [(.tmp 18)],none⟩,⟨some 20,.lenS (.tmp 19),none⟩,⟨some 21,.mv (.const (.int .i64 0)),none⟩])
 (.block 0 (.loop (.seq (.region [⟨some 22,.bin .lss (.tmp 21) (.tmp 20),none⟩])
 (.seq (.cond (.tmp 22) .skip (.exit 0))
 (.seq (.block 1 (.seq (.region [⟨some 23,.iaddrS 2 (.tmp 19) (.tmp 21),none⟩,⟨some 24,.load true 2 (.tmp 23),none⟩,⟨some 5,.alloc [(.int .u64 0),(.int .u64 0)],none⟩,⟨none,.store 2 (.tmp 5) (.tmp 24),none⟩])
 (.seq (.draw [⟨⟨some 26,.mv (.tmp 0),none⟩,0,0⟩,⟨⟨some 27,.nilCheck (.tmp 26),none⟩,0,0⟩,⟨⟨some 28,.faddr 5 (.tmp 27),none⟩,0,0⟩,⟨⟨some 29,.load false 1 (.tmp 28),none⟩,0,0⟩,⟨⟨some 30,.faddr 0 (.tmp 5),none⟩,0,0⟩,⟨⟨some 31,.load false 1 (.tmp 30),none⟩,0,0⟩,⟨⟨some 32,.lookup .int (.int .i64 0) true (.tmp 29) (.tmp 31),none⟩,0,0⟩,⟨⟨some 25,.mv (.tmp 32),none⟩,0,0⟩,⟨⟨some 33,.extract (.tmp 25) 0,none⟩,0,0⟩,⟨⟨some 34,.extract (.tmp 25) 1,none⟩,0,0⟩,⟨⟨some 6,.mv (.tmp 33),none⟩,0,0⟩,⟨⟨some 7,.mv (.tmp 34),none⟩,0,0⟩])
 (.seq (.region [⟨some 35,.mv (.tmp 7),none⟩,⟨some 36,.not (.tmp 35),none⟩])
 (.cond (.tmp 36) (.region [⟨some 37,.mv (.tmp 3),none⟩,⟨some 38,.load true 2 (.tmp 5),none⟩,⟨some 39,.mkSlice 1 2 [(.int .u64 0),(.int .u64 0)] [(0,2,(.tmp 38))],none⟩,⟨some 40,.append 2 16 (.tmp 37) (.tmp 39),none⟩,⟨some 3,.mv (.tmp 40),none⟩]) .skip)))))
 (.region [⟨some 41,.bin .add (.tmp 21) (.const (.int .i64 1)),none⟩,⟨some 21,.mv (.tmp 41),none⟩])))))))
 (.seq (.region [⟨some 42,.mv (.tmp 3),none⟩,⟨some 2,.mv (.tmp 42),none⟩])
 .ret))))))⟩
theorem k25 : compFn Tryz.prog Tryz.f25 = some c25 := by kernel_rfl
def c41 : AFunc := ⟨[.tmp 2],(.seq (.region [⟨some 2,.mv (.const (.slice none 0 0)),none⟩])
 (.seq (.region [⟨some 3,.mv (.tmp 0),none⟩,⟨some 4,.nilCheck (.tmp 3),none⟩,⟨some 5,.faddr 0 (.tmp 4),none⟩,⟨some 6,.call 68 [(.tmp 5)],none⟩])
 (.seq (.region [⟨some 7,.mv (.tmp 0),none⟩,⟨some 8,.nilCheck (.tmp 7),none⟩,⟨some 9,.faddr 0 (.tmp 8),none⟩,⟨none,.defer 69 [(.tmp 9)],none⟩])
 (.seq (.region [⟨some 10,.mv (.tmp 0),none⟩,⟨some 11,.call 77 [(.tmp 10)],none⟩,⟨some 2,.mv (.tmp 11),none⟩])
 .ret))))⟩
theorem k41 : compFn Tryz.prog Tryz.f41 = some c41 := by kernel_rfl
def c44 : AFunc := ⟨[.tmp 2],(.seq (.region [⟨some 1,.box 3 (.tmp 0),none⟩,⟨some 2,.mv (.const (.int .u64 0)),none⟩])
 (.seq (.region [⟨some 3,.faddr 2 (.tmp 1),none⟩,⟨some 4,.load false 1 (.tmp 3),none⟩,⟨some 5,.conv .u64 (.tmp 4),none⟩,⟨some 6,.bin .shl (.const (.int .u64 4096)) (.tmp 5),none⟩,⟨some 2,.mv (.tmp 6),none⟩])
 .ret))⟩
theorem k44 : compFn Tryz.prog Tryz.f44 = some c44 := by kernel_rfl
def c58 : AFunc := ⟨[.tmp 2,.tmp 3],(.seq (.region [⟨some 1,.box 3 (.tmp 0),none⟩,⟨some 2,.mv (.const (.ptr none)),none⟩,⟨some 3,.mv (.const (.int .i64 0)),none⟩])
 (.seq (.region [⟨some 8,.load true 3 (.tmp 1),none⟩,⟨some 9,.call 117 [(.tmp 8)],none⟩,⟨some 7,.mv (.tmp 9),none⟩,⟨some 10,.extract (.tmp 7) 0,none⟩,⟨some 11,.extract (.tmp 7) 1,none⟩,⟨some 4,.mv (.tmp 10),none⟩,⟨some 5,.mv (.tmp 11),none⟩])
 (.seq (.seq (.region [⟨some 12,.mv (.tmp 5),none⟩,⟨some 13,.bin .neq (.tmp 12) (.const (.int .i64 0)),none⟩])
 (.cond (.tmp 13) (.seq (.region [⟨some 14,.mv (.tmp 5),none⟩,⟨some 2,.mv (.const (.ptr none)),none⟩,⟨some 3,.mv (.tmp 14),none⟩])
 .ret) .skip))
 (.seq (.region [⟨some 15,.faddr 2 (.tmp 1),none⟩,⟨some 16,.load false 1 (.tmp 15),none⟩,⟨some 17,.call 118 [(.tmp 16)],none⟩,⟨some 6,.mv (.tmp 17),none⟩])
 (.seq (.region [⟨some 18,.mv (.tmp 4),none⟩,⟨some 19,.mv (.tmp 6),none⟩,⟨some 20,.load true 3 (.tmp 1),none⟩,⟨some 21,.mv (.tmp 4),none⟩,⟨some 22,.mv (.tmp 6),none⟩,⟨some 23,.call 119 [(.tmp 20),(.tmp 21),(.tmp 22)],none⟩,⟨some 24,.build [(.ptr none),(.ptr none),(.ptr none)] [(0,1,(.tmp 18)),(1,1,(.tmp 19)),(2,1,(.tmp 23))],none⟩,⟨some 25,.build [(.ptr none),(.ptr none),(.ptr none)] [(0,3,(.tmp 24))],none⟩,⟨some 26,.box 3 (.tmp 25),none⟩,⟨some 2,.mv (.tmp 26),none⟩,⟨some 3,.mv (.const (.int .i64 0)),none⟩])
 .ret)))))⟩
theorem k58 : compFn Tryz.prog Tryz.f58 = some c58 := by kernel_rfl
def c59 : AFunc := ⟨[.tmp 2],(.seq (.region [⟨some 2,.mv (.const (.ptr none)),none⟩])
 (.seq (.region [⟨some 5,.mv (.tmp 0),none⟩,⟨some 6,.build [(.ptr none),(.int .i64 0),(.int .i64 0),(.int .i64 0),(.int .i64 0),(.int .i64 0),(.int .i64 0),(.int .i64 0),(.int .i64 0)] [(0,1,(.tmp 5))],none⟩,⟨some 7,.box 9 (.tmp 6),none⟩,⟨some 3,.mv (.tmp 7),none⟩])
 (.seq (.seq (.region [⟨some 8,.mv (.const (.int .i64 0)),none⟩])
 (.block 0 (.loop (.seq (.region [⟨some 9,.bin .lss (.tmp 8) (.const (.int .i64 8)),none⟩])
 (.seq (.cond (.tmp 9) .skip (.exit 0))
 (.seq (.block 1 (.seq (.region [⟨some 10,.mv (.tmp 8),none⟩,⟨some 4,.mv (.tmp 10),none⟩])
 (.region [⟨some 11,.mv (.tmp 3),none⟩,⟨some 12,.mv (.tmp 4),none⟩,⟨some 13,.nilCheck (.tmp 11),none⟩,⟨some 14,.faddr 1 (.tmp 13),none⟩,⟨some 15,.iaddrA 8 1 (.tmp 14) (.tmp 12),none⟩,⟨none,.store 1 (.tmp 15) (.const (.int .i64 (-1))),none⟩])))
 (.region [⟨some 16,.bin .add (.tmp 8) (.const (.int .i64 1)),none⟩,⟨some 8,.mv (.tmp 16),none⟩])))))))
 (.seq (.region [⟨some 17,.mv (.tmp 3),none⟩,⟨some 2,.mv (.tmp 17),none⟩])
 .ret))))⟩
theorem k59 : compFn Tryz.prog Tryz.f59 = some c59 := by kernel_rfl
def c61 : AFunc := ⟨[.tmp 8,.tmp 9],(.seq (.region [⟨some 8,.mv (.const (.int .u64 0)),none⟩,⟨some 9,.mv (.const (.int .i64 0)),none⟩])
 (.seq (.region [⟨some 12,.mv (.tmp 0),none⟩,⟨some 13,.nilCheck (.tmp 12),none⟩,⟨some 14,.faddr 0 (.tmp 13),none⟩,⟨some 15,.call 68 [(.tmp 14)],none⟩])
 (.seq (.region [⟨some 16,.mv (.tmp 0),none⟩,⟨some 17,.nilCheck (.tmp 16),none⟩,⟨some 18,.faddr 0 (.tmp 17),none⟩,⟨none,.defer 69 [(.tmp 18)],none⟩])
 (.seq (.region [⟨some 20,.mv (.tmp 0),none⟩,⟨some 21,.mv (.tmp 2),none⟩,⟨some 22,.mv (.tmp 1),none⟩,⟨some 23,.mv (.tmp 3),none⟩,⟨some 24,.call 121 [(.tmp 20),(.tmp 21),(.tmp 22),(.tmp 23)],none⟩,⟨some 19,.mv (.tmp 24),none⟩,⟨some 25,.extract (.tmp 19) 0,none⟩,⟨some 26,.extract (.tmp 19) 1,none⟩,⟨some 10,.alloc [(.int .u64 0),(.int .u64 0)],none⟩,⟨none,.store 2 (.tmp 10) (.tmp 25),none⟩,⟨some 11,.mv (.tmp 26),none⟩])
 (.seq (.region [⟨some 27,.faddr 0 (.tmp 10),none⟩,⟨some 28,.load false 1 (.tmp 27),none⟩,⟨some 29,.mv (.tmp 11),none⟩,⟨some 8,.mv (.tmp 28),none⟩,⟨some 9,.mv (.tmp 29),none⟩])
 .ret)))))⟩
theorem k61 : compFn Tryz.prog Tryz.f61 = some c61 := by kernel_rfl
def c62 : AFunc := ⟨[.tmp 4,.tmp 5],(.seq (.region [⟨some 4,.mv (.const (.int .u64 0)),none⟩,⟨some 5,.mv (.const (.int .i64 0)),none⟩])
 (.seq (.region [⟨some 8,.mv (.tmp 0),none⟩,⟨some 9,.nilCheck (.tmp 8),none⟩,⟨some 10,.faddr 0 (.tmp 9),none⟩,⟨some 11,.call 68 [(.tmp 10)],none⟩])
 (.seq (.region [⟨some 12,.mv (.tmp 0),none⟩,⟨some 13,.nilCheck (.tmp 12),none⟩,⟨some 14,.faddr 0 (.tmp 13),none⟩,⟨none,.defer 69 [(.tmp 14)],none⟩])
 (.seq (.region [⟨some 16,.mv (.tmp 0),none⟩,⟨some 17,.mv (.tmp 1),none⟩,⟨some 18,.call 122 [(.tmp 16),(.tmp 17)],none⟩,⟨some 15,.mv (.tmp 18),none⟩,⟨some 19,.extract (.tmp 15) 0,none⟩,⟨some 20,.extract (.tmp 15) 1,none⟩,⟨some 6,.alloc [(.int .u64 0),(.int .u64 0)],none⟩,⟨none,.store 2 (.tmp 6) (.tmp 19),none⟩,⟨some 7,.mv (.tmp 20),none⟩])
 (.seq (.region [⟨some 21,.faddr 1 (.tmp 6),none⟩,⟨some 22,.load false 1 (.tmp 21),none⟩,⟨some 23,.mv (.tmp 7),none⟩,⟨some 4,.mv (.tmp 22),none⟩,⟨some 5,.mv (.tmp 23),none⟩])
 .ret)))))⟩
theorem k62 : compFn Tryz.prog Tryz.f62 = some c62 := by kernel_rfl
def c63 : AFunc := ⟨[.tmp 2],(.seq (.region [⟨some 1,.box 3 (.tmp 0),none⟩,⟨some 2,.mv (.const (.bool false)),none⟩])
 (.seq (.seq (.region [⟨some 4,.faddr 2 (.tmp 1),none⟩,⟨some 5,.load false 1 (.tmp 4),none⟩,⟨some 6,.bin .lss (.tmp 5) (.const (.int .i64 0)),none⟩,⟨some 7,.mv (.tmp 6),none⟩,⟨some 8,.faddr 2 (.tmp 1),some (7,false)⟩,⟨some 9,.load false 1 (.tmp 8),some (7,false)⟩,⟨some 10,.bin .gtr (.tmp 9) (.const (.int .i64 8)),some (7,false)⟩,⟨some 11,.pick (.tmp 7) (.const (.bool true)) (.tmp 10),none⟩,⟨some 12,.mv (.tmp 11),none⟩,⟨some 13,.faddr 1 (.tmp 1),some (12,false)⟩,⟨some 14,.load false 1 (.tmp 13),some (12,false)⟩,⟨some 15,.bin .lss (.tmp 14) (.const (.int .i64 1)),some (12,false)⟩,⟨some 16,.pick (.tmp 12) (.const (.bool true)) (.tmp 15),none⟩,⟨some 17,.mv (.tmp 16),none⟩,⟨some 18,.faddr 1 (.tmp 1),some (17,false)⟩,⟨some 19,.load false 1 (.tmp 18),some (17,false)⟩,⟨some 20,.bin .gtr (.tmp 19) (.const (.int .i64 64)),some (17,false)⟩,⟨some 21,.pick (.tmp 17) (.const (.bool true)) (.tmp 20),none⟩,⟨some 22,.mv (.tmp 21),none⟩,⟨some 23,.faddr 1 (.tmp 1),some (22,false)⟩,⟨some 24,.load false 1 (.tmp 23),some (22,false)⟩,⟨some 25,.faddr 2 (.tmp 1),some (22,false)⟩,⟨some 26,.load false 1 (.tmp 25),some (22,false)⟩,⟨some 27,.conv .u64 (.tmp 26),some (22,false)⟩,⟨some 28,.bin .shl (.tmp 24) (.tmp 27),some (22,false)⟩,⟨some 29,.bin .gtr (.tmp 28) (.const (.int .i64 1024)),some (22,false)⟩,⟨some 30,.pick (.tmp 22) (.const (.bool true)) (.tmp 29),none⟩])
 (.cond (.tmp 30) (.seq (.region [⟨some 2,.mv (.const (.bool false)),none⟩])
 .ret) .skip))
 (.seq (.region [⟨some 31,.load true 3 (.tmp 1),none⟩,⟨some 32,.call 44 [(.tmp 31)],none⟩,⟨some 3,.mv (.tmp 32),none⟩])
 (.seq (.seq (.region [⟨some 33,.faddr 0 (.tmp 1),none⟩,⟨some 34,.load false 1 (.tmp 33),none⟩,⟨some 35,.bin .eql (.tmp 34) (.const (.int .u64 0)),none⟩,⟨some 36,.mv (.tmp 35),none⟩,⟨some 37,.faddr 0 (.tmp 1),some (36,false)⟩,⟨some 38,.load false 1 (.tmp 37),some (36,false)⟩,⟨some 39,.mv (.tmp 3),some (36,false)⟩,⟨some 40,.bin .rem (.tmp 38) (.tmp 39),some (36,false)⟩,⟨some 41,.bin .neq (.tmp 40) (.const (.int .u64 0)),some (36,false)⟩,⟨some 42,.pick (.tmp 36) (.const (.bool true)) (.tmp 41),none⟩,⟨some 43,.mv (.tmp 42),none⟩,⟨some 44,.faddr 0 (.tmp 1),some (43,false)⟩,⟨some 45,.load false 1 (.tmp 44),some (43,false)⟩,⟨some 46,.bin .gtr (.tmp 45) (.const (.int .u64 9223372036854775808)),some (43,false)⟩,⟨some 47,.pick (.tmp 43) (.const (.bool true)) (.tmp 46),none⟩])
 (.cond (.tmp 47) (.seq (.region [⟨some 2,.mv (.const (.bool false)),none⟩])
 .ret) .skip))
 (.seq (.region [⟨some 48,.faddr 0 (.tmp 1),none⟩,⟨some 49,.load false 1 (.tmp 48),none⟩,⟨some 50,.faddr 1 (.tmp 1),none⟩,⟨some 51,.load false 1 (.tmp 50),none⟩,⟨some 52,.conv .u64 (.tmp 51),none⟩,⟨some 53,.mv (.tmp 3),none⟩,⟨some 54,.bin .mul (.tmp 52) (.tmp 53),none⟩,⟨some 55,.bin .add (.tmp 49) (.tmp 54),none⟩,⟨some 56,.bin .leq (.tmp 55) (.const (.int .u64 9223372036854775808)),none⟩,⟨some 2,.mv (.tmp 56),none⟩])
 .ret)))))⟩
theorem k63 : compFn Tryz.prog Tryz.f63 = some c63 := by kernel_rfl
def c64 : AFunc := ⟨[.tmp 0],(.seq (.region [⟨some 0,.mv (.const (.ptr none)),none⟩])
 (.seq (.region [⟨some 4,.build [(.int .u64 0),(.int .i64 0),(.int .i64 0)] [(0,1,(.const (.int .u64 65536))),(1,1,(.const (.int .i64 2))),(2,1,(.const (.int .i64 1)))],none⟩,⟨some 5,.call 20 [(.tmp 4),(.const (.int .i64 2)),(.const (.int .i64 1))],none⟩,⟨some 3,.mv (.tmp 5),none⟩,⟨some 6,.extract (.tmp 3) 0,none⟩,⟨some 7,.extract (.tmp 3) 1,none⟩,⟨some 1,.mv (.tmp 6),none⟩,⟨some 2,.mv (.tmp 7),none⟩])
 (.seq (.seq (.region [⟨some 8,.mv (.tmp 2),none⟩,⟨some 9,.bin .neq (.tmp 8) (.const (.int .i64 0)),none⟩])
 (.cond (.tmp 9) (.seq (.region [⟨some 0,.mv (.const (.ptr none)),none⟩])
 .ret) .skip))
 (.seq (.region [⟨some 10,.mv (.tmp 1),none⟩,⟨some 0,.mv (.tmp 10),none⟩])
 .ret))))⟩
theorem k64 : compFn Tryz.prog Tryz.f64 = some c64 := by kernel_rfl
def c65 : AFunc := ⟨[.tmp 8,.tmp 9],(.seq (.region [⟨some 8,.mv (.const (.int .u64 0)),none⟩,⟨some 9,.mv (.const (.int .i64 0)),none⟩])
 (.seq (.region [⟨some 10,.mv (.tmp 0),none⟩,⟨some 11,.mv (.tmp 1),none⟩,⟨some 12,.mv (.tmp 2),none⟩,⟨some 13,.mv (.tmp 3),none⟩,⟨some 14,.call 105 [(.tmp 10),(.tmp 11),(.const (.int .u64 1)),(.tmp 12),(.tmp 13)],none⟩,⟨some 15,.extract (.tmp 14) 0,none⟩,⟨some 16,.extract (.tmp 14) 1,none⟩,⟨some 8,.mv (.tmp 15),none⟩,⟨some 9,.mv (.tmp 16),none⟩])
 .ret))⟩
theorem k65 : compFn Tryz.prog Tryz.f65 = some c65 := by kernel_rfl
def c66 : AFunc := ⟨[.tmp 6],(.seq (.region [⟨some 6,.mv (.const (.int .i64 0)),none⟩])
 (.seq (.region [⟨some 7,.mv (.tmp 0),none⟩,⟨some 8,.nilCheck (.tmp 7),none⟩,⟨some 9,.faddr 0 (.tmp 8),none⟩,⟨some 10,.call 68 [(.tmp 9)],none⟩])
 (.seq (.region [⟨some 11,.mv (.tmp 0),none⟩,⟨some 12,.nilCheck (.tmp 11),none⟩,⟨some 13,.faddr 0 (.tmp 12),none⟩,⟨none,.defer 69 [(.tmp 13)],none⟩])
 (.seq (.region [⟨some 14,.mv (.tmp 0),none⟩,⟨some 15,.mv (.tmp 1),none⟩,⟨some 16,.mv (.tmp 2),none⟩,⟨some 17,.call 123 [(.tmp 14),(.tmp 15),(.tmp 16)],none⟩,⟨some 6,.mv (.tmp 17),none⟩])
 .ret))))⟩
theorem k66 : compFn Tryz.prog Tryz.f66 = some c66 := by kernel_rfl
def c67 : AFunc := ⟨[.tmp 4,.tmp 5],(.seq (.region [⟨some 4,.mv (.const (.int .u64 0)),none⟩,⟨some 5,.mv (.const (.int .i64 0)),none⟩])
 (.seq (.region [⟨some 6,.mv (.tmp 0),none⟩,⟨some 7,.nilCheck (.tmp 6),none⟩,⟨some 8,.faddr 0 (.tmp 7),none⟩,⟨some 9,.call 68 [(.tmp 8)],none⟩])
 (.seq (.region [⟨some 10,.mv (.tmp 0),none⟩,⟨some 11,.nilCheck (.tmp 10),none⟩,⟨some 12,.faddr 0 (.tmp 11),none⟩,⟨none,.defer 69 [(.tmp 12)],none⟩])
 (.seq (.region [⟨some 13,.mv (.tmp 0),none⟩,⟨some 14,.mv (.tmp 1),none⟩,⟨some 15,.call 124 [(.tmp 13),(.tmp 14)],none⟩,⟨some 16,.extract (.tmp 15) 0,none⟩,⟨some 17,.extract (.tmp 15) 1,none⟩,⟨some 4,.mv (.tmp 16),none⟩,⟨some 5,.mv (.tmp 17),none⟩])
 .ret))))⟩
theorem k67 : compFn Tryz.prog Tryz.f67 = some c67 := by kernel_rfl
def c70 : AFunc := ⟨[.tmp 4],(.seq (.region [⟨some 4,.mv (.const (.bool false)),none⟩])
 (.seq (.region [⟨some 5,.mv (.tmp 1),none⟩,⟨some 6,.bin .geq (.tmp 5) (.const (.int .i64 0)),none⟩,⟨some 7,.mv (.tmp 6),none⟩,⟨some 8,.mv (.tmp 1),some (7,true)⟩,⟨some 9,.mv (.tmp 0),some (7,true)⟩,⟨some 10,.nilCheck (.tmp 9),some (7,true)⟩,⟨some 11,.faddr 4 (.tmp 10),some (7,true)⟩,⟨some 12,.load false 1 (.tmp 11),some (7,true)⟩,⟨some 13,.lenS (.tmp 12),some (7,true)⟩,⟨some 14,.bin .lss (.tmp 8) (.tmp 13),some (7,true)⟩,⟨some 15,.pick (.tmp 7) (.tmp 14) (.const (.bool false)),none⟩,⟨some 4,.mv (.tmp 15),none⟩])
 .ret))⟩
theorem k70 : compFn Tryz.prog Tryz.f70 = some c70 := by kernel_rfl
def c72 : AFunc := ⟨[.tmp 4],(.seq (.region [⟨some 4,.mv (.const (.int .i64 0)),none⟩])
 (.seq (.region [⟨some 7,.mv (.tmp 0),none⟩,⟨some 8,.nilCheck (.tmp 7),none⟩,⟨some 9,.faddr 0 (.tmp 8),none⟩,⟨some 10,.call 68 [(.tmp 9)],none⟩])
 (.seq (.region [⟨some 11,.mv (.tmp 0),none⟩,⟨some 12,.nilCheck (.tmp 11),none⟩,⟨some 13,.faddr 0 (.tmp 12),none⟩,⟨none,.defer 69 [(.tmp 13)],none⟩])
 (.seq (.seq (.region [⟨some 14,.mv (.tmp 1),none⟩,⟨some 15,.bin .eql (.tmp 14) (.const (.int .u64 0)),none⟩])
 (.cond (.tmp 15) (.seq (.region [⟨some 4,.mv (.const (.int .i64 0)),none⟩])
 .ret) .skip))
 (.seq (.region [⟨some 17,.mv (.tmp 0),none⟩,⟨some 18,.mv (.tmp 1),none⟩,⟨some 19,.call 122 [(.tmp 17),(.tmp 18)],none⟩,⟨some 16,.mv (.tmp 19),none⟩,⟨some 20,.extract (.tmp 16) 0,none⟩,⟨some 21,.extract (.tmp 16) 1,none⟩,⟨some 5,.alloc [(.int .u64 0),(.int .u64 0)],none⟩,⟨none,.store 2 (.tmp 5) (.tmp 20),none⟩,⟨some 6,.mv (.tmp 21),none⟩])
 (.seq (.seq (.region [⟨some 22,.mv (.tmp 6),none⟩,⟨some 23,.bin .eql (.tmp 22) (.const (.int .i64 0)),none⟩])
 (.cond (.tmp 23) (.region [⟨some 24,.mv (.tmp 0),none⟩,⟨some 25,.load true 2 (.tmp 5),none⟩,⟨some 26,.call 127 [(.tmp 24),(.tmp 25)],none⟩]) .skip))
 (.seq (.region [⟨some 27,.mv (.tmp 6),none⟩,⟨some 4,.mv (.tmp 27),none⟩])
 .ret)))))))⟩
theorem k72 : compFn Tryz.prog Tryz.f72 = some c72 := by kernel_rfl
def c75 : AFunc := ⟨[.tmp 2],(.seq (.region [⟨some 2,.mv (.const (.ptr none)),none⟩])
 (.seq (.region [⟨some 3,.mv (.tmp 0),none⟩,⟨some 4,.nilCheck (.tmp 3),none⟩,⟨some 5,.faddr 0 (.tmp 4),none⟩,⟨some 6,.load false 1 (.tmp 5),none⟩,⟨some 2,.mv (.tmp 6),none⟩])
 .ret))⟩
theorem k75 : compFn Tryz.prog Tryz.f75 = some c75 := by kernel_rfl
def c76 : AFunc := ⟨[.tmp 2],(.seq (.region [⟨some 2,.mv (.const (.int .u64 0)),none⟩])
 (.seq (.draw [⟨⟨some 3,.mv (.tmp 0),none⟩,0,0⟩,⟨⟨some 4,.nilCheck (.tmp 3),none⟩,0,0⟩,⟨⟨some 5,.faddr 0 (.tmp 4),none⟩,0,0⟩,⟨⟨some 6,.faddr 0 (.tmp 5),none⟩,0,0⟩,⟨⟨some 7,.load false 1 (.tmp 6),none⟩,0,0⟩,⟨⟨some 8,.mv (.tmp 0),none⟩,0,0⟩,⟨⟨some 9,.nilCheck (.tmp 8),none⟩,0,0⟩,⟨⟨some 10,.faddr 3 (.tmp 9),none⟩,0,0⟩,⟨⟨some 11,.load false 1 (.tmp 10),none⟩,0,0⟩,⟨⟨some 12,.mv (.tmp 0),none⟩,0,0⟩,⟨⟨some 13,.nilCheck (.tmp 12),none⟩,0,0⟩,⟨⟨some 14,.faddr 4 (.tmp 13),none⟩,0,0⟩,⟨⟨some 15,.load false 1 (.tmp 14),none⟩,0,0⟩,⟨⟨some 16,.lenS (.tmp 15),none⟩,0,0⟩,⟨⟨some 17,.conv .u64 (.tmp 16),none⟩,0,0⟩,⟨⟨some 18,.bin .mul (.tmp 11) (.tmp 17),none⟩,0,0⟩,⟨⟨some 19,.bin .add (.tmp 7) (.tmp 18),none⟩,0,0⟩,⟨⟨some 2,.mv (.tmp 19),none⟩,0,0⟩])
 .ret))⟩
theorem k76 : compFn Tryz.prog Tryz.f76 = some c76 := by kernel_rfl
def c77 : AFunc := ⟨[.tmp 2],(.seq (.region [⟨some 2,.mv (.const (.slice none 0 0)),none⟩])
 (.seq (.region [⟨some 3,.mv (.const (.slice none 0 0)),none⟩])
 (.seq (.region [⟨some 11,.mv (.tmp 0),none⟩,⟨some 12,.nilCheck (.tmp 11),none⟩,⟨some 13,.faddr 5 (.tmp 12),none⟩,⟨some 14,.load false 1 (.tmp 13),none⟩,⟨some 15,.nilCheck (.tmp 14),none⟩,⟨some 16,.faddr 0 (.tmp 15),none⟩,⟨some 17,.call 78 [(.tmp 16)],none⟩,⟨some 4,.mv (.tmp 17),none⟩])
 (.seq (.seq (.region [⟨some 5,.mv (.const (.int .i64 0)),none⟩])
 (.block 0 (.loop (.seq (.seq (.region [⟨some 18,.mv (.tmp 5),none⟩,⟨some 19,.mv (.tmp 4),none⟩,⟨some 20,.call 79 [(.tmp 19)],none⟩,⟨some 21,.bin .lss (.tmp 18) (.tmp 20),none⟩])
 (.cond (.tmp 21) .skip (.exit 0)))
 (.seq (.block 1 (.seq (.region [⟨some 25,.mv (.tmp 4),none⟩,⟨some 26,.mv (.tmp 5),none⟩,⟨some 27,.call 80 [(.tmp 25),(.tmp 26)],none⟩,⟨some 24,.mv (.tmp 27),none⟩,⟨some 28,.extract (.tmp 24) 0,none⟩,⟨some 29,.extract (.tmp 24) 1,none⟩,⟨some 6,.alloc [(.int .i64 0),(.int .i64 0),(.int .i64 0),(.int .i64 0),(.int .i64 0),(.int .i64 0),(.int .i64 0),(.int .u64 0),(.int .u64 0),(.int .u64 0),(.int .u64 0)],none⟩,⟨none,.store 11 (.tmp 6) (.tmp 28),none⟩,⟨some 7,.mv (.tmp 29),none⟩])
 (.seq (.region [⟨some 30,.mv (.tmp 0),none⟩,⟨some 31,.nilCheck (.tmp 30),none⟩,⟨some 32,.faddr 2 (.tmp 31),none⟩,⟨some 33,.faddr 0 (.tmp 32),none⟩,⟨some 34,.load false 1 (.tmp 33),none⟩,⟨some 35,.mv (.tmp 5),none⟩,⟨some 36,.conv .u64 (.tmp 35),none⟩,⟨some 37,.bin .mul (.tmp 36) (.const (.int .u64 4096)),none⟩,⟨some 38,.bin .add (.tmp 34) (.tmp 37),none⟩,⟨some 8,.mv (.tmp 38),none⟩])
 (.seq (.region [⟨some 39,.faddr 0 (.tmp 6),none⟩,⟨some 40,.load false 1 (.tmp 39),none⟩])
 (.block 2 (.seq (.region [⟨some 42,.bin .eql (.tmp 40) (.const (.int .i64 2)),none⟩,⟨some 41,.mv (.tmp 42),none⟩])
 (.cond (.tmp 41) (.region [⟨some 43,.mv (.tmp 3),none⟩,⟨some 44,.mv (.tmp 8),none⟩,⟨some 45,.faddr 1 (.tmp 6),none⟩,⟨some 46,.load false 1 (.tmp 45),none⟩,⟨some 47,.bin .shl (.const (.int .u64 4096)) (.tmp 46),none⟩,⟨some 48,.build [(.int .u64 0),(.int .u64 0)] [(0,1,(.tmp 44)),(1,1,(.tmp 47))],none⟩,⟨some 49,.mkSlice 1 2 [(.int .u64 0),(.int .u64 0)] [(0,2,(.tmp 48))],none⟩,⟨some 50,.append 2 16 (.tmp 43) (.tmp 49),none⟩,⟨some 3,.mv (.tmp 50),none⟩]) (.seq (.region [⟨some 52,.bin .eql (.tmp 40) (.const (.int .i64 4)),none⟩,⟨some 51,.mv (.tmp 52),none⟩])
 (.cond (.tmp 51) (.seq (.region [⟨some 53,.faddr 2 (.tmp 6),none⟩,⟨some 54,.load false 1 (.tmp 53),none⟩,⟨some 55,.bin .shl (.const (.int .u64 16)) (.tmp 54),none⟩,⟨some 9,.mv (.tmp 55),none⟩])
 (.seq (.region [⟨some 56,.mv (.tmp 9),none⟩,⟨some 57,.bin .quo (.const (.int .u64 4096)) (.tmp 56),none⟩,⟨some 58,.mv (.const (.int .u64 0)),none⟩])
 (.block 3 (.loop (.seq (.region [⟨some 59,.bin .lss (.tmp 58) (.tmp 57),none⟩])
 (.seq (.cond (.tmp 59) .skip (.exit 3))
 (.seq (.block 4 (.seq (.region [⟨some 60,.mv (.tmp 58),none⟩,⟨some 10,.mv (.tmp 60),none⟩])
 (.seq (.region [⟨some 61,.mv (.tmp 10),none⟩,⟨some 62,.bin .quo (.tmp 61) (.const (.int .u64 64)),none⟩,⟨some 63,.faddr 7 (.tmp 6),none⟩,⟨some 64,.iaddrA 4 1 (.tmp 63) (.tmp 62),none⟩,⟨some 65,.load false 1 (.tmp 64),none⟩,⟨some 66,.mv (.tmp 10),none⟩,⟨some 67,.bin .rem (.tmp 66) (.const (.int .u64 64)),none⟩,⟨some 68,.bin .shr (.tmp 65) (.tmp 67),none⟩,⟨some 69,.bin .and (.tmp 68) (.const (.int .u64 1)),none⟩,⟨some 70,.bin .eql (.tmp 69) (.const (.int .u64 1)),none⟩])
 (.cond (.tmp 70) (.region [⟨some 71,.mv (.tmp 3),none⟩,⟨some 72,.mv (.tmp 8),none⟩,⟨some 73,.mv (.tmp 10),none⟩,⟨some 74,.mv (.tmp 9),none⟩,⟨some 75,.bin .mul (.tmp 73) (.tmp 74),none⟩,⟨some 76,.bin .add (.tmp 72) (.tmp 75),none⟩,⟨some 77,.mv (.tmp 9),none⟩,⟨some 78,.build [(.int .u64 0),(.int .u64 0)] [(0,1,(.tmp 76)),(1,1,(.tmp 77))],none⟩,⟨some 79,.mkSlice 1 2 [(.int .u64 0),(.int .u64 0)] [(0,2,(.tmp 78))],none⟩,⟨some 80,.append 2 16 (.tmp 71) (.tmp 79),none⟩,⟨some 3,.mv (.tmp 80),none⟩]) .skip))))
 (.region [⟨some 81,.bin .add (.tmp 58) (.const (.int .u64 1)),none⟩,⟨some 58,.mv (.tmp 81),none⟩])))))))) .skip)))))))))
 (.region [⟨some 22,.mv (.tmp 5),none⟩,⟨some 23,.bin .add (.tmp 22) (.const (.int .i64 1)),none⟩,⟨some 5,.mv (.tmp 23),none⟩]))))))
 (.seq (.region [⟨some 82,.mv (.tmp 3),none⟩,⟨some 2,.mv (.tmp 82),none⟩])
 .ret)))))⟩
theorem k77 : compFn Tryz.prog Tryz.f77 = some c77 := by kernel_rfl
def c78 : AFunc := ⟨[.tmp 2],(.seq (.region [⟨some 2,.mv (.const (.ptr none)),none⟩])
 (.seq (.region [⟨some 3,.mv (.tmp 0),none⟩,⟨some 4,.nilCheck (.tmp 3),none⟩,⟨some 5,.faddr 1 (.tmp 4),none⟩,⟨some 6,.load false 1 (.tmp 5),none⟩,⟨some 2,.mv (.tmp 6),none⟩])
 .ret))⟩
theorem k78 : compFn Tryz.prog Tryz.f78 = some c78 := by kernel_rfl
def c79 : AFunc := ⟨[.tmp 2],(.seq (.region [⟨some 2,.mv (.const (.int .i64 0)),none⟩])
 (.seq (.region [⟨some 3,.mv (.tmp 0),none⟩,⟨some 4,.nilCheck (.tmp 3),none⟩,⟨some 5,.faddr 1 (.tmp 4),none⟩,⟨some 6,.load false 1 (.tmp 5),none⟩,⟨some 7,.lenS (.tmp 6),none⟩,⟨some 2,.mv (.tmp 7),none⟩])
 .ret))⟩
theorem k79 : compFn Tryz.prog Tryz.f79 = some c79 := by kernel_rfl
def c80 : AFunc := ⟨[.cell 4 true 11,.tmp 5],(.seq (.region [⟨some 4,.alloc [(.int .i64 0),(.int .i64 0),(.int .i64 0),(.int .i64 0),(.int .i64 0),(.int .i64 0),(.int .i64 0),(.int .u64 0),(.int .u64 0),(.int .u64 0),(.int .u64 0)],none⟩,⟨some 5,.mv (.const (.bool false)),none⟩])
 (.seq (.seq (.region [⟨some 6,.mv (.tmp 1),none⟩,⟨some 7,.bin .lss (.tmp 6) (.const (.int .i64 0)),none⟩,⟨some 8,.mv (.tmp 7),none⟩,⟨some 9,.mv (.tmp 1),some (8,false)⟩,⟨some 10,.mv (.tmp 0),some (8,false)⟩,⟨some 11,.nilCheck (.tmp 10),some (8,false)⟩,⟨some 12,.faddr 1 (.tmp 11),some (8,false)⟩,⟨some 13,.load false 1 (.tmp 12),some (8,false)⟩,⟨some 14,.lenS (.tmp 13),some (8,false)⟩,⟨some 15,.bin .geq (.tmp 9) (.tmp 14),some (8,false)⟩,⟨some 16,.pick (.tmp 8) (.const (.bool true)) (.tmp 15),none⟩])
 (.cond (.tmp 16) (.seq (.region [⟨some 17,.build [(.int .i64 0),(.int .i64 0),(.int .i64 0),(.int .i64 0),(.int .i64 0),(.int .i64 0),(.int .i64 0),(.int .u64 0),(.int .u64 0),(.int .u64 0),(.int .u64 0)] [],none⟩,⟨none,.store 11 (.tmp 4) (.tmp 17),none⟩,⟨some 5,.mv (.const (.bool false)),none⟩])
 .ret) .skip))
 (.seq (.region [⟨some 18,.mv (.tmp 0),none⟩,⟨some 19,.nilCheck (.tmp 18),none⟩,⟨some 20,.faddr 1 (.tmp 19),none⟩,⟨some 21,.load false 1 (.tmp 20),none⟩,⟨some 22,.mv (.tmp 1),none⟩,⟨some 23,.iaddrS 11 (.tmp 21) (.tmp 22),none⟩,⟨some 24,.load true 11 (.tmp 23),none⟩,⟨none,.store 11 (.tmp 4) (.tmp 24),none⟩,⟨some 5,.mv (.const (.bool true)),none⟩])
 .ret)))⟩
theorem k80 : compFn Tryz.prog Tryz.f80 = some c80 := by kernel_rfl
def c105 : AFunc := ⟨[.tmp 10,.tmp 11],(.seq (.region [⟨some 10,.mv (.const (.int .u64 0)),none⟩,⟨some 11,.mv (.const (.int .i64 0)),none⟩])
 (.seq (.region [⟨some 15,.mv (.tmp 0),none⟩,⟨some 16,.nilCheck (.tmp 15),none⟩,⟨some 17,.faddr 0 (.tmp 16),none⟩,⟨some 18,.call 68 [(.tmp 17)],none⟩])
 (.seq (.region [⟨some 19,.mv (.tmp 0),none⟩,⟨some 20,.nilCheck (.tmp 19),none⟩,⟨some 21,.faddr 0 (.tmp 20),none⟩,⟨none,.defer 69 [(.tmp 21)],none⟩])
 (.seq (.region [⟨some 23,.mv (.tmp 0),none⟩,⟨some 24,.mv (.tmp 1),none⟩,⟨some 25,.mv (.tmp 2),none⟩,⟨some 26,.mv (.tmp 3),none⟩,⟨some 27,.mv (.tmp 4),none⟩,⟨some 28,.call 150 [(.tmp 23),(.tmp 24),(.tmp 25),(.tmp 26),(.tmp 27)],none⟩,⟨some 22,.mv (.tmp 28),none⟩,⟨some 29,.extract (.tmp 22) 0,none⟩,⟨some 30,.extract (.tmp 22) 1,none⟩,⟨some 31,.extract (.tmp 22) 2,none⟩,⟨some 12,.mv (.tmp 29),none⟩,⟨some 13,.mv (.tmp 30),none⟩,⟨some 14,.mv (.tmp 31),none⟩])
 (.seq (.region [⟨some 32,.mv (.tmp 12),none⟩,⟨some 33,.mv (.tmp 14),none⟩,⟨some 10,.mv (.tmp 32),none⟩,⟨some 11,.mv (.tmp 33),none⟩])
 .ret)))))⟩
theorem k105 : compFn Tryz.prog Tryz.f105 = some c105 := by kernel_rfl
def c111 : AFunc := ⟨[.tmp 2],(.seq (.region [⟨some 2,.mv (.const (.int .i64 0)),none⟩])
 (.seq (.region [⟨some 3,.mv (.const (.int .i64 0)),none⟩])
 (.seq (.seq (.region [⟨some 8,.mv (.tmp 0),none⟩,⟨some 9,.nilCheck (.tmp 8),none⟩,⟨some 10,.faddr 4 (.tmp 9),none⟩,⟨some 11,.load false 1 (.tmp 10),none⟩,⟨some 12,.lenS (.tmp 11),none⟩,⟨some 13,.mv (.const (.int .i64 0)),none⟩])
 (.block 0 (.loop (.seq (.region [⟨some 14,.bin .lss (.tmp 13) (.tmp 12),none⟩])
 (.seq (.cond (.tmp 14) .skip (.exit 0))
 (.seq (.block 1 (.seq (.region [⟨some 15,.mv (.tmp 13),none⟩,⟨some 4,.mv (.tmp 15),none⟩])
 (.seq (.region [⟨some 16,.mv (.const (.int .i64 0)),none⟩])
 (.block 2 (.loop (.seq (.region [⟨some 17,.bin .lss (.tmp 16) (.const (.int .i64 8)),none⟩])
 (.seq (.cond (.tmp 17) .skip (.exit 2))
 (.seq (.block 3 (.seq (.region [⟨some 18,.mv (.tmp 16),none⟩,⟨some 5,.mv (.tmp 18),none⟩])
 (.seq (.region [⟨some 19,.mv (.tmp 0),none⟩,⟨some 20,.nilCheck (.tmp 19),none⟩,⟨some 21,.faddr 4 (.tmp 20),none⟩,⟨some 22,.load false 1 (.tmp 21),none⟩,⟨some 23,.mv (.tmp 4),none⟩,⟨some 24,.mv (.tmp 5),none⟩,⟨some 25,.iaddrS 8 (.tmp 22) (.tmp 23),none⟩,⟨some 26,.iaddrA 8 1 (.tmp 25) (.tmp 24),none⟩,⟨some 27,.load false 1 (.tmp 26),none⟩,⟨some 6,.mv (.tmp 27),none⟩])
 (.seq (.seq (.region [⟨some 28,.mv (.tmp 6),none⟩,⟨some 29,.lenS (.tmp 28),none⟩,⟨some 30,.bin .sub (.tmp 29) (.const (.int .i64 1)),none⟩,⟨some 7,.mv (.tmp 30),none⟩])
 (.block 4 (.loop (.seq (.seq (.region [⟨some 31,.mv (.tmp 7),none⟩,⟨some 32,.bin .geq (.tmp 31) (.const (.int .i64 0)),none⟩])
 (.cond (.tmp 32) .skip (.exit 4)))
 (.seq (.block 5 (.seq (.draw [⟨⟨some 35,.mv (.tmp 0),none⟩,0,0⟩,⟨⟨some 36,.nilCheck (.tmp 35),none⟩,0,0⟩,⟨⟨some 37,.faddr 2 (.tmp 36),none⟩,0,0⟩,⟨⟨some 38,.load false 1 (.tmp 37),none⟩,0,0⟩,⟨⟨some 39,.mv (.tmp 6),none⟩,0,0⟩,⟨⟨some 40,.mv (.tmp 7),none⟩,0,0⟩,⟨⟨some 41,.iaddrS 1 (.tmp 39) (.tmp 40),none⟩,0,0⟩,⟨⟨some 42,.load false 1 (.tmp 41),none⟩,0,0⟩,⟨⟨some 43,.call 72 [(.tmp 38),(.tmp 42)],none⟩,0,1⟩])
 (.region [⟨some 44,.mv (.tmp 3),none⟩,⟨some 45,.bin .add (.tmp 44) (.const (.int .i64 1)),none⟩,⟨some 3,.mv (.tmp 45),none⟩])))
 (.region [⟨some 33,.mv (.tmp 7),none⟩,⟨some 34,.bin .sub (.tmp 33) (.const (.int .i64 1)),none⟩,⟨some 7,.mv (.tmp 34),none⟩]))))))
 (.region [⟨some 46,.mv (.tmp 0),none⟩,⟨some 47,.nilCheck (.tmp 46),none⟩,⟨some 48,.faddr 4 (.tmp 47),none⟩,⟨some 49,.load false 1 (.tmp 48),none⟩,⟨some 50,.mv (.tmp 4),none⟩,⟨some 51,.mv (.tmp 5),none⟩,⟨some 52,.iaddrS 8 (.tmp 49) (.tmp 50),none⟩,⟨some 53,.iaddrA 8 1 (.tmp 52) (.tmp 51),none⟩,⟨none,.store 1 (.tmp 53) (.const (.slice none 0 0)),none⟩])))))
 (.region [⟨some 54,.bin .add (.tmp 16) (.const (.int .i64 1)),none⟩,⟨some 16,.mv (.tmp 54),none⟩])))))))))
 (.region [⟨some 55,.bin .add (.tmp 13) (.const (.int .i64 1)),none⟩,⟨some 13,.mv (.tmp 55),none⟩])))))))
 (.seq (.region [⟨some 56,.mv (.tmp 0),none⟩,⟨some 57,.nilCheck (.tmp 56),none⟩,⟨some 58,.faddr 5 (.tmp 57),none⟩,⟨some 59,.load false 1 (.tmp 58),none⟩,⟨none,.clearM (.tmp 59),none⟩])
 (.seq (.region [⟨some 60,.mv (.tmp 3),none⟩,⟨some 2,.mv (.tmp 60),none⟩])
 .ret)))))⟩
theorem k111 : compFn Tryz.prog Tryz.f111 = some c111 := by kernel_rfl
def c117 : AFunc := ⟨[.tmp 2,.tmp 3],(.seq (.region [⟨some 1,.box 3 (.tmp 0),none⟩,⟨some 2,.mv (.const (.ptr none)),none⟩,⟨some 3,.mv (.const (.int .i64 0)),none⟩])
 (.seq (.seq (.region [⟨some 4,.load true 3 (.tmp 1),none⟩,⟨some 5,.call 161 [(.tmp 4)],none⟩,⟨some 6,.not (.tmp 5),none⟩])
 (.cond (.tmp 6) (.seq (.region [⟨some 2,.mv (.const (.ptr none)),none⟩,⟨some 3,.mv (.const (.int .i64 1)),none⟩])
 .ret) .skip))
 (.seq (.draw [⟨⟨some 7,.load true 3 (.tmp 1),none⟩,0,0⟩,⟨⟨some 8,.faddr 2 (.tmp 1),none⟩,0,0⟩,⟨⟨some 9,.load false 1 (.tmp 8),none⟩,0,0⟩,⟨⟨some 10,.bin .shl (.const (.int .u64 4096)) (.tmp 9),none⟩,0,0⟩,⟨⟨some 11,.build [(.int .u64 0),(.int .i64 0),(.int .i64 0),(.int .u64 0),(.slice none 0 0)] [(0,3,(.tmp 7)),(3,1,(.tmp 10))],none⟩,0,0⟩,⟨⟨some 12,.box 5 (.tmp 11),none⟩,0,1⟩,⟨⟨some 2,.mv (.tmp 12),none⟩,1,1⟩,⟨⟨some 3,.mv (.const (.int .i64 0)),none⟩,1,1⟩])
 .ret)))⟩
theorem k117 : compFn Tryz.prog Tryz.f117 = some c117 := by kernel_rfl
def c118 : AFunc := ⟨[.tmp 2],(.seq (.region [⟨some 2,.mv (.const (.ptr none)),none⟩])
 (.seq (.region [⟨some 4,.mv (.tmp 0),none⟩,⟨some 5,.maxmin false [(.tmp 4),(.const (.int .i64 8))],none⟩,⟨some 6,.maxmin true [(.const (.int .i64 0)),(.tmp 5)],none⟩,⟨some 7,.build [(.int .i64 0),(.slice none 0 0),(.slice none 0 0)] [(0,1,(.tmp 6))],none⟩,⟨some 8,.box 3 (.tmp 7),none⟩,⟨some 3,.mv (.tmp 8),none⟩])
 (.seq (.seq (.region [⟨some 9,.mv (.tmp 3),none⟩,⟨some 10,.nilCheck (.tmp 9),none⟩,⟨some 11,.faddr 0 (.tmp 10),none⟩,⟨some 12,.load false 1 (.tmp 11),none⟩,⟨some 13,.mv (.const (.int .i64 0)),none⟩])
 (.block 0 (.loop (.seq (.region [⟨some 14,.bin .lss (.tmp 13) (.tmp 12),none⟩])
 (.seq (.cond (.tmp 14) .skip (.exit 0))
 (.seq (.block 1 (.draw [⟨⟨some 15,.mv (.tmp 3),none⟩,0,3⟩,⟨⟨some 16,.mv (.tmp 3),none⟩,0,2⟩,⟨⟨some 17,.nilCheck (.tmp 16),none⟩,0,2⟩,⟨⟨some 18,.faddr 2 (.tmp 17),none⟩,0,2⟩,⟨⟨some 19,.load false 1 (.tmp 18),none⟩,0,2⟩,⟨⟨some 20,.call 162 [(.const (.int .i64 0))],none⟩,0,1⟩,⟨⟨some 21,.mkSlice 1 1 [(.ptr none)] [(0,1,(.tmp 20))],none⟩,1,2⟩,⟨⟨some 22,.append 1 8 (.tmp 19) (.tmp 21),none⟩,2,3⟩,⟨⟨some 23,.nilCheck (.tmp 15),none⟩,3,3⟩,⟨⟨some 24,.faddr 2 (.tmp 23),none⟩,3,3⟩,⟨⟨none,.store 1 (.tmp 24) (.tmp 22),none⟩,3,4⟩]))
 (.region [⟨some 25,.bin .add (.tmp 13) (.const (.int .i64 1)),none⟩,⟨some 13,.mv (.tmp 25),none⟩])))))))
 (.seq (.region [⟨some 26,.mv (.tmp 3),none⟩,⟨some 2,.mv (.tmp 26),none⟩])
 .ret))))⟩
theorem k118 : compFn Tryz.prog Tryz.f118 = some c118 := by kernel_rfl
def c119 : AFunc := ⟨[.tmp 6],(.seq (.region [⟨some 3,.box 3 (.tmp 0),none⟩,⟨some 6,.mv (.const (.ptr none)),none⟩])
 (.seq (.draw [⟨⟨some 10,.load true 3 (.tmp 3),none⟩,0,1⟩,⟨⟨some 11,.mv (.tmp 1),none⟩,0,1⟩,⟨⟨some 12,.mv (.tmp 2),none⟩,0,1⟩,⟨⟨some 13,.faddr 2 (.tmp 3),none⟩,0,0⟩,⟨⟨some 14,.load false 1 (.tmp 13),none⟩,0,0⟩,⟨⟨some 15,.bin .add (.tmp 14) (.const (.int .i64 1)),none⟩,0,0⟩,⟨⟨some 16,.maxmin true [(.const (.int .i64 0)),(.tmp 15)],none⟩,0,0⟩,⟨⟨some 17,.makeSlice 1 8 [(.int .u64 0)] (.tmp 16) (.tmp 16),none⟩,0,1⟩,⟨⟨some 18,.call 163 [(.tmp 10),(.tmp 11),(.tmp 12),(.tmp 17)],none⟩,1,2⟩,⟨⟨some 9,.mv (.tmp 18),none⟩,2,2⟩,⟨⟨some 19,.extract (.tmp 9) 0,none⟩,2,2⟩,⟨⟨some 20,.extract (.tmp 9) 1,none⟩,2,2⟩,⟨⟨some 7,.mv (.tmp 19),none⟩,2,2⟩,⟨⟨some 8,.mv (.tmp 20),none⟩,2,2⟩])
 (.seq (.region [⟨some 21,.mv (.tmp 7),none⟩,⟨some 6,.mv (.tmp 21),none⟩])
 .ret)))⟩
theorem k119 : compFn Tryz.prog Tryz.f119 = some c119 := by kernel_rfl
def c120 : AFunc := ⟨[.cell 2 true 3],(.seq (.region [⟨some 2,.alloc [(.int .u64 0),(.int .i64 0),(.int .i64 0)],none⟩])
 (.seq (.region [⟨some 3,.mv (.tmp 0),none⟩,⟨some 4,.nilCheck (.tmp 3),none⟩,⟨some 5,.faddr 2 (.tmp 4),none⟩,⟨some 6,.load true 3 (.tmp 5),none⟩,⟨none,.store 3 (.tmp 2) (.tmp 6),none⟩])
 .ret))⟩
theorem k120 : compFn Tryz.prog Tryz.f120 = some c120 := by kernel_rfl
def c121 : AFunc := ⟨[.cell 8 true 2,.tmp 9],(.seq (.region [⟨some 8,.alloc [(.int .u64 0),(.int .u64 0)],none⟩,⟨some 9,.mv (.const (.int .i64 0)),none⟩])
 (.seq (.region [⟨some 14,.mv (.tmp 0),none⟩,⟨some 15,.mv (.tmp 1),none⟩,⟨some 16,.mv (.tmp 2),none⟩,⟨some 17,.call 154 [(.tmp 14),(.tmp 15),(.tmp 16)],none⟩,⟨some 13,.mv (.tmp 17),none⟩,⟨some 18,.extract (.tmp 13) 0,none⟩,⟨some 19,.extract (.tmp 13) 1,none⟩,⟨some 10,.mv (.tmp 18),none⟩,⟨some 11,.mv (.tmp 19),none⟩])
 (.seq (.seq (.region [⟨some 20,.mv (.tmp 11),none⟩,⟨some 21,.bin .neq (.tmp 20) (.const (.int .i64 0)),none⟩])
 (.cond (.tmp 21) (.seq (.region [⟨some 22,.build [(.int .u64 0),(.int .u64 0)] [],none⟩,⟨some 23,.mv (.tmp 11),none⟩,⟨none,.store 2 (.tmp 8) (.tmp 22),none⟩,⟨some 9,.mv (.tmp 23),none⟩])
 .ret) .skip))
 (.seq (.region [⟨some 25,.mv (.tmp 0),none⟩,⟨some 26,.mv (.tmp 10),none⟩,⟨some 27,.mv (.tmp 3),none⟩,⟨some 28,.call 158 [(.tmp 25),(.tmp 26),(.tmp 27)],none⟩,⟨some 24,.mv (.tmp 28),none⟩,⟨some 29,.extract (.tmp 24) 0,none⟩,⟨some 30,.extract (.tmp 24) 1,none⟩,⟨some 12,.mv (.tmp 29),none⟩,⟨some 11,.mv (.tmp 30),none⟩])
 (.seq (.seq (.region [⟨some 31,.mv (.tmp 11),none⟩,⟨some 32,.bin .neq (.tmp 31) (.const (.int .i64 0)),none⟩])
 (.cond (.tmp 32) (.seq (.region [⟨some 33,.build [(.int .u64 0),(.int .u64 0)] [],none⟩,⟨some 34,.mv (.tmp 11),none⟩,⟨none,.store 2 (.tmp 8) (.tmp 33),none⟩,⟨some 9,.mv (.tmp 34),none⟩])
 .ret) .skip))
 (.seq (.region [⟨some 35,.mv (.tmp 12),none⟩,⟨some 36,.mv (.tmp 10),none⟩,⟨some 37,.build [(.int .u64 0),(.int .u64 0)] [(0,1,(.tmp 35)),(1,1,(.tmp 36))],none⟩,⟨none,.store 2 (.tmp 8) (.tmp 37),none⟩,⟨some 9,.mv (.const (.int .i64 0)),none⟩])
 .ret))))))⟩
theorem k121 : compFn Tryz.prog Tryz.f121 = some c121 := by kernel_rfl
def c122 : AFunc := ⟨[.cell 4 true 2,.tmp 5],(.seq (.region [⟨some 4,.alloc [(.int .u64 0),(.int .u64 0)],none⟩,⟨some 5,.mv (.const (.int .i64 0)),none⟩])
 (.seq (.region [⟨some 9,.mv (.tmp 0),none⟩,⟨some 10,.mv (.tmp 1),none⟩,⟨some 11,.call 132 [(.tmp 9),(.tmp 10)],none⟩,⟨some 8,.mv (.tmp 11),none⟩,⟨some 12,.extract (.tmp 8) 0,none⟩,⟨some 13,.extract (.tmp 8) 1,none⟩,⟨some 6,.alloc [(.int .u64 0),(.int .u64 0)],none⟩,⟨none,.store 2 (.tmp 6) (.tmp 12),none⟩,⟨some 7,.mv (.tmp 13),none⟩])
 (.seq (.seq (.region [⟨some 14,.mv (.tmp 7),none⟩,⟨some 15,.not (.tmp 14),none⟩,⟨some 16,.mv (.tmp 15),none⟩,⟨some 17,.faddr 0 (.tmp 6),some (16,false)⟩,⟨some 18,.load false 1 (.tmp 17),some (16,false)⟩,⟨some 19,.mv (.tmp 1),some (16,false)⟩,⟨some 20,.bin .neq (.tmp 18) (.tmp 19),some (16,false)⟩,⟨some 21,.pick (.tmp 16) (.const (.bool true)) (.tmp 20),none⟩])
 (.cond (.tmp 21) (.seq (.region [⟨some 22,.build [(.int .u64 0),(.int .u64 0)] [],none⟩,⟨none,.store 2 (.tmp 4) (.tmp 22),none⟩,⟨some 5,.mv (.const (.int .i64 1)),none⟩])
 .ret) .skip))
 (.seq (.region [⟨some 23,.load true 2 (.tmp 6),none⟩,⟨none,.store 2 (.tmp 4) (.tmp 23),none⟩,⟨some 5,.mv (.const (.int .i64 0)),none⟩])
 .ret))))⟩
theorem k122 : compFn Tryz.prog Tryz.f122 = some c122 := by kernel_rfl
def c123 : AFunc := ⟨[.tmp 6],(.seq (.region [⟨some 6,.mv (.const (.int .i64 0)),none⟩])
 (.seq (.seq (.region [⟨some 9,.mv (.tmp 0),none⟩,⟨some 10,.mv (.tmp 1),none⟩,⟨some 11,.call 70 [(.tmp 9),(.tmp 10)],none⟩,⟨some 12,.not (.tmp 11),none⟩])
 (.cond (.tmp 12) (.seq (.region [⟨some 6,.mv (.const (.int .i64 1)),none⟩])
 .ret) .skip))
 (.seq (.seq (.region [⟨some 13,.mv (.tmp 2),none⟩,⟨some 14,.bin .eql (.tmp 13) (.const (.int .u64 0)),none⟩])
 (.cond (.tmp 14) (.seq (.region [⟨some 6,.mv (.const (.int .i64 0)),none⟩])
 .ret) .skip))
 (.seq (.region [⟨some 16,.mv (.tmp 0),none⟩,⟨some 17,.mv (.tmp 2),none⟩,⟨some 18,.call 124 [(.tmp 16),(.tmp 17)],none⟩,⟨some 15,.mv (.tmp 18),none⟩,⟨some 19,.extract (.tmp 15) 0,none⟩,⟨some 20,.extract (.tmp 15) 1,none⟩,⟨some 7,.mv (.tmp 19),none⟩,⟨some 8,.mv (.tmp 20),none⟩])
 (.seq (.seq (.region [⟨some 21,.mv (.tmp 8),none⟩,⟨some 22,.bin .eql (.tmp 21) (.const (.int .i64 0)),none⟩])
 (.cond (.tmp 22) (.region [⟨some 23,.mv (.tmp 0),none⟩,⟨some 24,.mv (.tmp 1),none⟩,⟨some 25,.mv (.tmp 2),none⟩,⟨some 26,.mv (.tmp 7),none⟩,⟨some 27,.call 164 [(.tmp 23),(.tmp 24),(.tmp 25),(.tmp 26)],none⟩]) .skip))
 (.seq (.region [⟨some 28,.mv (.tmp 8),none⟩,⟨some 6,.mv (.tmp 28),none⟩])
 .ret))))))⟩
theorem k123 : compFn Tryz.prog Tryz.f123 = some c123 := by kernel_rfl
def c124 : AFunc := ⟨[.tmp 4,.tmp 5],(.seq (.region [⟨some 4,.mv (.const (.int .u64 0)),none⟩,⟨some 5,.mv (.const (.int .i64 0)),none⟩])
 (.seq (.seq (.region [⟨some 9,.mv (.tmp 0),none⟩,⟨some 10,.nilCheck (.tmp 9),none⟩,⟨some 11,.faddr 5 (.tmp 10),none⟩,⟨some 12,.load false 1 (.tmp 11),none⟩,⟨some 13,.mv (.tmp 1),none⟩,⟨some 14,.lookup .int (.int .i64 0) true (.tmp 12) (.tmp 13),none⟩,⟨some 8,.mv (.tmp 14),none⟩,⟨some 15,.extract (.tmp 8) 0,none⟩,⟨some 16,.extract (.tmp 8) 1,none⟩,⟨some 6,.mv (.tmp 15),none⟩,⟨some 7,.mv (.tmp 16),none⟩])
 (.seq (.region [⟨some 17,.mv (.tmp 7),none⟩])
 (.cond (.tmp 17) (.seq (.region [⟨some 4,.mv (.const (.int .u64 0)),none⟩,⟨some 5,.mv (.const (.int .i64 1)),none⟩])
 .ret) .skip)))
 (.seq (.region [⟨some 18,.mv (.tmp 0),none⟩,⟨some 19,.nilCheck (.tmp 18),none⟩,⟨some 20,.faddr 2 (.tmp 19),none⟩,⟨some 21,.load false 1 (.tmp 20),none⟩,⟨some 22,.mv (.tmp 1),none⟩,⟨some 23,.call 62 [(.tmp 21),(.tmp 22)],none⟩,⟨some 24,.extract (.tmp 23) 0,none⟩,⟨some 25,.extract (.tmp 23) 1,none⟩,⟨some 4,.mv (.tmp 24),none⟩,⟨some 5,.mv (.tmp 25),none⟩])
 .ret)))⟩
theorem k124 : compFn Tryz.prog Tryz.f124 = some c124 := by kernel_rfl
def c127 : AFunc := ⟨[],(.seq (.region [⟨some 3,.box 2 (.tmp 1),none⟩])
 (.seq (.seq (.region [⟨some 4,.faddr 1 (.tmp 3),none⟩,⟨some 5,.load false 1 (.tmp 4),none⟩,⟨some 6,.bin .lss (.tmp 5) (.const (.int .u64 4096)),none⟩])
 (.cond (.tmp 6) (.seq (.draw [⟨⟨some 7,.mv (.tmp 0),none⟩,0,0⟩,⟨⟨some 8,.nilCheck (.tmp 7),none⟩,0,0⟩,⟨⟨some 9,.faddr 6 (.tmp 8),none⟩,0,0⟩,⟨⟨some 10,.load false 1 (.tmp 9),none⟩,0,0⟩,⟨⟨some 11,.faddr 0 (.tmp 3),none⟩,0,0⟩,⟨⟨some 12,.load false 1 (.tmp 11),none⟩,0,0⟩,⟨⟨some 13,.call 173 [(.tmp 10),(.tmp 12)],none⟩,0,1⟩])
 .ret) .skip))
 (.draw [⟨⟨some 14,.mv (.tmp 0),none⟩,0,1⟩,⟨⟨some 15,.nilCheck (.tmp 14),none⟩,0,1⟩,⟨⟨some 16,.faddr 5 (.tmp 15),none⟩,0,1⟩,⟨⟨some 17,.load false 1 (.tmp 16),none⟩,0,1⟩,⟨⟨some 18,.faddr 0 (.tmp 3),none⟩,0,1⟩,⟨⟨some 19,.load false 1 (.tmp 18),none⟩,0,1⟩,⟨⟨some 20,.faddr 1 (.tmp 3),none⟩,0,0⟩,⟨⟨some 21,.load false 1 (.tmp 20),none⟩,0,0⟩,⟨⟨some 22,.call 157 [(.tmp 21)],none⟩,0,1⟩,⟨⟨some 23,.call 174 [(.tmp 17),(.tmp 19),(.tmp 22)],none⟩,1,2⟩])))⟩
theorem k127 : compFn Tryz.prog Tryz.f127 = some c127 := by kernel_rfl
def c132 : AFunc := ⟨[.cell 4 true 2,.tmp 5],(.seq (.region [⟨some 4,.alloc [(.int .u64 0),(.int .u64 0)],none⟩,⟨some 5,.mv (.const (.bool false)),none⟩])
 (.seq (.seq (.region [⟨some 13,.mv (.tmp 1),none⟩,⟨some 14,.mv (.tmp 0),none⟩,⟨some 15,.nilCheck (.tmp 14),none⟩,⟨some 16,.faddr 2 (.tmp 15),none⟩,⟨some 17,.faddr 0 (.tmp 16),none⟩,⟨some 18,.load false 1 (.tmp 17),none⟩,⟨some 19,.bin .lss (.tmp 13) (.tmp 18),none⟩,⟨some 20,.mv (.tmp 19),none⟩,⟨some 21,.mv (.tmp 1),some (20,false)⟩,⟨some 22,.mv (.tmp 0),some (20,false)⟩,⟨some 23,.nilCheck (.tmp 22),some (20,false)⟩,⟨some 24,.faddr 5 (.tmp 23),some (20,false)⟩,⟨some 25,.load false 1 (.tmp 24),some (20,false)⟩,⟨some 26,.nilCheck (.tmp 25),some (20,false)⟩,⟨some 27,.faddr 0 (.tmp 26),some (20,false)⟩,⟨some 28,.call 75 [(.tmp 27)],some (20,false)⟩,⟨some 29,.call 76 [(.tmp 28)],some (20,false)⟩,⟨some 30,.bin .geq (.tmp 21) (.tmp 29),some (20,false)⟩,⟨some 31,.pick (.tmp 20) (.const (.bool true)) (.tmp 30),none⟩])
 (.cond (.tmp 31) (.seq (.region [⟨some 32,.build [(.int .u64 0),(.int .u64 0)] [],none⟩,⟨none,.store 2 (.tmp 4) (.tmp 32),none⟩,⟨some 5,.mv (.const (.bool false)),none⟩])
 .ret) .skip))
 (.seq (.region [⟨some 33,.mv (.tmp 1),none⟩,⟨some 34,.mv (.tmp 0),none⟩,⟨some 35,.nilCheck (.tmp 34),none⟩,⟨some 36,.faddr 2 (.tmp 35),none⟩,⟨some 37,.faddr 0 (.tmp 36),none⟩,⟨some 38,.load false 1 (.tmp 37),none⟩,⟨some 39,.bin .sub (.tmp 33) (.tmp 38),none⟩,⟨some 40,.bin .quo (.tmp 39) (.const (.int .u64 4096)),none⟩,⟨some 41,.conv .i64 (.tmp 40),none⟩,⟨some 6,.mv (.tmp 41),none⟩])
 (.seq (.region [⟨some 43,.mv (.tmp 0),none⟩,⟨some 44,.nilCheck (.tmp 43),none⟩,⟨some 45,.faddr 5 (.tmp 44),none⟩,⟨some 46,.load false 1 (.tmp 45),none⟩,⟨some 47,.nilCheck (.tmp 46),none⟩,⟨some 48,.faddr 0 (.tmp 47),none⟩,⟨some 49,.call 78 [(.tmp 48)],none⟩,⟨some 50,.mv (.tmp 6),none⟩,⟨some 51,.call 80 [(.tmp 49),(.tmp 50)],none⟩,⟨some 42,.mv (.tmp 51),none⟩,⟨some 52,.extract (.tmp 42) 0,none⟩,⟨some 53,.extract (.tmp 42) 1,none⟩,⟨some 7,.alloc [(.int .i64 0),(.int .i64 0),(.int .i64 0),(.int .i64 0),(.int .i64 0),(.int .i64 0),(.int .i64 0),(.int .u64 0),(.int .u64 0),(.int .u64 0),(.int .u64 0)],none⟩,⟨none,.store 11 (.tmp 7) (.tmp 52),none⟩,⟨some 8,.mv (.tmp 53),none⟩])
 (.seq (.seq (.region [⟨some 54,.faddr 0 (.tmp 7),none⟩,⟨some 55,.load false 1 (.tmp 54),none⟩])
 (.block 0 (.seq (.region [⟨some 57,.bin .eql (.tmp 55) (.const (.int .i64 4)),none⟩,⟨some 56,.mv (.tmp 57),none⟩])
 (.cond (.tmp 56) (.seq (.region [⟨some 58,.faddr 2 (.tmp 7),none⟩,⟨some 59,.load false 1 (.tmp 58),none⟩,⟨some 60,.bin .shl (.const (.int .u64 16)) (.tmp 59),none⟩,⟨some 9,.mv (.tmp 60),none⟩])
 (.seq (.region [⟨some 61,.mv (.tmp 1),none⟩,⟨some 62,.mv (.tmp 9),none⟩,⟨some 63,.bin .quo (.tmp 61) (.tmp 62),none⟩,⟨some 64,.mv (.tmp 9),none⟩,⟨some 65,.bin .mul (.tmp 63) (.tmp 64),none⟩,⟨some 66,.mv (.tmp 9),none⟩,⟨some 67,.build [(.int .u64 0),(.int .u64 0)] [(0,1,(.tmp 65)),(1,1,(.tmp 66))],none⟩,⟨some 10,.alloc [(.int .u64 0),(.int .u64 0)],none⟩,⟨none,.store 2 (.tmp 10) (.tmp 67),none⟩])
 (.seq (.region [⟨some 68,.faddr 0 (.tmp 10),none⟩,⟨some 69,.load false 1 (.tmp 68),none⟩,⟨some 70,.bin .rem (.tmp 69) (.const (.int .u64 4096)),none⟩,⟨some 71,.mv (.tmp 9),none⟩,⟨some 72,.bin .quo (.tmp 70) (.tmp 71),none⟩,⟨some 11,.mv (.tmp 72),none⟩])
 (.seq (.draw [⟨⟨some 73,.load true 2 (.tmp 10),none⟩,0,0⟩,⟨⟨some 74,.mv (.tmp 11),none⟩,0,1⟩,⟨⟨some 75,.bin .quo (.tmp 74) (.const (.int .u64 64)),none⟩,0,1⟩,⟨⟨some 76,.faddr 7 (.tmp 7),none⟩,0,1⟩,⟨⟨some 77,.iaddrA 4 1 (.tmp 76) (.tmp 75),none⟩,0,1⟩,⟨⟨some 78,.load false 1 (.tmp 77),none⟩,0,1⟩,⟨⟨some 79,.mv (.tmp 11),none⟩,0,1⟩,⟨⟨some 80,.bin .rem (.tmp 79) (.const (.int .u64 64)),none⟩,0,1⟩,⟨⟨some 81,.bin .shr (.tmp 78) (.tmp 80),none⟩,0,1⟩,⟨⟨some 82,.bin .and (.tmp 81) (.const (.int .u64 1)),none⟩,0,1⟩,⟨⟨some 83,.bin .eql (.tmp 82) (.const (.int .u64 1)),none⟩,0,1⟩,⟨⟨none,.store 2 (.tmp 4) (.tmp 73),none⟩,0,1⟩,⟨⟨some 5,.mv (.tmp 83),none⟩,1,1⟩])
 .ret)))) (.seq (.seq (.region [⟨some 85,.bin .eql (.tmp 55) (.const (.int .i64 2)),none⟩,⟨some 84,.mv (.tmp 85),none⟩])
 (.cond (.tmp 84) .skip (.region [⟨some 86,.bin .eql (.tmp 55) (.const (.int .i64 3)),none⟩,⟨some 84,.mv (.tmp 86),none⟩])))
 (.cond (.tmp 84) (.seq (.region [⟨some 87,.mv (.tmp 0),none⟩,⟨some 88,.nilCheck (.tmp 87),none⟩,⟨some 89,.faddr 5 (.tmp 88),none⟩,⟨some 90,.load false 1 (.tmp 89),none⟩,⟨some 91,.nilCheck (.tmp 90),none⟩,⟨some 92,.faddr 0 (.tmp 91),none⟩,⟨some 93,.call 78 [(.tmp 92)],none⟩,⟨some 94,.mv (.tmp 6),none⟩,⟨some 95,.call 181 [(.tmp 93),(.tmp 94)],none⟩,⟨some 12,.mv (.tmp 95),none⟩])
 (.seq (.draw [⟨⟨some 96,.mv (.tmp 0),none⟩,0,0⟩,⟨⟨some 97,.nilCheck (.tmp 96),none⟩,0,0⟩,⟨⟨some 98,.faddr 2 (.tmp 97),none⟩,0,0⟩,⟨⟨some 99,.faddr 0 (.tmp 98),none⟩,0,0⟩,⟨⟨some 100,.load false 1 (.tmp 99),none⟩,0,0⟩,⟨⟨some 101,.mv (.tmp 12),none⟩,0,0⟩,⟨⟨some 102,.conv .u64 (.tmp 101),none⟩,0,0⟩,⟨⟨some 103,.bin .mul (.tmp 102) (.const (.int .u64 4096)),none⟩,0,0⟩,⟨⟨some 104,.bin .add (.tmp 100) (.tmp 103),none⟩,0,0⟩,⟨⟨some 105,.faddr 1 (.tmp 7),none⟩,0,0⟩,⟨⟨some 106,.load false 1 (.tmp 105),none⟩,0,0⟩,⟨⟨some 107,.bin .shl (.const (.int .u64 4096)) (.tmp 106),none⟩,0,0⟩,⟨⟨some 108,.build [(.int .u64 0),(.int .u64 0)] [(0,1,(.tmp 104)),(1,1,(.tmp 107))],none⟩,0,0⟩,⟨⟨none,.store 2 (.tmp 4) (.tmp 108),none⟩,0,1⟩,⟨⟨some 5,.mv (.const (.bool true)),none⟩,1,1⟩])
 .ret)) .skip))))))
 (.seq (.region [⟨some 109,.build [(.int .u64 0),(.int .u64 0)] [],none⟩,⟨none,.store 2 (.tmp 4) (.tmp 109),none⟩,⟨some 5,.mv (.const (.bool false)),none⟩])
 .ret))))))⟩
theorem k132 : compFn Tryz.prog Tryz.f132 = some c132 := by kernel_rfl
def c134 : AFunc := ⟨[],(.seq (.seq (.region [⟨some 6,.mv (.tmp 0),none⟩,⟨some 7,.eq1 false .iface (.tmp 6) (.const .nilIface),none⟩])
 (.cond (.tmp 7) .ret .skip))
 (.seq (.bad "region")
 (.seq (.seq (.region [⟨some 13,.mv (.tmp 5),none⟩,⟨some 14,.not (.tmp 13),none⟩])
 (.cond (.tmp 14) (.bad "region") .skip))
 (.region [⟨some 16,.mv (.tmp 1),none⟩,⟨some 17,.faddr 0 (.tmp 4),none⟩,⟨some 18,.load false 1 (.tmp 17),none⟩,⟨some 19,.nilCheck (.tmp 16),none⟩,⟨none,.store 1 (.tmp 19) (.tmp 18),none⟩]))))⟩
theorem k134 : compFn Tryz.prog Tryz.f134 = some c134 := by kernel_rfl
def c135 : AFunc := ⟨[],(.seq (.region [⟨some 6,.mv (.tmp 2),none⟩,⟨some 7,.bin .neq (.tmp 6) (.const (.int .u64 0)),none⟩,⟨some 8,.mv (.tmp 7),none⟩,⟨some 9,.mv (.tmp 1),some (8,true)⟩,⟨some 10,.mv (.tmp 0),some (8,true)⟩,⟨some 11,.nilCheck (.tmp 10),some (8,true)⟩,⟨some 12,.faddr 0 (.tmp 11),some (8,true)⟩,⟨some 13,.faddr 0 (.tmp 12),some (8,true)⟩,⟨some 14,.load false 1 (.tmp 13),some (8,true)⟩,⟨some 15,.bin .lss (.tmp 9) (.tmp 14),some (8,true)⟩,⟨some 16,.mv (.tmp 15),some (8,true)⟩,⟨some 17,.mv (.tmp 1),some (16,false)⟩,⟨some 18,.mv (.tmp 0),some (16,false)⟩,⟨some 19,.call 76 [(.tmp 18)],some (16,false)⟩,⟨some 20,.bin .gtr (.tmp 17) (.tmp 19),some (16,false)⟩,⟨some 21,.pick (.tmp 16) (.const (.bool true)) (.tmp 20),some (8,true)⟩,⟨some 22,.mv (.tmp 21),some (8,true)⟩,⟨some 23,.mv (.tmp 2),some (22,false)⟩,⟨some 24,.mv (.tmp 0),some (22,false)⟩,⟨some 25,.call 76 [(.tmp 24)],some (22,false)⟩,⟨some 26,.mv (.tmp 1),some (22,false)⟩,⟨some 27,.bin .sub (.tmp 25) (.tmp 26),some (22,false)⟩,⟨some 28,.bin .gtr (.tmp 23) (.tmp 27),some (22,false)⟩,⟨some 29,.pick (.tmp 22) (.const (.bool true)) (.tmp 28),some (8,true)⟩,⟨some 30,.pick (.tmp 8) (.tmp 29) (.const (.bool false)),none⟩])
 (.cond (.tmp 30) (.bad "region") .skip))⟩
theorem k135 : compFn Tryz.prog Tryz.f135 = some c135 := by kernel_rfl
def c136 : AFunc := ⟨[],(.block 0 (.loop (.seq (.seq (.region [⟨some 8,.mv (.tmp 2),none⟩,⟨some 9,.lenS (.tmp 8),none⟩,⟨some 10,.bin .gtr (.tmp 9) (.const (.int .i64 0)),none⟩])
 (.cond (.tmp 10) .skip (.exit 0)))
 (.block 1 (.seq (.region [⟨some 11,.mv (.tmp 1),none⟩,⟨some 12,.mv (.tmp 0),none⟩,⟨some 13,.nilCheck (.tmp 12),none⟩,⟨some 14,.faddr 0 (.tmp 13),none⟩,⟨some 15,.faddr 0 (.tmp 14),none⟩,⟨some 16,.load false 1 (.tmp 15),none⟩,⟨some 17,.bin .sub (.tmp 11) (.tmp 16),none⟩,⟨some 6,.mv (.tmp 17),none⟩])
 (.seq (.draw [⟨⟨some 18,.mv (.tmp 2),none⟩,0,0⟩,⟨⟨some 19,.mv (.tmp 0),none⟩,0,0⟩,⟨⟨some 20,.nilCheck (.tmp 19),none⟩,0,0⟩,⟨⟨some 21,.faddr 4 (.tmp 20),none⟩,0,0⟩,⟨⟨some 22,.load false 1 (.tmp 21),none⟩,0,0⟩,⟨⟨some 23,.mv (.tmp 6),none⟩,0,0⟩,⟨⟨some 24,.mv (.tmp 0),none⟩,0,0⟩,⟨⟨some 25,.nilCheck (.tmp 24),none⟩,0,0⟩,⟨⟨some 26,.faddr 3 (.tmp 25),none⟩,0,0⟩,⟨⟨some 27,.load false 1 (.tmp 26),none⟩,0,0⟩,⟨⟨some 28,.bin .quo (.tmp 23) (.tmp 27),none⟩,0,0⟩,⟨⟨some 29,.iaddrS 1 (.tmp 22) (.tmp 28),none⟩,0,0⟩,⟨⟨some 30,.load false 1 (.tmp 29),none⟩,0,0⟩,⟨⟨some 31,.mv (.tmp 6),none⟩,0,0⟩,⟨⟨some 32,.mv (.tmp 0),none⟩,0,0⟩,⟨⟨some 33,.nilCheck (.tmp 32),none⟩,0,0⟩,⟨⟨some 34,.faddr 3 (.tmp 33),none⟩,0,0⟩,⟨⟨some 35,.load false 1 (.tmp 34),none⟩,0,0⟩,⟨⟨some 36,.bin .rem (.tmp 31) (.tmp 35),none⟩,0,0⟩,⟨⟨some 37,.sliceOf 1 (.tmp 30) (some (.tmp 36)) none,none⟩,0,0⟩,⟨⟨some 38,.copy 1 (.tmp 18) (.tmp 37),none⟩,0,1⟩,⟨⟨some 7,.mv (.tmp 38),none⟩,1,1⟩])
 (.seq (.region [⟨some 39,.mv (.tmp 2),none⟩,⟨some 40,.mv (.tmp 7),none⟩,⟨some 41,.sliceOf 1 (.tmp 39) (some (.tmp 40)) none,none⟩,⟨some 2,.mv (.tmp 41),none⟩])
 (.region [⟨some 42,.mv (.tmp 1),none⟩,⟨some 43,.mv (.tmp 7),none⟩,⟨some 44,.conv .u64 (.tmp 43),none⟩,⟨some 45,.bin .add (.tmp 42) (.tmp 44),none⟩,⟨some 1,.mv (.tmp 45),none⟩]))))))))⟩
theorem k136 : compFn Tryz.prog Tryz.f136 = some c136 := by kernel_rfl
def c150 : AFunc := ⟨[.tmp 10,.tmp 11,.tmp 12],(.seq (.region [⟨some 10,.mv (.const (.int .u64 0)),none⟩,⟨some 11,.mv (.const (.int .u64 0)),none⟩,⟨some 12,.mv (.const (.int .i64 0)),none⟩])
 (.seq (.seq (.region [⟨some 13,.mv (.tmp 2),none⟩,⟨some 14,.call 193 [(.tmp 13)],none⟩,⟨some 15,.not (.tmp 14),none⟩,⟨some 16,.mv (.tmp 15),none⟩,⟨some 17,.mv (.tmp 0),some (16,false)⟩,⟨some 18,.mv (.tmp 1),some (16,false)⟩,⟨some 19,.call 70 [(.tmp 17),(.tmp 18)],some (16,false)⟩,⟨some 20,.not (.tmp 19),some (16,false)⟩,⟨some 21,.pick (.tmp 16) (.const (.bool true)) (.tmp 20),none⟩])
 (.cond (.tmp 21) (.seq (.region [⟨some 10,.mv (.const (.int .u64 0)),none⟩,⟨some 11,.mv (.const (.int .u64 0)),none⟩,⟨some 12,.mv (.const (.int .i64 1)),none⟩])
 .ret) .skip))
 (.seq (.region [⟨some 23,.mv (.tmp 0),none⟩,⟨some 24,.mv (.tmp 3),none⟩,⟨some 25,.mv (.tmp 2),none⟩,⟨some 26,.call 194 [(.tmp 23),(.tmp 24),(.tmp 25)],none⟩,⟨some 22,.mv (.tmp 26),none⟩,⟨some 27,.extract (.tmp 22) 0,none⟩,⟨some 28,.extract (.tmp 22) 1,none⟩,⟨some 11,.mv (.tmp 27),none⟩,⟨some 12,.mv (.tmp 28),none⟩])
 (.seq (.seq (.region [⟨some 29,.mv (.tmp 12),none⟩,⟨some 30,.bin .neq (.tmp 29) (.const (.int .i64 0)),none⟩])
 (.cond (.tmp 30) (.seq (.region [⟨some 31,.mv (.tmp 12),none⟩,⟨some 10,.mv (.const (.int .u64 0)),none⟩,⟨some 11,.mv (.const (.int .u64 0)),none⟩,⟨some 12,.mv (.tmp 31),none⟩])
 .ret) .skip))
 (.seq (.region [⟨some 33,.mv (.tmp 0),none⟩,⟨some 34,.mv (.tmp 1),none⟩,⟨some 35,.mv (.tmp 11),none⟩,⟨some 36,.mv (.tmp 4),none⟩,⟨some 37,.call 195 [(.tmp 33),(.tmp 34),(.tmp 35),(.tmp 36)],none⟩,⟨some 32,.mv (.tmp 37),none⟩,⟨some 38,.extract (.tmp 32) 0,none⟩,⟨some 39,.extract (.tmp 32) 1,none⟩,⟨some 10,.mv (.tmp 38),none⟩,⟨some 12,.mv (.tmp 39),none⟩])
 (.seq (.region [⟨some 40,.mv (.tmp 10),none⟩,⟨some 41,.mv (.tmp 11),none⟩,⟨some 42,.mv (.tmp 12),none⟩,⟨some 10,.mv (.tmp 40),none⟩,⟨some 11,.mv (.tmp 41),none⟩,⟨some 12,.mv (.tmp 42),none⟩])
 .ret))))))⟩
theorem k150 : compFn Tryz.prog Tryz.f150 = some c150 := by kernel_rfl
def c154 : AFunc := ⟨[.tmp 6,.tmp 7],(.seq (.region [⟨some 6,.mv (.const (.int .u64 0)),none⟩,⟨some 7,.mv (.const (.int .i64 0)),none⟩])
 (.seq (.seq (.region [⟨some 10,.mv (.tmp 2),none⟩,⟨some 11,.call 193 [(.tmp 10)],none⟩,⟨some 12,.not (.tmp 11),none⟩])
 (.cond (.tmp 12) (.seq (.region [⟨some 6,.mv (.const (.int .u64 0)),none⟩,⟨some 7,.mv (.const (.int .i64 1)),none⟩])
 .ret) .skip))
 (.seq (.region [⟨some 14,.mv (.tmp 1),none⟩,⟨some 15,.mv (.tmp 2),none⟩,⟨some 16,.maxmin true [(.tmp 14),(.tmp 15),(.const (.int .u64 16))],none⟩,⟨some 17,.call 198 [(.tmp 16)],none⟩,⟨some 13,.mv (.tmp 17),none⟩,⟨some 18,.extract (.tmp 13) 0,none⟩,⟨some 19,.extract (.tmp 13) 1,none⟩,⟨some 8,.mv (.tmp 18),none⟩,⟨some 9,.mv (.tmp 19),none⟩])
 (.seq (.seq (.region [⟨some 20,.mv (.tmp 9),none⟩,⟨some 21,.not (.tmp 20),none⟩,⟨some 22,.mv (.tmp 21),none⟩,⟨some 23,.mv (.tmp 8),some (22,false)⟩,⟨some 24,.mv (.tmp 0),some (22,false)⟩,⟨some 25,.call 199 [(.tmp 24)],some (22,false)⟩,⟨some 26,.bin .gtr (.tmp 23) (.tmp 25),some (22,false)⟩,⟨some 27,.pick (.tmp 22) (.const (.bool true)) (.tmp 26),none⟩])
 (.cond (.tmp 27) (.seq (.region [⟨some 6,.mv (.const (.int .u64 0)),none⟩,⟨some 7,.mv (.const (.int .i64 3)),none⟩])
 .ret) .skip))
 (.seq (.region [⟨some 28,.mv (.tmp 8),none⟩,⟨some 6,.mv (.tmp 28),none⟩,⟨some 7,.mv (.const (.int .i64 0)),none⟩])
 .ret)))))⟩
theorem k154 : compFn Tryz.prog Tryz.f154 = some c154 := by kernel_rfl
def c157 : AFunc := ⟨[.tmp 2],(.seq (.region [⟨some 2,.mv (.const (.int .i64 0)),none⟩])
 (.seq (.region [⟨some 3,.mv (.tmp 0),none⟩,⟨some 4,.bin .quo (.tmp 3) (.const (.int .u64 4096)),none⟩,⟨some 5,.call 202 [(.tmp 4)],none⟩,⟨some 2,.mv (.tmp 5),none⟩])
 .ret))⟩
theorem k157 : compFn Tryz.prog Tryz.f157 = some c157 := by kernel_rfl
def c158 : AFunc := ⟨[.tmp 6,.tmp 7],(.seq (.region [⟨some 6,.mv (.const (.int .u64 0)),none⟩,⟨some 7,.mv (.const (.int .i64 0)),none⟩])
 (.seq (.seq (.region [⟨some 14,.mv (.tmp 1),none⟩,⟨some 15,.bin .lss (.tmp 14) (.const (.int .u64 4096)),none⟩])
 (.cond (.tmp 15) (.seq (.draw [⟨⟨some 17,.mv (.tmp 0),none⟩,0,1⟩,⟨⟨some 18,.nilCheck (.tmp 17),none⟩,0,1⟩,⟨⟨some 19,.faddr 6 (.tmp 18),none⟩,0,1⟩,⟨⟨some 20,.load false 1 (.tmp 19),none⟩,0,1⟩,⟨⟨some 21,.mv (.tmp 1),none⟩,0,0⟩,⟨⟨some 22,.call 204 [(.tmp 21)],none⟩,0,1⟩,⟨⟨some 23,.mv (.tmp 2),none⟩,0,1⟩,⟨⟨some 24,.call 203 [(.tmp 20),(.tmp 22),(.tmp 23)],none⟩,1,2⟩,⟨⟨some 16,.mv (.tmp 24),none⟩,2,2⟩,⟨⟨some 25,.extract (.tmp 16) 0,none⟩,2,2⟩,⟨⟨some 26,.extract (.tmp 16) 1,none⟩,2,2⟩,⟨⟨some 27,.extract (.tmp 16) 2,none⟩,2,2⟩,⟨⟨some 8,.mv (.tmp 25),none⟩,2,2⟩,⟨⟨some 9,.mv (.tmp 26),none⟩,2,2⟩,⟨⟨some 10,.mv (.tmp 27),none⟩,2,2⟩])
 (.seq (.region [⟨some 28,.mv (.tmp 8),none⟩,⟨some 29,.mv (.tmp 10),none⟩,⟨some 6,.mv (.tmp 28),none⟩,⟨some 7,.mv (.tmp 29),none⟩])
 .ret)) .skip))
 (.seq (.draw [⟨⟨some 31,.mv (.tmp 0),none⟩,0,1⟩,⟨⟨some 32,.nilCheck (.tmp 31),none⟩,0,1⟩,⟨⟨some 33,.faddr 5 (.tmp 32),none⟩,0,1⟩,⟨⟨some 34,.load false 1 (.tmp 33),none⟩,0,1⟩,⟨⟨some 35,.mv (.tmp 1),none⟩,0,0⟩,⟨⟨some 36,.call 157 [(.tmp 35)],none⟩,0,1⟩,⟨⟨some 37,.mv (.tmp 2),none⟩,0,1⟩,⟨⟨some 38,.call 205 [(.tmp 34),(.tmp 36),(.tmp 37)],none⟩,1,2⟩,⟨⟨some 30,.mv (.tmp 38),none⟩,2,2⟩,⟨⟨some 39,.extract (.tmp 30) 0,none⟩,2,2⟩,⟨⟨some 40,.extract (.tmp 30) 1,none⟩,2,2⟩,⟨⟨some 41,.extract (.tmp 30) 2,none⟩,2,2⟩,⟨⟨some 11,.mv (.tmp 39),none⟩,2,2⟩,⟨⟨some 12,.mv (.tmp 40),none⟩,2,2⟩,⟨⟨some 13,.mv (.tmp 41),none⟩,2,2⟩])
 (.seq (.region [⟨some 42,.mv (.tmp 11),none⟩,⟨some 43,.mv (.tmp 13),none⟩,⟨some 6,.mv (.tmp 42),none⟩,⟨some 7,.mv (.tmp 43),none⟩])
 .ret))))⟩
theorem k158 : compFn Tryz.prog Tryz.f158 = some c158 := by kernel_rfl
def c161 : AFunc := ⟨[.tmp 2],(.seq (.region [⟨some 1,.box 3 (.tmp 0),none⟩,⟨some 2,.mv (.const (.bool false)),none⟩])
 (.seq (.seq (.region [⟨some 4,.faddr 2 (.tmp 1),none⟩,⟨some 5,.load false 1 (.tmp 4),none⟩,⟨some 6,.bin .lss (.tmp 5) (.const (.int .i64 0)),none⟩,⟨some 7,.mv (.tmp 6),none⟩,⟨some 8,.faddr 2 (.tmp 1),some (7,false)⟩,⟨some 9,.load false 1 (.tmp 8),some (7,false)⟩,⟨some 10,.bin .gtr (.tmp 9) (.const (.int .i64 8)),some (7,false)⟩,⟨some 11,.pick (.tmp 7) (.const (.bool true)) (.tmp 10),none⟩,⟨some 12,.mv (.tmp 11),none⟩,⟨some 13,.faddr 1 (.tmp 1),some (12,false)⟩,⟨some 14,.load false 1 (.tmp 13),some (12,false)⟩,⟨some 15,.bin .lss (.tmp 14) (.const (.int .i64 1)),some (12,false)⟩,⟨some 16,.pick (.tmp 12) (.const (.bool true)) (.tmp 15),none⟩,⟨some 17,.mv (.tmp 16),none⟩,⟨some 18,.faddr 1 (.tmp 1),some (17,false)⟩,⟨some 19,.load false 1 (.tmp 18),some (17,false)⟩,⟨some 20,.bin .gtr (.tmp 19) (.const (.int .i64 64)),some (17,false)⟩,⟨some 21,.pick (.tmp 17) (.const (.bool true)) (.tmp 20),none⟩,⟨some 22,.mv (.tmp 21),none⟩,⟨some 23,.faddr 1 (.tmp 1),some (22,false)⟩,⟨some 24,.load false 1 (.tmp 23),some (22,false)⟩,⟨some 25,.faddr 2 (.tmp 1),some (22,false)⟩,⟨some 26,.load false 1 (.tmp 25),some (22,false)⟩,⟨some 27,.bin .shl (.tmp 24) (.tmp 26),some (22,false)⟩,⟨some 28,.bin .gtr (.tmp 27) (.const (.int .i64 1024)),some (22,false)⟩,⟨some 29,.pick (.tmp 22) (.const (.bool true)) (.tmp 28),none⟩])
 (.cond (.tmp 29) (.seq (.region [⟨some 2,.mv (.const (.bool false)),none⟩])
 .ret) .skip))
 (.seq (.region [⟨some 30,.faddr 2 (.tmp 1),none⟩,⟨some 31,.load false 1 (.tmp 30),none⟩,⟨some 32,.bin .shl (.const (.int .u64 4096)) (.tmp 31),none⟩,⟨some 3,.mv (.tmp 32),none⟩])
 (.seq (.region [⟨some 33,.faddr 0 (.tmp 1),none⟩,⟨some 34,.load false 1 (.tmp 33),none⟩,⟨some 35,.bin .neq (.tmp 34) (.const (.int .u64 0)),none⟩,⟨some 36,.mv (.tmp 35),none⟩,⟨some 37,.faddr 0 (.tmp 1),some (36,true)⟩,⟨some 38,.load false 1 (.tmp 37),some (36,true)⟩,⟨some 39,.mv (.tmp 3),some (36,true)⟩,⟨some 40,.bin .rem (.tmp 38) (.tmp 39),some (36,true)⟩,⟨some 41,.bin .eql (.tmp 40) (.const (.int .u64 0)),some (36,true)⟩,⟨some 42,.pick (.tmp 36) (.tmp 41) (.const (.bool false)),none⟩,⟨some 43,.mv (.tmp 42),none⟩,⟨some 44,.faddr 0 (.tmp 1),some (43,true)⟩,⟨some 45,.load false 1 (.tmp 44),some (43,true)⟩,⟨some 46,.bin .leq (.tmp 45) (.const (.int .u64 9223372036854775808)),some (43,true)⟩,⟨some 47,.pick (.tmp 43) (.tmp 46) (.const (.bool false)),none⟩,⟨some 48,.mv (.tmp 47),none⟩,⟨some 49,.mv (.tmp 3),some (48,true)⟩,⟨some 50,.faddr 1 (.tmp 1),some (48,true)⟩,⟨some 51,.load false 1 (.tmp 50),some (48,true)⟩,⟨some 52,.conv .u64 (.tmp 51),some (48,true)⟩,⟨some 53,.bin .mul (.tmp 49) (.tmp 52),some (48,true)⟩,⟨some 54,.faddr 0 (.tmp 1),some (48,true)⟩,⟨some 55,.load false 1 (.tmp 54),some (48,true)⟩,⟨some 56,.bin .sub (.const (.int .u64 9223372036854775808)) (.tmp 55),some (48,true)⟩,⟨some 57,.bin .leq (.tmp 53) (.tmp 56),some (48,true)⟩,⟨some 58,.pick (.tmp 48) (.tmp 57) (.const (.bool false)),none⟩,⟨some 2,.mv (.tmp 58),none⟩])
 .ret))))⟩
theorem k161 : compFn Tryz.prog Tryz.f161 = some c161 := by kernel_rfl
def c162 : AFunc := ⟨[.tmp 2],(.seq (.region [⟨some 2,.mv (.const (.ptr none)),none⟩])
 (.seq (.region [⟨some 3,.mv (.tmp 0),none⟩,⟨some 4,.call 210 [(.const (.slice none 0 0)),(.tmp 3)],none⟩,⟨some 2,.mv (.tmp 4),none⟩])
 .ret))⟩
theorem k162 : compFn Tryz.prog Tryz.f162 = some c162 := by kernel_rfl
def c163 : AFunc := ⟨[.tmp 8,.tmp 9],(.seq (.region [⟨some 4,.box 3 (.tmp 0),none⟩,⟨some 8,.mv (.const (.ptr none)),none⟩,⟨some 9,.mv (.const (.int .i64 0)),none⟩])
 (.seq (.seq (.region [⟨some 13,.mv (.tmp 3),none⟩,⟨some 14,.lenS (.tmp 13),none⟩,⟨some 15,.faddr 2 (.tmp 4),none⟩,⟨some 16,.load false 1 (.tmp 15),none⟩,⟨some 17,.bin .add (.tmp 16) (.const (.int .i64 1)),none⟩,⟨some 18,.bin .neq (.tmp 14) (.tmp 17),none⟩])
 (.cond (.tmp 18) (.seq (.region [⟨some 8,.mv (.const (.ptr none)),none⟩,⟨some 9,.mv (.const (.int .i64 7)),none⟩])
 .ret) .skip))
 (.seq (.region [⟨some 19,.load true 3 (.tmp 4),none⟩,⟨some 20,.mv (.tmp 1),none⟩,⟨some 21,.mv (.tmp 2),none⟩,⟨some 22,.build [(.int .u64 0),(.int .i64 0),(.int .i64 0),(.ptr none),(.ptr none),(.slice none 0 0)] [(0,3,(.tmp 19)),(3,1,(.tmp 20)),(4,1,(.tmp 21))],none⟩,⟨some 23,.box 6 (.tmp 22),none⟩,⟨some 10,.mv (.tmp 23),none⟩])
 (.seq (.seq (.region [⟨some 24,.mv (.tmp 3),none⟩,⟨some 25,.lenS (.tmp 24),none⟩,⟨some 26,.mv (.const (.int .i64 0)),none⟩])
 (.block 0 (.loop (.seq (.region [⟨some 27,.bin .lss (.tmp 26) (.tmp 25),none⟩])
 (.seq (.cond (.tmp 27) .skip (.exit 0))
 (.seq (.block 1 (.seq (.region [⟨some 28,.iaddrS 1 (.tmp 24) (.tmp 26),none⟩,⟨some 29,.load false 1 (.tmp 28),none⟩,⟨some 12,.mv (.tmp 29),none⟩])
 (.draw [⟨⟨some 30,.mv (.tmp 10),none⟩,0,3⟩,⟨⟨some 31,.mv (.tmp 10),none⟩,0,2⟩,⟨⟨some 32,.nilCheck (.tmp 31),none⟩,0,2⟩,⟨⟨some 33,.faddr 5 (.tmp 32),none⟩,0,2⟩,⟨⟨some 34,.load false 1 (.tmp 33),none⟩,0,2⟩,⟨⟨some 35,.mv (.tmp 1),none⟩,0,0⟩,⟨⟨some 36,.mv (.tmp 12),none⟩,0,0⟩,⟨⟨some 37,.call 211 [(.tmp 35),(.tmp 36)],none⟩,0,1⟩,⟨⟨some 38,.mkSlice 1 1 [(.ptr none)] [(0,1,(.tmp 37))],none⟩,1,2⟩,⟨⟨some 39,.append 1 8 (.tmp 34) (.tmp 38),none⟩,2,3⟩,⟨⟨some 40,.nilCheck (.tmp 30),none⟩,3,3⟩,⟨⟨some 41,.faddr 5 (.tmp 40),none⟩,3,3⟩,⟨⟨none,.store 1 (.tmp 41) (.tmp 39),none⟩,3,4⟩])))
 (.region [⟨some 42,.bin .add (.tmp 26) (.const (.int .i64 1)),none⟩,⟨some 26,.mv (.tmp 42),none⟩])))))))
 (.seq (.region [⟨some 43,.mv (.tmp 10),none⟩,⟨some 8,.mv (.tmp 43),none⟩,⟨some 9,.mv (.const (.int .i64 0)),none⟩])
 .ret)))))⟩
theorem k163 : compFn Tryz.prog Tryz.f163 = some c163 := by kernel_rfl
def c164 : AFunc := ⟨[],(.seq (.seq (.region [⟨some 9,.mv (.tmp 3),none⟩,⟨some 10,.bin .lss (.tmp 9) (.const (.int .u64 4096)),none⟩])
 (.cond (.tmp 10) (.seq (.draw [⟨⟨some 11,.mv (.tmp 0),none⟩,0,1⟩,⟨⟨some 12,.nilCheck (.tmp 11),none⟩,0,1⟩,⟨⟨some 13,.faddr 4 (.tmp 12),none⟩,0,1⟩,⟨⟨some 14,.load false 1 (.tmp 13),none⟩,0,1⟩,⟨⟨some 15,.mv (.tmp 1),none⟩,0,1⟩,⟨⟨some 16,.mv (.tmp 3),none⟩,0,0⟩,⟨⟨some 17,.call 212 [(.tmp 16)],none⟩,0,1⟩,⟨⟨some 18,.iaddrS 8 (.tmp 14) (.tmp 15),none⟩,0,1⟩,⟨⟨some 19,.iaddrA 8 1 (.tmp 18) (.tmp 17),none⟩,1,1⟩,⟨⟨some 8,.mv (.tmp 19),none⟩,1,1⟩])
 (.seq (.draw [⟨⟨some 20,.mv (.tmp 8),none⟩,0,0⟩,⟨⟨some 21,.nilCheck (.tmp 20),none⟩,0,0⟩,⟨⟨some 22,.load false 1 (.tmp 21),none⟩,0,0⟩,⟨⟨some 23,.lenS (.tmp 22),none⟩,0,0⟩,⟨⟨some 24,.mv (.tmp 0),none⟩,0,0⟩,⟨⟨some 25,.nilCheck (.tmp 24),none⟩,0,0⟩,⟨⟨some 26,.faddr 3 (.tmp 25),none⟩,0,0⟩,⟨⟨some 27,.load false 1 (.tmp 26),none⟩,0,0⟩,⟨⟨some 28,.bin .lss (.tmp 23) (.tmp 27),none⟩,0,0⟩])
 (.cond (.tmp 28) (.seq (.region [⟨some 29,.mv (.tmp 8),none⟩,⟨some 30,.mv (.tmp 8),none⟩,⟨some 31,.nilCheck (.tmp 30),none⟩,⟨some 32,.load false 1 (.tmp 31),none⟩,⟨some 33,.mv (.tmp 2),none⟩,⟨some 34,.mkSlice 1 1 [(.int .u64 0)] [(0,1,(.tmp 33))],none⟩,⟨some 35,.append 1 8 (.tmp 32) (.tmp 34),none⟩,⟨some 36,.nilCheck (.tmp 29),none⟩,⟨none,.store 1 (.tmp 36) (.tmp 35),none⟩])
 (.seq (.region [⟨some 37,.mv (.tmp 0),none⟩,⟨some 38,.nilCheck (.tmp 37),none⟩,⟨some 39,.faddr 5 (.tmp 38),none⟩,⟨some 40,.load false 1 (.tmp 39),none⟩,⟨some 41,.mv (.tmp 2),none⟩,⟨some 42,.mv (.tmp 1),none⟩,⟨none,.mapUpdate .int (.tmp 40) (.tmp 41) (.tmp 42),none⟩])
 .ret)) .skip))) .skip))
 (.region [⟨some 43,.mv (.tmp 0),none⟩,⟨some 44,.nilCheck (.tmp 43),none⟩,⟨some 45,.faddr 2 (.tmp 44),none⟩,⟨some 46,.load false 1 (.tmp 45),none⟩,⟨some 47,.mv (.tmp 2),none⟩,⟨some 48,.call 72 [(.tmp 46),(.tmp 47)],none⟩]))⟩
theorem k164 : compFn Tryz.prog Tryz.f164 = some c164 := by kernel_rfl
def c173 : AFunc := ⟨[.tmp 4],(.seq (.region [⟨some 4,.mv (.const (.int .i64 0)),none⟩])
 (.seq (.region [⟨some 13,.mv (.tmp 0),none⟩,⟨some 14,.mv (.tmp 1),none⟩,⟨some 15,.call 220 [(.tmp 13),(.tmp 14)],none⟩,⟨some 12,.mv (.tmp 15),none⟩,⟨some 16,.extract (.tmp 12) 0,none⟩,⟨some 17,.extract (.tmp 12) 1,none⟩,⟨some 18,.extract (.tmp 12) 2,none⟩,⟨some 19,.extract (.tmp 12) 3,none⟩,⟨some 7,.alloc [(.int .i64 0),(.int .i64 0),(.int .i64 0),(.int .i64 0),(.int .i64 0),(.int .i64 0),(.int .i64 0),(.int .u64 0),(.int .u64 0),(.int .u64 0),(.int .u64 0)],none⟩,⟨some 5,.mv (.tmp 16),none⟩,⟨some 6,.mv (.tmp 17),none⟩,⟨none,.store 11 (.tmp 7) (.tmp 18),none⟩,⟨some 8,.mv (.tmp 19),none⟩])
 (.seq (.seq (.region [⟨some 20,.mv (.tmp 8),none⟩,⟨some 21,.not (.tmp 20),none⟩])
 (.cond (.tmp 21) (.seq (.region [⟨some 4,.mv (.const (.int .i64 1)),none⟩])
 .ret) .skip))
 (.seq (.region [⟨some 22,.mv (.tmp 0),none⟩,⟨some 23,.nilCheck (.tmp 22),none⟩,⟨some 24,.faddr 0 (.tmp 23),none⟩,⟨some 25,.load false 1 (.tmp 24),none⟩,⟨some 26,.nilCheck (.tmp 25),none⟩,⟨some 27,.faddr 0 (.tmp 26),none⟩,⟨some 28,.call 78 [(.tmp 27)],none⟩,⟨some 9,.mv (.tmp 28),none⟩])
 (.seq (.region [⟨some 29,.mv (.tmp 9),none⟩,⟨some 30,.mv (.tmp 5),none⟩,⟨some 31,.mv (.tmp 6),none⟩,⟨some 32,.call 221 [(.tmp 29),(.tmp 30),(.tmp 31),(.const (.bool false))],none⟩])
 (.seq (.region [⟨some 33,.mv (.tmp 0),none⟩,⟨some 34,.call 222 [(.tmp 33)],none⟩,⟨some 35,.mv (.tmp 5),none⟩,⟨some 36,.conv .u64 (.tmp 35),none⟩,⟨some 37,.bin .mul (.const (.int .u64 4096)) (.tmp 36),none⟩,⟨some 38,.bin .add (.tmp 34) (.tmp 37),none⟩,⟨some 10,.mv (.tmp 38),none⟩])
 (.seq (.block 0 (.seq (.block 3 (.seq (.block 2 (.seq (.block 1 (.seq (.seq (.seq (.region [⟨some 40,.faddr 3 (.tmp 7),none⟩,⟨some 41,.load false 1 (.tmp 40),none⟩,⟨some 42,.bin .eql (.tmp 41) (.const (.int .i64 1)),none⟩,⟨some 39,.mv (.tmp 42),none⟩])
 (.cond (.tmp 39) (.exit 1) .skip))
 (.seq (.region [⟨some 44,.faddr 6 (.tmp 7),none⟩,⟨some 45,.load false 1 (.tmp 44),none⟩,⟨some 46,.bin .lss (.tmp 45) (.const (.int .i64 0)),none⟩,⟨some 43,.mv (.tmp 46),none⟩])
 (.cond (.tmp 43) (.exit 2) .skip)))
 (.exit 3)))
 (.seq (.seq (.region [⟨some 47,.mv (.tmp 0),none⟩,⟨some 48,.mv (.tmp 5),none⟩,⟨some 49,.faddr 2 (.tmp 7),none⟩,⟨some 50,.load false 1 (.tmp 49),none⟩,⟨some 51,.call 223 [(.tmp 47),(.tmp 48),(.tmp 50)],none⟩])
 (.seq (.region [⟨some 52,.mv (.tmp 9),none⟩,⟨some 53,.mv (.tmp 5),none⟩,⟨some 54,.call 224 [(.tmp 52),(.tmp 53),(.const (.int .i64 0)),(.const (.int .i64 2))],none⟩])
 (.seq (.region [⟨some 55,.mv (.tmp 0),none⟩,⟨some 56,.nilCheck (.tmp 55),none⟩,⟨some 57,.faddr 0 (.tmp 56),none⟩,⟨some 58,.load false 1 (.tmp 57),none⟩,⟨some 59,.mv (.tmp 10),none⟩,⟨some 60,.call 174 [(.tmp 58),(.tmp 59),(.const (.int .i64 0))],none⟩,⟨some 4,.mv (.tmp 60),none⟩])
 .ret)))
 (.exit 0))))
 (.region [⟨some 61,.mv (.tmp 0),none⟩,⟨some 62,.mv (.tmp 5),none⟩,⟨some 63,.faddr 2 (.tmp 7),none⟩,⟨some 64,.load false 1 (.tmp 63),none⟩,⟨some 65,.call 225 [(.tmp 61),(.tmp 62),(.tmp 64)],none⟩])))
 (.seq (.seq (.region [⟨some 11,.mv (.const (.int .u64 0)),none⟩])
 (.seq (.seq (.region [⟨some 66,.faddr 6 (.tmp 7),none⟩,⟨some 67,.load false 1 (.tmp 66),none⟩,⟨some 68,.bin .geq (.tmp 67) (.const (.int .i64 0)),none⟩])
 (.cond (.tmp 68) (.draw [⟨⟨some 69,.mv (.tmp 10),none⟩,0,0⟩,⟨⟨some 70,.faddr 6 (.tmp 7),none⟩,0,0⟩,⟨⟨some 71,.load false 1 (.tmp 70),none⟩,0,0⟩,⟨⟨some 72,.conv .u64 (.tmp 71),none⟩,0,0⟩,⟨⟨some 73,.faddr 2 (.tmp 7),none⟩,0,0⟩,⟨⟨some 74,.load false 1 (.tmp 73),none⟩,0,0⟩,⟨⟨some 75,.iaddrA 8 1 (.glob 0) (.tmp 74),none⟩,0,0⟩,⟨⟨some 76,.load false 1 (.tmp 75),none⟩,0,0⟩,⟨⟨some 77,.bin .mul (.tmp 72) (.tmp 76),none⟩,0,0⟩,⟨⟨some 78,.bin .add (.tmp 69) (.tmp 77),none⟩,0,0⟩,⟨⟨some 11,.mv (.tmp 78),none⟩,0,0⟩]) .skip))
 (.seq (.region [⟨some 79,.mv (.tmp 0),none⟩,⟨some 80,.nilCheck (.tmp 79),none⟩,⟨some 81,.faddr 0 (.tmp 80),none⟩,⟨some 82,.load false 1 (.tmp 81),none⟩,⟨some 83,.nilCheck (.tmp 82),none⟩,⟨some 84,.faddr 0 (.tmp 83),none⟩,⟨some 85,.call 75 [(.tmp 84)],none⟩,⟨some 86,.mv (.tmp 1),none⟩,⟨some 87,.mv (.tmp 11),none⟩,⟨some 88,.call 226 [(.tmp 85),(.tmp 86),(.tmp 87)],none⟩])
 (.region [⟨some 89,.mv (.tmp 9),none⟩,⟨some 90,.mv (.tmp 5),none⟩,⟨some 91,.mv (.tmp 6),none⟩,⟨some 92,.call 227 [(.tmp 89),(.tmp 90),(.tmp 91)],none⟩]))))
 (.exit 0))))
 (.seq (.region [⟨some 4,.mv (.const (.int .i64 0)),none⟩])
 .ret))))))))⟩
theorem k173 : compFn Tryz.prog Tryz.f173 = some c173 := by kernel_rfl
def c174 : AFunc := ⟨[.tmp 6],(.seq (.region [⟨some 6,.mv (.const (.int .i64 0)),none⟩])
 (.seq (.region [⟨some 7,.mv (.tmp 0),none⟩,⟨some 8,.nilCheck (.tmp 7),none⟩,⟨some 9,.faddr 0 (.tmp 8),none⟩,⟨some 10,.faddr 2 (.tmp 9),none⟩,⟨some 11,.load false 1 (.tmp 10),none⟩,⟨some 12,.mv (.tmp 1),none⟩,⟨some 13,.mv (.tmp 2),none⟩,⟨some 14,.call 228 [(.tmp 11),(.tmp 12),(.tmp 13)],none⟩,⟨some 6,.mv (.tmp 14),none⟩])
 .ret))⟩
theorem k174 : compFn Tryz.prog Tryz.f174 = some c174 := by kernel_rfl
def c180 : AFunc := ⟨[],(.block 0 (.loop (.seq (.seq (.region [⟨some 8,.mv (.tmp 2),none⟩,⟨some 9,.lenS (.tmp 8),none⟩,⟨some 10,.bin .gtr (.tmp 9) (.const (.int .i64 0)),none⟩])
 (.cond (.tmp 10) .skip (.exit 0)))
 (.block 1 (.seq (.region [⟨some 11,.mv (.tmp 1),none⟩,⟨some 12,.mv (.tmp 0),none⟩,⟨some 13,.nilCheck (.tmp 12),none⟩,⟨some 14,.faddr 0 (.tmp 13),none⟩,⟨some 15,.faddr 0 (.tmp 14),none⟩,⟨some 16,.load false 1 (.tmp 15),none⟩,⟨some 17,.bin .sub (.tmp 11) (.tmp 16),none⟩,⟨some 6,.mv (.tmp 17),none⟩])
 (.seq (.draw [⟨⟨some 18,.mv (.tmp 0),none⟩,0,0⟩,⟨⟨some 19,.nilCheck (.tmp 18),none⟩,0,0⟩,⟨⟨some 20,.faddr 4 (.tmp 19),none⟩,0,0⟩,⟨⟨some 21,.load false 1 (.tmp 20),none⟩,0,0⟩,⟨⟨some 22,.mv (.tmp 6),none⟩,0,0⟩,⟨⟨some 23,.mv (.tmp 0),none⟩,0,0⟩,⟨⟨some 24,.nilCheck (.tmp 23),none⟩,0,0⟩,⟨⟨some 25,.faddr 3 (.tmp 24),none⟩,0,0⟩,⟨⟨some 26,.load false 1 (.tmp 25),none⟩,0,0⟩,⟨⟨some 27,.bin .quo (.tmp 22) (.tmp 26),none⟩,0,0⟩,⟨⟨some 28,.iaddrS 1 (.tmp 21) (.tmp 27),none⟩,0,0⟩,⟨⟨some 29,.load false 1 (.tmp 28),none⟩,0,0⟩,⟨⟨some 30,.mv (.tmp 6),none⟩,0,0⟩,⟨⟨some 31,.mv (.tmp 0),none⟩,0,0⟩,⟨⟨some 32,.nilCheck (.tmp 31),none⟩,0,0⟩,⟨⟨some 33,.faddr 3 (.tmp 32),none⟩,0,0⟩,⟨⟨some 34,.load false 1 (.tmp 33),none⟩,0,0⟩,⟨⟨some 35,.bin .rem (.tmp 30) (.tmp 34),none⟩,0,0⟩,⟨⟨some 36,.sliceOf 1 (.tmp 29) (some (.tmp 35)) none,none⟩,0,0⟩,⟨⟨some 37,.mv (.tmp 2),none⟩,0,0⟩,⟨⟨some 38,.copy 1 (.tmp 36) (.tmp 37),none⟩,0,1⟩,⟨⟨some 7,.mv (.tmp 38),none⟩,1,1⟩])
 (.seq (.region [⟨some 39,.mv (.tmp 2),none⟩,⟨some 40,.mv (.tmp 7),none⟩,⟨some 41,.sliceOf 1 (.tmp 39) (some (.tmp 40)) none,none⟩,⟨some 2,.mv (.tmp 41),none⟩])
 (.region [⟨some 42,.mv (.tmp 1),none⟩,⟨some 43,.mv (.tmp 7),none⟩,⟨some 44,.conv .u64 (.tmp 43),none⟩,⟨some 45,.bin .add (.tmp 42) (.tmp 44),none⟩,⟨some 1,.mv (.tmp 45),none⟩]))))))))⟩
theorem k180 : compFn Tryz.prog Tryz.f180 = some c180 := by kernel_rfl
def c181 : AFunc := ⟨[.tmp 4],(.seq (.region [⟨some 4,.mv (.const (.int .i64 0)),none⟩])
 (.seq (.region [⟨some 8,.mv (.tmp 0),none⟩,⟨some 9,.mv (.tmp 1),none⟩,⟨some 10,.call 80 [(.tmp 8),(.tmp 9)],none⟩,⟨some 7,.mv (.tmp 10),none⟩,⟨some 11,.extract (.tmp 7) 0,none⟩,⟨some 12,.extract (.tmp 7) 1,none⟩,⟨some 5,.alloc [(.int .i64 0),(.int .i64 0),(.int .i64 0),(.int .i64 0),(.int .i64 0),(.int .i64 0),(.int .i64 0),(.int .u64 0),(.int .u64 0),(.int .u64 0),(.int .u64 0)],none⟩,⟨none,.store 11 (.tmp 5) (.tmp 11),none⟩,⟨some 6,.mv (.tmp 12),none⟩])
 (.seq (.seq (.region [⟨some 13,.mv (.tmp 6),none⟩,⟨some 14,.not (.tmp 13),none⟩])
 (.cond (.tmp 14) (.seq (.region [⟨some 4,.mv (.const (.int .i64 (-1))),none⟩])
 .ret) .skip))
 (.seq (.draw [⟨⟨some 15,.mv (.tmp 1),none⟩,0,0⟩,⟨⟨some 16,.faddr 1 (.tmp 5),none⟩,0,0⟩,⟨⟨some 17,.load false 1 (.tmp 16),none⟩,0,0⟩,⟨⟨some 18,.bin .shr (.tmp 15) (.tmp 17),none⟩,0,0⟩,⟨⟨some 19,.faddr 1 (.tmp 5),none⟩,0,0⟩,⟨⟨some 20,.load false 1 (.tmp 19),none⟩,0,0⟩,⟨⟨some 21,.bin .shl (.tmp 18) (.tmp 20),none⟩,0,0⟩,⟨⟨some 4,.mv (.tmp 21),none⟩,0,0⟩])
 .ret))))⟩
theorem k181 : compFn Tryz.prog Tryz.f181 = some c181 := by kernel_rfl
def c193 : AFunc := ⟨[.tmp 2],(.seq (.region [⟨some 2,.mv (.const (.bool false)),none⟩])
 (.seq (.region [⟨some 3,.mv (.tmp 0),none⟩,⟨some 4,.bin .neq (.tmp 3) (.const (.int .u64 0)),none⟩,⟨some 5,.mv (.tmp 4),none⟩,⟨some 6,.mv (.tmp 0),some (5,true)⟩,⟨some 7,.mv (.tmp 0),some (5,true)⟩,⟨some 8,.bin .sub (.tmp 7) (.const (.int .u64 1)),some (5,true)⟩,⟨some 9,.bin .and (.tmp 6) (.tmp 8),some (5,true)⟩,⟨some 10,.bin .eql (.tmp 9) (.const (.int .u64 0)),some (5,true)⟩,⟨some 11,.pick (.tmp 5) (.tmp 10) (.const (.bool false)),none⟩,⟨some 2,.mv (.tmp 11),none⟩])
 .ret))⟩
theorem k193 : compFn Tryz.prog Tryz.f193 = some c193 := by kernel_rfl
def c194 : AFunc := ⟨[.tmp 6,.tmp 7],(.seq (.region [⟨some 6,.mv (.const (.int .u64 0)),none⟩,⟨some 7,.mv (.const (.int .i64 0)),none⟩])
 (.seq (.region [⟨some 11,.mv (.tmp 1),none⟩,⟨some 12,.mv (.tmp 2),none⟩,⟨some 13,.maxmin true [(.tmp 11),(.tmp 12),(.const (.int .u64 16))],none⟩,⟨some 14,.call 198 [(.tmp 13)],none⟩,⟨some 10,.mv (.tmp 14),none⟩,⟨some 15,.extract (.tmp 10) 0,none⟩,⟨some 16,.extract (.tmp 10) 1,none⟩,⟨some 8,.mv (.tmp 15),none⟩,⟨some 9,.mv (.tmp 16),none⟩])
 (.seq (.seq (.region [⟨some 17,.mv (.tmp 9),none⟩,⟨some 18,.not (.tmp 17),none⟩,⟨some 19,.mv (.tmp 18),none⟩,⟨some 20,.mv (.tmp 8),some (19,false)⟩,⟨some 21,.mv (.tmp 0),some (19,false)⟩,⟨some 22,.nilCheck (.tmp 21),some (19,false)⟩,⟨some 23,.faddr 2 (.tmp 22),some (19,false)⟩,⟨some 24,.load false 1 (.tmp 23),some (19,false)⟩,⟨some 25,.call 120 [(.tmp 24)],some (19,false)⟩,⟨some 26,.part false 2 1 (.tmp 25),some (19,false)⟩,⟨some 27,.bin .shl (.const (.int .u64 4096)) (.tmp 26),some (19,false)⟩,⟨some 28,.bin .gtr (.tmp 20) (.tmp 27),some (19,false)⟩,⟨some 29,.pick (.tmp 19) (.const (.bool true)) (.tmp 28),none⟩])
 (.cond (.tmp 29) (.seq (.region [⟨some 6,.mv (.const (.int .u64 0)),none⟩,⟨some 7,.mv (.const (.int .i64 3)),none⟩])
 .ret) .skip))
 (.seq (.region [⟨some 30,.mv (.tmp 8),none⟩,⟨some 6,.mv (.tmp 30),none⟩,⟨some 7,.mv (.const (.int .i64 0)),none⟩])
 .ret))))⟩
theorem k194 : compFn Tryz.prog Tryz.f194 = some c194 := by kernel_rfl
def c195 : AFunc := ⟨[.tmp 8,.tmp 9],(.seq (.region [⟨some 8,.mv (.const (.int .u64 0)),none⟩,⟨some 9,.mv (.const (.int .i64 0)),none⟩])
 (.seq (.seq (.region [⟨some 15,.mv (.tmp 2),none⟩,⟨some 16,.bin .lss (.tmp 15) (.const (.int .u64 4096)),none⟩])
 (.cond (.tmp 16) (.seq (.draw [⟨⟨some 17,.mv (.tmp 0),none⟩,0,1⟩,⟨⟨some 18,.nilCheck (.tmp 17),none⟩,0,1⟩,⟨⟨some 19,.faddr 4 (.tmp 18),none⟩,0,1⟩,⟨⟨some 20,.load false 1 (.tmp 19),none⟩,0,1⟩,⟨⟨some 21,.mv (.tmp 1),none⟩,0,1⟩,⟨⟨some 22,.mv (.tmp 2),none⟩,0,0⟩,⟨⟨some 23,.call 212 [(.tmp 22)],none⟩,0,1⟩,⟨⟨some 24,.iaddrS 8 (.tmp 20) (.tmp 21),none⟩,0,1⟩,⟨⟨some 25,.iaddrA 8 1 (.tmp 24) (.tmp 23),none⟩,1,1⟩,⟨⟨some 10,.mv (.tmp 25),none⟩,1,1⟩])
 (.seq (.region [⟨some 26,.mv (.tmp 10),none⟩,⟨some 27,.nilCheck (.tmp 26),none⟩,⟨some 28,.load false 1 (.tmp 27),none⟩,⟨some 29,.lenS (.tmp 28),none⟩,⟨some 11,.mv (.tmp 29),none⟩])
 (.seq (.region [⟨some 30,.mv (.tmp 11),none⟩,⟨some 31,.bin .gtr (.tmp 30) (.const (.int .i64 0)),none⟩])
 (.cond (.tmp 31) (.seq (.region [⟨some 32,.mv (.tmp 10),none⟩,⟨some 33,.nilCheck (.tmp 32),none⟩,⟨some 34,.load false 1 (.tmp 33),none⟩,⟨some 35,.mv (.tmp 11),none⟩,⟨some 36,.bin .sub (.tmp 35) (.const (.int .i64 1)),none⟩,⟨some 37,.iaddrS 1 (.tmp 34) (.tmp 36),none⟩,⟨some 38,.load false 1 (.tmp 37),none⟩,⟨some 12,.mv (.tmp 38),none⟩])
 (.seq (.region [⟨some 39,.mv (.tmp 10),none⟩,⟨some 40,.mv (.tmp 10),none⟩,⟨some 41,.nilCheck (.tmp 40),none⟩,⟨some 42,.load false 1 (.tmp 41),none⟩,⟨some 43,.mv (.tmp 11),none⟩,⟨some 44,.bin .sub (.tmp 43) (.const (.int .i64 1)),none⟩,⟨some 45,.sliceOf 1 (.tmp 42) none (some (.tmp 44)),none⟩,⟨some 46,.nilCheck (.tmp 39),none⟩,⟨none,.store 1 (.tmp 46) (.tmp 45),none⟩])
 (.seq (.region [⟨some 47,.mv (.tmp 0),none⟩,⟨some 48,.nilCheck (.tmp 47),none⟩,⟨some 49,.faddr 5 (.tmp 48),none⟩,⟨some 50,.load false 1 (.tmp 49),none⟩,⟨some 51,.mv (.tmp 12),none⟩,⟨none,.delete .int (.tmp 50) (.tmp 51),none⟩])
 (.seq (.region [⟨some 52,.mv (.tmp 12),none⟩,⟨some 8,.mv (.tmp 52),none⟩,⟨some 9,.mv (.const (.int .i64 0)),none⟩])
 .ret)))) .skip)))) .skip))
 (.seq (.region [⟨some 54,.mv (.tmp 0),none⟩,⟨some 55,.nilCheck (.tmp 54),none⟩,⟨some 56,.faddr 2 (.tmp 55),none⟩,⟨some 57,.load false 1 (.tmp 56),none⟩,⟨some 58,.mv (.tmp 2),none⟩,⟨some 59,.mv (.tmp 2),none⟩,⟨some 60,.call 61 [(.tmp 57),(.tmp 58),(.tmp 59),(.const (.bool true))],none⟩,⟨some 53,.mv (.tmp 60),none⟩,⟨some 61,.extract (.tmp 53) 0,none⟩,⟨some 62,.extract (.tmp 53) 1,none⟩,⟨some 13,.mv (.tmp 61),none⟩,⟨some 14,.mv (.tmp 62),none⟩])
 (.seq (.seq (.region [⟨some 63,.mv (.tmp 14),none⟩,⟨some 64,.bin .eql (.tmp 63) (.const (.int .i64 2)),none⟩])
 (.cond (.tmp 64) (.seq (.region [⟨some 65,.mv (.tmp 0),none⟩,⟨some 66,.call 111 [(.tmp 65)],none⟩])
 (.region [⟨some 68,.mv (.tmp 0),none⟩,⟨some 69,.nilCheck (.tmp 68),none⟩,⟨some 70,.faddr 2 (.tmp 69),none⟩,⟨some 71,.load false 1 (.tmp 70),none⟩,⟨some 72,.mv (.tmp 2),none⟩,⟨some 73,.mv (.tmp 2),none⟩,⟨some 74,.mv (.tmp 3),none⟩,⟨some 75,.call 61 [(.tmp 71),(.tmp 72),(.tmp 73),(.tmp 74)],none⟩,⟨some 67,.mv (.tmp 75),none⟩,⟨some 76,.extract (.tmp 67) 0,none⟩,⟨some 77,.extract (.tmp 67) 1,none⟩,⟨some 13,.mv (.tmp 76),none⟩,⟨some 14,.mv (.tmp 77),none⟩])) .skip))
 (.seq (.region [⟨some 78,.mv (.tmp 13),none⟩,⟨some 79,.mv (.tmp 14),none⟩,⟨some 8,.mv (.tmp 78),none⟩,⟨some 9,.mv (.tmp 79),none⟩])
 .ret)))))⟩
theorem k195 : compFn Tryz.prog Tryz.f195 = some c195 := by kernel_rfl
def c198 : AFunc := ⟨[.tmp 2,.tmp 3],(.seq (.region [⟨some 2,.mv (.const (.int .u64 0)),none⟩,⟨some 3,.mv (.const (.bool false)),none⟩])
 (.seq (.seq (.region [⟨some 5,.mv (.tmp 0),none⟩,⟨some 6,.bin .leq (.tmp 5) (.const (.int .u64 1)),none⟩])
 (.cond (.tmp 6) (.seq (.region [⟨some 2,.mv (.const (.int .u64 1)),none⟩,⟨some 3,.mv (.const (.bool true)),none⟩])
 .ret) .skip))
 (.seq (.region [⟨some 7,.conv .u64 (.const (.int .i64 1)),none⟩,⟨some 8,.mv (.tmp 0),none⟩,⟨some 9,.bin .sub (.tmp 8) (.const (.int .u64 1)),none⟩,⟨some 10,.call 202 [(.tmp 9)],none⟩,⟨some 11,.bin .add (.tmp 10) (.const (.int .i64 1)),none⟩,⟨some 12,.bin .shl (.tmp 7) (.tmp 11),none⟩,⟨some 4,.mv (.tmp 12),none⟩])
 (.seq (.region [⟨some 13,.mv (.tmp 4),none⟩,⟨some 14,.mv (.tmp 4),none⟩,⟨some 15,.bin .neq (.tmp 14) (.const (.int .u64 0)),none⟩,⟨some 2,.mv (.tmp 13),none⟩,⟨some 3,.mv (.tmp 15),none⟩])
 .ret))))⟩
theorem k198 : compFn Tryz.prog Tryz.f198 = some c198 := by kernel_rfl
def c199 : AFunc := ⟨[.tmp 2],(.seq (.region [⟨some 2,.mv (.const (.int .u64 0)),none⟩])
 (.seq (.region [⟨some 3,.mv (.tmp 0),none⟩,⟨some 4,.nilCheck (.tmp 3),none⟩,⟨some 5,.faddr 2 (.tmp 4),none⟩,⟨some 6,.faddr 2 (.tmp 5),none⟩,⟨some 7,.load false 1 (.tmp 6),none⟩,⟨some 8,.bin .shl (.const (.int .u64 4096)) (.tmp 7),none⟩,⟨some 2,.mv (.tmp 8),none⟩])
 .ret))⟩
theorem k199 : compFn Tryz.prog Tryz.f199 = some c199 := by kernel_rfl
def c200 : AFunc := ⟨[.tmp 6,.tmp 7],(.seq (.region [⟨some 6,.mv (.const (.int .i64 0)),none⟩,⟨some 7,.mv (.const (.bool false)),none⟩])
 (.seq (.region [⟨some 13,.mv (.tmp 0),none⟩,⟨some 14,.mv (.tmp 1),none⟩,⟨some 15,.call 242 [(.tmp 13),(.tmp 14)],none⟩,⟨some 12,.mv (.tmp 15),none⟩,⟨some 16,.extract (.tmp 12) 0,none⟩,⟨some 17,.extract (.tmp 12) 1,none⟩,⟨some 8,.mv (.tmp 16),none⟩,⟨some 9,.mv (.tmp 17),none⟩])
 (.seq (.seq (.region [⟨some 18,.mv (.tmp 9),none⟩,⟨some 19,.not (.tmp 18),none⟩])
 (.cond (.tmp 19) (.seq (.region [⟨some 6,.mv (.const (.int .i64 0)),none⟩,⟨some 7,.mv (.const (.bool false)),none⟩])
 .ret) .skip))
 (.seq (.region [⟨some 21,.mv (.tmp 0),none⟩,⟨some 22,.nilCheck (.tmp 21),none⟩,⟨some 23,.faddr 4 (.tmp 22),none⟩,⟨some 24,.load false 1 (.tmp 23),none⟩,⟨some 25,.mv (.tmp 8),none⟩,⟨some 26,.call 80 [(.tmp 24),(.tmp 25)],none⟩,⟨some 20,.mv (.tmp 26),none⟩,⟨some 27,.extract (.tmp 20) 0,none⟩,⟨some 28,.extract (.tmp 20) 1,none⟩,⟨some 10,.alloc [(.int .i64 0),(.int .i64 0),(.int .i64 0),(.int .i64 0),(.int .i64 0),(.int .i64 0),(.int .i64 0),(.int .u64 0),(.int .u64 0),(.int .u64 0),(.int .u64 0)],none⟩,⟨none,.store 11 (.tmp 10) (.tmp 27),none⟩,⟨some 11,.mv (.tmp 28),none⟩])
 (.seq (.draw [⟨⟨some 29,.mv (.tmp 8),none⟩,0,0⟩,⟨⟨some 30,.faddr 0 (.tmp 10),none⟩,0,0⟩,⟨⟨some 31,.load false 1 (.tmp 30),none⟩,0,0⟩,⟨⟨some 32,.bin .eql (.tmp 31) (.const (.int .i64 2)),none⟩,0,0⟩,⟨⟨some 33,.mv (.tmp 32),none⟩,0,0⟩,⟨⟨some 34,.faddr 1 (.tmp 10),some (33,true)⟩,0,0⟩,⟨⟨some 35,.load false 1 (.tmp 34),some (33,true)⟩,0,0⟩,⟨⟨some 36,.mv (.tmp 2),some (33,true)⟩,0,0⟩,⟨⟨some 37,.bin .eql (.tmp 35) (.tmp 36),some (33,true)⟩,0,0⟩,⟨⟨some 38,.pick (.tmp 33) (.tmp 37) (.const (.bool false)),none⟩,0,0⟩,⟨⟨some 6,.mv (.tmp 29),none⟩,0,0⟩,⟨⟨some 7,.mv (.tmp 38),none⟩,0,0⟩])
 .ret)))))⟩
theorem k200 : compFn Tryz.prog Tryz.f200 = some c200 := by kernel_rfl
def c201 : AFunc := ⟨[],(.seq (.seq (.region [⟨some 9,.mv (.tmp 2),none⟩,⟨some 10,.bin .sub (.tmp 9) (.const (.int .i64 1)),none⟩,⟨some 8,.mv (.tmp 10),none⟩])
 (.block 0 (.loop (.seq (.seq (.region [⟨some 11,.mv (.tmp 8),none⟩,⟨some 12,.mv (.tmp 3),none⟩,⟨some 13,.bin .geq (.tmp 11) (.tmp 12),none⟩])
 (.cond (.tmp 13) .skip (.exit 0)))
 (.seq (.block 1 (.seq (.region [⟨some 16,.mv (.tmp 0),none⟩,⟨some 17,.mv (.tmp 1),none⟩,⟨some 18,.mv (.tmp 8),none⟩,⟨some 19,.bin .shl (.const (.int .i64 1)) (.tmp 18),none⟩,⟨some 20,.bin .add (.tmp 17) (.tmp 19),none⟩,⟨some 21,.mv (.tmp 8),none⟩,⟨some 22,.call 243 [(.tmp 16),(.tmp 20),(.tmp 21)],none⟩])
 (.region [⟨some 23,.mv (.tmp 0),none⟩,⟨some 24,.mv (.tmp 1),none⟩,⟨some 25,.mv (.tmp 8),none⟩,⟨some 26,.bin .shl (.const (.int .i64 1)) (.tmp 25),none⟩,⟨some 27,.bin .add (.tmp 24) (.tmp 26),none⟩,⟨some 28,.mv (.tmp 8),none⟩,⟨some 29,.call 244 [(.tmp 23),(.tmp 27),(.tmp 28)],none⟩])))
 (.region [⟨some 14,.mv (.tmp 8),none⟩,⟨some 15,.bin .sub (.tmp 14) (.const (.int .i64 1)),none⟩,⟨some 8,.mv (.tmp 15),none⟩]))))))
 (.region [⟨some 30,.mv (.tmp 0),none⟩,⟨some 31,.nilCheck (.tmp 30),none⟩,⟨some 32,.faddr 4 (.tmp 31),none⟩,⟨some 33,.load false 1 (.tmp 32),none⟩,⟨some 34,.mv (.tmp 1),none⟩,⟨some 35,.mv (.tmp 3),none⟩,⟨some 36,.call 224 [(.tmp 33),(.tmp 34),(.tmp 35),(.const (.int .i64 2))],none⟩]))⟩
theorem k201 : compFn Tryz.prog Tryz.f201 = some c201 := by kernel_rfl
def c202 : AFunc := ⟨[.tmp 2],(.seq (.region [⟨some 2,.mv (.const (.int .i64 0)),none⟩])
 (.seq (.region [⟨some 3,.mv (.tmp 0),none⟩,⟨some 4,.call 245 [(.tmp 3)],none⟩,⟨some 5,.bin .sub (.tmp 4) (.const (.int .i64 1)),none⟩,⟨some 2,.mv (.tmp 5),none⟩])
 .ret))⟩
theorem k202 : compFn Tryz.prog Tryz.f202 = some c202 := by kernel_rfl
def c203 : AFunc := ⟨[.tmp 6,.tmp 7,.tmp 8],(.seq (.region [⟨some 6,.mv (.const (.int .u64 0)),none⟩,⟨some 7,.mv (.const (.bool false)),none⟩,⟨some 8,.mv (.const (.int .i64 0)),none⟩])
 (.seq (.seq (.region [⟨some 20,.mv (.tmp 1),none⟩,⟨some 21,.bin .lss (.tmp 20) (.const (.int .i64 0)),none⟩,⟨some 22,.mv (.tmp 21),none⟩,⟨some 23,.mv (.tmp 1),some (22,false)⟩,⟨some 24,.bin .geq (.tmp 23) (.const (.int .i64 8)),some (22,false)⟩,⟨some 25,.pick (.tmp 22) (.const (.bool true)) (.tmp 24),none⟩])
 (.cond (.tmp 25) (.seq (.region [⟨some 6,.mv (.const (.int .u64 0)),none⟩,⟨some 7,.mv (.const (.bool false)),none⟩,⟨some 8,.mv (.const (.int .i64 1)),none⟩])
 .ret) .skip))
 (.seq (.region [⟨some 26,.mv (.tmp 0),none⟩,⟨some 27,.mv (.tmp 1),none⟩,⟨some 28,.nilCheck (.tmp 26),none⟩,⟨some 29,.faddr 1 (.tmp 28),none⟩,⟨some 30,.iaddrA 8 1 (.tmp 29) (.tmp 27),none⟩,⟨some 31,.load false 1 (.tmp 30),none⟩,⟨some 9,.mv (.tmp 31),none⟩])
 (.seq (.seq (.region [⟨some 32,.mv (.tmp 9),none⟩,⟨some 33,.bin .lss (.tmp 32) (.const (.int .i64 0)),none⟩])
 (.cond (.tmp 33) (.seq (.region [⟨some 35,.mv (.tmp 0),none⟩,⟨some 36,.nilCheck (.tmp 35),none⟩,⟨some 37,.faddr 0 (.tmp 36),none⟩,⟨some 38,.load false 1 (.tmp 37),none⟩,⟨some 39,.mv (.tmp 2),none⟩,⟨some 40,.call 205 [(.tmp 38),(.const (.int .i64 0)),(.tmp 39)],none⟩,⟨some 34,.mv (.tmp 40),none⟩,⟨some 41,.extract (.tmp 34) 0,none⟩,⟨some 42,.extract (.tmp 34) 1,none⟩,⟨some 43,.extract (.tmp 34) 2,none⟩,⟨some 10,.mv (.tmp 41),none⟩,⟨some 11,.mv (.tmp 42),none⟩,⟨some 12,.mv (.tmp 43),none⟩])
 (.seq (.seq (.region [⟨some 44,.mv (.tmp 12),none⟩,⟨some 45,.bin .neq (.tmp 44) (.const (.int .i64 0)),none⟩])
 (.cond (.tmp 45) (.seq (.region [⟨some 46,.mv (.tmp 12),none⟩,⟨some 6,.mv (.const (.int .u64 0)),none⟩,⟨some 7,.mv (.const (.bool false)),none⟩,⟨some 8,.mv (.tmp 46),none⟩])
 .ret) .skip))
 (.region [⟨some 47,.mv (.tmp 0),none⟩,⟨some 48,.mv (.tmp 10),none⟩,⟨some 49,.mv (.tmp 1),none⟩,⟨some 50,.call 246 [(.tmp 47),(.tmp 48),(.tmp 49)],none⟩,⟨some 51,.mv (.tmp 11),none⟩,⟨some 9,.mv (.tmp 50),none⟩,⟨some 7,.mv (.tmp 51),none⟩]))) .skip))
 (.seq (.region [⟨some 52,.mv (.tmp 0),none⟩,⟨some 53,.nilCheck (.tmp 52),none⟩,⟨some 54,.faddr 0 (.tmp 53),none⟩,⟨some 55,.load false 1 (.tmp 54),none⟩,⟨some 56,.nilCheck (.tmp 55),none⟩,⟨some 57,.faddr 0 (.tmp 56),none⟩,⟨some 58,.call 78 [(.tmp 57)],none⟩,⟨some 13,.mv (.tmp 58),none⟩])
 (.seq (.region [⟨some 60,.mv (.tmp 13),none⟩,⟨some 61,.mv (.tmp 9),none⟩,⟨some 62,.call 80 [(.tmp 60),(.tmp 61)],none⟩,⟨some 59,.mv (.tmp 62),none⟩,⟨some 63,.extract (.tmp 59) 0,none⟩,⟨some 64,.extract (.tmp 59) 1,none⟩,⟨some 14,.alloc [(.int .i64 0),(.int .i64 0),(.int .i64 0),(.int .i64 0),(.int .i64 0),(.int .i64 0),(.int .i64 0),(.int .u64 0),(.int .u64 0),(.int .u64 0),(.int .u64 0)],none⟩,⟨none,.store 11 (.tmp 14) (.tmp 63),none⟩,⟨some 15,.mv (.tmp 64),none⟩])
 (.seq (.region [⟨some 65,.mv (.tmp 0),none⟩,⟨some 66,.call 222 [(.tmp 65)],none⟩,⟨some 67,.mv (.tmp 9),none⟩,⟨some 68,.conv .u64 (.tmp 67),none⟩,⟨some 69,.bin .mul (.const (.int .u64 4096)) (.tmp 68),none⟩,⟨some 70,.bin .add (.tmp 66) (.tmp 69),none⟩,⟨some 16,.mv (.tmp 70),none⟩])
 (.seq (.draw [⟨⟨some 71,.mv (.tmp 16),none⟩,0,0⟩,⟨⟨some 72,.faddr 6 (.tmp 14),none⟩,0,0⟩,⟨⟨some 73,.load false 1 (.tmp 72),none⟩,0,0⟩,⟨⟨some 74,.conv .u64 (.tmp 73),none⟩,0,0⟩,⟨⟨some 75,.mv (.tmp 1),none⟩,0,0⟩,⟨⟨some 76,.iaddrA 8 1 (.glob 0) (.tmp 75),none⟩,0,0⟩,⟨⟨some 77,.load false 1 (.tmp 76),none⟩,0,0⟩,⟨⟨some 78,.bin .mul (.tmp 74) (.tmp 77),none⟩,0,0⟩,⟨⟨some 79,.bin .add (.tmp 71) (.tmp 78),none⟩,0,0⟩,⟨⟨some 6,.mv (.tmp 79),none⟩,0,0⟩])
 (.seq (.region [⟨some 81,.mv (.tmp 0),none⟩,⟨some 82,.nilCheck (.tmp 81),none⟩,⟨some 83,.faddr 0 (.tmp 82),none⟩,⟨some 84,.load false 1 (.tmp 83),none⟩,⟨some 85,.nilCheck (.tmp 84),none⟩,⟨some 86,.faddr 0 (.tmp 85),none⟩,⟨some 87,.call 75 [(.tmp 86)],none⟩,⟨some 88,.mv (.tmp 6),none⟩,⟨some 89,.call 247 [(.tmp 87),(.tmp 88)],none⟩,⟨some 80,.mv (.tmp 89),none⟩,⟨some 90,.extract (.tmp 80) 0,none⟩,⟨some 91,.extract (.tmp 80) 1,none⟩,⟨some 17,.mv (.tmp 90),none⟩,⟨some 18,.mv (.tmp 91),none⟩])
 (.seq (.region [⟨some 19,.mv (.const (.int .i64 (-1))),none⟩])
 (.seq (.seq (.region [⟨some 92,.mv (.tmp 17),none⟩,⟨some 93,.bin .neq (.tmp 92) (.const (.int .u64 0)),none⟩])
 (.cond (.tmp 93) (.region [⟨some 94,.mv (.tmp 17),none⟩,⟨some 95,.mv (.tmp 16),none⟩,⟨some 96,.bin .sub (.tmp 94) (.tmp 95),none⟩,⟨some 97,.mv (.tmp 1),none⟩,⟨some 98,.iaddrA 8 1 (.glob 0) (.tmp 97),none⟩,⟨some 99,.load false 1 (.tmp 98),none⟩,⟨some 100,.bin .quo (.tmp 96) (.tmp 99),none⟩,⟨some 101,.conv .i64 (.tmp 100),none⟩,⟨some 19,.mv (.tmp 101),none⟩]) .skip))
 (.seq (.region [⟨some 102,.mv (.tmp 13),none⟩,⟨some 103,.mv (.tmp 9),none⟩,⟨some 104,.faddr 6 (.tmp 14),none⟩,⟨some 105,.load false 1 (.tmp 104),none⟩,⟨some 106,.call 221 [(.tmp 102),(.tmp 103),(.tmp 105),(.const (.bool true))],none⟩])
 (.seq (.region [⟨some 107,.mv (.tmp 13),none⟩,⟨some 108,.mv (.tmp 9),none⟩,⟨some 109,.mv (.tmp 19),none⟩,⟨some 110,.call 227 [(.tmp 107),(.tmp 108),(.tmp 109)],none⟩])
 (.seq (.seq (.region [⟨some 111,.mv (.tmp 19),none⟩,⟨some 112,.bin .lss (.tmp 111) (.const (.int .i64 0)),none⟩])
 (.cond (.tmp 112) (.region [⟨some 113,.mv (.tmp 0),none⟩,⟨some 114,.mv (.tmp 9),none⟩,⟨some 115,.mv (.tmp 1),none⟩,⟨some 116,.call 223 [(.tmp 113),(.tmp 114),(.tmp 115)],none⟩]) .skip))
 (.seq (.region [⟨some 117,.mv (.tmp 6),none⟩,⟨some 118,.mv (.tmp 7),none⟩,⟨some 6,.mv (.tmp 117),none⟩,⟨some 7,.mv (.tmp 118),none⟩,⟨some 8,.mv (.const (.int .i64 0)),none⟩])
 .ret)))))))))))))))⟩
theorem k203 : compFn Tryz.prog Tryz.f203 = some c203 := by kernel_rfl
def c204 : AFunc := ⟨[.tmp 2],(.seq (.region [⟨some 2,.mv (.const (.int .i64 0)),none⟩])
 (.seq (.region [⟨some 3,.mv (.tmp 0),none⟩,⟨some 4,.bin .quo (.tmp 3) (.const (.int .u64 16)),none⟩,⟨some 5,.call 202 [(.tmp 4)],none⟩,⟨some 2,.mv (.tmp 5),none⟩])
 .ret))⟩
theorem k204 : compFn Tryz.prog Tryz.f204 = some c204 := by kernel_rfl
def c205 : AFunc := ⟨[.tmp 6,.tmp 7,.tmp 8],(.seq (.region [⟨some 6,.mv (.const (.int .u64 0)),none⟩,⟨some 7,.mv (.const (.bool false)),none⟩,⟨some 8,.mv (.const (.int .i64 0)),none⟩])
 (.seq (.region [⟨some 12,.mv (.tmp 0),none⟩,⟨some 13,.nilCheck (.tmp 12),none⟩,⟨some 14,.faddr 0 (.tmp 13),none⟩,⟨some 15,.faddr 2 (.tmp 14),none⟩,⟨some 16,.load false 1 (.tmp 15),none⟩,⟨some 17,.mv (.tmp 1),none⟩,⟨some 18,.call 248 [(.tmp 16),(.tmp 17)],none⟩,⟨some 11,.mv (.tmp 18),none⟩,⟨some 19,.extract (.tmp 11) 0,none⟩,⟨some 20,.extract (.tmp 11) 1,none⟩,⟨some 6,.mv (.tmp 19),none⟩,⟨some 8,.mv (.tmp 20),none⟩])
 (.seq (.seq (.region [⟨some 21,.mv (.tmp 8),none⟩,⟨some 22,.bin .neq (.tmp 21) (.const (.int .i64 2)),none⟩])
 (.cond (.tmp 22) (.seq (.region [⟨some 23,.mv (.tmp 6),none⟩,⟨some 24,.mv (.tmp 8),none⟩,⟨some 6,.mv (.tmp 23),none⟩,⟨some 7,.mv (.const (.bool false)),none⟩,⟨some 8,.mv (.tmp 24),none⟩])
 .ret) .skip))
 (.seq (.seq (.region [⟨some 26,.mv (.tmp 0),none⟩,⟨some 27,.nilCheck (.tmp 26),none⟩,⟨some 28,.faddr 0 (.tmp 27),none⟩,⟨some 29,.faddr 0 (.tmp 28),none⟩,⟨some 30,.load false 1 (.tmp 29),none⟩,⟨some 31,.mv (.tmp 2),none⟩,⟨some 32,.call 249 [(.tmp 30),(.tmp 31)],none⟩,⟨some 25,.mv (.tmp 32),none⟩,⟨some 33,.extract (.tmp 25) 0,none⟩,⟨some 34,.extract (.tmp 25) 1,none⟩,⟨some 9,.mv (.tmp 33),none⟩,⟨some 10,.mv (.tmp 34),none⟩])
 (.seq (.region [⟨some 35,.mv (.tmp 10),none⟩,⟨some 36,.bin .neq (.tmp 35) (.const (.int .i64 0)),none⟩])
 (.cond (.tmp 36) (.seq (.region [⟨some 37,.mv (.tmp 10),none⟩,⟨some 6,.mv (.const (.int .u64 0)),none⟩,⟨some 7,.mv (.const (.bool false)),none⟩,⟨some 8,.mv (.tmp 37),none⟩])
 .ret) .skip)))
 (.seq (.region [⟨some 38,.mv (.tmp 0),none⟩,⟨some 39,.nilCheck (.tmp 38),none⟩,⟨some 40,.faddr 0 (.tmp 39),none⟩,⟨some 41,.faddr 1 (.tmp 40),none⟩,⟨some 42,.load false 1 (.tmp 41),none⟩,⟨some 43,.call 250 [(.tmp 42)],none⟩])
 (.seq (.region [⟨some 44,.mv (.tmp 0),none⟩,⟨some 45,.nilCheck (.tmp 44),none⟩,⟨some 46,.faddr 0 (.tmp 45),none⟩,⟨some 47,.faddr 2 (.tmp 46),none⟩,⟨some 48,.load false 1 (.tmp 47),none⟩,⟨some 49,.call 251 [(.tmp 48)],none⟩])
 (.seq (.region [⟨some 51,.mv (.tmp 0),none⟩,⟨some 52,.nilCheck (.tmp 51),none⟩,⟨some 53,.faddr 0 (.tmp 52),none⟩,⟨some 54,.faddr 2 (.tmp 53),none⟩,⟨some 55,.load false 1 (.tmp 54),none⟩,⟨some 56,.mv (.tmp 1),none⟩,⟨some 57,.call 248 [(.tmp 55),(.tmp 56)],none⟩,⟨some 50,.mv (.tmp 57),none⟩,⟨some 58,.extract (.tmp 50) 0,none⟩,⟨some 59,.extract (.tmp 50) 1,none⟩,⟨some 6,.mv (.tmp 58),none⟩,⟨some 8,.mv (.tmp 59),none⟩])
 (.seq (.region [⟨some 60,.mv (.tmp 6),none⟩,⟨some 61,.mv (.tmp 8),none⟩,⟨some 62,.bin .eql (.tmp 61) (.const (.int .i64 0)),none⟩,⟨some 63,.mv (.tmp 8),none⟩,⟨some 6,.mv (.tmp 60),none⟩,⟨some 7,.mv (.tmp 62),none⟩,⟨some 8,.mv (.tmp 63),none⟩])
 .ret))))))))⟩
theorem k205 : compFn Tryz.prog Tryz.f205 = some c205 := by kernel_rfl
def c210 : AFunc := ⟨[.tmp 4],(.seq (.region [⟨some 4,.mv (.const (.ptr none)),none⟩])
 (.seq (.region [⟨some 8,.mv (.tmp 1),none⟩,⟨some 9,.call 253 [(.tmp 8)],none⟩,⟨some 7,.mv (.tmp 9),none⟩,⟨some 10,.extract (.tmp 7) 0,none⟩,⟨some 11,.extract (.tmp 7) 1,none⟩,⟨some 1,.mv (.tmp 10),none⟩,⟨some 5,.mv (.tmp 11),none⟩])
 (.seq (.region [⟨some 12,.mv (.tmp 1),none⟩,⟨some 13,.mv (.tmp 5),none⟩,⟨some 14,.makeSlice 1 8 [(.int .u64 0)] (.tmp 13) (.tmp 13),none⟩,⟨some 15,.build [(.int .i64 0),(.slice none 0 0)] [(0,1,(.tmp 12)),(1,1,(.tmp 14))],none⟩,⟨some 16,.box 2 (.tmp 15),none⟩,⟨some 6,.mv (.tmp 16),none⟩])
 (.seq (.region [⟨some 17,.mv (.tmp 6),none⟩,⟨some 18,.nilCheck (.tmp 17),none⟩,⟨some 19,.faddr 1 (.tmp 18),none⟩,⟨some 20,.load false 1 (.tmp 19),none⟩,⟨some 21,.mv (.tmp 0),none⟩,⟨some 22,.copy 1 (.tmp 20) (.tmp 21),none⟩])
 (.seq (.region [⟨some 23,.mv (.tmp 6),none⟩,⟨some 24,.call 254 [(.tmp 23)],none⟩])
 (.seq (.region [⟨some 25,.mv (.tmp 6),none⟩,⟨some 4,.mv (.tmp 25),none⟩])
 .ret))))))⟩
theorem k210 : compFn Tryz.prog Tryz.f210 = some c210 := by kernel_rfl
def c211 : AFunc := ⟨[.tmp 4],(.seq (.region [⟨some 4,.mv (.const (.ptr none)),none⟩])
 (.seq (.region [⟨some 5,.mv (.tmp 0),none⟩,⟨some 6,.mv (.tmp 1),none⟩,⟨some 7,.build [(.ptr none),(.int .u64 0)] [(0,1,(.tmp 5)),(1,1,(.tmp 6))],none⟩,⟨some 8,.box 2 (.tmp 7),none⟩,⟨some 4,.mv (.tmp 8),none⟩])
 .ret))⟩
theorem k211 : compFn Tryz.prog Tryz.f211 = some c211 := by kernel_rfl
def c212 : AFunc := ⟨[.tmp 2],(.seq (.region [⟨some 2,.mv (.const (.int .i64 0)),none⟩])
 (.seq (.region [⟨some 3,.mv (.tmp 0),none⟩,⟨some 4,.bin .quo (.tmp 3) (.const (.int .u64 16)),none⟩,⟨some 5,.call 202 [(.tmp 4)],none⟩,⟨some 2,.mv (.tmp 5),none⟩])
 .ret))⟩
theorem k212 : compFn Tryz.prog Tryz.f212 = some c212 := by kernel_rfl
def c220 : AFunc := ⟨[.tmp 4,.tmp 5,.cell 6 true 11,.tmp 7],(.seq (.region [⟨some 4,.mv (.const (.int .i64 0)),none⟩,⟨some 5,.mv (.const (.int .i64 0)),none⟩,⟨some 6,.alloc [(.int .i64 0),(.int .i64 0),(.int .i64 0),(.int .i64 0),(.int .i64 0),(.int .i64 0),(.int .i64 0),(.int .u64 0),(.int .u64 0),(.int .u64 0),(.int .u64 0)],none⟩,⟨some 7,.mv (.const (.bool false)),none⟩])
 (.seq (.region [⟨some 11,.mv (.tmp 0),none⟩,⟨some 12,.nilCheck (.tmp 11),none⟩,⟨some 13,.faddr 0 (.tmp 12),none⟩,⟨some 14,.load false 1 (.tmp 13),none⟩,⟨some 15,.nilCheck (.tmp 14),none⟩,⟨some 16,.faddr 0 (.tmp 15),none⟩,⟨some 17,.call 78 [(.tmp 16)],none⟩,⟨some 18,.mv (.tmp 0),none⟩,⟨some 19,.call 222 [(.tmp 18)],none⟩,⟨some 8,.mv (.tmp 17),none⟩,⟨some 9,.mv (.tmp 19),none⟩])
 (.seq (.seq (.region [⟨some 20,.mv (.tmp 1),none⟩,⟨some 21,.mv (.tmp 9),none⟩,⟨some 22,.bin .lss (.tmp 20) (.tmp 21),none⟩,⟨some 23,.mv (.tmp 22),none⟩,⟨some 24,.mv (.tmp 1),some (23,false)⟩,⟨some 25,.mv (.tmp 9),some (23,false)⟩,⟨some 26,.bin .sub (.tmp 24) (.tmp 25),some (23,false)⟩,⟨some 27,.bin .quo (.tmp 26) (.const (.int .u64 4096)),some (23,false)⟩,⟨some 28,.mv (.tmp 8),some (23,false)⟩,⟨some 29,.call 79 [(.tmp 28)],some (23,false)⟩,⟨some 30,.conv .u64 (.tmp 29),some (23,false)⟩,⟨some 31,.bin .geq (.tmp 27) (.tmp 30),some (23,false)⟩,⟨some 32,.pick (.tmp 23) (.const (.bool true)) (.tmp 31),none⟩])
 (.cond (.tmp 32) (.seq (.draw [⟨⟨some 33,.load true 11 (.tmp 6),none⟩,0,0⟩,⟨⟨some 4,.mv (.const (.int .i64 0)),none⟩,0,0⟩,⟨⟨some 5,.mv (.const (.int .i64 0)),none⟩,0,0⟩,⟨⟨none,.store 11 (.tmp 6) (.tmp 33),none⟩,0,1⟩,⟨⟨some 7,.mv (.const (.bool false)),none⟩,1,1⟩])
 .ret) .skip))
 (.seq (.region [⟨some 34,.mv (.tmp 1),none⟩,⟨some 35,.mv (.tmp 9),none⟩,⟨some 36,.bin .sub (.tmp 34) (.tmp 35),none⟩,⟨some 37,.bin .quo (.tmp 36) (.const (.int .u64 4096)),none⟩,⟨some 38,.conv .i64 (.tmp 37),none⟩,⟨some 4,.mv (.tmp 38),none⟩])
 (.seq (.region [⟨some 40,.mv (.tmp 8),none⟩,⟨some 41,.mv (.tmp 4),none⟩,⟨some 42,.call 80 [(.tmp 40),(.tmp 41)],none⟩,⟨some 39,.mv (.tmp 42),none⟩,⟨some 43,.extract (.tmp 39) 0,none⟩,⟨some 44,.extract (.tmp 39) 1,none⟩,⟨none,.store 11 (.tmp 6) (.tmp 43),none⟩])
 (.seq (.region [⟨some 45,.mv (.tmp 1),none⟩,⟨some 46,.mv (.tmp 9),none⟩,⟨some 47,.bin .sub (.tmp 45) (.tmp 46),none⟩,⟨some 48,.bin .rem (.tmp 47) (.const (.int .u64 4096)),none⟩,⟨some 10,.mv (.tmp 48),none⟩])
 (.seq (.seq (.region [⟨some 49,.faddr 0 (.tmp 6),none⟩,⟨some 50,.load false 1 (.tmp 49),none⟩,⟨some 51,.bin .neq (.tmp 50) (.const (.int .i64 4)),none⟩,⟨some 52,.mv (.tmp 51),none⟩,⟨some 53,.mv (.tmp 10),some (52,false)⟩,⟨some 54,.faddr 2 (.tmp 6),some (52,false)⟩,⟨some 55,.load false 1 (.tmp 54),some (52,false)⟩,⟨some 56,.iaddrA 8 1 (.glob 0) (.tmp 55),some (52,false)⟩,⟨some 57,.load false 1 (.tmp 56),some (52,false)⟩,⟨some 58,.bin .rem (.tmp 53) (.tmp 57),some (52,false)⟩,⟨some 59,.bin .neq (.tmp 58) (.const (.int .u64 0)),some (52,false)⟩,⟨some 60,.pick (.tmp 52) (.const (.bool true)) (.tmp 59),none⟩])
 (.cond (.tmp 60) (.seq (.draw [⟨⟨some 61,.load true 11 (.tmp 6),none⟩,0,0⟩,⟨⟨some 4,.mv (.const (.int .i64 0)),none⟩,0,0⟩,⟨⟨some 5,.mv (.const (.int .i64 0)),none⟩,0,0⟩,⟨⟨none,.store 11 (.tmp 6) (.tmp 61),none⟩,0,1⟩,⟨⟨some 7,.mv (.const (.bool false)),none⟩,1,1⟩])
 .ret) .skip))
 (.seq (.region [⟨some 62,.mv (.tmp 10),none⟩,⟨some 63,.faddr 2 (.tmp 6),none⟩,⟨some 64,.load false 1 (.tmp 63),none⟩,⟨some 65,.iaddrA 8 1 (.glob 0) (.tmp 64),none⟩,⟨some 66,.load false 1 (.tmp 65),none⟩,⟨some 67,.bin .quo (.tmp 62) (.tmp 66),none⟩,⟨some 68,.conv .i64 (.tmp 67),none⟩,⟨some 5,.mv (.tmp 68),none⟩])
 (.seq (.draw [⟨⟨some 69,.mv (.tmp 4),none⟩,0,0⟩,⟨⟨some 70,.mv (.tmp 5),none⟩,0,0⟩,⟨⟨some 71,.load true 11 (.tmp 6),none⟩,0,0⟩,⟨⟨some 72,.mv (.tmp 5),none⟩,0,0⟩,⟨⟨some 73,.bin .quo (.tmp 72) (.const (.int .i64 64)),none⟩,0,0⟩,⟨⟨some 74,.faddr 7 (.tmp 6),none⟩,0,0⟩,⟨⟨some 75,.iaddrA 4 1 (.tmp 74) (.tmp 73),none⟩,0,0⟩,⟨⟨some 76,.load false 1 (.tmp 75),none⟩,0,0⟩,⟨⟨some 77,.mv (.tmp 5),none⟩,0,0⟩,⟨⟨some 78,.bin .rem (.tmp 77) (.const (.int .i64 64)),none⟩,0,1⟩,⟨⟨some 79,.bin .shr (.tmp 76) (.tmp 78),none⟩,0,1⟩,⟨⟨some 80,.bin .and (.tmp 79) (.const (.int .u64 1)),none⟩,0,1⟩,⟨⟨some 81,.bin .eql (.tmp 80) (.const (.int .u64 1)),none⟩,0,1⟩,⟨⟨some 4,.mv (.tmp 69),none⟩,0,0⟩,⟨⟨some 5,.mv (.tmp 70),none⟩,0,0⟩,⟨⟨none,.store 11 (.tmp 6) (.tmp 71),none⟩,0,1⟩,⟨⟨some 7,.mv (.tmp 81),none⟩,1,1⟩])
 .ret)))))))))⟩
theorem k220 : compFn Tryz.prog Tryz.f220 = some c220 := by kernel_rfl
def c221 : AFunc := ⟨[.tmp 8],(.seq (.region [⟨some 8,.mv (.const (.int .i64 0)),none⟩])
 (.seq (.region [⟨some 12,.mv (.tmp 0),none⟩,⟨some 13,.mv (.tmp 1),none⟩,⟨some 14,.call 255 [(.tmp 12),(.tmp 13)],none⟩,⟨some 11,.mv (.tmp 14),none⟩,⟨some 15,.extract (.tmp 11) 0,none⟩,⟨some 16,.extract (.tmp 11) 1,none⟩,⟨some 9,.mv (.tmp 15),none⟩,⟨some 10,.mv (.tmp 16),none⟩])
 (.seq (.seq (.region [⟨some 17,.mv (.tmp 10),none⟩,⟨some 18,.not (.tmp 17),none⟩,⟨some 19,.mv (.tmp 18),none⟩,⟨some 20,.mv (.tmp 2),some (19,false)⟩,⟨some 21,.mv (.tmp 9),some (19,false)⟩,⟨some 22,.call 257 [(.tmp 21)],some (19,false)⟩,⟨some 23,.bin .sub (.tmp 22) (.const (.int .i64 1)),some (19,false)⟩,⟨some 24,.call 256 [(.tmp 20),(.const (.int .i64 0)),(.tmp 23)],some (19,false)⟩,⟨some 25,.not (.tmp 24),some (19,false)⟩,⟨some 26,.pick (.tmp 19) (.const (.bool true)) (.tmp 25),none⟩,⟨some 27,.mv (.tmp 26),none⟩,⟨some 28,.mv (.tmp 9),some (27,false)⟩,⟨some 29,.mv (.tmp 2),some (27,false)⟩,⟨some 30,.bin .quo (.tmp 29) (.const (.int .i64 64)),some (27,false)⟩,⟨some 31,.nilCheck (.tmp 28),some (27,false)⟩,⟨some 32,.faddr 7 (.tmp 31),some (27,false)⟩,⟨some 33,.iaddrA 4 1 (.tmp 32) (.tmp 30),some (27,false)⟩,⟨some 34,.load false 1 (.tmp 33),some (27,false)⟩,⟨some 35,.mv (.tmp 2),some (27,false)⟩,⟨some 36,.bin .rem (.tmp 35) (.const (.int .i64 64)),some (27,false)⟩,⟨some 37,.bin .shr (.tmp 34) (.tmp 36),some (27,false)⟩,⟨some 38,.bin .and (.tmp 37) (.const (.int .u64 1)),some (27,false)⟩,⟨some 39,.bin .eql (.tmp 38) (.const (.int .u64 1)),some (27,false)⟩,⟨some 40,.mv (.tmp 3),some (27,false)⟩,⟨some 41,.eq1 false .bool (.tmp 39) (.tmp 40),some (27,false)⟩,⟨some 42,.pick (.tmp 27) (.const (.bool true)) (.tmp 41),none⟩])
 (.cond (.tmp 42) (.seq (.region [⟨some 8,.mv (.const (.int .i64 1)),none⟩])
 .ret) .skip))
 (.seq (.draw [⟨⟨some 43,.mv (.tmp 9),none⟩,0,0⟩,⟨⟨some 44,.mv (.tmp 2),none⟩,0,0⟩,⟨⟨some 45,.bin .quo (.tmp 44) (.const (.int .i64 64)),none⟩,0,0⟩,⟨⟨some 46,.nilCheck (.tmp 43),none⟩,0,0⟩,⟨⟨some 47,.faddr 7 (.tmp 46),none⟩,0,0⟩,⟨⟨some 48,.iaddrA 4 1 (.tmp 47) (.tmp 45),none⟩,0,0⟩,⟨⟨some 49,.load false 1 (.tmp 48),none⟩,0,0⟩,⟨⟨some 50,.mv (.tmp 2),none⟩,0,0⟩,⟨⟨some 51,.bin .rem (.tmp 50) (.const (.int .i64 64)),none⟩,0,0⟩,⟨⟨some 52,.bin .shl (.const (.int .u64 1)) (.tmp 51),none⟩,0,0⟩,⟨⟨some 53,.bin .xor (.tmp 49) (.tmp 52),none⟩,0,0⟩,⟨⟨some 54,.nilCheck (.tmp 43),none⟩,0,0⟩,⟨⟨some 55,.faddr 7 (.tmp 54),none⟩,0,0⟩,⟨⟨some 56,.iaddrA 4 1 (.tmp 55) (.tmp 45),none⟩,0,0⟩,⟨⟨none,.store 1 (.tmp 56) (.tmp 53),none⟩,0,1⟩])
 (.seq (.seq (.region [⟨some 57,.mv (.tmp 3),none⟩])
 (.cond (.tmp 57) (.region [⟨some 58,.mv (.tmp 9),none⟩,⟨some 59,.nilCheck (.tmp 58),none⟩,⟨some 60,.faddr 3 (.tmp 59),none⟩,⟨some 61,.load false 1 (.tmp 60),none⟩,⟨some 62,.bin .add (.tmp 61) (.const (.int .i64 1)),none⟩,⟨some 63,.nilCheck (.tmp 58),none⟩,⟨some 64,.faddr 3 (.tmp 63),none⟩,⟨none,.store 1 (.tmp 64) (.tmp 62),none⟩]) (.region [⟨some 65,.mv (.tmp 9),none⟩,⟨some 66,.nilCheck (.tmp 65),none⟩,⟨some 67,.faddr 3 (.tmp 66),none⟩,⟨some 68,.load false 1 (.tmp 67),none⟩,⟨some 69,.bin .sub (.tmp 68) (.const (.int .i64 1)),none⟩,⟨some 70,.nilCheck (.tmp 65),none⟩,⟨some 71,.faddr 3 (.tmp 70),none⟩,⟨none,.store 1 (.tmp 71) (.tmp 69),none⟩])))
 (.seq (.region [⟨some 8,.mv (.const (.int .i64 0)),none⟩])
 .ret))))))⟩
theorem k221 : compFn Tryz.prog Tryz.f221 = some c221 := by kernel_rfl
def c222 : AFunc := ⟨[.tmp 2],(.seq (.region [⟨some 2,.mv (.const (.int .u64 0)),none⟩])
 (.seq (.draw [⟨⟨some 5,.mv (.tmp 0),none⟩,0,0⟩,⟨⟨some 6,.nilCheck (.tmp 5),none⟩,0,0⟩,⟨⟨some 7,.faddr 0 (.tmp 6),none⟩,0,0⟩,⟨⟨some 8,.load false 1 (.tmp 7),none⟩,0,0⟩,⟨⟨some 9,.nilCheck (.tmp 8),none⟩,0,0⟩,⟨⟨some 10,.faddr 0 (.tmp 9),none⟩,0,0⟩,⟨⟨some 11,.call 75 [(.tmp 10)],none⟩,0,1⟩,⟨⟨some 12,.mv (.tmp 0),none⟩,0,1⟩,⟨⟨some 13,.nilCheck (.tmp 12),none⟩,0,1⟩,⟨⟨some 14,.faddr 0 (.tmp 13),none⟩,0,1⟩,⟨⟨some 15,.load false 1 (.tmp 14),none⟩,0,1⟩,⟨⟨some 16,.nilCheck (.tmp 15),none⟩,0,1⟩,⟨⟨some 17,.faddr 0 (.tmp 16),none⟩,0,1⟩,⟨⟨some 18,.call 78 [(.tmp 17)],none⟩,1,2⟩,⟨⟨some 3,.mv (.tmp 11),none⟩,2,2⟩,⟨⟨some 4,.mv (.tmp 18),none⟩,2,2⟩])
 (.seq (.region [⟨some 19,.mv (.tmp 3),none⟩,⟨some 20,.call 76 [(.tmp 19)],none⟩,⟨some 21,.mv (.tmp 4),none⟩,⟨some 22,.call 79 [(.tmp 21)],none⟩,⟨some 23,.conv .u64 (.tmp 22),none⟩,⟨some 24,.bin .mul (.const (.int .u64 4096)) (.tmp 23),none⟩,⟨some 25,.bin .sub (.tmp 20) (.tmp 24),none⟩,⟨some 2,.mv (.tmp 25),none⟩])
 .ret)))⟩
theorem k222 : compFn Tryz.prog Tryz.f222 = some c222 := by kernel_rfl
def c223 : AFunc := ⟨[],(.seq (.region [⟨some 13,.mv (.tmp 0),none⟩,⟨some 14,.nilCheck (.tmp 13),none⟩,⟨some 15,.faddr 0 (.tmp 14),none⟩,⟨some 16,.load false 1 (.tmp 15),none⟩,⟨some 17,.nilCheck (.tmp 16),none⟩,⟨some 18,.faddr 0 (.tmp 17),none⟩,⟨some 19,.call 78 [(.tmp 18)],none⟩,⟨some 6,.mv (.tmp 19),none⟩])
 (.seq (.region [⟨some 21,.mv (.tmp 6),none⟩,⟨some 22,.mv (.tmp 1),none⟩,⟨some 23,.call 80 [(.tmp 21),(.tmp 22)],none⟩,⟨some 20,.mv (.tmp 23),none⟩,⟨some 24,.extract (.tmp 20) 0,none⟩,⟨some 25,.extract (.tmp 20) 1,none⟩,⟨some 7,.alloc [(.int .i64 0),(.int .i64 0),(.int .i64 0),(.int .i64 0),(.int .i64 0),(.int .i64 0),(.int .i64 0),(.int .u64 0),(.int .u64 0),(.int .u64 0),(.int .u64 0)],none⟩,⟨none,.store 11 (.tmp 7) (.tmp 24),none⟩,⟨some 8,.mv (.tmp 25),none⟩])
 (.seq (.seq (.region [⟨some 26,.faddr 5 (.tmp 7),none⟩,⟨some 27,.load false 1 (.tmp 26),none⟩,⟨some 28,.bin .geq (.tmp 27) (.const (.int .i64 0)),none⟩])
 (.cond (.tmp 28) (.seq (.region [⟨some 30,.mv (.tmp 6),none⟩,⟨some 31,.faddr 5 (.tmp 7),none⟩,⟨some 32,.load false 1 (.tmp 31),none⟩,⟨some 33,.call 80 [(.tmp 30),(.tmp 32)],none⟩,⟨some 29,.mv (.tmp 33),none⟩,⟨some 34,.extract (.tmp 29) 0,none⟩,⟨some 35,.extract (.tmp 29) 1,none⟩,⟨some 9,.alloc [(.int .i64 0),(.int .i64 0),(.int .i64 0),(.int .i64 0),(.int .i64 0),(.int .i64 0),(.int .i64 0),(.int .u64 0),(.int .u64 0),(.int .u64 0),(.int .u64 0)],none⟩,⟨none,.store 11 (.tmp 9) (.tmp 34),none⟩,⟨some 10,.mv (.tmp 35),none⟩])
 (.region [⟨some 36,.mv (.tmp 6),none⟩,⟨some 37,.faddr 5 (.tmp 7),none⟩,⟨some 38,.load false 1 (.tmp 37),none⟩,⟨some 39,.faddr 4 (.tmp 7),none⟩,⟨some 40,.load false 1 (.tmp 39),none⟩,⟨some 41,.faddr 5 (.tmp 9),none⟩,⟨some 42,.load false 1 (.tmp 41),none⟩,⟨some 43,.call 258 [(.tmp 36),(.tmp 38),(.tmp 40),(.tmp 42)],none⟩])) (.draw [⟨⟨some 44,.mv (.tmp 0),none⟩,0,0⟩,⟨⟨some 45,.mv (.tmp 2),none⟩,0,0⟩,⟨⟨some 46,.faddr 4 (.tmp 7),none⟩,0,0⟩,⟨⟨some 47,.load false 1 (.tmp 46),none⟩,0,0⟩,⟨⟨some 48,.nilCheck (.tmp 44),none⟩,0,0⟩,⟨⟨some 49,.faddr 1 (.tmp 48),none⟩,0,0⟩,⟨⟨some 50,.iaddrA 8 1 (.tmp 49) (.tmp 45),none⟩,0,0⟩,⟨⟨none,.store 1 (.tmp 50) (.tmp 47),none⟩,0,1⟩])))
 (.seq (.seq (.region [⟨some 51,.faddr 4 (.tmp 7),none⟩,⟨some 52,.load false 1 (.tmp 51),none⟩,⟨some 53,.bin .geq (.tmp 52) (.const (.int .i64 0)),none⟩])
 (.cond (.tmp 53) (.seq (.region [⟨some 55,.mv (.tmp 6),none⟩,⟨some 56,.faddr 4 (.tmp 7),none⟩,⟨some 57,.load false 1 (.tmp 56),none⟩,⟨some 58,.call 80 [(.tmp 55),(.tmp 57)],none⟩,⟨some 54,.mv (.tmp 58),none⟩,⟨some 59,.extract (.tmp 54) 0,none⟩,⟨some 60,.extract (.tmp 54) 1,none⟩,⟨some 11,.alloc [(.int .i64 0),(.int .i64 0),(.int .i64 0),(.int .i64 0),(.int .i64 0),(.int .i64 0),(.int .i64 0),(.int .u64 0),(.int .u64 0),(.int .u64 0),(.int .u64 0)],none⟩,⟨none,.store 11 (.tmp 11) (.tmp 59),none⟩,⟨some 12,.mv (.tmp 60),none⟩])
 (.region [⟨some 61,.mv (.tmp 6),none⟩,⟨some 62,.faddr 4 (.tmp 7),none⟩,⟨some 63,.load false 1 (.tmp 62),none⟩,⟨some 64,.faddr 4 (.tmp 11),none⟩,⟨some 65,.load false 1 (.tmp 64),none⟩,⟨some 66,.faddr 5 (.tmp 7),none⟩,⟨some 67,.load false 1 (.tmp 66),none⟩,⟨some 68,.call 258 [(.tmp 61),(.tmp 63),(.tmp 65),(.tmp 67)],none⟩])) .skip))
 (.region [⟨some 69,.mv (.tmp 6),none⟩,⟨some 70,.mv (.tmp 1),none⟩,⟨some 71,.call 258 [(.tmp 69),(.tmp 70),(.const (.int .i64 (-1))),(.const (.int .i64 (-1)))],none⟩])))))⟩
theorem k223 : compFn Tryz.prog Tryz.f223 = some c223 := by kernel_rfl
def c224 : AFunc := ⟨[.tmp 8],(.seq (.region [⟨some 8,.mv (.const (.int .i64 0)),none⟩])
 (.seq (.seq (.draw [⟨⟨some 11,.mv (.tmp 3),none⟩,0,0⟩,⟨⟨some 12,.bin .neq (.tmp 11) (.const (.int .i64 0)),none⟩,0,0⟩,⟨⟨some 13,.mv (.tmp 12),none⟩,0,0⟩,⟨⟨some 14,.mv (.tmp 3),some (13,true)⟩,0,0⟩,⟨⟨some 15,.bin .neq (.tmp 14) (.const (.int .i64 2)),some (13,true)⟩,0,0⟩,⟨⟨some 16,.pick (.tmp 13) (.tmp 15) (.const (.bool false)),none⟩,0,0⟩,⟨⟨some 17,.mv (.tmp 16),none⟩,0,0⟩,⟨⟨some 18,.mv (.tmp 2),some (17,false)⟩,0,0⟩,⟨⟨some 19,.mv (.tmp 0),some (17,false)⟩,0,0⟩,⟨⟨some 20,.nilCheck (.tmp 19),some (17,false)⟩,0,0⟩,⟨⟨some 21,.faddr 0 (.tmp 20),some (17,false)⟩,0,0⟩,⟨⟨some 22,.load false 1 (.tmp 21),some (17,false)⟩,0,0⟩,⟨⟨some 23,.call 256 [(.tmp 18),(.const (.int .i64 0)),(.tmp 22)],some (17,false)⟩,0,1⟩,⟨⟨some 24,.not (.tmp 23),some (17,false)⟩,1,1⟩,⟨⟨some 25,.pick (.tmp 17) (.const (.bool true)) (.tmp 24),none⟩,1,1⟩,⟨⟨some 26,.mv (.tmp 25),none⟩,1,1⟩,⟨⟨some 27,.mv (.tmp 1),some (26,false)⟩,1,1⟩,⟨⟨some 28,.bin .lss (.tmp 27) (.const (.int .i64 0)),some (26,false)⟩,1,1⟩,⟨⟨some 29,.pick (.tmp 26) (.const (.bool true)) (.tmp 28),none⟩,1,1⟩,⟨⟨some 30,.mv (.tmp 29),none⟩,1,1⟩,⟨⟨some 31,.mv (.tmp 1),some (30,false)⟩,1,1⟩,⟨⟨some 32,.mv (.tmp 2),some (30,false)⟩,1,1⟩,⟨⟨some 33,.bin .shl (.const (.int .i64 1)) (.tmp 32),some (30,false)⟩,1,1⟩,⟨⟨some 34,.bin .rem (.tmp 31) (.tmp 33),some (30,false)⟩,1,1⟩,⟨⟨some 35,.bin .neq (.tmp 34) (.const (.int .i64 0)),some (30,false)⟩,1,1⟩,⟨⟨some 36,.pick (.tmp 30) (.const (.bool true)) (.tmp 35),none⟩,1,1⟩,⟨⟨some 37,.mv (.tmp 36),none⟩,1,1⟩,⟨⟨some 38,.mv (.tmp 1),some (37,false)⟩,1,1⟩,⟨⟨some 39,.mv (.tmp 0),some (37,false)⟩,1,1⟩,⟨⟨some 40,.nilCheck (.tmp 39),some (37,false)⟩,1,1⟩,⟨⟨some 41,.faddr 1 (.tmp 40),some (37,false)⟩,1,1⟩,⟨⟨some 42,.load false 1 (.tmp 41),some (37,false)⟩,1,1⟩,⟨⟨some 43,.lenS (.tmp 42),some (37,false)⟩,1,1⟩,⟨⟨some 44,.mv (.tmp 2),some (37,false)⟩,1,1⟩,⟨⟨some 45,.bin .shl (.const (.int .i64 1)) (.tmp 44),some (37,false)⟩,1,1⟩,⟨⟨some 46,.bin .sub (.tmp 43) (.tmp 45),some (37,false)⟩,1,1⟩,⟨⟨some 47,.bin .gtr (.tmp 38) (.tmp 46),some (37,false)⟩,1,1⟩,⟨⟨some 48,.pick (.tmp 37) (.const (.bool true)) (.tmp 47),none⟩,1,1⟩])
 (.cond (.tmp 48) (.seq (.region [⟨some 8,.mv (.const (.int .i64 1)),none⟩])
 .ret) .skip))
 (.seq (.seq (.region [⟨some 49,.mv (.tmp 2),none⟩,⟨some 50,.bin .shl (.const (.int .i64 1)) (.tmp 49),none⟩,⟨some 51,.mv (.const (.int .i64 0)),none⟩])
 (.block 0 (.loop (.seq (.region [⟨some 52,.bin .lss (.tmp 51) (.tmp 50),none⟩])
 (.seq (.cond (.tmp 52) .skip (.exit 0))
 (.seq (.block 1 (.seq (.region [⟨some 53,.mv (.tmp 51),none⟩,⟨some 9,.mv (.tmp 53),none⟩])
 (.seq (.region [⟨some 54,.mv (.tmp 3),none⟩,⟨some 55,.mv (.tmp 2),none⟩,⟨some 56,.call 259 [(.tmp 54),(.tmp 55)],none⟩,⟨some 10,.alloc [(.int .i64 0),(.int .i64 0),(.int .i64 0),(.int .i64 0),(.int .i64 0),(.int .i64 0),(.int .i64 0),(.int .u64 0),(.int .u64 0),(.int .u64 0),(.int .u64 0)],none⟩,⟨none,.store 11 (.tmp 10) (.tmp 56),none⟩])
 (.seq (.seq (.region [⟨some 57,.mv (.tmp 9),none⟩,⟨some 58,.bin .gtr (.tmp 57) (.const (.int .i64 0)),none⟩])
 (.cond (.tmp 58) (.region [⟨some 59,.faddr 0 (.tmp 10),none⟩,⟨some 60,.load false 1 (.tmp 59),none⟩,⟨some 61,.bin .add (.tmp 60) (.const (.int .i64 1)),none⟩,⟨some 62,.faddr 0 (.tmp 10),none⟩,⟨none,.store 1 (.tmp 62) (.tmp 61),none⟩]) .skip))
 (.seq (.draw [⟨⟨some 63,.mv (.tmp 0),none⟩,0,0⟩,⟨⟨some 64,.nilCheck (.tmp 63),none⟩,0,0⟩,⟨⟨some 65,.faddr 1 (.tmp 64),none⟩,0,0⟩,⟨⟨some 66,.load false 1 (.tmp 65),none⟩,0,0⟩,⟨⟨some 67,.mv (.tmp 1),none⟩,0,0⟩,⟨⟨some 68,.mv (.tmp 9),none⟩,0,0⟩,⟨⟨some 69,.bin .add (.tmp 67) (.tmp 68),none⟩,0,0⟩,⟨⟨some 70,.iaddrS 11 (.tmp 66) (.tmp 69),none⟩,0,0⟩,⟨⟨some 71,.load true 11 (.tmp 70),none⟩,0,0⟩,⟨⟨some 72,.load true 11 (.tmp 10),none⟩,0,0⟩,⟨⟨some 73,.eqs true [true,true,true,true,true,true,true,true,true,true,true] (.tmp 71) (.tmp 72),none⟩,0,0⟩])
 (.cond (.tmp 73) (.draw [⟨⟨some 74,.mv (.tmp 0),none⟩,0,0⟩,⟨⟨some 75,.nilCheck (.tmp 74),none⟩,0,0⟩,⟨⟨some 76,.faddr 1 (.tmp 75),none⟩,0,0⟩,⟨⟨some 77,.load false 1 (.tmp 76),none⟩,0,0⟩,⟨⟨some 78,.mv (.tmp 1),none⟩,0,0⟩,⟨⟨some 79,.mv (.tmp 9),none⟩,0,0⟩,⟨⟨some 80,.bin .add (.tmp 78) (.tmp 79),none⟩,0,0⟩,⟨⟨some 81,.load true 11 (.tmp 10),none⟩,0,0⟩,⟨⟨some 82,.iaddrS 11 (.tmp 77) (.tmp 80),none⟩,0,0⟩,⟨⟨none,.store 11 (.tmp 82) (.tmp 81),none⟩,0,1⟩]) .skip))))))
 (.region [⟨some 83,.bin .add (.tmp 51) (.const (.int .i64 1)),none⟩,⟨some 51,.mv (.tmp 83),none⟩])))))))
 (.seq (.region [⟨some 8,.mv (.const (.int .i64 0)),none⟩])
 .ret))))⟩
theorem k224 : compFn Tryz.prog Tryz.f224 = some c224 := by kernel_rfl
def c225 : AFunc := ⟨[],(.seq (.draw [⟨⟨some 10,.mv (.tmp 0),none⟩,0,0⟩,⟨⟨some 11,.nilCheck (.tmp 10),none⟩,0,0⟩,⟨⟨some 12,.faddr 0 (.tmp 11),none⟩,0,0⟩,⟨⟨some 13,.load false 1 (.tmp 12),none⟩,0,0⟩,⟨⟨some 14,.nilCheck (.tmp 13),none⟩,0,0⟩,⟨⟨some 15,.faddr 0 (.tmp 14),none⟩,0,0⟩,⟨⟨some 16,.call 78 [(.tmp 15)],none⟩,0,1⟩,⟨⟨some 17,.mv (.tmp 0),none⟩,0,1⟩,⟨⟨some 18,.mv (.tmp 2),none⟩,0,1⟩,⟨⟨some 19,.nilCheck (.tmp 17),none⟩,0,1⟩,⟨⟨some 20,.faddr 1 (.tmp 19),none⟩,0,1⟩,⟨⟨some 21,.iaddrA 8 1 (.tmp 20) (.tmp 18),none⟩,0,1⟩,⟨⟨some 22,.load false 1 (.tmp 21),none⟩,0,1⟩,⟨⟨some 6,.mv (.tmp 16),none⟩,1,1⟩,⟨⟨some 7,.mv (.tmp 22),none⟩,1,1⟩])
 (.seq (.region [⟨some 23,.mv (.tmp 6),none⟩,⟨some 24,.mv (.tmp 1),none⟩,⟨some 25,.mv (.tmp 7),none⟩,⟨some 26,.call 258 [(.tmp 23),(.tmp 24),(.tmp 25),(.const (.int .i64 (-1)))],none⟩])
 (.seq (.seq (.region [⟨some 27,.mv (.tmp 7),none⟩,⟨some 28,.bin .geq (.tmp 27) (.const (.int .i64 0)),none⟩])
 (.cond (.tmp 28) (.seq (.region [⟨some 30,.mv (.tmp 6),none⟩,⟨some 31,.mv (.tmp 7),none⟩,⟨some 32,.call 80 [(.tmp 30),(.tmp 31)],none⟩,⟨some 29,.mv (.tmp 32),none⟩,⟨some 33,.extract (.tmp 29) 0,none⟩,⟨some 34,.extract (.tmp 29) 1,none⟩,⟨some 8,.alloc [(.int .i64 0),(.int .i64 0),(.int .i64 0),(.int .i64 0),(.int .i64 0),(.int .i64 0),(.int .i64 0),(.int .u64 0),(.int .u64 0),(.int .u64 0),(.int .u64 0)],none⟩,⟨none,.store 11 (.tmp 8) (.tmp 33),none⟩,⟨some 9,.mv (.tmp 34),none⟩])
 (.region [⟨some 35,.mv (.tmp 6),none⟩,⟨some 36,.mv (.tmp 7),none⟩,⟨some 37,.faddr 4 (.tmp 8),none⟩,⟨some 38,.load false 1 (.tmp 37),none⟩,⟨some 39,.mv (.tmp 1),none⟩,⟨some 40,.call 258 [(.tmp 35),(.tmp 36),(.tmp 38),(.tmp 39)],none⟩])) .skip))
 (.region [⟨some 41,.mv (.tmp 0),none⟩,⟨some 42,.mv (.tmp 2),none⟩,⟨some 43,.mv (.tmp 1),none⟩,⟨some 44,.nilCheck (.tmp 41),none⟩,⟨some 45,.faddr 1 (.tmp 44),none⟩,⟨some 46,.iaddrA 8 1 (.tmp 45) (.tmp 42),none⟩,⟨none,.store 1 (.tmp 46) (.tmp 43),none⟩]))))⟩
theorem k225 : compFn Tryz.prog Tryz.f225 = some c225 := by kernel_rfl
def c226 : AFunc := ⟨[.cell 6 false 1],(.seq (.region [⟨some 6,.alloc [(.int .i64 0)],none⟩])
 (.seq (.region [⟨some 9,.makeFunc 260 [] [(.tmp 6)],none⟩,⟨none,.deferv (.tmp 9) [],none⟩])
 (.seq (.region [⟨some 10,.mv (.tmp 0),none⟩,⟨some 11,.mv (.tmp 1),none⟩,⟨some 12,.call 135 [(.tmp 10),(.tmp 11),(.const (.int .u64 8))],none⟩])
 (.seq (.region [⟨some 7,.alloc [(.int .u8 0),(.int .u8 0),(.int .u8 0),(.int .u8 0),(.int .u8 0),(.int .u8 0),(.int .u8 0),(.int .u8 0)],none⟩])
 (.seq (.seq (.region [⟨some 13,.mv (.const (.int .i64 0)),none⟩])
 (.block 0 (.loop (.seq (.region [⟨some 14,.bin .lss (.tmp 13) (.const (.int .i64 8)),none⟩])
 (.seq (.cond (.tmp 14) .skip (.exit 0))
 (.seq (.block 1 (.seq (.region [⟨some 15,.mv (.tmp 13),none⟩,⟨some 8,.mv (.tmp 15),none⟩])
 (.region [⟨some 16,.mv (.tmp 8),none⟩,⟨some 17,.mv (.tmp 2),none⟩,⟨some 18,.mv (.tmp 8),none⟩,⟨some 19,.bin .mul (.const (.int .i64 8)) (.tmp 18),none⟩,⟨some 20,.bin .shr (.tmp 17) (.tmp 19),none⟩,⟨some 21,.conv .u8 (.tmp 20),none⟩,⟨some 22,.iaddrA 8 1 (.tmp 7) (.tmp 16),none⟩,⟨none,.store 1 (.tmp 22) (.tmp 21),none⟩])))
 (.region [⟨some 23,.bin .add (.tmp 13) (.const (.int .i64 1)),none⟩,⟨some 13,.mv (.tmp 23),none⟩])))))))
 (.seq (.region [⟨some 24,.mv (.tmp 0),none⟩,⟨some 25,.mv (.tmp 1),none⟩,⟨some 26,.sliceArr 8 1 (.tmp 7) none none,none⟩,⟨some 27,.call 180 [(.tmp 24),(.tmp 25),(.tmp 26)],none⟩])
 (.seq (.region [⟨none,.store 1 (.tmp 6) (.const (.int .i64 0)),none⟩])
 .ret)))))))⟩
theorem k226 : compFn Tryz.prog Tryz.f226 = some c226 := by kernel_rfl
def c227 : AFunc := ⟨[.tmp 6],(.seq (.region [⟨some 6,.mv (.const (.int .i64 0)),none⟩])
 (.seq (.region [⟨some 10,.mv (.tmp 0),none⟩,⟨some 11,.mv (.tmp 1),none⟩,⟨some 12,.call 255 [(.tmp 10),(.tmp 11)],none⟩,⟨some 9,.mv (.tmp 12),none⟩,⟨some 13,.extract (.tmp 9) 0,none⟩,⟨some 14,.extract (.tmp 9) 1,none⟩,⟨some 7,.mv (.tmp 13),none⟩,⟨some 8,.mv (.tmp 14),none⟩])
 (.seq (.seq (.region [⟨some 15,.mv (.tmp 8),none⟩,⟨some 16,.not (.tmp 15),none⟩,⟨some 17,.mv (.tmp 16),none⟩,⟨some 18,.mv (.tmp 2),some (17,false)⟩,⟨some 19,.mv (.tmp 7),some (17,false)⟩,⟨some 20,.call 257 [(.tmp 19)],some (17,false)⟩,⟨some 21,.bin .sub (.tmp 20) (.const (.int .i64 1)),some (17,false)⟩,⟨some 22,.call 256 [(.tmp 18),(.const (.int .i64 (-1))),(.tmp 21)],some (17,false)⟩,⟨some 23,.not (.tmp 22),some (17,false)⟩,⟨some 24,.pick (.tmp 17) (.const (.bool true)) (.tmp 23),none⟩])
 (.cond (.tmp 24) (.seq (.region [⟨some 6,.mv (.const (.int .i64 1)),none⟩])
 .ret) .skip))
 (.seq (.region [⟨some 25,.mv (.tmp 7),none⟩,⟨some 26,.mv (.tmp 2),none⟩,⟨some 27,.nilCheck (.tmp 25),none⟩,⟨some 28,.faddr 6 (.tmp 27),none⟩,⟨none,.store 1 (.tmp 28) (.tmp 26),none⟩])
 (.seq (.region [⟨some 6,.mv (.const (.int .i64 0)),none⟩])
 .ret)))))⟩
theorem k227 : compFn Tryz.prog Tryz.f227 = some c227 := by kernel_rfl
def c228 : AFunc := ⟨[.tmp 6],(.seq (.region [⟨some 6,.mv (.const (.int .i64 0)),none⟩])
 (.scope (.seq (.region [⟨some 12,.mv (.tmp 0),none⟩,⟨some 13,.mv (.tmp 1),none⟩,⟨some 14,.mv (.tmp 2),none⟩,⟨some 15,.call 200 [(.tmp 12),(.tmp 13),(.tmp 14)],none⟩,⟨some 11,.mv (.tmp 15),none⟩,⟨some 16,.extract (.tmp 11) 0,none⟩,⟨some 17,.extract (.tmp 11) 1,none⟩,⟨some 7,.mv (.tmp 16),none⟩,⟨some 8,.mv (.tmp 17),none⟩])
 (.seq (.seq (.region [⟨some 18,.mv (.tmp 8),none⟩,⟨some 19,.not (.tmp 18),none⟩])
 (.cond (.tmp 19) (.seq (.region [⟨some 6,.mv (.const (.int .i64 1)),none⟩])
 .ret) .skip))
 (.seq (.region [⟨some 20,.mv (.tmp 2),none⟩,⟨some 9,.mv (.tmp 20),none⟩])
 (.seq (.label 0)
 (.seq (.seq (.region [⟨some 21,.mv (.tmp 0),none⟩,⟨some 22,.mv (.tmp 7),none⟩,⟨some 23,.mv (.tmp 9),none⟩,⟨some 24,.call 244 [(.tmp 21),(.tmp 22),(.tmp 23)],none⟩,⟨some 25,.not (.tmp 24),none⟩])
 (.cond (.tmp 25) (.seq (.seq (.draw [⟨⟨some 26,.mv (.tmp 0),none⟩,0,1⟩,⟨⟨some 27,.nilCheck (.tmp 26),none⟩,0,1⟩,⟨⟨some 28,.faddr 5 (.tmp 27),none⟩,0,1⟩,⟨⟨some 29,.load false 1 (.tmp 28),none⟩,0,1⟩,⟨⟨some 30,.mv (.tmp 9),none⟩,0,1⟩,⟨⟨some 31,.iaddrS 1 (.tmp 29) (.tmp 30),none⟩,0,1⟩,⟨⟨some 32,.load false 1 (.tmp 31),none⟩,0,1⟩,⟨⟨some 33,.mv (.tmp 0),none⟩,0,0⟩,⟨⟨some 34,.mv (.tmp 7),none⟩,0,0⟩,⟨⟨some 35,.mv (.tmp 9),none⟩,0,0⟩,⟨⟨some 36,.bin .shl (.const (.int .i64 1)) (.tmp 35),none⟩,0,0⟩,⟨⟨some 37,.bin .xor (.tmp 34) (.tmp 36),none⟩,0,0⟩,⟨⟨some 38,.call 231 [(.tmp 33),(.tmp 37)],none⟩,0,1⟩,⟨⟨some 39,.call 230 [(.tmp 32),(.tmp 38)],none⟩,1,2⟩,⟨⟨some 10,.mv (.tmp 39),none⟩,2,2⟩])
 (.seq (.region [⟨some 40,.mv (.tmp 10),none⟩,⟨some 41,.bin .neq (.tmp 40) (.const (.int .i64 0)),none⟩])
 (.cond (.tmp 41) (.seq (.region [⟨some 42,.mv (.tmp 10),none⟩,⟨some 6,.mv (.tmp 42),none⟩])
 .ret) .skip)))
 (.seq (.region [⟨some 43,.mv (.tmp 7),none⟩,⟨some 44,.mv (.tmp 9),none⟩,⟨some 45,.bin .shl (.const (.int .i64 1)) (.tmp 44),none⟩,⟨some 46,.bin .andNot (.tmp 43) (.tmp 45),none⟩,⟨some 7,.mv (.tmp 46),none⟩])
 (.seq (.region [⟨some 47,.mv (.tmp 9),none⟩,⟨some 48,.bin .add (.tmp 47) (.const (.int .i64 1)),none⟩,⟨some 9,.mv (.tmp 48),none⟩])
 (.goto 0)))) .skip))
 (.seq (.region [⟨some 49,.mv (.tmp 0),none⟩,⟨some 50,.mv (.tmp 7),none⟩,⟨some 51,.mv (.tmp 9),none⟩,⟨some 52,.call 243 [(.tmp 49),(.tmp 50),(.tmp 51)],none⟩])
 (.seq (.region [⟨some 6,.mv (.const (.int .i64 0)),none⟩])
 .ret)))))))))⟩
theorem k228 : compFn Tryz.prog Tryz.f228 = some c228 := by kernel_rfl
def c229 : AFunc := ⟨[.tmp 2,.tmp 3],(.seq (.region [⟨some 2,.mv (.const (.int .i64 0)),none⟩,⟨some 3,.mv (.const (.bool false)),none⟩])
 (.seq (.draw [⟨⟨some 5,.mv (.tmp 0),none⟩,0,0⟩,⟨⟨some 6,.nilCheck (.tmp 5),none⟩,0,0⟩,⟨⟨some 7,.faddr 3 (.tmp 6),none⟩,0,0⟩,⟨⟨some 8,.load false 1 (.tmp 7),none⟩,0,0⟩,⟨⟨some 9,.call 261 [(.tmp 8)],none⟩,0,1⟩,⟨⟨some 10,.mv (.tmp 0),none⟩,0,1⟩,⟨⟨some 11,.nilCheck (.tmp 10),none⟩,0,1⟩,⟨⟨some 12,.faddr 0 (.tmp 11),none⟩,0,1⟩,⟨⟨some 13,.faddr 2 (.tmp 12),none⟩,0,1⟩,⟨⟨some 14,.load false 1 (.tmp 13),none⟩,0,1⟩,⟨⟨some 15,.bin .shl (.tmp 9) (.tmp 14),none⟩,1,1⟩,⟨⟨some 4,.mv (.tmp 15),none⟩,1,1⟩])
 (.seq (.draw [⟨⟨some 16,.mv (.tmp 4),none⟩,0,1⟩,⟨⟨some 17,.mv (.tmp 0),none⟩,0,1⟩,⟨⟨some 18,.nilCheck (.tmp 17),none⟩,0,1⟩,⟨⟨some 19,.faddr 0 (.tmp 18),none⟩,0,1⟩,⟨⟨some 20,.faddr 2 (.tmp 19),none⟩,0,1⟩,⟨⟨some 21,.load false 1 (.tmp 20),none⟩,0,1⟩,⟨⟨some 22,.bin .shl (.const (.int .i64 1)) (.tmp 21),none⟩,0,1⟩,⟨⟨some 23,.bin .sub (.tmp 16) (.tmp 22),none⟩,0,1⟩,⟨⟨some 24,.mv (.tmp 4),none⟩,0,0⟩,⟨⟨some 25,.bin .gtr (.tmp 24) (.const (.int .i64 0)),none⟩,0,0⟩,⟨⟨some 26,.mv (.tmp 25),none⟩,0,0⟩,⟨⟨some 27,.mv (.tmp 0),some (26,true)⟩,0,0⟩,⟨⟨some 28,.nilCheck (.tmp 27),some (26,true)⟩,0,0⟩,⟨⟨some 29,.faddr 4 (.tmp 28),some (26,true)⟩,0,0⟩,⟨⟨some 30,.load false 1 (.tmp 29),some (26,true)⟩,0,0⟩,⟨⟨some 31,.call 79 [(.tmp 30)],some (26,true)⟩,0,1⟩,⟨⟨some 32,.mv (.tmp 4),some (26,true)⟩,0,1⟩,⟨⟨some 33,.bin .eql (.tmp 31) (.tmp 32),some (26,true)⟩,1,1⟩,⟨⟨some 34,.pick (.tmp 26) (.tmp 33) (.const (.bool false)),none⟩,1,1⟩,⟨⟨some 2,.mv (.tmp 23),none⟩,1,1⟩,⟨⟨some 3,.mv (.tmp 34),none⟩,1,1⟩])
 .ret)))⟩
theorem k229 : compFn Tryz.prog Tryz.f229 = some c229 := by kernel_rfl
def c230 : AFunc := ⟨[.tmp 4],(.seq (.region [⟨some 4,.mv (.const (.int .i64 0)),none⟩])
 (.seq (.region [⟨some 9,.mv (.tmp 0),none⟩,⟨some 10,.mv (.tmp 1),none⟩,⟨some 11,.call 262 [(.tmp 9),(.tmp 10)],none⟩,⟨some 8,.mv (.tmp 11),none⟩,⟨some 12,.extract (.tmp 8) 0,none⟩,⟨some 13,.extract (.tmp 8) 1,none⟩,⟨some 14,.extract (.tmp 8) 2,none⟩,⟨some 5,.mv (.tmp 12),none⟩,⟨some 6,.mv (.tmp 13),none⟩,⟨some 7,.mv (.tmp 14),none⟩])
 (.seq (.seq (.region [⟨some 15,.mv (.tmp 7),none⟩,⟨some 16,.not (.tmp 15),none⟩])
 (.cond (.tmp 16) (.seq (.region [⟨some 4,.mv (.const (.int .i64 4)),none⟩])
 .ret) .skip))
 (.seq (.seq (.region [⟨some 17,.mv (.tmp 0),none⟩,⟨some 18,.mv (.tmp 1),none⟩,⟨some 19,.mv (.tmp 5),none⟩,⟨some 20,.mv (.tmp 6),none⟩,⟨some 21,.call 263 [(.tmp 17),(.tmp 18),(.tmp 19),(.tmp 20)],none⟩,⟨some 22,.not (.tmp 21),none⟩])
 (.cond (.tmp 22) (.seq (.region [⟨some 4,.mv (.const (.int .i64 8)),none⟩])
 .ret) .skip))
 (.seq (.seq (.region [⟨some 23,.mv (.tmp 6),none⟩,⟨some 24,.bin .eql (.tmp 23) (.const (.int .u64 0)),none⟩])
 (.cond (.tmp 24) (.region [⟨some 25,.mv (.tmp 0),none⟩,⟨some 26,.mv (.tmp 5),none⟩,⟨some 27,.nilCheck (.tmp 25),none⟩,⟨some 28,.faddr 1 (.tmp 27),none⟩,⟨none,.store 1 (.tmp 28) (.tmp 26),none⟩]) (.region [⟨some 29,.mv (.tmp 0),none⟩,⟨some 30,.nilCheck (.tmp 29),none⟩,⟨some 31,.faddr 0 (.tmp 30),none⟩,⟨some 32,.load false 1 (.tmp 31),none⟩,⟨some 33,.mv (.tmp 6),none⟩,⟨some 34,.mv (.tmp 5),none⟩,⟨some 35,.call 226 [(.tmp 32),(.tmp 33),(.tmp 34)],none⟩])))
 (.seq (.seq (.region [⟨some 36,.mv (.tmp 5),none⟩,⟨some 37,.bin .neq (.tmp 36) (.const (.int .u64 0)),none⟩])
 (.cond (.tmp 37) (.region [⟨some 38,.mv (.tmp 0),none⟩,⟨some 39,.nilCheck (.tmp 38),none⟩,⟨some 40,.faddr 0 (.tmp 39),none⟩,⟨some 41,.load false 1 (.tmp 40),none⟩,⟨some 42,.mv (.tmp 5),none⟩,⟨some 43,.bin .add (.tmp 42) (.const (.int .u64 8)),none⟩,⟨some 44,.mv (.tmp 6),none⟩,⟨some 45,.call 226 [(.tmp 41),(.tmp 43),(.tmp 44)],none⟩]) .skip))
 (.seq (.region [⟨some 4,.mv (.const (.int .i64 0)),none⟩])
 .ret)))))))⟩
theorem k230 : compFn Tryz.prog Tryz.f230 = some c230 := by kernel_rfl
def c231 : AFunc := ⟨[.tmp 4],(.seq (.region [⟨some 4,.mv (.const (.int .u64 0)),none⟩])
 (.seq (.region [⟨some 5,.mv (.tmp 0),none⟩,⟨some 6,.nilCheck (.tmp 5),none⟩,⟨some 7,.faddr 0 (.tmp 6),none⟩,⟨some 8,.faddr 0 (.tmp 7),none⟩,⟨some 9,.load false 1 (.tmp 8),none⟩,⟨some 10,.mv (.tmp 1),none⟩,⟨some 11,.conv .u64 (.tmp 10),none⟩,⟨some 12,.bin .mul (.const (.int .u64 4096)) (.tmp 11),none⟩,⟨some 13,.bin .add (.tmp 9) (.tmp 12),none⟩,⟨some 4,.mv (.tmp 13),none⟩])
 .ret))⟩
theorem k231 : compFn Tryz.prog Tryz.f231 = some c231 := by kernel_rfl
def c232 : AFunc := ⟨[.tmp 2],(.seq (.region [⟨some 2,.mv (.const (.int .i64 0)),none⟩])
 (.seq (.region [⟨some 3,.mv (.tmp 0),none⟩,⟨some 4,.nilCheck (.tmp 3),none⟩,⟨some 5,.faddr 0 (.tmp 4),none⟩,⟨some 6,.load false 1 (.tmp 5),none⟩,⟨some 7,.bin .shl (.const (.int .i64 1)) (.tmp 6),none⟩,⟨some 2,.mv (.tmp 7),none⟩])
 .ret))⟩
theorem k232 : compFn Tryz.prog Tryz.f232 = some c232 := by kernel_rfl
def c233 : AFunc := ⟨[],(.seq (.region [⟨some 4,.mv (.tmp 0),none⟩,⟨some 5,.nilCheck (.tmp 4),none⟩,⟨some 6,.faddr 2 (.tmp 5),none⟩,⟨some 7,.load false 1 (.tmp 6),none⟩,⟨some 8,.lenS (.tmp 7),none⟩,⟨some 9,.mv (.const (.int .i64 0)),none⟩])
 (.block 0 (.loop (.seq (.region [⟨some 10,.bin .lss (.tmp 9) (.tmp 8),none⟩])
 (.seq (.cond (.tmp 10) .skip (.exit 0))
 (.seq (.block 1 (.seq (.region [⟨some 11,.mv (.tmp 9),none⟩,⟨some 12,.iaddrS 1 (.tmp 7) (.tmp 9),none⟩,⟨some 13,.load false 1 (.tmp 12),none⟩,⟨some 2,.mv (.tmp 11),none⟩,⟨some 3,.mv (.tmp 13),none⟩])
 (.region [⟨some 14,.mv (.tmp 3),none⟩,⟨some 15,.mv (.tmp 0),none⟩,⟨some 16,.nilCheck (.tmp 15),none⟩,⟨some 17,.faddr 1 (.tmp 16),none⟩,⟨some 18,.load false 1 (.tmp 17),none⟩,⟨some 19,.lenS (.tmp 18),none⟩,⟨some 20,.mv (.tmp 2),none⟩,⟨some 21,.bin .add (.tmp 20) (.const (.int .i64 1)),none⟩,⟨some 22,.bin .shr (.tmp 19) (.tmp 21),none⟩,⟨some 23,.call 264 [(.tmp 14),(.tmp 22)],none⟩])))
 (.region [⟨some 24,.bin .add (.tmp 9) (.const (.int .i64 1)),none⟩,⟨some 9,.mv (.tmp 24),none⟩])))))))⟩
theorem k233 : compFn Tryz.prog Tryz.f233 = some c233 := by kernel_rfl
def c242 : AFunc := ⟨[.tmp 4,.tmp 5],(.seq (.region [⟨some 4,.mv (.const (.int .i64 0)),none⟩,⟨some 5,.mv (.const (.bool false)),none⟩])
 (.seq (.seq (.draw [⟨⟨some 6,.mv (.tmp 1),none⟩,0,0⟩,⟨⟨some 7,.mv (.tmp 0),none⟩,0,0⟩,⟨⟨some 8,.nilCheck (.tmp 7),none⟩,0,0⟩,⟨⟨some 9,.faddr 0 (.tmp 8),none⟩,0,0⟩,⟨⟨some 10,.faddr 0 (.tmp 9),none⟩,0,0⟩,⟨⟨some 11,.load false 1 (.tmp 10),none⟩,0,0⟩,⟨⟨some 12,.bin .lss (.tmp 6) (.tmp 11),none⟩,0,0⟩,⟨⟨some 13,.mv (.tmp 12),none⟩,0,0⟩,⟨⟨some 14,.mv (.tmp 1),some (13,false)⟩,0,0⟩,⟨⟨some 15,.bin .rem (.tmp 14) (.const (.int .u64 4096)),some (13,false)⟩,0,0⟩,⟨⟨some 16,.bin .neq (.tmp 15) (.const (.int .u64 0)),some (13,false)⟩,0,0⟩,⟨⟨some 17,.pick (.tmp 13) (.const (.bool true)) (.tmp 16),none⟩,0,0⟩,⟨⟨some 18,.mv (.tmp 17),none⟩,0,0⟩,⟨⟨some 19,.mv (.tmp 1),some (18,false)⟩,0,1⟩,⟨⟨some 20,.mv (.tmp 0),some (18,false)⟩,0,1⟩,⟨⟨some 21,.nilCheck (.tmp 20),some (18,false)⟩,0,1⟩,⟨⟨some 22,.faddr 0 (.tmp 21),some (18,false)⟩,0,1⟩,⟨⟨some 23,.faddr 0 (.tmp 22),some (18,false)⟩,0,1⟩,⟨⟨some 24,.load false 1 (.tmp 23),some (18,false)⟩,0,1⟩,⟨⟨some 25,.bin .sub (.tmp 19) (.tmp 24),some (18,false)⟩,0,1⟩,⟨⟨some 26,.bin .quo (.tmp 25) (.const (.int .u64 4096)),some (18,false)⟩,0,1⟩,⟨⟨some 27,.mv (.tmp 0),some (18,false)⟩,0,0⟩,⟨⟨some 28,.nilCheck (.tmp 27),some (18,false)⟩,0,0⟩,⟨⟨some 29,.faddr 4 (.tmp 28),some (18,false)⟩,0,0⟩,⟨⟨some 30,.load false 1 (.tmp 29),some (18,false)⟩,0,0⟩,⟨⟨some 31,.call 79 [(.tmp 30)],some (18,false)⟩,0,1⟩,⟨⟨some 32,.conv .u64 (.tmp 31),some (18,false)⟩,1,1⟩,⟨⟨some 33,.bin .geq (.tmp 26) (.tmp 32),some (18,false)⟩,1,1⟩,⟨⟨some 34,.pick (.tmp 18) (.const (.bool true)) (.tmp 33),none⟩,1,1⟩])
 (.cond (.tmp 34) (.seq (.region [⟨some 4,.mv (.const (.int .i64 0)),none⟩,⟨some 5,.mv (.const (.bool false)),none⟩])
 .ret) .skip))
 (.seq (.region [⟨some 35,.mv (.tmp 1),none⟩,⟨some 36,.mv (.tmp 0),none⟩,⟨some 37,.nilCheck (.tmp 36),none⟩,⟨some 38,.faddr 0 (.tmp 37),none⟩,⟨some 39,.faddr 0 (.tmp 38),none⟩,⟨some 40,.load false 1 (.tmp 39),none⟩,⟨some 41,.bin .sub (.tmp 35) (.tmp 40),none⟩,⟨some 42,.bin .quo (.tmp 41) (.const (.int .u64 4096)),none⟩,⟨some 43,.conv .i64 (.tmp 42),none⟩,⟨some 4,.mv (.tmp 43),none⟩,⟨some 5,.mv (.const (.bool true)),none⟩])
 .ret)))⟩
theorem k242 : compFn Tryz.prog Tryz.f242 = some c242 := by kernel_rfl
def c243 : AFunc := ⟨[],(.seq (.region [⟨some 6,.mv (.tmp 0),none⟩,⟨some 7,.nilCheck (.tmp 6),none⟩,⟨some 8,.faddr 4 (.tmp 7),none⟩,⟨some 9,.load false 1 (.tmp 8),none⟩,⟨some 10,.mv (.tmp 1),none⟩,⟨some 11,.mv (.tmp 2),none⟩,⟨some 12,.call 224 [(.tmp 9),(.tmp 10),(.tmp 11),(.const (.int .i64 0))],none⟩])
 (.draw [⟨⟨some 13,.mv (.tmp 0),none⟩,0,1⟩,⟨⟨some 14,.nilCheck (.tmp 13),none⟩,0,1⟩,⟨⟨some 15,.faddr 5 (.tmp 14),none⟩,0,1⟩,⟨⟨some 16,.load false 1 (.tmp 15),none⟩,0,1⟩,⟨⟨some 17,.mv (.tmp 2),none⟩,0,1⟩,⟨⟨some 18,.iaddrS 1 (.tmp 16) (.tmp 17),none⟩,0,1⟩,⟨⟨some 19,.load false 1 (.tmp 18),none⟩,0,1⟩,⟨⟨some 20,.mv (.tmp 0),none⟩,0,0⟩,⟨⟨some 21,.mv (.tmp 1),none⟩,0,0⟩,⟨⟨some 22,.call 231 [(.tmp 20),(.tmp 21)],none⟩,0,1⟩,⟨⟨some 23,.call 267 [(.tmp 19),(.tmp 22)],none⟩,1,2⟩]))⟩
theorem k243 : compFn Tryz.prog Tryz.f243 = some c243 := by kernel_rfl
def c244 : AFunc := ⟨[.tmp 6],(.seq (.region [⟨some 6,.mv (.const (.bool false)),none⟩])
 (.seq (.seq (.region [⟨some 9,.mv (.tmp 2),none⟩,⟨some 10,.mv (.tmp 0),none⟩,⟨some 11,.nilCheck (.tmp 10),none⟩,⟨some 12,.faddr 0 (.tmp 11),none⟩,⟨some 13,.faddr 2 (.tmp 12),none⟩,⟨some 14,.load false 1 (.tmp 13),none⟩,⟨some 15,.bin .eql (.tmp 9) (.tmp 14),none⟩])
 (.cond (.tmp 15) (.seq (.region [⟨some 6,.mv (.const (.bool true)),none⟩])
 .ret) .skip))
 (.seq (.region [⟨some 17,.mv (.tmp 0),none⟩,⟨some 18,.nilCheck (.tmp 17),none⟩,⟨some 19,.faddr 4 (.tmp 18),none⟩,⟨some 20,.load false 1 (.tmp 19),none⟩,⟨some 21,.mv (.tmp 2),none⟩,⟨some 22,.mv (.tmp 1),none⟩,⟨some 23,.call 268 [(.tmp 20),(.tmp 21),(.tmp 22)],none⟩,⟨some 16,.mv (.tmp 23),none⟩,⟨some 24,.extract (.tmp 16) 0,none⟩,⟨some 25,.extract (.tmp 16) 1,none⟩,⟨some 7,.mv (.tmp 24),none⟩,⟨some 8,.mv (.tmp 25),none⟩])
 (.seq (.region [⟨some 26,.mv (.tmp 7),none⟩,⟨some 6,.mv (.tmp 26),none⟩])
 .ret))))⟩
theorem k244 : compFn Tryz.prog Tryz.f244 = some c244 := by kernel_rfl
def c245 : AFunc := ⟨[.tmp 2],(.seq (.region [⟨some 2,.mv (.const (.int .i64 0)),none⟩])
 (.seq (.seq (.region [⟨some 3,.mv (.tmp 0),none⟩,⟨some 4,.bin .geq (.tmp 3) (.const (.int .u64 4294967296)),none⟩])
 (.cond (.tmp 4) (.seq (.region [⟨some 5,.mv (.tmp 0),none⟩,⟨some 6,.bin .shr (.tmp 5) (.const (.int .u64 32)),none⟩,⟨some 0,.mv (.tmp 6),none⟩])
 (.region [⟨some 2,.mv (.const (.int .i64 32)),none⟩])) .skip))
 (.seq (.seq (.region [⟨some 7,.mv (.tmp 0),none⟩,⟨some 8,.bin .geq (.tmp 7) (.const (.int .u64 65536)),none⟩])
 (.cond (.tmp 8) (.seq (.region [⟨some 9,.mv (.tmp 0),none⟩,⟨some 10,.bin .shr (.tmp 9) (.const (.int .u64 16)),none⟩,⟨some 0,.mv (.tmp 10),none⟩])
 (.region [⟨some 11,.mv (.tmp 2),none⟩,⟨some 12,.bin .add (.tmp 11) (.const (.int .i64 16)),none⟩,⟨some 2,.mv (.tmp 12),none⟩])) .skip))
 (.seq (.seq (.region [⟨some 13,.mv (.tmp 0),none⟩,⟨some 14,.bin .geq (.tmp 13) (.const (.int .u64 256)),none⟩])
 (.cond (.tmp 14) (.seq (.region [⟨some 15,.mv (.tmp 0),none⟩,⟨some 16,.bin .shr (.tmp 15) (.const (.int .u64 8)),none⟩,⟨some 0,.mv (.tmp 16),none⟩])
 (.region [⟨some 17,.mv (.tmp 2),none⟩,⟨some 18,.bin .add (.tmp 17) (.const (.int .i64 8)),none⟩,⟨some 2,.mv (.tmp 18),none⟩])) .skip))
 (.seq (.region [⟨some 19,.mv (.tmp 2),none⟩,⟨some 20,.mv (.tmp 0),none⟩,⟨some 21,.conv .u8 (.tmp 20),none⟩,⟨some 22,.indexS (.const (.str [0,1,2,2,3,3,3,3,4,4,4,4,4,4,4,4,5,5,5,5,5,5,5,5,5,5,5,5,5,5,5,5,6,6,6,6,6,6,6,6,6,6,6,6,6,6,6,6,6,6,6,6,6,6,6,6,6,6,6,6,6,6,6,6,7,7,7,7,7,7,7,7,7,7,7,7,7,7,7,7,7,7,7,7,7,7,7,7,7,7,7,7,7,7,7,7,7,7,7,7,7,7,7,7,7,7,7,7,7,7,7,7,7,7,7,7,7,7,7,7,7,7,7,7,7,7,7,7,8,8,8,8,8,8,8,8,8,8,8,8,8,8,8,8,8,8,8,8,8,8,8,8,8,8,8,8,8,8,8,8,8,8,8,8,8,8,8,8,8,8,8,8,8,8,8,8,8,8,8,8,8,8,8,8,8,8,8,8,8,8,8,8,8,8,8,8,8,8,8,8,8,8,8,8,8,8,8,8,8,8,8,8,8,8,8,8,8,8,8,8,8,8,8,8,8,8,8,8,8,8,8,8,8,8,8,8,8,8,8,8,8,8,8,8,8,8,8,8,8,8,8,8,8,8,8,8])) (.tmp 21),none⟩,⟨some 23,.conv .i64 (.tmp 22),none⟩,⟨some 24,.bin .add (.tmp 19) (.tmp 23),none⟩,⟨some 2,.mv (.tmp 24),none⟩])
 .ret)))))⟩
theorem k245 : compFn Tryz.prog Tryz.f245 = some c245 := by kernel_rfl
def c246 : AFunc := ⟨[.tmp 6],(.seq (.region [⟨some 6,.mv (.const (.int .i64 0)),none⟩])
 (.seq (.draw [⟨⟨some 13,.mv (.tmp 0),none⟩,0,0⟩,⟨⟨some 14,.nilCheck (.tmp 13),none⟩,0,0⟩,⟨⟨some 15,.faddr 0 (.tmp 14),none⟩,0,0⟩,⟨⟨some 16,.load false 1 (.tmp 15),none⟩,0,0⟩,⟨⟨some 17,.nilCheck (.tmp 16),none⟩,0,0⟩,⟨⟨some 18,.faddr 0 (.tmp 17),none⟩,0,0⟩,⟨⟨some 19,.call 78 [(.tmp 18)],none⟩,0,1⟩,⟨⟨some 20,.mv (.tmp 0),none⟩,0,1⟩,⟨⟨some 21,.nilCheck (.tmp 20),none⟩,0,1⟩,⟨⟨some 22,.faddr 0 (.tmp 21),none⟩,0,1⟩,⟨⟨some 23,.load false 1 (.tmp 22),none⟩,0,1⟩,⟨⟨some 24,.nilCheck (.tmp 23),none⟩,0,1⟩,⟨⟨some 25,.faddr 0 (.tmp 24),none⟩,0,1⟩,⟨⟨some 26,.call 75 [(.tmp 25)],none⟩,1,2⟩,⟨⟨some 7,.mv (.tmp 19),none⟩,2,2⟩,⟨⟨some 8,.mv (.tmp 26),none⟩,2,2⟩])
 (.seq (.region [⟨some 27,.mv (.tmp 1),none⟩,⟨some 28,.mv (.tmp 0),none⟩,⟨some 29,.call 222 [(.tmp 28)],none⟩,⟨some 30,.bin .sub (.tmp 27) (.tmp 29),none⟩,⟨some 31,.bin .quo (.tmp 30) (.const (.int .u64 4096)),none⟩,⟨some 32,.conv .i64 (.tmp 31),none⟩,⟨some 9,.mv (.tmp 32),none⟩])
 (.seq (.region [⟨some 33,.mv (.tmp 7),none⟩,⟨some 34,.mv (.tmp 9),none⟩,⟨some 35,.mv (.tmp 2),none⟩,⟨some 36,.call 269 [(.tmp 33),(.tmp 34),(.tmp 35)],none⟩])
 (.seq (.region [⟨some 37,.mv (.tmp 2),none⟩,⟨some 38,.iaddrA 8 1 (.glob 0) (.tmp 37),none⟩,⟨some 39,.load false 1 (.tmp 38),none⟩,⟨some 40,.bin .quo (.const (.int .u64 4096)) (.tmp 39),none⟩,⟨some 10,.mv (.tmp 40),none⟩])
 (.seq (.seq (.region [⟨some 41,.mv (.tmp 10),none⟩,⟨some 42,.mv (.const (.int .u64 0)),none⟩])
 (.block 0 (.loop (.seq (.region [⟨some 43,.bin .lss (.tmp 42) (.tmp 41),none⟩])
 (.seq (.cond (.tmp 43) .skip (.exit 0))
 (.seq (.block 1 (.seq (.region [⟨some 44,.mv (.tmp 42),none⟩,⟨some 11,.mv (.tmp 44),none⟩])
 (.seq (.region [⟨some 45,.mv (.tmp 1),none⟩,⟨some 46,.mv (.tmp 11),none⟩,⟨some 47,.bin .add (.tmp 46) (.const (.int .u64 1)),none⟩,⟨some 48,.mv (.tmp 2),none⟩,⟨some 49,.iaddrA 8 1 (.glob 0) (.tmp 48),none⟩,⟨some 50,.load false 1 (.tmp 49),none⟩,⟨some 51,.bin .mul (.tmp 47) (.tmp 50),none⟩,⟨some 52,.bin .add (.tmp 45) (.tmp 51),none⟩,⟨some 12,.mv (.tmp 52),none⟩])
 (.seq (.seq (.region [⟨some 53,.mv (.tmp 11),none⟩,⟨some 54,.bin .add (.tmp 53) (.const (.int .u64 1)),none⟩,⟨some 55,.mv (.tmp 10),none⟩,⟨some 56,.bin .eql (.tmp 54) (.tmp 55),none⟩])
 (.cond (.tmp 56) (.region [⟨some 12,.mv (.const (.int .u64 0)),none⟩]) .skip))
 (.region [⟨some 57,.mv (.tmp 8),none⟩,⟨some 58,.mv (.tmp 1),none⟩,⟨some 59,.mv (.tmp 11),none⟩,⟨some 60,.mv (.tmp 2),none⟩,⟨some 61,.iaddrA 8 1 (.glob 0) (.tmp 60),none⟩,⟨some 62,.load false 1 (.tmp 61),none⟩,⟨some 63,.bin .mul (.tmp 59) (.tmp 62),none⟩,⟨some 64,.bin .add (.tmp 58) (.tmp 63),none⟩,⟨some 65,.mv (.tmp 12),none⟩,⟨some 66,.call 226 [(.tmp 57),(.tmp 64),(.tmp 65)],none⟩])))))
 (.region [⟨some 67,.bin .add (.tmp 42) (.const (.int .u64 1)),none⟩,⟨some 42,.mv (.tmp 67),none⟩])))))))
 (.seq (.region [⟨some 68,.mv (.tmp 7),none⟩,⟨some 69,.mv (.tmp 9),none⟩,⟨some 70,.call 227 [(.tmp 68),(.tmp 69),(.const (.int .i64 0))],none⟩])
 (.seq (.region [⟨some 71,.mv (.tmp 0),none⟩,⟨some 72,.mv (.tmp 9),none⟩,⟨some 73,.mv (.tmp 2),none⟩,⟨some 74,.call 225 [(.tmp 71),(.tmp 72),(.tmp 73)],none⟩])
 (.seq (.region [⟨some 75,.mv (.tmp 9),none⟩,⟨some 6,.mv (.tmp 75),none⟩])
 .ret)))))))))⟩
theorem k246 : compFn Tryz.prog Tryz.f246 = some c246 := by kernel_rfl
def c247 : AFunc := ⟨[.tmp 4,.cell 5 false 1],(.seq (.region [⟨some 4,.mv (.const (.int .u64 0)),none⟩,⟨some 5,.alloc [(.int .i64 0)],none⟩])
 (.seq (.region [⟨some 8,.makeFunc 270 [] [(.tmp 5)],none⟩,⟨none,.deferv (.tmp 8) [],none⟩])
 (.seq (.region [⟨some 9,.mv (.tmp 0),none⟩,⟨some 10,.mv (.tmp 1),none⟩,⟨some 11,.call 135 [(.tmp 9),(.tmp 10),(.const (.int .u64 8))],none⟩])
 (.seq (.region [⟨some 6,.alloc [(.int .u8 0),(.int .u8 0),(.int .u8 0),(.int .u8 0),(.int .u8 0),(.int .u8 0),(.int .u8 0),(.int .u8 0)],none⟩])
 (.seq (.region [⟨some 12,.mv (.tmp 0),none⟩,⟨some 13,.mv (.tmp 1),none⟩,⟨some 14,.sliceArr 8 1 (.tmp 6) none none,none⟩,⟨some 15,.call 136 [(.tmp 12),(.tmp 13),(.tmp 14)],none⟩])
 (.seq (.seq (.region [⟨some 16,.mv (.const (.int .i64 0)),none⟩])
 (.block 0 (.loop (.seq (.region [⟨some 17,.bin .lss (.tmp 16) (.const (.int .i64 8)),none⟩])
 (.seq (.cond (.tmp 17) .skip (.exit 0))
 (.seq (.block 1 (.seq (.region [⟨some 18,.mv (.tmp 16),none⟩,⟨some 7,.mv (.tmp 18),none⟩])
 (.region [⟨some 19,.mv (.tmp 4),none⟩,⟨some 20,.mv (.tmp 7),none⟩,⟨some 21,.iaddrA 8 1 (.tmp 6) (.tmp 20),none⟩,⟨some 22,.load false 1 (.tmp 21),none⟩,⟨some 23,.conv .u64 (.tmp 22),none⟩,⟨some 24,.mv (.tmp 7),none⟩,⟨some 25,.bin .mul (.const (.int .i64 8)) (.tmp 24),none⟩,⟨some 26,.bin .shl (.tmp 23) (.tmp 25),none⟩,⟨some 27,.bin .or (.tmp 19) (.tmp 26),none⟩,⟨some 4,.mv (.tmp 27),none⟩])))
 (.region [⟨some 28,.bin .add (.tmp 16) (.const (.int .i64 1)),none⟩,⟨some 16,.mv (.tmp 28),none⟩])))))))
 (.seq (.region [⟨some 29,.mv (.tmp 4),none⟩,⟨some 4,.mv (.tmp 29),none⟩,⟨none,.store 1 (.tmp 5) (.const (.int .i64 0)),none⟩])
 .ret)))))))⟩
theorem k247 : compFn Tryz.prog Tryz.f247 = some c247 := by kernel_rfl
def c248 : AFunc := ⟨[.tmp 4,.tmp 5],(.seq (.region [⟨some 4,.mv (.const (.int .u64 0)),none⟩,⟨some 5,.mv (.const (.int .i64 0)),none⟩])
 (.seq (.seq (.region [⟨some 11,.mv (.tmp 1),none⟩,⟨some 12,.bin .lss (.tmp 11) (.const (.int .i64 0)),none⟩,⟨some 13,.mv (.tmp 12),none⟩,⟨some 14,.mv (.tmp 1),some (13,false)⟩,⟨some 15,.mv (.tmp 0),some (13,false)⟩,⟨some 16,.nilCheck (.tmp 15),some (13,false)⟩,⟨some 17,.faddr 0 (.tmp 16),some (13,false)⟩,⟨some 18,.faddr 2 (.tmp 17),some (13,false)⟩,⟨some 19,.load false 1 (.tmp 18),some (13,false)⟩,⟨some 20,.bin .gtr (.tmp 14) (.tmp 19),some (13,false)⟩,⟨some 21,.pick (.tmp 13) (.const (.bool true)) (.tmp 20),none⟩])
 (.cond (.tmp 21) (.seq (.region [⟨some 4,.mv (.const (.int .u64 0)),none⟩,⟨some 5,.mv (.const (.int .i64 1)),none⟩])
 .ret) .skip))
 (.seq (.seq (.region [⟨some 22,.mv (.tmp 1),none⟩,⟨some 6,.mv (.tmp 22),none⟩])
 (.block 0 (.loop (.seq (.seq (.region [⟨some 23,.mv (.tmp 6),none⟩,⟨some 24,.mv (.tmp 0),none⟩,⟨some 25,.nilCheck (.tmp 24),none⟩,⟨some 26,.faddr 0 (.tmp 25),none⟩,⟨some 27,.faddr 2 (.tmp 26),none⟩,⟨some 28,.load false 1 (.tmp 27),none⟩,⟨some 29,.bin .leq (.tmp 23) (.tmp 28),none⟩])
 (.cond (.tmp 29) .skip (.exit 0)))
 (.seq (.block 1 (.seq (.region [⟨some 33,.mv (.tmp 0),none⟩,⟨some 34,.nilCheck (.tmp 33),none⟩,⟨some 35,.faddr 5 (.tmp 34),none⟩,⟨some 36,.load false 1 (.tmp 35),none⟩,⟨some 37,.mv (.tmp 6),none⟩,⟨some 38,.iaddrS 1 (.tmp 36) (.tmp 37),none⟩,⟨some 39,.load false 1 (.tmp 38),none⟩,⟨some 40,.call 271 [(.tmp 39)],none⟩,⟨some 32,.mv (.tmp 40),none⟩,⟨some 41,.extract (.tmp 32) 0,none⟩,⟨some 42,.extract (.tmp 32) 1,none⟩,⟨some 7,.mv (.tmp 41),none⟩,⟨some 8,.mv (.tmp 42),none⟩])
 (.seq (.seq (.region [⟨some 43,.mv (.tmp 8),none⟩,⟨some 44,.bin .eql (.tmp 43) (.const (.int .i64 9)),none⟩])
 (.cond (.tmp 44) (.exit 1) .skip))
 (.seq (.region [⟨some 46,.mv (.tmp 0),none⟩,⟨some 47,.mv (.tmp 7),none⟩,⟨some 48,.call 242 [(.tmp 46),(.tmp 47)],none⟩,⟨some 45,.mv (.tmp 48),none⟩,⟨some 49,.extract (.tmp 45) 0,none⟩,⟨some 50,.extract (.tmp 45) 1,none⟩,⟨some 9,.mv (.tmp 49),none⟩,⟨some 10,.mv (.tmp 50),none⟩])
 (.seq (.seq (.region [⟨some 51,.mv (.tmp 8),none⟩,⟨some 52,.bin .neq (.tmp 51) (.const (.int .i64 0)),none⟩,⟨some 53,.mv (.tmp 52),none⟩,⟨some 54,.mv (.tmp 10),some (53,false)⟩,⟨some 55,.not (.tmp 54),some (53,false)⟩,⟨some 56,.pick (.tmp 53) (.const (.bool true)) (.tmp 55),none⟩])
 (.cond (.tmp 56) (.seq (.region [⟨some 4,.mv (.const (.int .u64 0)),none⟩,⟨some 5,.mv (.const (.int .i64 8)),none⟩])
 .ret) .skip))
 (.seq (.region [⟨some 57,.mv (.tmp 0),none⟩,⟨some 58,.mv (.tmp 9),none⟩,⟨some 59,.mv (.tmp 6),none⟩,⟨some 60,.call 244 [(.tmp 57),(.tmp 58),(.tmp 59)],none⟩])
 (.seq (.region [⟨some 61,.mv (.tmp 0),none⟩,⟨some 62,.mv (.tmp 9),none⟩,⟨some 63,.mv (.tmp 6),none⟩,⟨some 64,.mv (.tmp 1),none⟩,⟨some 65,.call 201 [(.tmp 61),(.tmp 62),(.tmp 63),(.tmp 64)],none⟩])
 (.seq (.region [⟨some 66,.mv (.tmp 7),none⟩,⟨some 4,.mv (.tmp 66),none⟩,⟨some 5,.mv (.const (.int .i64 0)),none⟩])
 .ret))))))))
 (.region [⟨some 30,.mv (.tmp 6),none⟩,⟨some 31,.bin .add (.tmp 30) (.const (.int .i64 1)),none⟩,⟨some 6,.mv (.tmp 31),none⟩]))))))
 (.seq (.region [⟨some 4,.mv (.const (.int .u64 0)),none⟩,⟨some 5,.mv (.const (.int .i64 2)),none⟩])
 .ret))))⟩
theorem k248 : compFn Tryz.prog Tryz.f248 = some c248 := by kernel_rfl
def c249 : AFunc := ⟨[.tmp 4,.tmp 5],(.seq (.region [⟨some 4,.mv (.const (.int .u64 0)),none⟩,⟨some 5,.mv (.const (.int .i64 0)),none⟩])
 (.seq (.seq (.draw [⟨⟨some 7,.mv (.tmp 1),none⟩,0,0⟩,⟨⟨some 8,.mv (.tmp 7),none⟩,0,0⟩,⟨⟨some 9,.mv (.tmp 0),some (8,false)⟩,0,0⟩,⟨⟨some 10,.nilCheck (.tmp 9),some (8,false)⟩,0,0⟩,⟨⟨some 11,.faddr 4 (.tmp 10),some (8,false)⟩,0,0⟩,⟨⟨some 12,.load false 1 (.tmp 11),some (8,false)⟩,0,0⟩,⟨⟨some 13,.lenS (.tmp 12),some (8,false)⟩,0,0⟩,⟨⟨some 14,.mv (.tmp 0),some (8,false)⟩,0,0⟩,⟨⟨some 15,.nilCheck (.tmp 14),some (8,false)⟩,0,0⟩,⟨⟨some 16,.faddr 0 (.tmp 15),some (8,false)⟩,0,0⟩,⟨⟨some 17,.faddr 1 (.tmp 16),some (8,false)⟩,0,0⟩,⟨⟨some 18,.load false 1 (.tmp 17),some (8,false)⟩,0,0⟩,⟨⟨some 19,.bin .eql (.tmp 13) (.tmp 18),some (8,false)⟩,0,0⟩,⟨⟨some 20,.pick (.tmp 8) (.const (.bool true)) (.tmp 19),none⟩,0,0⟩])
 (.cond (.tmp 20) (.seq (.region [⟨some 4,.mv (.const (.int .u64 0)),none⟩,⟨some 5,.mv (.const (.int .i64 2)),none⟩])
 .ret) .skip))
 (.seq (.region [⟨some 21,.mv (.tmp 0),none⟩,⟨some 22,.call 76 [(.tmp 21)],none⟩,⟨some 6,.mv (.tmp 22),none⟩])
 (.seq (.draw [⟨⟨some 23,.mv (.tmp 0),none⟩,0,3⟩,⟨⟨some 24,.mv (.tmp 0),none⟩,0,2⟩,⟨⟨some 25,.nilCheck (.tmp 24),none⟩,0,2⟩,⟨⟨some 26,.faddr 4 (.tmp 25),none⟩,0,2⟩,⟨⟨some 27,.load false 1 (.tmp 26),none⟩,0,2⟩,⟨⟨some 28,.mv (.tmp 0),none⟩,0,0⟩,⟨⟨some 29,.nilCheck (.tmp 28),none⟩,0,0⟩,⟨⟨some 30,.faddr 3 (.tmp 29),none⟩,0,0⟩,⟨⟨some 31,.load false 1 (.tmp 30),none⟩,0,0⟩,⟨⟨some 32,.makeSlice 1 1 [(.int .u8 0)] (.tmp 31) (.tmp 31),none⟩,0,1⟩,⟨⟨some 33,.mkSlice 1 1 [(.slice none 0 0)] [(0,1,(.tmp 32))],none⟩,1,2⟩,⟨⟨some 34,.append 1 24 (.tmp 27) (.tmp 33),none⟩,2,3⟩,⟨⟨some 35,.nilCheck (.tmp 23),none⟩,3,3⟩,⟨⟨some 36,.faddr 4 (.tmp 35),none⟩,3,3⟩,⟨⟨none,.store 1 (.tmp 36) (.tmp 34),none⟩,3,4⟩])
 (.seq (.region [⟨some 37,.mv (.tmp 6),none⟩,⟨some 4,.mv (.tmp 37),none⟩,⟨some 5,.mv (.const (.int .i64 0)),none⟩])
 .ret)))))⟩
theorem k249 : compFn Tryz.prog Tryz.f249 = some c249 := by kernel_rfl
def c250 : AFunc := ⟨[],(.seq (.region [⟨some 3,.mv (.tmp 0),none⟩,⟨some 4,.nilCheck (.tmp 3),none⟩,⟨some 5,.faddr 1 (.tmp 4),none⟩,⟨some 6,.load false 1 (.tmp 5),none⟩,⟨some 7,.lenS (.tmp 6),none⟩,⟨some 2,.mv (.tmp 7),none⟩])
 (.seq (.seq (.region [⟨some 8,.mv (.tmp 2),none⟩,⟨some 9,.mv (.tmp 0),none⟩,⟨some 10,.call 232 [(.tmp 9)],none⟩,⟨some 11,.bin .add (.tmp 8) (.tmp 10),none⟩,⟨some 12,.bin .gtr (.tmp 11) (.const (.int .i64 1024)),none⟩])
 (.cond (.tmp 12) .ret .skip))
 (.seq (.draw [⟨⟨some 13,.mv (.tmp 0),none⟩,0,2⟩,⟨⟨some 14,.mv (.tmp 0),none⟩,0,1⟩,⟨⟨some 15,.nilCheck (.tmp 14),none⟩,0,1⟩,⟨⟨some 16,.faddr 1 (.tmp 15),none⟩,0,1⟩,⟨⟨some 17,.load false 1 (.tmp 16),none⟩,0,1⟩,⟨⟨some 18,.mv (.tmp 0),none⟩,0,0⟩,⟨⟨some 19,.call 232 [(.tmp 18)],none⟩,0,1⟩,⟨⟨some 20,.appendZ 11 88 [(.int .i64 0),(.int .i64 0),(.int .i64 0),(.int .i64 0),(.int .i64 0),(.int .i64 0),(.int .i64 0),(.int .u64 0),(.int .u64 0),(.int .u64 0),(.int .u64 0)] (.tmp 17) (.tmp 19),none⟩,1,2⟩,⟨⟨some 21,.nilCheck (.tmp 13),none⟩,2,2⟩,⟨⟨some 22,.faddr 1 (.tmp 21),none⟩,2,2⟩,⟨⟨none,.store 1 (.tmp 22) (.tmp 20),none⟩,2,3⟩])
 (.seq (.region [⟨some 23,.mv (.tmp 0),none⟩,⟨some 24,.call 233 [(.tmp 23)],none⟩])
 (.region [⟨some 25,.mv (.tmp 0),none⟩,⟨some 26,.mv (.tmp 2),none⟩,⟨some 27,.mv (.tmp 0),none⟩,⟨some 28,.nilCheck (.tmp 27),none⟩,⟨some 29,.faddr 0 (.tmp 28),none⟩,⟨some 30,.load false 1 (.tmp 29),none⟩,⟨some 31,.call 224 [(.tmp 25),(.tmp 26),(.tmp 30),(.const (.int .i64 2))],none⟩])))))⟩
theorem k250 : compFn Tryz.prog Tryz.f250 = some c250 := by kernel_rfl
def c251 : AFunc := ⟨[.tmp 2],(.seq (.region [⟨some 2,.mv (.const (.int .i64 0)),none⟩])
 (.seq (.region [⟨some 7,.mv (.tmp 0),none⟩,⟨some 8,.call 229 [(.tmp 7)],none⟩,⟨some 6,.mv (.tmp 8),none⟩,⟨some 9,.extract (.tmp 6) 0,none⟩,⟨some 10,.extract (.tmp 6) 1,none⟩,⟨some 3,.mv (.tmp 9),none⟩,⟨some 4,.mv (.tmp 10),none⟩])
 (.seq (.seq (.region [⟨some 11,.mv (.tmp 4),none⟩,⟨some 12,.not (.tmp 11),none⟩])
 (.cond (.tmp 12) (.seq (.region [⟨some 2,.mv (.const (.int .i64 9)),none⟩])
 .ret) .skip))
 (.seq (.draw [⟨⟨some 13,.mv (.tmp 0),none⟩,0,1⟩,⟨⟨some 14,.mv (.tmp 0),none⟩,0,0⟩,⟨⟨some 15,.mv (.tmp 3),none⟩,0,0⟩,⟨⟨some 16,.call 231 [(.tmp 14),(.tmp 15)],none⟩,0,1⟩,⟨⟨some 17,.mv (.tmp 0),none⟩,0,1⟩,⟨⟨some 18,.nilCheck (.tmp 17),none⟩,0,1⟩,⟨⟨some 19,.faddr 0 (.tmp 18),none⟩,0,1⟩,⟨⟨some 20,.faddr 2 (.tmp 19),none⟩,0,1⟩,⟨⟨some 21,.load false 1 (.tmp 20),none⟩,0,1⟩,⟨⟨some 22,.call 228 [(.tmp 13),(.tmp 16),(.tmp 21)],none⟩,1,2⟩,⟨⟨some 5,.mv (.tmp 22),none⟩,2,2⟩])
 (.seq (.region [⟨some 23,.mv (.tmp 5),none⟩,⟨some 24,.bin .eql (.tmp 23) (.const (.int .i64 1)),none⟩])
 (.cond (.tmp 24) (.seq (.region [⟨some 2,.mv (.const (.int .i64 9)),none⟩])
 .ret) (.seq (.region [⟨some 25,.mv (.tmp 5),none⟩,⟨some 2,.mv (.tmp 25),none⟩])
 .ret)))))))⟩
theorem k251 : compFn Tryz.prog Tryz.f251 = some c251 := by kernel_rfl
def c253 : AFunc := ⟨[.tmp 2,.tmp 3],(.seq (.region [⟨some 2,.mv (.const (.int .i64 0)),none⟩,⟨some 3,.mv (.const (.int .i64 0)),none⟩])
 (.seq (.region [⟨some 4,.mv (.tmp 0),none⟩,⟨some 5,.maxmin false [(.tmp 4),(.const (.int .i64 1048576))],none⟩,⟨some 6,.maxmin true [(.const (.int .i64 0)),(.tmp 5)],none⟩,⟨some 0,.mv (.tmp 6),none⟩])
 (.seq (.region [⟨some 7,.mv (.tmp 0),none⟩,⟨some 8,.mv (.tmp 0),none⟩,⟨some 9,.bin .add (.tmp 8) (.const (.int .i64 63)),none⟩,⟨some 10,.bin .quo (.tmp 9) (.const (.int .i64 64)),none⟩,⟨some 2,.mv (.tmp 7),none⟩,⟨some 3,.mv (.tmp 10),none⟩])
 .ret)))⟩
theorem k253 : compFn Tryz.prog Tryz.f253 = some c253 := by kernel_rfl
def c254 : AFunc := ⟨[],(.seq (.region [⟨some 2,.mv (.tmp 0),none⟩,⟨some 3,.nilCheck (.tmp 2),none⟩,⟨some 4,.faddr 0 (.tmp 3),none⟩,⟨some 5,.load false 1 (.tmp 4),none⟩,⟨some 6,.bin .rem (.tmp 5) (.const (.int .i64 64)),none⟩,⟨some 7,.bin .neq (.tmp 6) (.const (.int .i64 0)),none⟩])
 (.cond (.tmp 7) (.draw [⟨⟨some 8,.mv (.tmp 0),none⟩,0,0⟩,⟨⟨some 9,.nilCheck (.tmp 8),none⟩,0,0⟩,⟨⟨some 10,.faddr 1 (.tmp 9),none⟩,0,0⟩,⟨⟨some 11,.load false 1 (.tmp 10),none⟩,0,0⟩,⟨⟨some 12,.mv (.tmp 0),none⟩,0,0⟩,⟨⟨some 13,.nilCheck (.tmp 12),none⟩,0,0⟩,⟨⟨some 14,.faddr 1 (.tmp 13),none⟩,0,0⟩,⟨⟨some 15,.load false 1 (.tmp 14),none⟩,0,0⟩,⟨⟨some 16,.lenS (.tmp 15),none⟩,0,0⟩,⟨⟨some 17,.bin .sub (.tmp 16) (.const (.int .i64 1)),none⟩,0,0⟩,⟨⟨some 18,.iaddrS 1 (.tmp 11) (.tmp 17),none⟩,0,0⟩,⟨⟨some 19,.load false 1 (.tmp 18),none⟩,0,0⟩,⟨⟨some 20,.mv (.tmp 0),none⟩,0,0⟩,⟨⟨some 21,.nilCheck (.tmp 20),none⟩,0,0⟩,⟨⟨some 22,.faddr 0 (.tmp 21),none⟩,0,0⟩,⟨⟨some 23,.load false 1 (.tmp 22),none⟩,0,0⟩,⟨⟨some 24,.bin .rem (.tmp 23) (.const (.int .i64 64)),none⟩,0,0⟩,⟨⟨some 25,.bin .shl (.const (.int .u64 1)) (.tmp 24),none⟩,0,0⟩,⟨⟨some 26,.bin .sub (.tmp 25) (.const (.int .u64 1)),none⟩,0,0⟩,⟨⟨some 27,.bin .and (.tmp 19) (.tmp 26),none⟩,0,0⟩,⟨⟨some 28,.iaddrS 1 (.tmp 11) (.tmp 17),none⟩,0,0⟩,⟨⟨none,.store 1 (.tmp 28) (.tmp 27),none⟩,0,1⟩]) .skip))⟩
theorem k254 : compFn Tryz.prog Tryz.f254 = some c254 := by kernel_rfl
def c255 : AFunc := ⟨[.tmp 4,.tmp 5],(.seq (.region [⟨some 4,.mv (.const (.ptr none)),none⟩,⟨some 5,.mv (.const (.bool false)),none⟩])
 (.seq (.seq (.region [⟨some 9,.mv (.tmp 0),none⟩,⟨some 10,.mv (.tmp 1),none⟩,⟨some 11,.call 80 [(.tmp 9),(.tmp 10)],none⟩,⟨some 8,.mv (.tmp 11),none⟩,⟨some 12,.extract (.tmp 8) 0,none⟩,⟨some 13,.extract (.tmp 8) 1,none⟩,⟨some 6,.alloc [(.int .i64 0),(.int .i64 0),(.int .i64 0),(.int .i64 0),(.int .i64 0),(.int .i64 0),(.int .i64 0),(.int .u64 0),(.int .u64 0),(.int .u64 0),(.int .u64 0)],none⟩,⟨none,.store 11 (.tmp 6) (.tmp 12),none⟩,⟨some 7,.mv (.tmp 13),none⟩])
 (.seq (.region [⟨some 14,.mv (.tmp 7),none⟩,⟨some 15,.not (.tmp 14),none⟩,⟨some 16,.mv (.tmp 15),none⟩,⟨some 17,.faddr 0 (.tmp 6),some (16,false)⟩,⟨some 18,.load false 1 (.tmp 17),some (16,false)⟩,⟨some 19,.bin .neq (.tmp 18) (.const (.int .i64 4)),some (16,false)⟩,⟨some 20,.pick (.tmp 16) (.const (.bool true)) (.tmp 19),none⟩])
 (.cond (.tmp 20) (.seq (.region [⟨some 4,.mv (.const (.ptr none)),none⟩,⟨some 5,.mv (.const (.bool false)),none⟩])
 .ret) .skip)))
 (.seq (.region [⟨some 21,.mv (.tmp 0),none⟩,⟨some 22,.nilCheck (.tmp 21),none⟩,⟨some 23,.faddr 1 (.tmp 22),none⟩,⟨some 24,.load false 1 (.tmp 23),none⟩,⟨some 25,.mv (.tmp 1),none⟩,⟨some 26,.iaddrS 11 (.tmp 24) (.tmp 25),none⟩,⟨some 4,.mv (.tmp 26),none⟩,⟨some 5,.mv (.const (.bool true)),none⟩])
 .ret)))⟩
theorem k255 : compFn Tryz.prog Tryz.f255 = some c255 := by kernel_rfl
def c256 : AFunc := ⟨[.tmp 6],(.seq (.region [⟨some 6,.mv (.const (.bool false)),none⟩])
 (.seq (.region [⟨some 7,.mv (.tmp 0),none⟩,⟨some 8,.mv (.tmp 1),none⟩,⟨some 9,.bin .geq (.tmp 7) (.tmp 8),none⟩,⟨some 10,.mv (.tmp 9),none⟩,⟨some 11,.mv (.tmp 0),some (10,true)⟩,⟨some 12,.mv (.tmp 2),some (10,true)⟩,⟨some 13,.bin .leq (.tmp 11) (.tmp 12),some (10,true)⟩,⟨some 14,.pick (.tmp 10) (.tmp 13) (.const (.bool false)),none⟩,⟨some 6,.mv (.tmp 14),none⟩])
 .ret))⟩
theorem k256 : compFn Tryz.prog Tryz.f256 = some c256 := by kernel_rfl
def c257 : AFunc := ⟨[.tmp 2],(.seq (.region [⟨some 2,.mv (.const (.int .i64 0)),none⟩])
 (.seq (.region [⟨some 3,.mv (.tmp 0),none⟩,⟨some 4,.nilCheck (.tmp 3),none⟩,⟨some 5,.faddr 2 (.tmp 4),none⟩,⟨some 6,.load false 1 (.tmp 5),none⟩,⟨some 7,.bin .shr (.const (.int .i64 256)) (.tmp 6),none⟩,⟨some 2,.mv (.tmp 7),none⟩])
 .ret))⟩
theorem k257 : compFn Tryz.prog Tryz.f257 = some c257 := by kernel_rfl
def c258 : AFunc := ⟨[.tmp 8],(.seq (.region [⟨some 8,.mv (.const (.int .i64 0)),none⟩])
 (.seq (.region [⟨some 12,.mv (.tmp 0),none⟩,⟨some 13,.mv (.tmp 1),none⟩,⟨some 14,.call 255 [(.tmp 12),(.tmp 13)],none⟩,⟨some 11,.mv (.tmp 14),none⟩,⟨some 15,.extract (.tmp 11) 0,none⟩,⟨some 16,.extract (.tmp 11) 1,none⟩,⟨some 9,.mv (.tmp 15),none⟩,⟨some 10,.mv (.tmp 16),none⟩])
 (.seq (.seq (.region [⟨some 17,.mv (.tmp 10),none⟩,⟨some 18,.not (.tmp 17),none⟩,⟨some 19,.mv (.tmp 18),none⟩,⟨some 20,.mv (.tmp 2),some (19,false)⟩,⟨some 21,.mv (.tmp 0),some (19,false)⟩,⟨some 22,.nilCheck (.tmp 21),some (19,false)⟩,⟨some 23,.faddr 1 (.tmp 22),some (19,false)⟩,⟨some 24,.load false 1 (.tmp 23),some (19,false)⟩,⟨some 25,.lenS (.tmp 24),some (19,false)⟩,⟨some 26,.bin .sub (.tmp 25) (.const (.int .i64 1)),some (19,false)⟩,⟨some 27,.call 256 [(.tmp 20),(.const (.int .i64 (-1))),(.tmp 26)],some (19,false)⟩,⟨some 28,.not (.tmp 27),some (19,false)⟩,⟨some 29,.pick (.tmp 19) (.const (.bool true)) (.tmp 28),none⟩,⟨some 30,.mv (.tmp 29),none⟩,⟨some 31,.mv (.tmp 3),some (30,false)⟩,⟨some 32,.mv (.tmp 0),some (30,false)⟩,⟨some 33,.nilCheck (.tmp 32),some (30,false)⟩,⟨some 34,.faddr 1 (.tmp 33),some (30,false)⟩,⟨some 35,.load false 1 (.tmp 34),some (30,false)⟩,⟨some 36,.lenS (.tmp 35),some (30,false)⟩,⟨some 37,.bin .sub (.tmp 36) (.const (.int .i64 1)),some (30,false)⟩,⟨some 38,.call 256 [(.tmp 31),(.const (.int .i64 (-1))),(.tmp 37)],some (30,false)⟩,⟨some 39,.not (.tmp 38),some (30,false)⟩,⟨some 40,.pick (.tmp 30) (.const (.bool true)) (.tmp 39),none⟩])
 (.cond (.tmp 40) (.seq (.region [⟨some 8,.mv (.const (.int .i64 1)),none⟩])
 .ret) .skip))
 (.seq (.region [⟨some 41,.mv (.tmp 9),none⟩,⟨some 42,.mv (.tmp 9),none⟩,⟨some 43,.mv (.tmp 2),none⟩,⟨some 44,.mv (.tmp 3),none⟩,⟨some 45,.nilCheck (.tmp 41),none⟩,⟨some 46,.faddr 4 (.tmp 45),none⟩,⟨none,.store 1 (.tmp 46) (.tmp 43),none⟩,⟨some 47,.nilCheck (.tmp 42),none⟩,⟨some 48,.faddr 5 (.tmp 47),none⟩,⟨none,.store 1 (.tmp 48) (.tmp 44),none⟩])
 (.seq (.region [⟨some 8,.mv (.const (.int .i64 0)),none⟩])
 .ret)))))⟩
theorem k258 : compFn Tryz.prog Tryz.f258 = some c258 := by kernel_rfl
def c259 : AFunc := ⟨[.cell 4 true 11],(.seq (.region [⟨some 4,.alloc [(.int .i64 0),(.int .i64 0),(.int .i64 0),(.int .i64 0),(.int .i64 0),(.int .i64 0),(.int .i64 0),(.int .u64 0),(.int .u64 0),(.int .u64 0),(.int .u64 0)],none⟩])
 (.seq (.region [⟨some 5,.mv (.tmp 0),none⟩,⟨some 6,.mv (.tmp 1),none⟩,⟨some 7,.build [(.int .i64 0),(.int .i64 0),(.int .i64 0),(.int .i64 0),(.int .i64 0),(.int .i64 0),(.int .i64 0),(.int .u64 0),(.int .u64 0),(.int .u64 0),(.int .u64 0)] [(0,1,(.tmp 5)),(1,1,(.tmp 6)),(4,1,(.const (.int .i64 (-1)))),(5,1,(.const (.int .i64 (-1)))),(6,1,(.const (.int .i64 (-1))))],none⟩,⟨none,.store 11 (.tmp 4) (.tmp 7),none⟩])
 .ret))⟩
theorem k259 : compFn Tryz.prog Tryz.f259 = some c259 := by kernel_rfl
def c260 : AFunc := ⟨[],(.regionR (some 1) [⟨some 2,.call 134 [(.tmp 1),(.tmp 0)],none⟩])⟩
theorem k260 : compFn Tryz.prog Tryz.f260 = some c260 := by kernel_rfl
def c261 : AFunc := ⟨[.tmp 2],(.seq (.region [⟨some 2,.mv (.const (.int .i64 0)),none⟩])
 (.seq (.region [⟨some 3,.mv (.tmp 0),none⟩,⟨some 4,.nilCheck (.tmp 3),none⟩,⟨some 5,.faddr 4 (.tmp 4),none⟩,⟨some 6,.load false 1 (.tmp 5),none⟩,⟨some 7,.lenS (.tmp 6),none⟩,⟨some 2,.mv (.tmp 7),none⟩])
 .ret))⟩
theorem k261 : compFn Tryz.prog Tryz.f261 = some c261 := by kernel_rfl
def c262 : AFunc := ⟨[.tmp 4,.tmp 5,.tmp 6],(.seq (.region [⟨some 4,.mv (.const (.int .u64 0)),none⟩,⟨some 5,.mv (.const (.int .u64 0)),none⟩,⟨some 6,.mv (.const (.bool false)),none⟩])
 (.seq (.region [⟨some 10,.mv (.tmp 0),none⟩,⟨some 11,.nilCheck (.tmp 10),none⟩,⟨some 12,.faddr 0 (.tmp 11),none⟩,⟨some 13,.load false 1 (.tmp 12),none⟩,⟨some 14,.mv (.tmp 1),none⟩,⟨some 15,.call 247 [(.tmp 13),(.tmp 14)],none⟩,⟨some 9,.mv (.tmp 15),none⟩,⟨some 16,.extract (.tmp 9) 0,none⟩,⟨some 17,.extract (.tmp 9) 1,none⟩,⟨some 4,.mv (.tmp 16),none⟩,⟨some 7,.mv (.tmp 17),none⟩])
 (.seq (.seq (.region [⟨some 18,.mv (.tmp 7),none⟩,⟨some 19,.bin .neq (.tmp 18) (.const (.int .i64 0)),none⟩])
 (.cond (.tmp 19) (.seq (.region [⟨some 4,.mv (.const (.int .u64 0)),none⟩,⟨some 5,.mv (.const (.int .u64 0)),none⟩,⟨some 6,.mv (.const (.bool false)),none⟩])
 .ret) .skip))
 (.seq (.region [⟨some 21,.mv (.tmp 0),none⟩,⟨some 22,.nilCheck (.tmp 21),none⟩,⟨some 23,.faddr 0 (.tmp 22),none⟩,⟨some 24,.load false 1 (.tmp 23),none⟩,⟨some 25,.mv (.tmp 1),none⟩,⟨some 26,.bin .add (.tmp 25) (.const (.int .u64 8)),none⟩,⟨some 27,.call 247 [(.tmp 24),(.tmp 26)],none⟩,⟨some 20,.mv (.tmp 27),none⟩,⟨some 28,.extract (.tmp 20) 0,none⟩,⟨some 29,.extract (.tmp 20) 1,none⟩,⟨some 5,.mv (.tmp 28),none⟩,⟨some 8,.mv (.tmp 29),none⟩])
 (.seq (.region [⟨some 30,.mv (.tmp 4),none⟩,⟨some 31,.mv (.tmp 5),none⟩,⟨some 32,.mv (.tmp 8),none⟩,⟨some 33,.bin .eql (.tmp 32) (.const (.int .i64 0)),none⟩,⟨some 34,.mv (.tmp 33),none⟩,⟨some 35,.mv (.tmp 1),some (34,true)⟩,⟨some 36,.bin .add (.tmp 35) (.const (.int .u64 8)),some (34,true)⟩,⟨some 37,.mv (.tmp 1),some (34,true)⟩,⟨some 38,.bin .gtr (.tmp 36) (.tmp 37),some (34,true)⟩,⟨some 39,.pick (.tmp 34) (.tmp 38) (.const (.bool false)),none⟩,⟨some 4,.mv (.tmp 30),none⟩,⟨some 5,.mv (.tmp 31),none⟩,⟨some 6,.mv (.tmp 39),none⟩])
 .ret)))))⟩
theorem k262 : compFn Tryz.prog Tryz.f262 = some c262 := by kernel_rfl
def c263 : AFunc := ⟨[.tmp 8],(.seq (.region [⟨some 8,.mv (.const (.bool false)),none⟩])
 (.seq (.seq (.region [⟨some 15,.mv (.tmp 3),none⟩,⟨some 16,.bin .eql (.tmp 15) (.const (.int .u64 0)),none⟩,⟨some 17,.mv (.tmp 1),none⟩,⟨some 18,.mv (.tmp 0),none⟩,⟨some 19,.nilCheck (.tmp 18),none⟩,⟨some 20,.faddr 1 (.tmp 19),none⟩,⟨some 21,.load false 1 (.tmp 20),none⟩,⟨some 22,.bin .eql (.tmp 17) (.tmp 21),none⟩,⟨some 23,.eq1 true .bool (.tmp 16) (.tmp 22),none⟩])
 (.cond (.tmp 23) (.seq (.region [⟨some 8,.mv (.const (.bool false)),none⟩])
 .ret) .skip))
 (.seq (.seq (.region [⟨some 24,.mv (.tmp 3),none⟩,⟨some 25,.bin .neq (.tmp 24) (.const (.int .u64 0)),none⟩])
 (.cond (.tmp 25) (.seq (.region [⟨some 27,.mv (.tmp 0),none⟩,⟨some 28,.mv (.tmp 3),none⟩,⟨some 29,.call 262 [(.tmp 27),(.tmp 28)],none⟩,⟨some 26,.mv (.tmp 29),none⟩,⟨some 30,.extract (.tmp 26) 0,none⟩,⟨some 31,.extract (.tmp 26) 1,none⟩,⟨some 32,.extract (.tmp 26) 2,none⟩,⟨some 9,.mv (.tmp 30),none⟩,⟨some 10,.mv (.tmp 31),none⟩,⟨some 11,.mv (.tmp 32),none⟩])
 (.seq (.region [⟨some 33,.mv (.tmp 11),none⟩,⟨some 34,.not (.tmp 33),none⟩,⟨some 35,.mv (.tmp 34),none⟩,⟨some 36,.mv (.tmp 9),some (35,false)⟩,⟨some 37,.mv (.tmp 1),some (35,false)⟩,⟨some 38,.bin .neq (.tmp 36) (.tmp 37),some (35,false)⟩,⟨some 39,.pick (.tmp 35) (.const (.bool true)) (.tmp 38),none⟩])
 (.cond (.tmp 39) (.seq (.region [⟨some 8,.mv (.const (.bool false)),none⟩])
 .ret) .skip))) .skip))
 (.seq (.seq (.region [⟨some 40,.mv (.tmp 2),none⟩,⟨some 41,.bin .neq (.tmp 40) (.const (.int .u64 0)),none⟩])
 (.cond (.tmp 41) (.seq (.region [⟨some 43,.mv (.tmp 0),none⟩,⟨some 44,.mv (.tmp 2),none⟩,⟨some 45,.call 262 [(.tmp 43),(.tmp 44)],none⟩,⟨some 42,.mv (.tmp 45),none⟩,⟨some 46,.extract (.tmp 42) 0,none⟩,⟨some 47,.extract (.tmp 42) 1,none⟩,⟨some 48,.extract (.tmp 42) 2,none⟩,⟨some 12,.mv (.tmp 46),none⟩,⟨some 13,.mv (.tmp 47),none⟩,⟨some 14,.mv (.tmp 48),none⟩])
 (.seq (.region [⟨some 49,.mv (.tmp 14),none⟩,⟨some 50,.not (.tmp 49),none⟩,⟨some 51,.mv (.tmp 50),none⟩,⟨some 52,.mv (.tmp 13),some (51,false)⟩,⟨some 53,.mv (.tmp 1),some (51,false)⟩,⟨some 54,.bin .neq (.tmp 52) (.tmp 53),some (51,false)⟩,⟨some 55,.pick (.tmp 51) (.const (.bool true)) (.tmp 54),none⟩])
 (.cond (.tmp 55) (.seq (.region [⟨some 8,.mv (.const (.bool false)),none⟩])
 .ret) .skip))) .skip))
 (.seq (.region [⟨some 8,.mv (.const (.bool true)),none⟩])
 .ret)))))⟩
theorem k263 : compFn Tryz.prog Tryz.f263 = some c263 := by kernel_rfl
def c264 : AFunc := ⟨[],(.region [⟨some 4,.mv (.tmp 0),none⟩,⟨some 5,.mv (.tmp 0),none⟩,⟨some 6,.nilCheck (.tmp 5),none⟩,⟨some 7,.faddr 1 (.tmp 6),none⟩,⟨some 8,.load false 1 (.tmp 7),none⟩,⟨some 9,.mv (.tmp 1),none⟩,⟨some 10,.call 210 [(.tmp 8),(.tmp 9)],none⟩,⟨some 11,.nilCheck (.tmp 10),none⟩,⟨some 12,.load true 2 (.tmp 11),none⟩,⟨some 13,.nilCheck (.tmp 4),none⟩,⟨none,.store 2 (.tmp 13) (.tmp 12),none⟩])⟩
theorem k264 : compFn Tryz.prog Tryz.f264 = some c264 := by kernel_rfl
def c267 : AFunc := ⟨[.tmp 4],(.seq (.region [⟨some 4,.mv (.const (.int .i64 0)),none⟩])
 (.seq (.seq (.region [⟨some 13,.mv (.tmp 0),none⟩,⟨some 14,.mv (.tmp 1),none⟩,⟨some 15,.call 262 [(.tmp 13),(.tmp 14)],none⟩,⟨some 12,.mv (.tmp 15),none⟩,⟨some 16,.extract (.tmp 12) 0,none⟩,⟨some 17,.extract (.tmp 12) 1,none⟩,⟨some 18,.extract (.tmp 12) 2,none⟩,⟨some 5,.mv (.tmp 16),none⟩,⟨some 6,.mv (.tmp 17),none⟩,⟨some 7,.mv (.tmp 18),none⟩])
 (.seq (.region [⟨some 19,.mv (.tmp 7),none⟩,⟨some 20,.not (.tmp 19),none⟩])
 (.cond (.tmp 20) (.seq (.region [⟨some 4,.mv (.const (.int .i64 4)),none⟩])
 .ret) .skip)))
 (.seq (.seq (.region [⟨some 21,.mv (.tmp 0),none⟩,⟨some 22,.nilCheck (.tmp 21),none⟩,⟨some 23,.faddr 1 (.tmp 22),none⟩,⟨some 24,.load false 1 (.tmp 23),none⟩,⟨some 8,.mv (.tmp 24),none⟩])
 (.seq (.region [⟨some 25,.mv (.tmp 8),none⟩,⟨some 26,.bin .neq (.tmp 25) (.const (.int .u64 0)),none⟩])
 (.cond (.tmp 26) (.seq (.region [⟨some 28,.mv (.tmp 0),none⟩,⟨some 29,.mv (.tmp 8),none⟩,⟨some 30,.call 262 [(.tmp 28),(.tmp 29)],none⟩,⟨some 27,.mv (.tmp 30),none⟩,⟨some 31,.extract (.tmp 27) 0,none⟩,⟨some 32,.extract (.tmp 27) 1,none⟩,⟨some 33,.extract (.tmp 27) 2,none⟩,⟨some 9,.mv (.tmp 31),none⟩,⟨some 10,.mv (.tmp 32),none⟩,⟨some 11,.mv (.tmp 33),none⟩])
 (.seq (.region [⟨some 34,.mv (.tmp 11),none⟩,⟨some 35,.not (.tmp 34),none⟩,⟨some 36,.mv (.tmp 35),none⟩,⟨some 37,.mv (.tmp 10),some (36,false)⟩,⟨some 38,.bin .neq (.tmp 37) (.const (.int .u64 0)),some (36,false)⟩,⟨some 39,.pick (.tmp 36) (.const (.bool true)) (.tmp 38),none⟩])
 (.cond (.tmp 39) (.seq (.region [⟨some 4,.mv (.const (.int .i64 8)),none⟩])
 .ret) .skip))) .skip)))
 (.seq (.draw [⟨⟨some 40,.mv (.tmp 0),none⟩,0,0⟩,⟨⟨some 41,.nilCheck (.tmp 40),none⟩,0,0⟩,⟨⟨some 42,.faddr 0 (.tmp 41),none⟩,0,0⟩,⟨⟨some 43,.load false 1 (.tmp 42),none⟩,0,0⟩,⟨⟨some 44,.mv (.tmp 1),none⟩,0,0⟩,⟨⟨some 45,.mv (.tmp 0),none⟩,0,0⟩,⟨⟨some 46,.nilCheck (.tmp 45),none⟩,0,0⟩,⟨⟨some 47,.faddr 1 (.tmp 46),none⟩,0,0⟩,⟨⟨some 48,.load false 1 (.tmp 47),none⟩,0,0⟩,⟨⟨some 49,.call 226 [(.tmp 43),(.tmp 44),(.tmp 48)],none⟩,0,1⟩])
 (.seq (.region [⟨some 50,.mv (.tmp 0),none⟩,⟨some 51,.nilCheck (.tmp 50),none⟩,⟨some 52,.faddr 0 (.tmp 51),none⟩,⟨some 53,.load false 1 (.tmp 52),none⟩,⟨some 54,.mv (.tmp 1),none⟩,⟨some 55,.bin .add (.tmp 54) (.const (.int .u64 8)),none⟩,⟨some 56,.call 226 [(.tmp 53),(.tmp 55),(.const (.int .u64 0))],none⟩])
 (.seq (.seq (.region [⟨some 57,.mv (.tmp 0),none⟩,⟨some 58,.nilCheck (.tmp 57),none⟩,⟨some 59,.faddr 1 (.tmp 58),none⟩,⟨some 60,.load false 1 (.tmp 59),none⟩,⟨some 61,.bin .neq (.tmp 60) (.const (.int .u64 0)),none⟩])
 (.cond (.tmp 61) (.draw [⟨⟨some 62,.mv (.tmp 0),none⟩,0,0⟩,⟨⟨some 63,.nilCheck (.tmp 62),none⟩,0,0⟩,⟨⟨some 64,.faddr 0 (.tmp 63),none⟩,0,0⟩,⟨⟨some 65,.load false 1 (.tmp 64),none⟩,0,0⟩,⟨⟨some 66,.mv (.tmp 0),none⟩,0,0⟩,⟨⟨some 67,.nilCheck (.tmp 66),none⟩,0,0⟩,⟨⟨some 68,.faddr 1 (.tmp 67),none⟩,0,0⟩,⟨⟨some 69,.load false 1 (.tmp 68),none⟩,0,0⟩,⟨⟨some 70,.bin .add (.tmp 69) (.const (.int .u64 8)),none⟩,0,0⟩,⟨⟨some 71,.mv (.tmp 1),none⟩,0,0⟩,⟨⟨some 72,.call 226 [(.tmp 65),(.tmp 70),(.tmp 71)],none⟩,0,1⟩]) .skip))
 (.seq (.region [⟨some 73,.mv (.tmp 0),none⟩,⟨some 74,.mv (.tmp 1),none⟩,⟨some 75,.nilCheck (.tmp 73),none⟩,⟨some 76,.faddr 1 (.tmp 75),none⟩,⟨none,.store 1 (.tmp 76) (.tmp 74),none⟩])
 (.seq (.region [⟨some 4,.mv (.const (.int .i64 0)),none⟩])
 .ret))))))))⟩
theorem k267 : compFn Tryz.prog Tryz.f267 = some c267 := by kernel_rfl
def c268 : AFunc := ⟨[.tmp 6,.tmp 7],(.seq (.region [⟨some 6,.mv (.const (.bool false)),none⟩,⟨some 7,.mv (.const (.int .i64 0)),none⟩])
 (.seq (.seq (.region [⟨some 11,.mv (.tmp 0),none⟩,⟨some 12,.mv (.tmp 2),none⟩,⟨some 13,.call 80 [(.tmp 11),(.tmp 12)],none⟩,⟨some 10,.mv (.tmp 13),none⟩,⟨some 14,.extract (.tmp 10) 0,none⟩,⟨some 15,.extract (.tmp 10) 1,none⟩,⟨some 8,.alloc [(.int .i64 0),(.int .i64 0),(.int .i64 0),(.int .i64 0),(.int .i64 0),(.int .i64 0),(.int .i64 0),(.int .u64 0),(.int .u64 0),(.int .u64 0),(.int .u64 0)],none⟩,⟨none,.store 11 (.tmp 8) (.tmp 14),none⟩,⟨some 9,.mv (.tmp 15),none⟩])
 (.seq (.region [⟨some 16,.mv (.tmp 9),none⟩,⟨some 17,.not (.tmp 16),none⟩,⟨some 18,.mv (.tmp 17),none⟩,⟨some 19,.mv (.tmp 1),some (18,false)⟩,⟨some 20,.mv (.tmp 0),some (18,false)⟩,⟨some 21,.nilCheck (.tmp 20),some (18,false)⟩,⟨some 22,.faddr 0 (.tmp 21),some (18,false)⟩,⟨some 23,.load false 1 (.tmp 22),some (18,false)⟩,⟨some 24,.bin .sub (.tmp 23) (.const (.int .i64 1)),some (18,false)⟩,⟨some 25,.call 256 [(.tmp 19),(.const (.int .i64 0)),(.tmp 24)],some (18,false)⟩,⟨some 26,.not (.tmp 25),some (18,false)⟩,⟨some 27,.pick (.tmp 18) (.const (.bool true)) (.tmp 26),none⟩])
 (.cond (.tmp 27) (.seq (.region [⟨some 6,.mv (.const (.bool false)),none⟩,⟨some 7,.mv (.const (.int .i64 1)),none⟩])
 .ret) .skip)))
 (.seq (.draw [⟨⟨some 28,.mv (.tmp 0),none⟩,0,0⟩,⟨⟨some 29,.nilCheck (.tmp 28),none⟩,0,0⟩,⟨⟨some 30,.faddr 2 (.tmp 29),none⟩,0,0⟩,⟨⟨some 31,.load false 1 (.tmp 30),none⟩,0,0⟩,⟨⟨some 32,.mv (.tmp 1),none⟩,0,0⟩,⟨⟨some 33,.iaddrS 1 (.tmp 31) (.tmp 32),none⟩,0,0⟩,⟨⟨some 34,.load false 1 (.tmp 33),none⟩,0,0⟩,⟨⟨some 35,.mv (.tmp 2),none⟩,0,0⟩,⟨⟨some 36,.mv (.tmp 1),none⟩,0,0⟩,⟨⟨some 37,.bin .add (.tmp 36) (.const (.int .i64 1)),none⟩,0,0⟩,⟨⟨some 38,.bin .shr (.tmp 35) (.tmp 37),none⟩,0,0⟩,⟨⟨some 39,.call 272 [(.tmp 34),(.tmp 38)],none⟩,0,1⟩])
 (.seq (.region [⟨some 40,.mv (.tmp 0),none⟩,⟨some 41,.mv (.tmp 1),none⟩,⟨some 42,.mv (.tmp 2),none⟩,⟨some 43,.call 273 [(.tmp 40),(.tmp 41),(.tmp 42)],none⟩,⟨some 6,.mv (.tmp 43),none⟩,⟨some 7,.mv (.const (.int .i64 0)),none⟩])
 .ret))))⟩
theorem k268 : compFn Tryz.prog Tryz.f268 = some c268 := by kernel_rfl
def c269 : AFunc := ⟨[.tmp 6],(.seq (.region [⟨some 6,.mv (.const (.int .i64 0)),none⟩])
 (.seq (.seq (.region [⟨some 10,.mv (.tmp 0),none⟩,⟨some 11,.mv (.tmp 1),none⟩,⟨some 12,.call 80 [(.tmp 10),(.tmp 11)],none⟩,⟨some 9,.mv (.tmp 12),none⟩,⟨some 13,.extract (.tmp 9) 0,none⟩,⟨some 14,.extract (.tmp 9) 1,none⟩,⟨some 7,.alloc [(.int .i64 0),(.int .i64 0),(.int .i64 0),(.int .i64 0),(.int .i64 0),(.int .i64 0),(.int .i64 0),(.int .u64 0),(.int .u64 0),(.int .u64 0),(.int .u64 0)],none⟩,⟨none,.store 11 (.tmp 7) (.tmp 13),none⟩,⟨some 8,.mv (.tmp 14),none⟩])
 (.seq (.region [⟨some 15,.mv (.tmp 8),none⟩,⟨some 16,.not (.tmp 15),none⟩,⟨some 17,.mv (.tmp 16),none⟩,⟨some 18,.mv (.tmp 2),some (17,false)⟩,⟨some 19,.call 256 [(.tmp 18),(.const (.int .i64 0)),(.const (.int .i64 7))],some (17,false)⟩,⟨some 20,.not (.tmp 19),some (17,false)⟩,⟨some 21,.pick (.tmp 17) (.const (.bool true)) (.tmp 20),none⟩])
 (.cond (.tmp 21) (.seq (.region [⟨some 6,.mv (.const (.int .i64 1)),none⟩])
 .ret) .skip)))
 (.seq (.draw [⟨⟨some 22,.mv (.tmp 0),none⟩,0,1⟩,⟨⟨some 23,.nilCheck (.tmp 22),none⟩,0,1⟩,⟨⟨some 24,.faddr 1 (.tmp 23),none⟩,0,1⟩,⟨⟨some 25,.load false 1 (.tmp 24),none⟩,0,1⟩,⟨⟨some 26,.mv (.tmp 1),none⟩,0,1⟩,⟨⟨some 27,.call 259 [(.const (.int .i64 4)),(.const (.int .i64 0))],none⟩,0,1⟩,⟨⟨some 28,.iaddrS 11 (.tmp 25) (.tmp 26),none⟩,1,1⟩,⟨⟨none,.store 11 (.tmp 28) (.tmp 27),none⟩,1,2⟩])
 (.seq (.region [⟨some 29,.mv (.tmp 0),none⟩,⟨some 30,.nilCheck (.tmp 29),none⟩,⟨some 31,.faddr 1 (.tmp 30),none⟩,⟨some 32,.load false 1 (.tmp 31),none⟩,⟨some 33,.mv (.tmp 1),none⟩,⟨some 34,.mv (.tmp 2),none⟩,⟨some 35,.iaddrS 11 (.tmp 32) (.tmp 33),none⟩,⟨some 36,.faddr 2 (.tmp 35),none⟩,⟨none,.store 1 (.tmp 36) (.tmp 34),none⟩])
 (.seq (.region [⟨some 6,.mv (.const (.int .i64 0)),none⟩])
 .ret)))))⟩
theorem k269 : compFn Tryz.prog Tryz.f269 = some c269 := by kernel_rfl
def c270 : AFunc := ⟨[],(.regionR (some 1) [⟨some 2,.call 134 [(.tmp 1),(.tmp 0)],none⟩])⟩
theorem k270 : compFn Tryz.prog Tryz.f270 = some c270 := by kernel_rfl
def c271 : AFunc := ⟨[.tmp 2,.tmp 3],(.seq (.region [⟨some 2,.mv (.const (.int .u64 0)),none⟩,⟨some 3,.mv (.const (.int .i64 0)),none⟩])
 (.seq (.region [⟨some 6,.mv (.tmp 0),none⟩,⟨some 7,.nilCheck (.tmp 6),none⟩,⟨some 8,.faddr 1 (.tmp 7),none⟩,⟨some 9,.load false 1 (.tmp 8),none⟩,⟨some 4,.mv (.tmp 9),none⟩])
 (.seq (.seq (.region [⟨some 10,.mv (.tmp 4),none⟩,⟨some 11,.bin .eql (.tmp 10) (.const (.int .u64 0)),none⟩])
 (.cond (.tmp 11) (.seq (.region [⟨some 2,.mv (.const (.int .u64 0)),none⟩,⟨some 3,.mv (.const (.int .i64 9)),none⟩])
 .ret) .skip))
 (.seq (.seq (.region [⟨some 12,.mv (.tmp 0),none⟩,⟨some 13,.mv (.tmp 4),none⟩,⟨some 14,.call 230 [(.tmp 12),(.tmp 13)],none⟩,⟨some 5,.mv (.tmp 14),none⟩])
 (.seq (.region [⟨some 15,.mv (.tmp 5),none⟩,⟨some 16,.bin .neq (.tmp 15) (.const (.int .i64 0)),none⟩])
 (.cond (.tmp 16) (.seq (.region [⟨some 17,.mv (.tmp 5),none⟩,⟨some 2,.mv (.const (.int .u64 0)),none⟩,⟨some 3,.mv (.tmp 17),none⟩])
 .ret) .skip)))
 (.seq (.region [⟨some 18,.mv (.tmp 4),none⟩,⟨some 2,.mv (.tmp 18),none⟩,⟨some 3,.mv (.const (.int .i64 0)),none⟩])
 .ret)))))⟩
theorem k271 : compFn Tryz.prog Tryz.f271 = some c271 := by kernel_rfl
def c272 : AFunc := ⟨[.tmp 4],(.seq (.region [⟨some 4,.mv (.const (.bool false)),none⟩])
 (.seq (.seq (.region [⟨some 5,.mv (.tmp 0),none⟩,⟨some 6,.mv (.tmp 1),none⟩,⟨some 7,.call 274 [(.tmp 5),(.tmp 6)],none⟩,⟨some 8,.not (.tmp 7),none⟩])
 (.cond (.tmp 8) (.seq (.region [⟨some 4,.mv (.const (.bool false)),none⟩])
 .ret) .skip))
 (.seq (.draw [⟨⟨some 9,.mv (.tmp 0),none⟩,0,0⟩,⟨⟨some 10,.nilCheck (.tmp 9),none⟩,0,0⟩,⟨⟨some 11,.faddr 1 (.tmp 10),none⟩,0,0⟩,⟨⟨some 12,.load false 1 (.tmp 11),none⟩,0,0⟩,⟨⟨some 13,.mv (.tmp 1),none⟩,0,0⟩,⟨⟨some 14,.bin .quo (.tmp 13) (.const (.int .i64 64)),none⟩,0,0⟩,⟨⟨some 15,.iaddrS 1 (.tmp 12) (.tmp 14),none⟩,0,0⟩,⟨⟨some 16,.load false 1 (.tmp 15),none⟩,0,0⟩,⟨⟨some 17,.mv (.tmp 1),none⟩,0,0⟩,⟨⟨some 18,.bin .rem (.tmp 17) (.const (.int .i64 64)),none⟩,0,0⟩,⟨⟨some 19,.bin .shl (.const (.int .u64 1)) (.tmp 18),none⟩,0,0⟩,⟨⟨some 20,.bin .xor (.tmp 16) (.tmp 19),none⟩,0,0⟩,⟨⟨some 21,.iaddrS 1 (.tmp 12) (.tmp 14),none⟩,0,0⟩,⟨⟨none,.store 1 (.tmp 21) (.tmp 20),none⟩,0,1⟩])
 (.seq (.region [⟨some 4,.mv (.const (.bool true)),none⟩])
 .ret))))⟩
theorem k272 : compFn Tryz.prog Tryz.f272 = some c272 := by kernel_rfl
def c273 : AFunc := ⟨[.tmp 6],(.seq (.region [⟨some 6,.mv (.const (.bool false)),none⟩])
 (.seq (.seq (.region [⟨some 10,.mv (.tmp 0),none⟩,⟨some 11,.mv (.tmp 2),none⟩,⟨some 12,.call 80 [(.tmp 10),(.tmp 11)],none⟩,⟨some 9,.mv (.tmp 12),none⟩,⟨some 13,.extract (.tmp 9) 0,none⟩,⟨some 14,.extract (.tmp 9) 1,none⟩,⟨some 7,.alloc [(.int .i64 0),(.int .i64 0),(.int .i64 0),(.int .i64 0),(.int .i64 0),(.int .i64 0),(.int .i64 0),(.int .u64 0),(.int .u64 0),(.int .u64 0),(.int .u64 0)],none⟩,⟨none,.store 11 (.tmp 7) (.tmp 13),none⟩,⟨some 8,.mv (.tmp 14),none⟩])
 (.seq (.region [⟨some 15,.mv (.tmp 8),none⟩,⟨some 16,.not (.tmp 15),none⟩,⟨some 17,.mv (.tmp 16),none⟩,⟨some 18,.mv (.tmp 1),some (17,false)⟩,⟨some 19,.mv (.tmp 0),some (17,false)⟩,⟨some 20,.nilCheck (.tmp 19),some (17,false)⟩,⟨some 21,.faddr 0 (.tmp 20),some (17,false)⟩,⟨some 22,.load false 1 (.tmp 21),some (17,false)⟩,⟨some 23,.bin .sub (.tmp 22) (.const (.int .i64 1)),some (17,false)⟩,⟨some 24,.call 256 [(.tmp 18),(.const (.int .i64 0)),(.tmp 23)],some (17,false)⟩,⟨some 25,.not (.tmp 24),some (17,false)⟩,⟨some 26,.pick (.tmp 17) (.const (.bool true)) (.tmp 25),none⟩])
 (.cond (.tmp 26) (.seq (.region [⟨some 6,.mv (.const (.bool false)),none⟩])
 .ret) .skip)))
 (.seq (.draw [⟨⟨some 27,.mv (.tmp 0),none⟩,0,0⟩,⟨⟨some 28,.nilCheck (.tmp 27),none⟩,0,0⟩,⟨⟨some 29,.faddr 2 (.tmp 28),none⟩,0,0⟩,⟨⟨some 30,.load false 1 (.tmp 29),none⟩,0,0⟩,⟨⟨some 31,.mv (.tmp 1),none⟩,0,0⟩,⟨⟨some 32,.iaddrS 1 (.tmp 30) (.tmp 31),none⟩,0,0⟩,⟨⟨some 33,.load false 1 (.tmp 32),none⟩,0,0⟩,⟨⟨some 34,.mv (.tmp 2),none⟩,0,0⟩,⟨⟨some 35,.mv (.tmp 1),none⟩,0,0⟩,⟨⟨some 36,.bin .add (.tmp 35) (.const (.int .i64 1)),none⟩,0,0⟩,⟨⟨some 37,.bin .shr (.tmp 34) (.tmp 36),none⟩,0,0⟩,⟨⟨some 38,.call 275 [(.tmp 33),(.tmp 37)],none⟩,0,1⟩,⟨⟨some 6,.mv (.tmp 38),none⟩,1,1⟩])
 .ret)))⟩
theorem k273 : compFn Tryz.prog Tryz.f273 = some c273 := by kernel_rfl
def c274 : AFunc := ⟨[.tmp 4],(.seq (.region [⟨some 4,.mv (.const (.bool false)),none⟩])
 (.seq (.region [⟨some 5,.mv (.tmp 1),none⟩,⟨some 6,.bin .geq (.tmp 5) (.const (.int .i64 0)),none⟩,⟨some 7,.mv (.tmp 6),none⟩,⟨some 8,.mv (.tmp 1),some (7,true)⟩,⟨some 9,.mv (.tmp 0),some (7,true)⟩,⟨some 10,.nilCheck (.tmp 9),some (7,true)⟩,⟨some 11,.faddr 0 (.tmp 10),some (7,true)⟩,⟨some 12,.load false 1 (.tmp 11),some (7,true)⟩,⟨some 13,.bin .lss (.tmp 8) (.tmp 12),some (7,true)⟩,⟨some 14,.pick (.tmp 7) (.tmp 13) (.const (.bool false)),none⟩,⟨some 4,.mv (.tmp 14),none⟩])
 .ret))⟩
theorem k274 : compFn Tryz.prog Tryz.f274 = some c274 := by kernel_rfl
def c275 : AFunc := ⟨[.tmp 4],(.seq (.region [⟨some 4,.mv (.const (.bool false)),none⟩])
 (.seq (.region [⟨some 5,.mv (.tmp 0),none⟩,⟨some 6,.mv (.tmp 1),none⟩,⟨some 7,.call 274 [(.tmp 5),(.tmp 6)],none⟩,⟨some 8,.mv (.tmp 7),none⟩,⟨some 9,.mv (.tmp 0),some (8,true)⟩,⟨some 10,.nilCheck (.tmp 9),some (8,true)⟩,⟨some 11,.faddr 1 (.tmp 10),some (8,true)⟩,⟨some 12,.load false 1 (.tmp 11),some (8,true)⟩,⟨some 13,.mv (.tmp 1),some (8,true)⟩,⟨some 14,.bin .quo (.tmp 13) (.const (.int .i64 64)),some (8,true)⟩,⟨some 15,.iaddrS 1 (.tmp 12) (.tmp 14),some (8,true)⟩,⟨some 16,.load false 1 (.tmp 15),some (8,true)⟩,⟨some 17,.mv (.tmp 1),some (8,true)⟩,⟨some 18,.bin .rem (.tmp 17) (.const (.int .i64 64)),some (8,true)⟩,⟨some 19,.bin .shr (.tmp 16) (.tmp 18),some (8,true)⟩,⟨some 20,.bin .and (.tmp 19) (.const (.int .u64 1)),some (8,true)⟩,⟨some 21,.bin .eql (.tmp 20) (.const (.int .u64 1)),some (8,true)⟩,⟨some 22,.pick (.tmp 8) (.tmp 21) (.const (.bool false)),none⟩,⟨some 4,.mv (.tmp 22),none⟩])
 .ret))⟩
theorem k275 : compFn Tryz.prog Tryz.f275 = some c275 := by kernel_rfl
def c23 : AFunc := ⟨[.tmp 0],(.seq (.region [⟨some 0,.mv (.const (.bool false)),none⟩])
 (.seq (.region [⟨some 6,.call 64 [],none⟩,⟨some 1,.mv (.tmp 6),none⟩])
 (.seq (.seq (.region [⟨some 7,.mv (.tmp 1),none⟩,⟨some 8,.eq1 false .ptr (.tmp 7) (.const (.ptr none)),none⟩])
 (.cond (.tmp 8) (.seq (.region [⟨some 0,.mv (.const (.bool false)),none⟩])
 .ret) .skip))
 (.seq (.region [⟨some 10,.mv (.tmp 1),none⟩,⟨some 11,.call 65 [(.tmp 10),(.const (.int .i64 0)),(.const (.int .u64 1)),(.const (.bool false))],none⟩,⟨some 9,.mv (.tmp 11),none⟩,⟨some 12,.extract (.tmp 9) 0,none⟩,⟨some 13,.extract (.tmp 9) 1,none⟩,⟨some 2,.mv (.tmp 12),none⟩,⟨some 3,.mv (.tmp 13),none⟩])
 (.seq (.region [⟨some 15,.mv (.tmp 1),none⟩,⟨some 16,.call 65 [(.tmp 15),(.const (.int .i64 1)),(.const (.int .u64 1)),(.const (.bool false))],none⟩,⟨some 14,.mv (.tmp 16),none⟩,⟨some 17,.extract (.tmp 14) 0,none⟩,⟨some 18,.extract (.tmp 14) 1,none⟩,⟨some 4,.mv (.tmp 17),none⟩,⟨some 5,.mv (.tmp 18),none⟩])
 (.seq (.seq (.region [⟨some 19,.mv (.tmp 2),none⟩,⟨some 20,.bin .neq (.tmp 19) (.const (.int .u64 65536)),none⟩,⟨some 21,.mv (.tmp 20),none⟩,⟨some 22,.mv (.tmp 3),some (21,false)⟩,⟨some 23,.bin .neq (.tmp 22) (.const (.int .i64 0)),some (21,false)⟩,⟨some 24,.pick (.tmp 21) (.const (.bool true)) (.tmp 23),none⟩,⟨some 25,.mv (.tmp 24),none⟩,⟨some 26,.mv (.tmp 4),some (25,false)⟩,⟨some 27,.bin .neq (.tmp 26) (.const (.int .u64 65552)),some (25,false)⟩,⟨some 28,.pick (.tmp 25) (.const (.bool true)) (.tmp 27),none⟩,⟨some 29,.mv (.tmp 28),none⟩,⟨some 30,.mv (.tmp 5),some (29,false)⟩,⟨some 31,.bin .neq (.tmp 30) (.const (.int .i64 0)),some (29,false)⟩,⟨some 32,.pick (.tmp 29) (.const (.bool true)) (.tmp 31),none⟩,⟨some 33,.mv (.tmp 32),none⟩,⟨some 34,.mv (.tmp 1),some (33,false)⟩,⟨some 35,.mv (.tmp 2),some (33,false)⟩,⟨some 36,.call 66 [(.tmp 34),(.const (.int .i64 0)),(.tmp 35)],some (33,false)⟩,⟨some 37,.bin .neq (.tmp 36) (.const (.int .i64 0)),some (33,false)⟩,⟨some 38,.pick (.tmp 33) (.const (.bool true)) (.tmp 37),none⟩,⟨some 39,.mv (.tmp 38),none⟩,⟨some 40,.mv (.tmp 1),some (39,false)⟩,⟨some 41,.call 25 [(.tmp 40)],some (39,false)⟩,⟨some 42,.lenS (.tmp 41),some (39,false)⟩,⟨some 43,.bin .neq (.tmp 42) (.const (.int .i64 1)),some (39,false)⟩,⟨some 44,.pick (.tmp 39) (.const (.bool true)) (.tmp 43),none⟩])
 (.cond (.tmp 44) (.seq (.region [⟨some 0,.mv (.const (.bool false)),none⟩])
 .ret) .skip))
 (.seq (.region [⟨some 46,.mv (.tmp 1),none⟩,⟨some 47,.mv (.tmp 2),none⟩,⟨some 48,.call 67 [(.tmp 46),(.tmp 47)],none⟩,⟨some 45,.mv (.tmp 48),none⟩,⟨some 49,.extract (.tmp 45) 0,none⟩,⟨some 50,.extract (.tmp 45) 1,none⟩,⟨some 3,.mv (.tmp 50),none⟩])
 (.seq (.region [⟨some 52,.mv (.tmp 1),none⟩,⟨some 53,.call 65 [(.tmp 52),(.const (.int .i64 1)),(.const (.int .u64 1)),(.const (.bool false))],none⟩,⟨some 51,.mv (.tmp 53),none⟩,⟨some 54,.extract (.tmp 51) 0,none⟩,⟨some 55,.extract (.tmp 51) 1,none⟩,⟨some 2,.mv (.tmp 54),none⟩,⟨some 5,.mv (.tmp 55),none⟩])
 (.seq (.region [⟨some 56,.mv (.tmp 3),none⟩,⟨some 57,.bin .eql (.tmp 56) (.const (.int .i64 1)),none⟩,⟨some 58,.mv (.tmp 57),none⟩,⟨some 59,.mv (.tmp 5),some (58,true)⟩,⟨some 60,.bin .eql (.tmp 59) (.const (.int .i64 0)),some (58,true)⟩,⟨some 61,.pick (.tmp 58) (.tmp 60) (.const (.bool false)),none⟩,⟨some 62,.mv (.tmp 61),none⟩,⟨some 63,.mv (.tmp 2),some (62,true)⟩,⟨some 64,.bin .eql (.tmp 63) (.const (.int .u64 65568)),some (62,true)⟩,⟨some 65,.pick (.tmp 62) (.tmp 64) (.const (.bool false)),none⟩,⟨some 0,.mv (.tmp 65),none⟩])
 .ret)))))))))⟩
theorem k23 : compFn Tryz.prog Tryz.f23 = some c23 := by kernel_rfl
end
end Go.Proofs.YtlgmpheammbacaaGreatDoor
