import Derived.Test.YtdnefddmghhgpaaGreatDoorCaCode
set_option maxRecDepth 1000000
set_option maxHeartbeats 4000000
set_option linter.unusedVariables false
namespace Go.Proofs.YtdnefddmghhgpaaGreatDoor
open AM Go
noncomputable section
def Caenv0 : T AF := T.set env 4 (.code c4)
theorem CaenvOk0 : EnvOk Tryz.prog Tryz.prog.globals.size Caenv0 := EnvOk.code' envOk Tryz.func4 k4
def Caenv1 : T AF := T.set Caenv0 22 (.code c22)
theorem CaenvOk1 : EnvOk Tryz.prog Tryz.prog.globals.size Caenv1 := EnvOk.code' CaenvOk0 Tryz.func22 k22
def Caenv2 : T AF := T.set Caenv1 23 (.code c23)
theorem CaenvOk2 : EnvOk Tryz.prog Tryz.prog.globals.size Caenv2 := EnvOk.code' CaenvOk1 Tryz.func23 k23
def Caenv3 : T AF := T.set Caenv2 24 (.code c24)
theorem CaenvOk3 : EnvOk Tryz.prog Tryz.prog.globals.size Caenv3 := EnvOk.code' CaenvOk2 Tryz.func24 k24
def Caenv4 : T AF := T.set Caenv3 25 (.code c25)
theorem CaenvOk4 : EnvOk Tryz.prog Tryz.prog.globals.size Caenv4 := EnvOk.code' CaenvOk3 Tryz.func25 k25
def Caenv5 : T AF := T.set Caenv4 26 (.code c26)
theorem CaenvOk5 : EnvOk Tryz.prog Tryz.prog.globals.size Caenv5 := EnvOk.code' CaenvOk4 Tryz.func26 k26
def Caenv6 : T AF := T.set Caenv5 27 (.code c27)
theorem CaenvOk6 : EnvOk Tryz.prog Tryz.prog.globals.size Caenv6 := EnvOk.code' CaenvOk5 Tryz.func27 k27
def Caenv7 : T AF := T.set Caenv6 28 (.code c28)
theorem CaenvOk7 : EnvOk Tryz.prog Tryz.prog.globals.size Caenv7 := EnvOk.code' CaenvOk6 Tryz.func28 k28
def Caenv8 : T AF := T.set Caenv7 29 (.code c29)
theorem CaenvOk8 : EnvOk Tryz.prog Tryz.prog.globals.size Caenv8 := EnvOk.code' CaenvOk7 Tryz.func29 k29
def Caenv9 : T AF := T.set Caenv8 37 (.code c37)
theorem CaenvOk9 : EnvOk Tryz.prog Tryz.prog.globals.size Caenv9 := EnvOk.code' CaenvOk8 Tryz.func37 k37
def Caenv10 : T AF := T.set Caenv9 44 (.code c44)
theorem CaenvOk10 : EnvOk Tryz.prog Tryz.prog.globals.size Caenv10 := EnvOk.code' CaenvOk9 Tryz.func44 k44
def Caenv11 : T AF := T.set Caenv10 119 (.code c119)
theorem CaenvOk11 : EnvOk Tryz.prog Tryz.prog.globals.size Caenv11 := EnvOk.code' CaenvOk10 Tryz.func119 k119
def Caenv12 : T AF := T.set Caenv11 120 (.code c120)
theorem CaenvOk12 : EnvOk Tryz.prog Tryz.prog.globals.size Caenv12 := EnvOk.code' CaenvOk11 Tryz.func120 k120
def Caenv13 : T AF := T.set Caenv12 121 (.code c121)
theorem CaenvOk13 : EnvOk Tryz.prog Tryz.prog.globals.size Caenv13 := EnvOk.code' CaenvOk12 Tryz.func121 k121
def Caenv14 : T AF := T.set Caenv13 122 (.code c122)
theorem CaenvOk14 : EnvOk Tryz.prog Tryz.prog.globals.size Caenv14 := EnvOk.code' CaenvOk13 Tryz.func122 k122
def Caenv15 : T AF := T.set Caenv14 123 (.code c123)
theorem CaenvOk15 : EnvOk Tryz.prog Tryz.prog.globals.size Caenv15 := EnvOk.code' CaenvOk14 Tryz.func123 k123
def Caenv16 : T AF := T.set Caenv15 124 (.code c124)
theorem CaenvOk16 : EnvOk Tryz.prog Tryz.prog.globals.size Caenv16 := EnvOk.code' CaenvOk15 Tryz.func124 k124
def Caenv17 : T AF := T.set Caenv16 125 (.code c125)
theorem CaenvOk17 : EnvOk Tryz.prog Tryz.prog.globals.size Caenv17 := EnvOk.code' CaenvOk16 Tryz.func125 k125
def Caenv18 : T AF := T.set Caenv17 126 (.code c126)
theorem CaenvOk18 : EnvOk Tryz.prog Tryz.prog.globals.size Caenv18 := EnvOk.code' CaenvOk17 Tryz.func126 k126
def Caenv19 : T AF := T.set Caenv18 148 (.code c148)
theorem CaenvOk19 : EnvOk Tryz.prog Tryz.prog.globals.size Caenv19 := EnvOk.code' CaenvOk18 Tryz.func148 k148
def Caenv20 : T AF := T.set Caenv19 149 (.code c149)
theorem CaenvOk20 : EnvOk Tryz.prog Tryz.prog.globals.size Caenv20 := EnvOk.code' CaenvOk19 Tryz.func149 k149
def Caenv21 : T AF := T.set Caenv20 207 (.code c207)
theorem CaenvOk21 : EnvOk Tryz.prog Tryz.prog.globals.size Caenv21 := EnvOk.code' CaenvOk20 Tryz.func207 k207
def Caenv22 : T AF := T.set Caenv21 208 (.code c208)
theorem CaenvOk22 : EnvOk Tryz.prog Tryz.prog.globals.size Caenv22 := EnvOk.code' CaenvOk21 Tryz.func208 k208
def Caenv23 : T AF := T.set Caenv22 210 (.code c210)
theorem CaenvOk23 : EnvOk Tryz.prog Tryz.prog.globals.size Caenv23 := EnvOk.code' CaenvOk22 Tryz.func210 k210
def Caenv24 : T AF := T.set Caenv23 211 (.code c211)
theorem CaenvOk24 : EnvOk Tryz.prog Tryz.prog.globals.size Caenv24 := EnvOk.code' CaenvOk23 Tryz.func211 k211
def Caenv25 : T AF := T.set Caenv24 221 (.code c221)
theorem CaenvOk25 : EnvOk Tryz.prog Tryz.prog.globals.size Caenv25 := EnvOk.code' CaenvOk24 Tryz.func221 k221
def Caenv26 : T AF := T.set Caenv25 273 (.code c273)
theorem CaenvOk26 : EnvOk Tryz.prog Tryz.prog.globals.size Caenv26 := EnvOk.code' CaenvOk25 Tryz.func273 k273
def Caenv : T AF := Caenv26
theorem CaenvOk : EnvOk Tryz.prog Tryz.prog.globals.size Caenv := CaenvOk26
theorem Caknown {M : List Memo} {L : List LMemo} (hM : MemosOk Tryz.prog Tryz.prog.globals.size M) (hL : LoopsOk Tryz.prog Tryz.prog.globals.size L) {m : Memo} {fn : AFunc} (hg : Caenv.get m.g = some (.code fn)) (h : checkM Caenv M L 10000 m = true) : MemoOk Tryz.prog Tryz.prog.globals.size m := memo_of_check mixed CaenvOk hM hL hg h
theorem CaknownL {M : List Memo} {L : List LMemo} (hM : MemosOk Tryz.prog Tryz.prog.globals.size M) (hL : LoopsOk Tryz.prog Tryz.prog.globals.size L) {m : LMemo} (h : checkL Caenv M L 10000 m = true) : LoopOk Tryz.prog Tryz.prog.globals.size m := loop_of_check mixed CaenvOk hM hL h
end
end Go.Proofs.YtdnefddmghhgpaaGreatDoor
