import Derived.Test.YtlgmpheammbacaaGreatDoorCode
set_option maxRecDepth 1000000
set_option maxHeartbeats 4000000
namespace Go.Proofs.YtlgmpheammbacaaGreatDoor
open AM Go
noncomputable section
def c19:=lv Tryz.f19
def c26:=lw Tryz.f26
def c28:=lv Tryz.f28
def c36:=lv Tryz.f36
def c37:=lv Tryz.f37
def c73:=lv Tryz.f73
def c82:=lv Tryz.f82
def c84:=lw Tryz.f84
def c120:=lv Tryz.f120
def c121:=lv Tryz.f121
def c127:=lw Tryz.f127
def c141:=lw Tryz.f141
def c162:=lv Tryz.f162
def c175:=lw Tryz.f175
def c205:=lv Tryz.f205
def c228:=lw Tryz.f228
def c231:=lv Tryz.f231
def c235:=lw Tryz.f235
def c251:=lw Tryz.f251
def c262:=lv Tryz.f262
def c270:=lv Tryz.f270
def c273:=lw Tryz.f273
end
end Go.Proofs.YtlgmpheammbacaaGreatDoor
