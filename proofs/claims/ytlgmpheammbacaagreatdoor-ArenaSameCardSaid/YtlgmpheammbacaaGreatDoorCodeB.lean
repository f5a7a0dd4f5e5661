import Derived.Test.YtlgmpheammbacaaGreatDoorCode
set_option maxRecDepth 1000000
set_option maxHeartbeats 4000000
namespace Go.Proofs.YtlgmpheammbacaaGreatDoor
open AM Go
noncomputable section
def c5:=lw Tryz.f5
def c17:=lv Tryz.f17
def c19:=lv Tryz.f19
def c58:=lv Tryz.f58
def c78:=lv Tryz.f78
def c120:=lv Tryz.f120
def c127:=lw Tryz.f127
def c135:=lv Tryz.f135
def c193:=lv Tryz.f193
def c205:=lv Tryz.f205
def c221:=lw Tryz.f221
def c225:=lw Tryz.f225
def c227:=lv Tryz.f227
def c230:=lv Tryz.f230
def c256:=lv Tryz.f256
def c269:=lw Tryz.f269
def c270:=lv Tryz.f270
def c271:=lv Tryz.f271
end
end Go.Proofs.YtlgmpheammbacaaGreatDoor
