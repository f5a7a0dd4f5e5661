import Derived.Test.YtlgmpheammbacaaGreatDoorCode
set_option maxRecDepth 1000000
set_option maxHeartbeats 4000000
namespace Go.Proofs.YtlgmpheammbacaaGreatDoor
open AM Go
noncomputable section
def c37:=lv Tryz.f37
def c75:=lv Tryz.f75
def c77:=lv Tryz.f77
def c149:=lv Tryz.f149
def c158:=lw Tryz.f158
def c198:=lv Tryz.f198
def c199:=lv Tryz.f199
def c210:=lv Tryz.f210
def c211:=lv Tryz.f211
def c220:=lw Tryz.f220
def c223:=lw Tryz.f223
def c228:=lw Tryz.f228
def c231:=lv Tryz.f231
def c233:=lv Tryz.f233
def c253:=lv Tryz.f253
def c254:=lw Tryz.f254
def c255:=lv Tryz.f255
def c260:=lv Tryz.f260
def c262:=lv Tryz.f262
end
end Go.Proofs.YtlgmpheammbacaaGreatDoor
