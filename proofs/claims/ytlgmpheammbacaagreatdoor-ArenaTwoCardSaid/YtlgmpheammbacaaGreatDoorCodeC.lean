import Derived.Test.YtlgmpheammbacaaGreatDoorCode
set_option maxRecDepth 1000000
set_option maxHeartbeats 4000000
namespace Go.Proofs.YtlgmpheammbacaaGreatDoor
open AM Go
noncomputable section
def c29:=lv Tryz.f29
def c58:=lv Tryz.f58
def c79:=lv Tryz.f79
def c85:=lv Tryz.f85
def c86:=lv Tryz.f86
def c88:=lv Tryz.f88
def c92:=lw Tryz.f92
def c95:=lv Tryz.f95
def c97:=lw Tryz.f97
def c98:=lv Tryz.f98
def c128:=lv Tryz.f128
def c173:=lw Tryz.f173
def c178:=lv Tryz.f178
def c198:=lv Tryz.f198
def c201:=lv Tryz.f201
def c202:=lv Tryz.f202
def c223:=lw Tryz.f223
def c232:=lv Tryz.f232
def c233:=lv Tryz.f233
def c243:=lw Tryz.f243
def c249:=lw Tryz.f249
def c258:=lv Tryz.f258
def c265:=lw Tryz.f265
def c269:=lw Tryz.f269
end
end Go.Proofs.YtlgmpheammbacaaGreatDoor
