import Derived.Test.YtlgmpheammbacaaGreatDoorCode
set_option maxRecDepth 1000000
set_option maxHeartbeats 4000000
namespace Go.Proofs.YtlgmpheammbacaaGreatDoor
open AM Go
noncomputable section
def c43:=lv Tryz.f43
def c61:=lv Tryz.f61
def c71:=lv Tryz.f71
def c73:=lv Tryz.f73
def c79:=lv Tryz.f79
def c80:=lv Tryz.f80
def c132:=lw Tryz.f132
def c134:=lv Tryz.f134
def c154:=lv Tryz.f154
def c162:=lv Tryz.f162
def c177:=lv Tryz.f177
def c244:=lv Tryz.f244
def c245:=lv Tryz.f245
def c247:=lv Tryz.f247
def c249:=lw Tryz.f249
def c251:=lw Tryz.f251
def c257:=lv Tryz.f257
def c258:=lv Tryz.f258
def c259:=lv Tryz.f259
def c263:=lv Tryz.f263
def c267:=lw Tryz.f267
end
end Go.Proofs.YtlgmpheammbacaaGreatDoor
