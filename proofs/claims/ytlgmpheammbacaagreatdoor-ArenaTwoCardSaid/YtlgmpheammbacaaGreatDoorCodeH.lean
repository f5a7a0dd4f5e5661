import Derived.Test.YtlgmpheammbacaaGreatDoorCode
set_option maxRecDepth 1000000
set_option maxHeartbeats 4000000
namespace Go.Proofs.YtlgmpheammbacaaGreatDoor
open AM Go
noncomputable section
def c8:=lw Tryz.f8
def c18:=lw Tryz.f18
def c33:=lv Tryz.f33
def c35:=lw Tryz.f35
def c71:=lv Tryz.f71
def c75:=lv Tryz.f75
def c89:=lv Tryz.f89
def c100:=lv Tryz.f100
def c101:=lv Tryz.f101
def c102:=lw Tryz.f102
def c117:=lw Tryz.f117
def c185:=lv Tryz.f185
def c200:=lw Tryz.f200
def c241:=lv Tryz.f241
def c242:=lw Tryz.f242
def c246:=lw Tryz.f246
def c247:=lv Tryz.f247
def c248:=lv Tryz.f248
def c263:=lv Tryz.f263
def c272:=lw Tryz.f272
end
end Go.Proofs.YtlgmpheammbacaaGreatDoor
