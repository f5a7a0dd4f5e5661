import Derived.Test.YtlgmpheammbacaaGreatDoorCode
set_option maxRecDepth 1000000
set_option maxHeartbeats 4000000
namespace Go.Proofs.YtlgmpheammbacaaGreatDoor
open AM Go
noncomputable section
def c9:=lw Tryz.f9
def c15:=lv Tryz.f15
def c32:=lw Tryz.f32
def c42:=lw Tryz.f42
def c63:=lv Tryz.f63
def c76:=lw Tryz.f76
def c77:=lv Tryz.f77
def c81:=lv Tryz.f81
def c83:=lw Tryz.f83
def c147:=lv Tryz.f147
def c163:=lw Tryz.f163
def c180:=lw Tryz.f180
def c181:=lw Tryz.f181
def c192:=lw Tryz.f192
def c199:=lv Tryz.f199
def c211:=lv Tryz.f211
def c226:=lv Tryz.f226
def c227:=lv Tryz.f227
def c236:=lw Tryz.f236
def c256:=lv Tryz.f256
end
end Go.Proofs.YtlgmpheammbacaaGreatDoor
