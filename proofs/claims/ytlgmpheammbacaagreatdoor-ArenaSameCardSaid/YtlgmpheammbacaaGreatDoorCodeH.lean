import Derived.Test.YtlgmpheammbacaaGreatDoorCode
set_option maxRecDepth 1000000
set_option maxHeartbeats 4000000
namespace Go.Proofs.YtlgmpheammbacaaGreatDoor
open AM Go
noncomputable section
def c29:=lv Tryz.f29
def c30:=lw Tryz.f30
def c41:=lv Tryz.f41
def c63:=lv Tryz.f63
def c74:=lv Tryz.f74
def c118:=lw Tryz.f118
def c163:=lw Tryz.f163
def c173:=lw Tryz.f173
def c180:=lw Tryz.f180
def c204:=lv Tryz.f204
def c222:=lw Tryz.f222
def c261:=lv Tryz.f261
def c264:=lv Tryz.f264
def c274:=lv Tryz.f274
end
end Go.Proofs.YtlgmpheammbacaaGreatDoor
