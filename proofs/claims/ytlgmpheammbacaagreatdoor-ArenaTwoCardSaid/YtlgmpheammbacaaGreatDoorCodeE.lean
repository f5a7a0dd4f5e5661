import Derived.Test.YtlgmpheammbacaaGreatDoorCode
set_option maxRecDepth 1000000
set_option maxHeartbeats 4000000
namespace Go.Proofs.YtlgmpheammbacaaGreatDoor
open AM Go
noncomputable section
def c6:=lw Tryz.f6
def c30:=lw Tryz.f30
def c41:=lv Tryz.f41
def c43:=lv Tryz.f43
def c80:=lv Tryz.f80
def c96:=lv Tryz.f96
def c130:=lw Tryz.f130
def c148:=lv Tryz.f148
def c154:=lv Tryz.f154
def c158:=lw Tryz.f158
def c193:=lv Tryz.f193
def c203:=lw Tryz.f203
def c204:=lv Tryz.f204
def c221:=lw Tryz.f221
def c222:=lw Tryz.f222
def c225:=lw Tryz.f225
def c253:=lv Tryz.f253
def c254:=lw Tryz.f254
def c255:=lv Tryz.f255
def c259:=lv Tryz.f259
def c266:=lv Tryz.f266
end
end Go.Proofs.YtlgmpheammbacaaGreatDoor
