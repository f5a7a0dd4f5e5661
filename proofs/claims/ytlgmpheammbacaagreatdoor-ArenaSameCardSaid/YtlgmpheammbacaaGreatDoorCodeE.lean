import Derived.Test.YtlgmpheammbacaaGreatDoorCode
set_option maxRecDepth 1000000
set_option maxHeartbeats 4000000
namespace Go.Proofs.YtlgmpheammbacaaGreatDoor
open AM Go
noncomputable section
def c15:=lv Tryz.f15
def c28:=lv Tryz.f28
def c40:=lw Tryz.f40
def c101:=lv Tryz.f101
def c102:=lw Tryz.f102
def c136:=lw Tryz.f136
def c175:=lw Tryz.f175
def c224:=lw Tryz.f224
def c232:=lv Tryz.f232
def c243:=lw Tryz.f243
def c272:=lw Tryz.f272
end
end Go.Proofs.YtlgmpheammbacaaGreatDoor
