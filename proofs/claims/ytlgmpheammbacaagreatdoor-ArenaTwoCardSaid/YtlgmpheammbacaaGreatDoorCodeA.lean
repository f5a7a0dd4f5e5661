import Derived.Test.YtlgmpheammbacaaGreatDoorCode
set_option maxRecDepth 1000000
set_option maxHeartbeats 4000000
namespace Go.Proofs.YtlgmpheammbacaaGreatDoor
open AM Go
noncomputable section
def c10:=lw Tryz.f10
def c39:=lw Tryz.f39
def c59:=lv Tryz.f59
def c62:=lv Tryz.f62
def c90:=lw Tryz.f90
def c99:=lw Tryz.f99
def c118:=lw Tryz.f118
def c119:=lw Tryz.f119
def c122:=lv Tryz.f122
def c144:=lw Tryz.f144
def c224:=lw Tryz.f224
def c230:=lv Tryz.f230
def c239:=lv Tryz.f239
def c260:=lv Tryz.f260
def c267:=lw Tryz.f267
def c271:=lv Tryz.f271
def c275:=lv Tryz.f275
end
end Go.Proofs.YtlgmpheammbacaaGreatDoor
