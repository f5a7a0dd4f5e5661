import Derived.Test.YtlgmpheammbacaaGreatDoorCode
set_option maxRecDepth 1000000
set_option maxHeartbeats 4000000
namespace Go.Proofs.YtlgmpheammbacaaGreatDoor
open AM Go
noncomputable section
def c16:=lw Tryz.f16
def c26:=lw Tryz.f26
def c27:=lw Tryz.f27
def c44:=lv Tryz.f44
def c60:=lv Tryz.f60
def c72:=lv Tryz.f72
def c119:=lw Tryz.f119
def c128:=lv Tryz.f128
def c161:=lv Tryz.f161
def c200:=lw Tryz.f200
def c201:=lv Tryz.f201
def c202:=lv Tryz.f202
def c226:=lv Tryz.f226
def c268:=lw Tryz.f268
end
end Go.Proofs.YtlgmpheammbacaaGreatDoor
