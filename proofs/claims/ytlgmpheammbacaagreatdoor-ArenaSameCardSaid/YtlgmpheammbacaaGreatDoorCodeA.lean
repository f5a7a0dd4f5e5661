import Derived.Test.YtlgmpheammbacaaGreatDoorCode
set_option maxRecDepth 1000000
set_option maxHeartbeats 4000000
namespace Go.Proofs.YtlgmpheammbacaaGreatDoor
open AM Go
noncomputable section
def c18:=lw Tryz.f18
def c59:=lv Tryz.f59
def c62:=lv Tryz.f62
def c117:=lw Tryz.f117
def c121:=lv Tryz.f121
def c122:=lv Tryz.f122
def c148:=lv Tryz.f148
def c174:=lv Tryz.f174
def c176:=lw Tryz.f176
def c192:=lw Tryz.f192
def c246:=lw Tryz.f246
def c248:=lv Tryz.f248
def c250:=lw Tryz.f250
def c275:=lv Tryz.f275
end
end Go.Proofs.YtlgmpheammbacaaGreatDoor
