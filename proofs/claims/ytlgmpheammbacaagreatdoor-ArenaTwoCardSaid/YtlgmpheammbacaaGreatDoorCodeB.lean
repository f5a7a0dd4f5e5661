import Derived.Test.YtlgmpheammbacaaGreatDoorCode
set_option maxRecDepth 1000000
set_option maxHeartbeats 4000000
namespace Go.Proofs.YtlgmpheammbacaaGreatDoor
open AM Go
noncomputable section
def c16:=lw Tryz.f16
def c31:=lw Tryz.f31
def c44:=lv Tryz.f44
def c72:=lv Tryz.f72
def c78:=lv Tryz.f78
def c87:=lv Tryz.f87
def c91:=lv Tryz.f91
def c94:=lv Tryz.f94
def c129:=lw Tryz.f129
def c131:=lv Tryz.f131
def c133:=lv Tryz.f133
def c135:=lv Tryz.f135
def c136:=lw Tryz.f136
def c139:=lw Tryz.f139
def c149:=lv Tryz.f149
def c161:=lv Tryz.f161
def c174:=lv Tryz.f174
def c182:=lw Tryz.f182
def c244:=lv Tryz.f244
def c250:=lw Tryz.f250
def c261:=lv Tryz.f261
def c268:=lw Tryz.f268
def c274:=lv Tryz.f274
end
end Go.Proofs.YtlgmpheammbacaaGreatDoor
