import Derived.Test.YtlgmpheammbacaaGreatDoorCode
set_option maxRecDepth 1000000
set_option maxHeartbeats 4000000
namespace Go.Proofs.YtlgmpheammbacaaGreatDoor
open AM Go
noncomputable section
def c7:=lw Tryz.f7
def c17:=lv Tryz.f17
def c34:=lw Tryz.f34
def c38:=lw Tryz.f38
def c40:=lw Tryz.f40
def c60:=lv Tryz.f60
def c61:=lv Tryz.f61
def c74:=lv Tryz.f74
def c93:=lv Tryz.f93
def c132:=lw Tryz.f132
def c134:=lv Tryz.f134
def c137:=lv Tryz.f137
def c138:=lv Tryz.f138
def c157:=lv Tryz.f157
def c176:=lw Tryz.f176
def c177:=lv Tryz.f177
def c179:=lv Tryz.f179
def c184:=lv Tryz.f184
def c210:=lv Tryz.f210
def c220:=lw Tryz.f220
def c229:=lw Tryz.f229
def c234:=lv Tryz.f234
def c245:=lv Tryz.f245
def c257:=lv Tryz.f257
def c264:=lv Tryz.f264
end
end Go.Proofs.YtlgmpheammbacaaGreatDoor
