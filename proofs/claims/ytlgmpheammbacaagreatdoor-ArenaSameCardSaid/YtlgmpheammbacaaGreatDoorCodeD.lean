import Derived.Test.YtlgmpheammbacaaGreatDoorCode
set_option maxRecDepth 1000000
set_option maxHeartbeats 4000000
namespace Go.Proofs.YtlgmpheammbacaaGreatDoor
open AM Go
noncomputable section
def c42:=lw Tryz.f42
def c76:=lw Tryz.f76
def c100:=lv Tryz.f100
def c157:=lv Tryz.f157
def c181:=lw Tryz.f181
def c203:=lw Tryz.f203
def c229:=lw Tryz.f229
def c241:=lv Tryz.f241
def c242:=lw Tryz.f242
def c273:=lw Tryz.f273
end
end Go.Proofs.YtlgmpheammbacaaGreatDoor
