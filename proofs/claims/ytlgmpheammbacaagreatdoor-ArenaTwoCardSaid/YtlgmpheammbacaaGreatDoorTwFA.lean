import Derived.Test.YtlgmpheammbacaaGreatDoorRows
import Derived.Test.YtlgmpheammbacaaGreatDoorProg
import Derived.JoinedOf
import GoSem.ClaimSeven
set_option maxRecDepth 1000000
set_option maxHeartbeats 4000000
namespace Go.Proofs.YtlgmpheammbacaaGreatDoor
open Go
set_option linter.all false
noncomputable section
abbrev W6:=Rows.arenaTwoRow
abbrev W9:=Tryz.prog
abbrev P3:=Tryz.f10.params.toList++Rows.arenaTwoSpec.plain.varTypes W9
def ada:W6.wf (OpenSpec.ofChange Rows.arenaTwoSpec)=true:=by kernel_rfl
def ac8:Tryz.f10.params.all (W9.readableRec ·)=true:=by kernel_rfl
def ac7:namedTie W9 W6.named Rows.arenaTwoSpec.vars=true:=by kernel_rfl
def ade:(W6.stops==[])=true:=by kernel_rfl
def ac6:(W6.knobs==[])=true:=by kernel_rfl
def acQ:(W6.inPlace==W9.inPlace 10)=true:=by kernel_rfl
def acZ:(W6.unfollowed==W9.unfollowed 10)=true:=by kernel_rfl
end
end Go.Proofs.YtlgmpheammbacaaGreatDoor
