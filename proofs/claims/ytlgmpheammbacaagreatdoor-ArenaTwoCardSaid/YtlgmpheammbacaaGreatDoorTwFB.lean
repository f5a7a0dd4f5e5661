import Derived.Test.YtlgmpheammbacaaGreatDoorFP
import Derived.Test.YtlgmpheammbacaaGreatDoorTwFA
set_option maxRecDepth 1000000
set_option maxHeartbeats 4000000
namespace Go.Proofs.YtlgmpheammbacaaGreatDoor
open Go
set_option linter.all false
def acT:(W6.recurses==W9.recurses 10)=true:=by kernel_rfl
def acS:(W6.named==W9.varsNamed 10)=true:=by kernel_rfl
def ac5:(W6.maps==(P3).any (W9.mapsRec ·))=true:=by kernel_rfl
def acU:(W6.ifaces==(P3).any (W9.ifacesRec ·))=true:=by kernel_rfl
def acO:(W6.mapsOut==W9.mapsAmong Tryz.f10.resultTypes.toList)=true:=by kernel_rfl
def acR:(W6.loops==(P3).any (W9.loopsFrom ·))=true:=by kernel_rfl
def acN:(W6.wideKeys==(P3++Tryz.f10.resultTypes.toList).any (W9.wideKeysFrom ·))=true:=by kernel_rfl
def acP:Rows.arenaTwoSpec.vars.all (W9.varReadable ·)=true:=by kernel_rfl
def acY:Tryz.f10.resultTypes.all (fun t=>W9.readableRec t&&decide (t<W9.types.size))=true:=by kernel_rfl
def ac1:(W6.ifacesOut==Tryz.f10.resultTypes.toList.any (W9.ifacesRec ·))=true:=by kernel_rfl
def ac3:(W6.loopsOut==Tryz.f10.resultTypes.toList.any (W9.loopsFrom ·))=true:=by kernel_rfl
def acX:(W6.plainKeys==W9.plainKeys)=true:=by kernel_rfl
def acW:W6.shortTexts.isNone=true:=by kernel_rfl
def abT:(W6.lifted==W9.liftsFinal)=true:=by kernel_rfl
def aa9:(W9.make==some W6.make)=true:=by kernel_rfl
def ac2:(W6.pinned==W6.pinnedBy)=true:=by kernel_rfl
def ac0:(W6.veiled==(P3++Tryz.f10.resultTypes.toList).any (W9.veiledRec ·))=true:=by kernel_rfl
def ac4:W6.veiledFits W9 Tryz.f10.params.toList (P3++Tryz.f10.resultTypes.toList)=true:=by kernel_rfl
def adb:W6.wfByText (OpenSpec.ofChange Rows.arenaTwoSpec)=true:=by kernel_rfl
def ac9:false=W6.goesBy W9:=by kernel_rfl
def aa1:W9.funcNamed "croft/croftlaw15.ArenaTwo"=some 10:=by kernel_rfl
def aa4:joinedFacts W9 10 Tryz.f10 Rows.arenaTwoSpec W6=true:=by
 unfold joinedFacts
 simp only [Bool.and_eq_true]
 exact ⟨⟨⟨⟨⟨⟨⟨⟨⟨⟨⟨⟨⟨⟨⟨⟨⟨⟨⟨⟨⟨⟨⟨⟨⟨⟨⟨⟨⟨⟨⟨ada,p2⟩,p3⟩,ac8⟩,ac7⟩,ade⟩,p7⟩,ac6⟩,p9⟩,acQ⟩,acZ⟩,acT⟩,acS⟩,ac5⟩,acU⟩,acO⟩,acR⟩,acN⟩,acP⟩,acY⟩,ac1⟩,ac3⟩,acX⟩,acW⟩,ND⟩,p24⟩,abT⟩,aa9⟩,by kernel_rfl⟩,ac2⟩,ac0⟩,ac4⟩
end Go.Proofs.YtlgmpheammbacaaGreatDoor
