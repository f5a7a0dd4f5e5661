import Derived.Test.YtdnefddmghhgpaaGreatDoorRows
import Derived.Test.YtdnefddmghhgpaaGreatDoorProg
import Derived.JoinedOf
import GoSem.ClaimSeven
set_option maxRecDepth 1000000
set_option maxHeartbeats 4000000
namespace Go.Proofs.YtdnefddmghhgpaaGreatDoor
open Go
theorem quotaKnown_j12 : (Rows.quotaKnownRow.recurses == Tryz.prog.recurses 10) = true := by kernel_rfl
theorem quotaKnown_j13 : (Rows.quotaKnownRow.named == Tryz.prog.varsNamed 10) = true := by kernel_rfl
theorem quotaKnown_j14 : (Rows.quotaKnownRow.maps == (Tryz.f10.params.toList ++ Rows.quotaKnownSpec.plain.varTypes Tryz.prog).any (Tryz.prog.mapsRec ·)) = true := by kernel_rfl
theorem quotaKnown_j15 : (Rows.quotaKnownRow.ifaces == (Tryz.f10.params.toList ++ Rows.quotaKnownSpec.plain.varTypes Tryz.prog).any (Tryz.prog.ifacesRec ·)) = true := by kernel_rfl
theorem quotaKnown_j16 : (Rows.quotaKnownRow.mapsOut == Tryz.prog.mapsAmong Tryz.f10.resultTypes.toList) = true := by kernel_rfl
theorem quotaKnown_j17 : (Rows.quotaKnownRow.loops == (Tryz.f10.params.toList ++ Rows.quotaKnownSpec.plain.varTypes Tryz.prog).any (Tryz.prog.loopsFrom ·)) = true := by kernel_rfl
theorem quotaKnown_j17b : (Rows.quotaKnownRow.wideKeys == (Tryz.f10.params.toList ++ Rows.quotaKnownSpec.plain.varTypes Tryz.prog ++ Tryz.f10.resultTypes.toList).any (Tryz.prog.wideKeysFrom ·)) = true := by kernel_rfl
theorem quotaKnown_j18 : Rows.quotaKnownSpec.vars.all (Tryz.prog.varReadable ·) = true := by kernel_rfl
theorem quotaKnown_j19 : Tryz.f10.resultTypes.all (fun t => Tryz.prog.readableRec t && decide (t < Tryz.prog.types.size)) = true := by kernel_rfl
theorem quotaKnown_j20 : (Rows.quotaKnownRow.ifacesOut == Tryz.f10.resultTypes.toList.any (Tryz.prog.ifacesRec ·)) = true := by kernel_rfl
theorem quotaKnown_j21 : (Rows.quotaKnownRow.loopsOut == Tryz.f10.resultTypes.toList.any (Tryz.prog.loopsFrom ·)) = true := by kernel_rfl
theorem quotaKnown_j22 : (Rows.quotaKnownRow.plainKeys == Tryz.prog.plainKeys) = true := by kernel_rfl
theorem quotaKnown_j23 : Rows.quotaKnownRow.shortTexts.isNone = true := by kernel_rfl
theorem quotaKnown_j24b : (Rows.quotaKnownRow.lifted == Tryz.prog.liftsFinal) = true := by kernel_rfl
theorem quotaKnown_j24c : (Tryz.prog.make == some Rows.quotaKnownRow.make) = true := by kernel_rfl
theorem quotaKnown_j26 : (Rows.quotaKnownRow.pinned == Rows.quotaKnownRow.pinnedBy) = true := by kernel_rfl
theorem quotaKnown_j27 : (Rows.quotaKnownRow.veiled == (Tryz.f10.params.toList ++ Rows.quotaKnownSpec.plain.varTypes Tryz.prog ++ Tryz.f10.resultTypes.toList).any (Tryz.prog.veiledRec ·)) = true := by kernel_rfl
theorem quotaKnown_j28 : Rows.quotaKnownRow.veiledFits Tryz.prog Tryz.f10.params.toList (Tryz.f10.params.toList ++ Rows.quotaKnownSpec.plain.varTypes Tryz.prog ++ Tryz.f10.resultTypes.toList) = true := by kernel_rfl
theorem quotaKnown_jw : Rows.quotaKnownRow.wfByText (OpenSpec.ofChange Rows.quotaKnownSpec) = true := by kernel_rfl
theorem quotaKnown_jg : false = Rows.quotaKnownRow.goesBy Tryz.prog := by kernel_rfl
theorem quotaKnown_jn : Tryz.prog.funcNamed "croft/croftlaw14.QuotaKnown" = some 10 := by kernel_rfl
end Go.Proofs.YtdnefddmghhgpaaGreatDoor
