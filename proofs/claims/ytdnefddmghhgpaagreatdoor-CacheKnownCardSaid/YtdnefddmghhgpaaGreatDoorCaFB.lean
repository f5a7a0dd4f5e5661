import Derived.Test.YtdnefddmghhgpaaGreatDoorRows
import Derived.Test.YtdnefddmghhgpaaGreatDoorProg
import Derived.JoinedOf
import GoSem.ClaimSeven
set_option maxRecDepth 1000000
set_option maxHeartbeats 4000000
namespace Go.Proofs.YtdnefddmghhgpaaGreatDoor
open Go
theorem cacheKnown_j12 : (Rows.cacheKnownRow.recurses == Tryz.prog.recurses 4) = true := by kernel_rfl
theorem cacheKnown_j13 : (Rows.cacheKnownRow.named == Tryz.prog.varsNamed 4) = true := by kernel_rfl
theorem cacheKnown_j14 : (Rows.cacheKnownRow.maps == (Tryz.f4.params.toList ++ Rows.cacheKnownSpec.plain.varTypes Tryz.prog).any (Tryz.prog.mapsRec ·)) = true := by kernel_rfl
theorem cacheKnown_j15 : (Rows.cacheKnownRow.ifaces == (Tryz.f4.params.toList ++ Rows.cacheKnownSpec.plain.varTypes Tryz.prog).any (Tryz.prog.ifacesRec ·)) = true := by kernel_rfl
theorem cacheKnown_j16 : (Rows.cacheKnownRow.mapsOut == Tryz.prog.mapsAmong Tryz.f4.resultTypes.toList) = true := by kernel_rfl
theorem cacheKnown_j17 : (Rows.cacheKnownRow.loops == (Tryz.f4.params.toList ++ Rows.cacheKnownSpec.plain.varTypes Tryz.prog).any (Tryz.prog.loopsFrom ·)) = true := by kernel_rfl
theorem cacheKnown_j17b : (Rows.cacheKnownRow.wideKeys == (Tryz.f4.params.toList ++ Rows.cacheKnownSpec.plain.varTypes Tryz.prog ++ Tryz.f4.resultTypes.toList).any (Tryz.prog.wideKeysFrom ·)) = true := by kernel_rfl
theorem cacheKnown_j18 : Rows.cacheKnownSpec.vars.all (Tryz.prog.varReadable ·) = true := by kernel_rfl
theorem cacheKnown_j19 : Tryz.f4.resultTypes.all (fun t => Tryz.prog.readableRec t && decide (t < Tryz.prog.types.size)) = true := by kernel_rfl
theorem cacheKnown_j20 : (Rows.cacheKnownRow.ifacesOut == Tryz.f4.resultTypes.toList.any (Tryz.prog.ifacesRec ·)) = true := by kernel_rfl
theorem cacheKnown_j21 : (Rows.cacheKnownRow.loopsOut == Tryz.f4.resultTypes.toList.any (Tryz.prog.loopsFrom ·)) = true := by kernel_rfl
theorem cacheKnown_j22 : (Rows.cacheKnownRow.plainKeys == Tryz.prog.plainKeys) = true := by kernel_rfl
theorem cacheKnown_j23 : Rows.cacheKnownRow.shortTexts.isNone = true := by kernel_rfl
theorem cacheKnown_j24b : (Rows.cacheKnownRow.lifted == Tryz.prog.liftsFinal) = true := by kernel_rfl
theorem cacheKnown_j24c : (Tryz.prog.make == some Rows.cacheKnownRow.make) = true := by kernel_rfl
theorem cacheKnown_j26 : (Rows.cacheKnownRow.pinned == Rows.cacheKnownRow.pinnedBy) = true := by kernel_rfl
theorem cacheKnown_j27 : (Rows.cacheKnownRow.veiled == (Tryz.f4.params.toList ++ Rows.cacheKnownSpec.plain.varTypes Tryz.prog ++ Tryz.f4.resultTypes.toList).any (Tryz.prog.veiledRec ·)) = true := by kernel_rfl
theorem cacheKnown_j28 : Rows.cacheKnownRow.veiledFits Tryz.prog Tryz.f4.params.toList (Tryz.f4.params.toList ++ Rows.cacheKnownSpec.plain.varTypes Tryz.prog ++ Tryz.f4.resultTypes.toList) = true := by kernel_rfl
theorem cacheKnown_jw : Rows.cacheKnownRow.wfByText (OpenSpec.ofChange Rows.cacheKnownSpec) = true := by kernel_rfl
theorem cacheKnown_jg : false = Rows.cacheKnownRow.goesBy Tryz.prog := by kernel_rfl
theorem cacheKnown_jn : Tryz.prog.funcNamed "croft/croftlaw13.CacheKnown" = some 4 := by kernel_rfl
end Go.Proofs.YtdnefddmghhgpaaGreatDoor
