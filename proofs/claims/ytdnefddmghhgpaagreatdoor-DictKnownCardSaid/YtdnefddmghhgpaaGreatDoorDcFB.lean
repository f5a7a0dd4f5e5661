import Derived.Test.YtdnefddmghhgpaaGreatDoorRows
import Derived.Test.YtdnefddmghhgpaaGreatDoorProg
import Derived.JoinedOf
import GoSem.ClaimSeven
set_option maxRecDepth 1000000
set_option maxHeartbeats 4000000
namespace Go.Proofs.YtdnefddmghhgpaaGreatDoor
open Go
theorem dictKnown_j12 : (Rows.dictKnownRow.recurses == Tryz.prog.recurses 5) = true := by kernel_rfl
theorem dictKnown_j13 : (Rows.dictKnownRow.named == Tryz.prog.varsNamed 5) = true := by kernel_rfl
theorem dictKnown_j14 : (Rows.dictKnownRow.maps == (Tryz.f5.params.toList ++ Rows.dictKnownSpec.plain.varTypes Tryz.prog).any (Tryz.prog.mapsRec ·)) = true := by kernel_rfl
theorem dictKnown_j15 : (Rows.dictKnownRow.ifaces == (Tryz.f5.params.toList ++ Rows.dictKnownSpec.plain.varTypes Tryz.prog).any (Tryz.prog.ifacesRec ·)) = true := by kernel_rfl
theorem dictKnown_j16 : (Rows.dictKnownRow.mapsOut == Tryz.prog.mapsAmong Tryz.f5.resultTypes.toList) = true := by kernel_rfl
theorem dictKnown_j17 : (Rows.dictKnownRow.loops == (Tryz.f5.params.toList ++ Rows.dictKnownSpec.plain.varTypes Tryz.prog).any (Tryz.prog.loopsFrom ·)) = true := by kernel_rfl
theorem dictKnown_j17b : (Rows.dictKnownRow.wideKeys == (Tryz.f5.params.toList ++ Rows.dictKnownSpec.plain.varTypes Tryz.prog ++ Tryz.f5.resultTypes.toList).any (Tryz.prog.wideKeysFrom ·)) = true := by kernel_rfl
theorem dictKnown_j18 : Rows.dictKnownSpec.vars.all (Tryz.prog.varReadable ·) = true := by kernel_rfl
theorem dictKnown_j19 : Tryz.f5.resultTypes.all (fun t => Tryz.prog.readableRec t && decide (t < Tryz.prog.types.size)) = true := by kernel_rfl
theorem dictKnown_j20 : (Rows.dictKnownRow.ifacesOut == Tryz.f5.resultTypes.toList.any (Tryz.prog.ifacesRec ·)) = true := by kernel_rfl
theorem dictKnown_j21 : (Rows.dictKnownRow.loopsOut == Tryz.f5.resultTypes.toList.any (Tryz.prog.loopsFrom ·)) = true := by kernel_rfl
theorem dictKnown_j22 : (Rows.dictKnownRow.plainKeys == Tryz.prog.plainKeys) = true := by kernel_rfl
theorem dictKnown_j23 : Rows.dictKnownRow.shortTexts.isNone = true := by kernel_rfl
theorem dictKnown_j24b : (Rows.dictKnownRow.lifted == Tryz.prog.liftsFinal) = true := by kernel_rfl
theorem dictKnown_j24c : (Tryz.prog.make == some Rows.dictKnownRow.make) = true := by kernel_rfl
theorem dictKnown_j26 : (Rows.dictKnownRow.pinned == Rows.dictKnownRow.pinnedBy) = true := by kernel_rfl
theorem dictKnown_j27 : (Rows.dictKnownRow.veiled == (Tryz.f5.params.toList ++ Rows.dictKnownSpec.plain.varTypes Tryz.prog ++ Tryz.f5.resultTypes.toList).any (Tryz.prog.veiledRec ·)) = true := by kernel_rfl
theorem dictKnown_j28 : Rows.dictKnownRow.veiledFits Tryz.prog Tryz.f5.params.toList (Tryz.f5.params.toList ++ Rows.dictKnownSpec.plain.varTypes Tryz.prog ++ Tryz.f5.resultTypes.toList) = true := by kernel_rfl
theorem dictKnown_jw : Rows.dictKnownRow.wfByText (OpenSpec.ofChange Rows.dictKnownSpec) = true := by kernel_rfl
theorem dictKnown_jg : false = Rows.dictKnownRow.goesBy Tryz.prog := by kernel_rfl
theorem dictKnown_jn : Tryz.prog.funcNamed "croft/croftlaw19.DictKnown" = some 5 := by kernel_rfl
end Go.Proofs.YtdnefddmghhgpaaGreatDoor
