import Derived.Test.YtdnefddmghhgpaaGreatDoorRows
import Derived.Test.YtdnefddmghhgpaaGreatDoorProg
import Derived.JoinedOf
import GoSem.ClaimSeven
set_option maxRecDepth 1000000
set_option maxHeartbeats 4000000
namespace Go.Proofs.YtdnefddmghhgpaaGreatDoor
open Go
theorem countKnown_j12 : (Rows.countKnownRow.recurses == Tryz.prog.recurses 9) = true := by kernel_rfl
theorem countKnown_j13 : (Rows.countKnownRow.named == Tryz.prog.varsNamed 9) = true := by kernel_rfl
theorem countKnown_j14 : (Rows.countKnownRow.maps == (Tryz.f9.params.toList ++ Rows.countKnownSpec.plain.varTypes Tryz.prog).any (Tryz.prog.mapsRec ·)) = true := by kernel_rfl
theorem countKnown_j15 : (Rows.countKnownRow.ifaces == (Tryz.f9.params.toList ++ Rows.countKnownSpec.plain.varTypes Tryz.prog).any (Tryz.prog.ifacesRec ·)) = true := by kernel_rfl
theorem countKnown_j16 : (Rows.countKnownRow.mapsOut == Tryz.prog.mapsAmong Tryz.f9.resultTypes.toList) = true := by kernel_rfl
theorem countKnown_j17 : (Rows.countKnownRow.loops == (Tryz.f9.params.toList ++ Rows.countKnownSpec.plain.varTypes Tryz.prog).any (Tryz.prog.loopsFrom ·)) = true := by kernel_rfl
theorem countKnown_j17b : (Rows.countKnownRow.wideKeys == (Tryz.f9.params.toList ++ Rows.countKnownSpec.plain.varTypes Tryz.prog ++ Tryz.f9.resultTypes.toList).any (Tryz.prog.wideKeysFrom ·)) = true := by kernel_rfl
theorem countKnown_j18 : Rows.countKnownSpec.vars.all (Tryz.prog.varReadable ·) = true := by kernel_rfl
theorem countKnown_j19 : Tryz.f9.resultTypes.all (fun t => Tryz.prog.readableRec t && decide (t < Tryz.prog.types.size)) = true := by kernel_rfl
theorem countKnown_j20 : (Rows.countKnownRow.ifacesOut == Tryz.f9.resultTypes.toList.any (Tryz.prog.ifacesRec ·)) = true := by kernel_rfl
theorem countKnown_j21 : (Rows.countKnownRow.loopsOut == Tryz.f9.resultTypes.toList.any (Tryz.prog.loopsFrom ·)) = true := by kernel_rfl
theorem countKnown_j22 : (Rows.countKnownRow.plainKeys == Tryz.prog.plainKeys) = true := by kernel_rfl
theorem countKnown_j23 : Rows.countKnownRow.shortTexts.isNone = true := by kernel_rfl
theorem countKnown_j24b : (Rows.countKnownRow.lifted == Tryz.prog.liftsFinal) = true := by kernel_rfl
theorem countKnown_j24c : (Tryz.prog.make == some Rows.countKnownRow.make) = true := by kernel_rfl
theorem countKnown_j26 : (Rows.countKnownRow.pinned == Rows.countKnownRow.pinnedBy) = true := by kernel_rfl
theorem countKnown_j27 : (Rows.countKnownRow.veiled == (Tryz.f9.params.toList ++ Rows.countKnownSpec.plain.varTypes Tryz.prog ++ Tryz.f9.resultTypes.toList).any (Tryz.prog.veiledRec ·)) = true := by kernel_rfl
theorem countKnown_j28 : Rows.countKnownRow.veiledFits Tryz.prog Tryz.f9.params.toList (Tryz.f9.params.toList ++ Rows.countKnownSpec.plain.varTypes Tryz.prog ++ Tryz.f9.resultTypes.toList) = true := by kernel_rfl
theorem countKnown_jw : Rows.countKnownRow.wfByText (OpenSpec.ofChange Rows.countKnownSpec) = true := by kernel_rfl
theorem countKnown_jg : false = Rows.countKnownRow.goesBy Tryz.prog := by kernel_rfl
theorem countKnown_jn : Tryz.prog.funcNamed "croft/croftlaw18.CountKnown" = some 9 := by kernel_rfl
end Go.Proofs.YtdnefddmghhgpaaGreatDoor
