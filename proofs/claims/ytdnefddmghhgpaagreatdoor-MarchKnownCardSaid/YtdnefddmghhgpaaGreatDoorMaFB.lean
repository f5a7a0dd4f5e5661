import Derived.Test.YtdnefddmghhgpaaGreatDoorRows
import Derived.Test.YtdnefddmghhgpaaGreatDoorProg
import Derived.JoinedOf
import GoSem.ClaimSeven
set_option maxRecDepth 1000000
set_option maxHeartbeats 4000000
namespace Go.Proofs.YtdnefddmghhgpaaGreatDoor
open Go
theorem marchKnown_j12 : (Rows.marchKnownRow.recurses == Tryz.prog.recurses 7) = true := by kernel_rfl
theorem marchKnown_j13 : (Rows.marchKnownRow.named == Tryz.prog.varsNamed 7) = true := by kernel_rfl
theorem marchKnown_j14 : (Rows.marchKnownRow.maps == (Tryz.f7.params.toList ++ Rows.marchKnownSpec.plain.varTypes Tryz.prog).any (Tryz.prog.mapsRec ·)) = true := by kernel_rfl
theorem marchKnown_j15 : (Rows.marchKnownRow.ifaces == (Tryz.f7.params.toList ++ Rows.marchKnownSpec.plain.varTypes Tryz.prog).any (Tryz.prog.ifacesRec ·)) = true := by kernel_rfl
theorem marchKnown_j16 : (Rows.marchKnownRow.mapsOut == Tryz.prog.mapsAmong Tryz.f7.resultTypes.toList) = true := by kernel_rfl
theorem marchKnown_j17 : (Rows.marchKnownRow.loops == (Tryz.f7.params.toList ++ Rows.marchKnownSpec.plain.varTypes Tryz.prog).any (Tryz.prog.loopsFrom ·)) = true := by kernel_rfl
theorem marchKnown_j17b : (Rows.marchKnownRow.wideKeys == (Tryz.f7.params.toList ++ Rows.marchKnownSpec.plain.varTypes Tryz.prog ++ Tryz.f7.resultTypes.toList).any (Tryz.prog.wideKeysFrom ·)) = true := by kernel_rfl
theorem marchKnown_j18 : Rows.marchKnownSpec.vars.all (Tryz.prog.varReadable ·) = true := by kernel_rfl
theorem marchKnown_j19 : Tryz.f7.resultTypes.all (fun t => Tryz.prog.readableRec t && decide (t < Tryz.prog.types.size)) = true := by kernel_rfl
theorem marchKnown_j20 : (Rows.marchKnownRow.ifacesOut == Tryz.f7.resultTypes.toList.any (Tryz.prog.ifacesRec ·)) = true := by kernel_rfl
theorem marchKnown_j21 : (Rows.marchKnownRow.loopsOut == Tryz.f7.resultTypes.toList.any (Tryz.prog.loopsFrom ·)) = true := by kernel_rfl
theorem marchKnown_j22 : (Rows.marchKnownRow.plainKeys == Tryz.prog.plainKeys) = true := by kernel_rfl
theorem marchKnown_j23 : Rows.marchKnownRow.shortTexts.isNone = true := by kernel_rfl
theorem marchKnown_j24b : (Rows.marchKnownRow.lifted == Tryz.prog.liftsFinal) = true := by kernel_rfl
theorem marchKnown_j24c : (Tryz.prog.make == some Rows.marchKnownRow.make) = true := by kernel_rfl
theorem marchKnown_j26 : (Rows.marchKnownRow.pinned == Rows.marchKnownRow.pinnedBy) = true := by kernel_rfl
theorem marchKnown_j27 : (Rows.marchKnownRow.veiled == (Tryz.f7.params.toList ++ Rows.marchKnownSpec.plain.varTypes Tryz.prog ++ Tryz.f7.resultTypes.toList).any (Tryz.prog.veiledRec ·)) = true := by kernel_rfl
theorem marchKnown_j28 : Rows.marchKnownRow.veiledFits Tryz.prog Tryz.f7.params.toList (Tryz.f7.params.toList ++ Rows.marchKnownSpec.plain.varTypes Tryz.prog ++ Tryz.f7.resultTypes.toList) = true := by kernel_rfl
theorem marchKnown_jw : Rows.marchKnownRow.wfByText (OpenSpec.ofChange Rows.marchKnownSpec) = true := by kernel_rfl
theorem marchKnown_jg : false = Rows.marchKnownRow.goesBy Tryz.prog := by kernel_rfl
theorem marchKnown_jn : Tryz.prog.funcNamed "croft/croftlaw22.MarchKnown" = some 7 := by kernel_rfl
end Go.Proofs.YtdnefddmghhgpaaGreatDoor
