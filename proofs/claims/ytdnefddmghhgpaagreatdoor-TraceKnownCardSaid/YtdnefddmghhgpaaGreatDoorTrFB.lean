import Derived.Test.YtdnefddmghhgpaaGreatDoorRows
import Derived.Test.YtdnefddmghhgpaaGreatDoorProg
import Derived.JoinedOf
import GoSem.ClaimSeven
set_option maxRecDepth 1000000
set_option maxHeartbeats 4000000
namespace Go.Proofs.YtdnefddmghhgpaaGreatDoor
open Go
theorem traceKnown_j12 : (Rows.traceKnownRow.recurses == Tryz.prog.recurses 8) = true := by kernel_rfl
theorem traceKnown_j13 : (Rows.traceKnownRow.named == Tryz.prog.varsNamed 8) = true := by kernel_rfl
theorem traceKnown_j14 : (Rows.traceKnownRow.maps == (Tryz.f8.params.toList ++ Rows.traceKnownSpec.plain.varTypes Tryz.prog).any (Tryz.prog.mapsRec ·)) = true := by kernel_rfl
theorem traceKnown_j15 : (Rows.traceKnownRow.ifaces == (Tryz.f8.params.toList ++ Rows.traceKnownSpec.plain.varTypes Tryz.prog).any (Tryz.prog.ifacesRec ·)) = true := by kernel_rfl
theorem traceKnown_j16 : (Rows.traceKnownRow.mapsOut == Tryz.prog.mapsAmong Tryz.f8.resultTypes.toList) = true := by kernel_rfl
theorem traceKnown_j17 : (Rows.traceKnownRow.loops == (Tryz.f8.params.toList ++ Rows.traceKnownSpec.plain.varTypes Tryz.prog).any (Tryz.prog.loopsFrom ·)) = true := by kernel_rfl
theorem traceKnown_j17b : (Rows.traceKnownRow.wideKeys == (Tryz.f8.params.toList ++ Rows.traceKnownSpec.plain.varTypes Tryz.prog ++ Tryz.f8.resultTypes.toList).any (Tryz.prog.wideKeysFrom ·)) = true := by kernel_rfl
theorem traceKnown_j18 : Rows.traceKnownSpec.vars.all (Tryz.prog.varReadable ·) = true := by kernel_rfl
theorem traceKnown_j19 : Tryz.f8.resultTypes.all (fun t => Tryz.prog.readableRec t && decide (t < Tryz.prog.types.size)) = true := by kernel_rfl
theorem traceKnown_j20 : (Rows.traceKnownRow.ifacesOut == Tryz.f8.resultTypes.toList.any (Tryz.prog.ifacesRec ·)) = true := by kernel_rfl
theorem traceKnown_j21 : (Rows.traceKnownRow.loopsOut == Tryz.f8.resultTypes.toList.any (Tryz.prog.loopsFrom ·)) = true := by kernel_rfl
theorem traceKnown_j22 : (Rows.traceKnownRow.plainKeys == Tryz.prog.plainKeys) = true := by kernel_rfl
theorem traceKnown_j23 : Rows.traceKnownRow.shortTexts.isNone = true := by kernel_rfl
theorem traceKnown_j24b : (Rows.traceKnownRow.lifted == Tryz.prog.liftsFinal) = true := by kernel_rfl
theorem traceKnown_j24c : (Tryz.prog.make == some Rows.traceKnownRow.make) = true := by kernel_rfl
theorem traceKnown_j26 : (Rows.traceKnownRow.pinned == Rows.traceKnownRow.pinnedBy) = true := by kernel_rfl
theorem traceKnown_j27 : (Rows.traceKnownRow.veiled == (Tryz.f8.params.toList ++ Rows.traceKnownSpec.plain.varTypes Tryz.prog ++ Tryz.f8.resultTypes.toList).any (Tryz.prog.veiledRec ·)) = true := by kernel_rfl
theorem traceKnown_j28 : Rows.traceKnownRow.veiledFits Tryz.prog Tryz.f8.params.toList (Tryz.f8.params.toList ++ Rows.traceKnownSpec.plain.varTypes Tryz.prog ++ Tryz.f8.resultTypes.toList) = true := by kernel_rfl
theorem traceKnown_jw : Rows.traceKnownRow.wfByText (OpenSpec.ofChange Rows.traceKnownSpec) = true := by kernel_rfl
theorem traceKnown_jg : false = Rows.traceKnownRow.goesBy Tryz.prog := by kernel_rfl
theorem traceKnown_jn : Tryz.prog.funcNamed "croft/croftlaw17.TraceKnown" = some 8 := by kernel_rfl
end Go.Proofs.YtdnefddmghhgpaaGreatDoor
