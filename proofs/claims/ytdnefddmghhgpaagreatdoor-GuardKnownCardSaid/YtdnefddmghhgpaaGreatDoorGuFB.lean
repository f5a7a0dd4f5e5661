import Derived.Test.YtdnefddmghhgpaaGreatDoorRows
import Derived.Test.YtdnefddmghhgpaaGreatDoorProg
import Derived.JoinedOf
import GoSem.ClaimSeven
set_option maxRecDepth 1000000
set_option maxHeartbeats 4000000
namespace Go.Proofs.YtdnefddmghhgpaaGreatDoor
open Go
theorem guardKnown_j12 : (Rows.guardKnownRow.recurses == Tryz.prog.recurses 6) = true := by kernel_rfl
theorem guardKnown_j13 : (Rows.guardKnownRow.named == Tryz.prog.varsNamed 6) = true := by kernel_rfl
theorem guardKnown_j14 : (Rows.guardKnownRow.maps == (Tryz.f6.params.toList ++ Rows.guardKnownSpec.plain.varTypes Tryz.prog).any (Tryz.prog.mapsRec ·)) = true := by kernel_rfl
theorem guardKnown_j15 : (Rows.guardKnownRow.ifaces == (Tryz.f6.params.toList ++ Rows.guardKnownSpec.plain.varTypes Tryz.prog).any (Tryz.prog.ifacesRec ·)) = true := by kernel_rfl
theorem guardKnown_j16 : (Rows.guardKnownRow.mapsOut == Tryz.prog.mapsAmong Tryz.f6.resultTypes.toList) = true := by kernel_rfl
theorem guardKnown_j17 : (Rows.guardKnownRow.loops == (Tryz.f6.params.toList ++ Rows.guardKnownSpec.plain.varTypes Tryz.prog).any (Tryz.prog.loopsFrom ·)) = true := by kernel_rfl
theorem guardKnown_j17b : (Rows.guardKnownRow.wideKeys == (Tryz.f6.params.toList ++ Rows.guardKnownSpec.plain.varTypes Tryz.prog ++ Tryz.f6.resultTypes.toList).any (Tryz.prog.wideKeysFrom ·)) = true := by kernel_rfl
theorem guardKnown_j18 : Rows.guardKnownSpec.vars.all (Tryz.prog.varReadable ·) = true := by kernel_rfl
theorem guardKnown_j19 : Tryz.f6.resultTypes.all (fun t => Tryz.prog.readableRec t && decide (t < Tryz.prog.types.size)) = true := by kernel_rfl
theorem guardKnown_j20 : (Rows.guardKnownRow.ifacesOut == Tryz.f6.resultTypes.toList.any (Tryz.prog.ifacesRec ·)) = true := by kernel_rfl
theorem guardKnown_j21 : (Rows.guardKnownRow.loopsOut == Tryz.f6.resultTypes.toList.any (Tryz.prog.loopsFrom ·)) = true := by kernel_rfl
theorem guardKnown_j22 : (Rows.guardKnownRow.plainKeys == Tryz.prog.plainKeys) = true := by kernel_rfl
theorem guardKnown_j23 : Rows.guardKnownRow.shortTexts.isNone = true := by kernel_rfl
theorem guardKnown_j24b : (Rows.guardKnownRow.lifted == Tryz.prog.liftsFinal) = true := by kernel_rfl
theorem guardKnown_j24c : (Tryz.prog.make == some Rows.guardKnownRow.make) = true := by kernel_rfl
theorem guardKnown_j26 : (Rows.guardKnownRow.pinned == Rows.guardKnownRow.pinnedBy) = true := by kernel_rfl
theorem guardKnown_j27 : (Rows.guardKnownRow.veiled == (Tryz.f6.params.toList ++ Rows.guardKnownSpec.plain.varTypes Tryz.prog ++ Tryz.f6.resultTypes.toList).any (Tryz.prog.veiledRec ·)) = true := by kernel_rfl
theorem guardKnown_j28 : Rows.guardKnownRow.veiledFits Tryz.prog Tryz.f6.params.toList (Tryz.f6.params.toList ++ Rows.guardKnownSpec.plain.varTypes Tryz.prog ++ Tryz.f6.resultTypes.toList) = true := by kernel_rfl
theorem guardKnown_jw : Rows.guardKnownRow.wfByText (OpenSpec.ofChange Rows.guardKnownSpec) = true := by kernel_rfl
theorem guardKnown_jg : false = Rows.guardKnownRow.goesBy Tryz.prog := by kernel_rfl
theorem guardKnown_jn : Tryz.prog.funcNamed "croft/croftlaw23.GuardKnown" = some 6 := by kernel_rfl
end Go.Proofs.YtdnefddmghhgpaaGreatDoor
