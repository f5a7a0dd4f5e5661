import Derived.Test.YtdnefddmghhgpaaGreatDoorRows
import Derived.Test.YtdnefddmghhgpaaGreatDoorProg
import Derived.JoinedOf
import GoSem.ClaimSeven
set_option maxRecDepth 1000000
set_option maxHeartbeats 4000000
namespace Go.Proofs.YtdnefddmghhgpaaGreatDoor
open Go
theorem arenaKnown_j12 : (Rows.arenaKnownRow.recurses == Tryz.prog.recurses 3) = true := by kernel_rfl
theorem arenaKnown_j13 : (Rows.arenaKnownRow.named == Tryz.prog.varsNamed 3) = true := by kernel_rfl
theorem arenaKnown_j14 : (Rows.arenaKnownRow.maps == (Tryz.f3.params.toList ++ Rows.arenaKnownSpec.plain.varTypes Tryz.prog).any (Tryz.prog.mapsRec ·)) = true := by kernel_rfl
theorem arenaKnown_j15 : (Rows.arenaKnownRow.ifaces == (Tryz.f3.params.toList ++ Rows.arenaKnownSpec.plain.varTypes Tryz.prog).any (Tryz.prog.ifacesRec ·)) = true := by kernel_rfl
theorem arenaKnown_j16 : (Rows.arenaKnownRow.mapsOut == Tryz.prog.mapsAmong Tryz.f3.resultTypes.toList) = true := by kernel_rfl
theorem arenaKnown_j17 : (Rows.arenaKnownRow.loops == (Tryz.f3.params.toList ++ Rows.arenaKnownSpec.plain.varTypes Tryz.prog).any (Tryz.prog.loopsFrom ·)) = true := by kernel_rfl
theorem arenaKnown_j17b : (Rows.arenaKnownRow.wideKeys == (Tryz.f3.params.toList ++ Rows.arenaKnownSpec.plain.varTypes Tryz.prog ++ Tryz.f3.resultTypes.toList).any (Tryz.prog.wideKeysFrom ·)) = true := by kernel_rfl
theorem arenaKnown_j18 : Rows.arenaKnownSpec.vars.all (Tryz.prog.varReadable ·) = true := by kernel_rfl
theorem arenaKnown_j19 : Tryz.f3.resultTypes.all (fun t => Tryz.prog.readableRec t && decide (t < Tryz.prog.types.size)) = true := by kernel_rfl
theorem arenaKnown_j20 : (Rows.arenaKnownRow.ifacesOut == Tryz.f3.resultTypes.toList.any (Tryz.prog.ifacesRec ·)) = true := by kernel_rfl
theorem arenaKnown_j21 : (Rows.arenaKnownRow.loopsOut == Tryz.f3.resultTypes.toList.any (Tryz.prog.loopsFrom ·)) = true := by kernel_rfl
theorem arenaKnown_j22 : (Rows.arenaKnownRow.plainKeys == Tryz.prog.plainKeys) = true := by kernel_rfl
theorem arenaKnown_j23 : Rows.arenaKnownRow.shortTexts.isNone = true := by kernel_rfl
theorem arenaKnown_j24b : (Rows.arenaKnownRow.lifted == Tryz.prog.liftsFinal) = true := by kernel_rfl
theorem arenaKnown_j24c : (Tryz.prog.make == some Rows.arenaKnownRow.make) = true := by kernel_rfl
theorem arenaKnown_j26 : (Rows.arenaKnownRow.pinned == Rows.arenaKnownRow.pinnedBy) = true := by kernel_rfl
theorem arenaKnown_j27 : (Rows.arenaKnownRow.veiled == (Tryz.f3.params.toList ++ Rows.arenaKnownSpec.plain.varTypes Tryz.prog ++ Tryz.f3.resultTypes.toList).any (Tryz.prog.veiledRec ·)) = true := by kernel_rfl
theorem arenaKnown_j28 : Rows.arenaKnownRow.veiledFits Tryz.prog Tryz.f3.params.toList (Tryz.f3.params.toList ++ Rows.arenaKnownSpec.plain.varTypes Tryz.prog ++ Tryz.f3.resultTypes.toList) = true := by kernel_rfl
theorem arenaKnown_jw : Rows.arenaKnownRow.wfByText (OpenSpec.ofChange Rows.arenaKnownSpec) = true := by kernel_rfl
theorem arenaKnown_jg : false = Rows.arenaKnownRow.goesBy Tryz.prog := by kernel_rfl
theorem arenaKnown_jn : Tryz.prog.funcNamed "croft/croftlaw15.ArenaKnown" = some 3 := by kernel_rfl
end Go.Proofs.YtdnefddmghhgpaaGreatDoor
