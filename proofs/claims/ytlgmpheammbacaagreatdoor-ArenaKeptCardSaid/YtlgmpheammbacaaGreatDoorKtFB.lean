import Derived.Test.YtlgmpheammbacaaGreatDoorRows
import Derived.Test.YtlgmpheammbacaaGreatDoorProg
import Derived.JoinedOf
import GoSem.ClaimSeven
import Derived.Test.YtlgmpheammbacaaGreatDoorFP
import Derived.Test.YtlgmpheammbacaaGreatDoorKtFA
set_option maxRecDepth 1000000
set_option maxHeartbeats 4000000
namespace Go.Proofs.YtlgmpheammbacaaGreatDoor
open Go
theorem arenaKept_j12 : (Rows.arenaKeptRow.recurses == Tryz.prog.recurses 3) = true := by kernel_rfl
theorem arenaKept_j13 : (Rows.arenaKeptRow.named == Tryz.prog.varsNamed 3) = true := by kernel_rfl
theorem arenaKept_j14 : (Rows.arenaKeptRow.maps == (Tryz.f3.params.toList ++ Rows.arenaKeptSpec.plain.varTypes Tryz.prog).any (Tryz.prog.mapsRec ·)) = true := by kernel_rfl
theorem arenaKept_j15 : (Rows.arenaKeptRow.ifaces == (Tryz.f3.params.toList ++ Rows.arenaKeptSpec.plain.varTypes Tryz.prog).any (Tryz.prog.ifacesRec ·)) = true := by kernel_rfl
theorem arenaKept_j16 : (Rows.arenaKeptRow.mapsOut == Tryz.prog.mapsAmong Tryz.f3.resultTypes.toList) = true := by kernel_rfl
theorem arenaKept_j17 : (Rows.arenaKeptRow.loops == (Tryz.f3.params.toList ++ Rows.arenaKeptSpec.plain.varTypes Tryz.prog).any (Tryz.prog.loopsFrom ·)) = true := by kernel_rfl
theorem arenaKept_j17b : (Rows.arenaKeptRow.wideKeys == (Tryz.f3.params.toList ++ Rows.arenaKeptSpec.plain.varTypes Tryz.prog ++ Tryz.f3.resultTypes.toList).any (Tryz.prog.wideKeysFrom ·)) = true := by kernel_rfl
theorem arenaKept_j18 : Rows.arenaKeptSpec.vars.all (Tryz.prog.varReadable ·) = true := by kernel_rfl
theorem arenaKept_j19 : Tryz.f3.resultTypes.all (fun t => Tryz.prog.readableRec t && decide (t < Tryz.prog.types.size)) = true := by kernel_rfl
theorem arenaKept_j20 : (Rows.arenaKeptRow.ifacesOut == Tryz.f3.resultTypes.toList.any (Tryz.prog.ifacesRec ·)) = true := by kernel_rfl
theorem arenaKept_j21 : (Rows.arenaKeptRow.loopsOut == Tryz.f3.resultTypes.toList.any (Tryz.prog.loopsFrom ·)) = true := by kernel_rfl
theorem arenaKept_j22 : (Rows.arenaKeptRow.plainKeys == Tryz.prog.plainKeys) = true := by kernel_rfl
theorem arenaKept_j23 : Rows.arenaKeptRow.shortTexts.isNone = true := by kernel_rfl
theorem arenaKept_j24b : (Rows.arenaKeptRow.lifted == Tryz.prog.liftsFinal) = true := by kernel_rfl
theorem arenaKept_j24c : (Tryz.prog.make == some Rows.arenaKeptRow.make) = true := by kernel_rfl
theorem arenaKept_j26 : (Rows.arenaKeptRow.pinned == Rows.arenaKeptRow.pinnedBy) = true := by kernel_rfl
theorem arenaKept_j27 : (Rows.arenaKeptRow.veiled == (Tryz.f3.params.toList ++ Rows.arenaKeptSpec.plain.varTypes Tryz.prog ++ Tryz.f3.resultTypes.toList).any (Tryz.prog.veiledRec ·)) = true := by kernel_rfl
theorem arenaKept_j28 : Rows.arenaKeptRow.veiledFits Tryz.prog Tryz.f3.params.toList (Tryz.f3.params.toList ++ Rows.arenaKeptSpec.plain.varTypes Tryz.prog ++ Tryz.f3.resultTypes.toList) = true := by kernel_rfl
theorem arenaKept_jw : Rows.arenaKeptRow.wfByText (OpenSpec.ofChange Rows.arenaKeptSpec) = true := by kernel_rfl
theorem arenaKept_jg : false = Rows.arenaKeptRow.goesBy Tryz.prog := by kernel_rfl
theorem arenaKept_jn : Tryz.prog.funcNamed "croft/croftlaw15.ArenaKept" = some 3 := by kernel_rfl
theorem arenaKept_facts : joinedFacts Tryz.prog 3 Tryz.f3 Rows.arenaKeptSpec Rows.arenaKeptRow = true := by
  unfold joinedFacts
  simp only [Bool.and_eq_true]
  exact ⟨⟨⟨⟨⟨⟨⟨⟨⟨⟨⟨⟨⟨⟨⟨⟨⟨⟨⟨⟨⟨⟨⟨⟨⟨⟨⟨⟨⟨⟨⟨arenaKept_j1, p2⟩, p3⟩, arenaKept_j4⟩, arenaKept_j5⟩, arenaKept_j6⟩, p7⟩, arenaKept_j8⟩, p9⟩, arenaKept_j10⟩, arenaKept_j11⟩, arenaKept_j12⟩, arenaKept_j13⟩, arenaKept_j14⟩, arenaKept_j15⟩, arenaKept_j16⟩, arenaKept_j17⟩, arenaKept_j17b⟩, arenaKept_j18⟩, arenaKept_j19⟩, arenaKept_j20⟩, arenaKept_j21⟩, arenaKept_j22⟩, arenaKept_j23⟩, p23b⟩, p24⟩, arenaKept_j24b⟩, arenaKept_j24c⟩, by kernel_rfl⟩, arenaKept_j26⟩, arenaKept_j27⟩, arenaKept_j28⟩
end Go.Proofs.YtlgmpheammbacaaGreatDoor
