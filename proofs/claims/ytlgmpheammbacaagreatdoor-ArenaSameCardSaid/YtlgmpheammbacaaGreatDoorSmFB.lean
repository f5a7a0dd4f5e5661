import Derived.Test.YtlgmpheammbacaaGreatDoorRows
import Derived.Test.YtlgmpheammbacaaGreatDoorProg
import Derived.JoinedOf
import GoSem.ClaimSeven
import Derived.Test.YtlgmpheammbacaaGreatDoorFP
import Derived.Test.YtlgmpheammbacaaGreatDoorSmFA
set_option maxRecDepth 1000000
set_option maxHeartbeats 4000000
namespace Go.Proofs.YtlgmpheammbacaaGreatDoor
open Go
theorem arenaSame_j12 : (Rows.arenaSameRow.recurses == Tryz.prog.recurses 5) = true := by kernel_rfl
theorem arenaSame_j13 : (Rows.arenaSameRow.named == Tryz.prog.varsNamed 5) = true := by kernel_rfl
theorem arenaSame_j14 : (Rows.arenaSameRow.maps == (Tryz.f5.params.toList ++ Rows.arenaSameSpec.plain.varTypes Tryz.prog).any (Tryz.prog.mapsRec ·)) = true := by kernel_rfl
theorem arenaSame_j15 : (Rows.arenaSameRow.ifaces == (Tryz.f5.params.toList ++ Rows.arenaSameSpec.plain.varTypes Tryz.prog).any (Tryz.prog.ifacesRec ·)) = true := by kernel_rfl
theorem arenaSame_j16 : (Rows.arenaSameRow.mapsOut == Tryz.prog.mapsAmong Tryz.f5.resultTypes.toList) = true := by kernel_rfl
theorem arenaSame_j17 : (Rows.arenaSameRow.loops == (Tryz.f5.params.toList ++ Rows.arenaSameSpec.plain.varTypes Tryz.prog).any (Tryz.prog.loopsFrom ·)) = true := by kernel_rfl
theorem arenaSame_j17b : (Rows.arenaSameRow.wideKeys == (Tryz.f5.params.toList ++ Rows.arenaSameSpec.plain.varTypes Tryz.prog ++ Tryz.f5.resultTypes.toList).any (Tryz.prog.wideKeysFrom ·)) = true := by kernel_rfl
theorem arenaSame_j18 : Rows.arenaSameSpec.vars.all (Tryz.prog.varReadable ·) = true := by kernel_rfl
theorem arenaSame_j19 : Tryz.f5.resultTypes.all (fun t => Tryz.prog.readableRec t && decide (t < Tryz.prog.types.size)) = true := by kernel_rfl
theorem arenaSame_j20 : (Rows.arenaSameRow.ifacesOut == Tryz.f5.resultTypes.toList.any (Tryz.prog.ifacesRec ·)) = true := by kernel_rfl
theorem arenaSame_j21 : (Rows.arenaSameRow.loopsOut == Tryz.f5.resultTypes.toList.any (Tryz.prog.loopsFrom ·)) = true := by kernel_rfl
theorem arenaSame_j22 : (Rows.arenaSameRow.plainKeys == Tryz.prog.plainKeys) = true := by kernel_rfl
theorem arenaSame_j23 : Rows.arenaSameRow.shortTexts.isNone = true := by kernel_rfl
theorem arenaSame_j24b : (Rows.arenaSameRow.lifted == Tryz.prog.liftsFinal) = true := by kernel_rfl
theorem arenaSame_j24c : (Tryz.prog.make == some Rows.arenaSameRow.make) = true := by kernel_rfl
theorem arenaSame_j26 : (Rows.arenaSameRow.pinned == Rows.arenaSameRow.pinnedBy) = true := by kernel_rfl
theorem arenaSame_j27 : (Rows.arenaSameRow.veiled == (Tryz.f5.params.toList ++ Rows.arenaSameSpec.plain.varTypes Tryz.prog ++ Tryz.f5.resultTypes.toList).any (Tryz.prog.veiledRec ·)) = true := by kernel_rfl
theorem arenaSame_j28 : Rows.arenaSameRow.veiledFits Tryz.prog Tryz.f5.params.toList (Tryz.f5.params.toList ++ Rows.arenaSameSpec.plain.varTypes Tryz.prog ++ Tryz.f5.resultTypes.toList) = true := by kernel_rfl
theorem arenaSame_jw : Rows.arenaSameRow.wfByText (OpenSpec.ofChange Rows.arenaSameSpec) = true := by kernel_rfl
theorem arenaSame_jg : false = Rows.arenaSameRow.goesBy Tryz.prog := by kernel_rfl
theorem arenaSame_jn : Tryz.prog.funcNamed "croft/croftlaw15.ArenaSame" = some 5 := by kernel_rfl
theorem arenaSame_facts : joinedFacts Tryz.prog 5 Tryz.f5 Rows.arenaSameSpec Rows.arenaSameRow = true := by
  unfold joinedFacts
  simp only [Bool.and_eq_true]
  exact ⟨⟨⟨⟨⟨⟨⟨⟨⟨⟨⟨⟨⟨⟨⟨⟨⟨⟨⟨⟨⟨⟨⟨⟨⟨⟨⟨⟨⟨⟨⟨arenaSame_j1, p2⟩, p3⟩, arenaSame_j4⟩, arenaSame_j5⟩, arenaSame_j6⟩, p7⟩, arenaSame_j8⟩, p9⟩, arenaSame_j10⟩, arenaSame_j11⟩, arenaSame_j12⟩, arenaSame_j13⟩, arenaSame_j14⟩, arenaSame_j15⟩, arenaSame_j16⟩, arenaSame_j17⟩, arenaSame_j17b⟩, arenaSame_j18⟩, arenaSame_j19⟩, arenaSame_j20⟩, arenaSame_j21⟩, arenaSame_j22⟩, arenaSame_j23⟩, p23b⟩, p24⟩, arenaSame_j24b⟩, arenaSame_j24c⟩, by kernel_rfl⟩, arenaSame_j26⟩, arenaSame_j27⟩, arenaSame_j28⟩
end Go.Proofs.YtlgmpheammbacaaGreatDoor
