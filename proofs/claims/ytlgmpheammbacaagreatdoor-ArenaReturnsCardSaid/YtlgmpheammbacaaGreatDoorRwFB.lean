import Derived.Test.YtlgmpheammbacaaGreatDoorFP
import Derived.Test.YtlgmpheammbacaaGreatDoorRwFA
set_option maxRecDepth 1000000
set_option maxHeartbeats 4000000
namespace Go.Proofs.YtlgmpheammbacaaGreatDoor
open Go
theorem so : (Rows.arenaReturnsRow.recurses == Tryz.prog.recurses 9) = true := by kernel_rfl
theorem sd : (Rows.arenaReturnsRow.named == Tryz.prog.varsNamed 9) = true := by kernel_rfl
theorem si : (Rows.arenaReturnsRow.maps == (Tryz.f9.params.toList ++ Rows.arenaReturnsSpec.plain.varTypes Tryz.prog).any (Tryz.prog.mapsRec ·)) = true := by kernel_rfl
theorem sJ : (Rows.arenaReturnsRow.ifaces == (Tryz.f9.params.toList ++ Rows.arenaReturnsSpec.plain.varTypes Tryz.prog).any (Tryz.prog.ifacesRec ·)) = true := by kernel_rfl
theorem tu : (Rows.arenaReturnsRow.mapsOut == Tryz.prog.mapsAmong Tryz.f9.resultTypes.toList) = true := by kernel_rfl
theorem sM : (Rows.arenaReturnsRow.loops == (Tryz.f9.params.toList ++ Rows.arenaReturnsSpec.plain.varTypes Tryz.prog).any (Tryz.prog.loopsFrom ·)) = true := by kernel_rfl
theorem qQ : (Rows.arenaReturnsRow.wideKeys == (Tryz.f9.params.toList ++ Rows.arenaReturnsSpec.plain.varTypes Tryz.prog ++ Tryz.f9.resultTypes.toList).any (Tryz.prog.wideKeysFrom ·)) = true := by kernel_rfl
theorem r8 : Rows.arenaReturnsSpec.vars.all (Tryz.prog.varReadable ·) = true := by kernel_rfl
theorem td : Tryz.f9.resultTypes.all (fun t => Tryz.prog.readableRec t && decide (t < Tryz.prog.types.size)) = true := by kernel_rfl
theorem sZ : (Rows.arenaReturnsRow.ifacesOut == Tryz.f9.resultTypes.toList.any (Tryz.prog.ifacesRec ·)) = true := by kernel_rfl
theorem sY : (Rows.arenaReturnsRow.loopsOut == Tryz.f9.resultTypes.toList.any (Tryz.prog.loopsFrom ·)) = true := by kernel_rfl
theorem tc : (Rows.arenaReturnsRow.plainKeys == Tryz.prog.plainKeys) = true := by kernel_rfl
theorem sL : Rows.arenaReturnsRow.shortTexts.isNone = true := by kernel_rfl
theorem rO : (Rows.arenaReturnsRow.lifted == Tryz.prog.liftsFinal) = true := by kernel_rfl
theorem rD : (Tryz.prog.make == some Rows.arenaReturnsRow.make) = true := by kernel_rfl
theorem sS : (Rows.arenaReturnsRow.pinned == Rows.arenaReturnsRow.pinnedBy) = true := by kernel_rfl
theorem sE : (Rows.arenaReturnsRow.veiled == (Tryz.f9.params.toList ++ Rows.arenaReturnsSpec.plain.varTypes Tryz.prog ++ Tryz.f9.resultTypes.toList).any (Tryz.prog.veiledRec ·)) = true := by kernel_rfl
theorem r6 : Rows.arenaReturnsRow.veiledFits Tryz.prog Tryz.f9.params.toList (Tryz.f9.params.toList ++ Rows.arenaReturnsSpec.plain.varTypes Tryz.prog ++ Tryz.f9.resultTypes.toList) = true := by kernel_rfl
theorem uj : Rows.arenaReturnsRow.wfByText (OpenSpec.ofChange Rows.arenaReturnsSpec) = true := by kernel_rfl
theorem uI : false = Rows.arenaReturnsRow.goesBy Tryz.prog := by kernel_rfl
theorem nB : Tryz.prog.funcNamed "croft/croftlaw15.ArenaReturns" = some 9 := by kernel_rfl
theorem pO : joinedFacts Tryz.prog 9 Tryz.f9 Rows.arenaReturnsSpec Rows.arenaReturnsRow = true := by
  unfold joinedFacts
  simp only [Bool.and_eq_true]
  exact ⟨⟨⟨⟨⟨⟨⟨⟨⟨⟨⟨⟨⟨⟨⟨⟨⟨⟨⟨⟨⟨⟨⟨⟨⟨⟨⟨⟨⟨⟨⟨uy, p2⟩, p3⟩, ug⟩, ub⟩, uu⟩, p7⟩, uk⟩, p9⟩, su⟩, tz⟩, so⟩, sd⟩, si⟩, sJ⟩, tu⟩, sM⟩, qQ⟩, r8⟩, td⟩, sZ⟩, sY⟩, tc⟩, sL⟩, ND⟩, p24⟩, rO⟩, rD⟩, by kernel_rfl⟩, sS⟩, sE⟩, r6⟩
end Go.Proofs.YtlgmpheammbacaaGreatDoor
