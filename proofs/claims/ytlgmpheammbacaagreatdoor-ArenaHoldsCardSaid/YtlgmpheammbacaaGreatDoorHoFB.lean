import Derived.Test.YtlgmpheammbacaaGreatDoorFP
import Derived.Test.YtlgmpheammbacaaGreatDoorHoFA
set_option maxRecDepth 1000000
set_option maxHeartbeats 4000000
namespace Go.Proofs.YtlgmpheammbacaaGreatDoor
open Go
theorem vC : (Rows.arenaHoldsRow.recurses == Tryz.prog.recurses 6) = true := by kernel_rfl
theorem vK : (Rows.arenaHoldsRow.named == Tryz.prog.varsNamed 6) = true := by kernel_rfl
theorem vx : (Rows.arenaHoldsRow.maps == (Tryz.f6.params.toList ++ Rows.arenaHoldsSpec.plain.varTypes Tryz.prog).any (Tryz.prog.mapsRec ·)) = true := by kernel_rfl
theorem wj : (Rows.arenaHoldsRow.ifaces == (Tryz.f6.params.toList ++ Rows.arenaHoldsSpec.plain.varTypes Tryz.prog).any (Tryz.prog.ifacesRec ·)) = true := by kernel_rfl
theorem vk : (Rows.arenaHoldsRow.mapsOut == Tryz.prog.mapsAmong Tryz.f6.resultTypes.toList) = true := by kernel_rfl
theorem vX : (Rows.arenaHoldsRow.loops == (Tryz.f6.params.toList ++ Rows.arenaHoldsSpec.plain.varTypes Tryz.prog).any (Tryz.prog.loopsFrom ·)) = true := by kernel_rfl
theorem uA : (Rows.arenaHoldsRow.wideKeys == (Tryz.f6.params.toList ++ Rows.arenaHoldsSpec.plain.varTypes Tryz.prog ++ Tryz.f6.resultTypes.toList).any (Tryz.prog.wideKeysFrom ·)) = true := by kernel_rfl
theorem vw : Rows.arenaHoldsSpec.vars.all (Tryz.prog.varReadable ·) = true := by kernel_rfl
theorem wD : Tryz.f6.resultTypes.all (fun t => Tryz.prog.readableRec t && decide (t < Tryz.prog.types.size)) = true := by kernel_rfl
theorem wS : (Rows.arenaHoldsRow.ifacesOut == Tryz.f6.resultTypes.toList.any (Tryz.prog.ifacesRec ·)) = true := by kernel_rfl
theorem vS : (Rows.arenaHoldsRow.loopsOut == Tryz.f6.resultTypes.toList.any (Tryz.prog.loopsFrom ·)) = true := by kernel_rfl
theorem vf : (Rows.arenaHoldsRow.plainKeys == Tryz.prog.plainKeys) = true := by kernel_rfl
theorem vT : Rows.arenaHoldsRow.shortTexts.isNone = true := by kernel_rfl
theorem ui : (Rows.arenaHoldsRow.lifted == Tryz.prog.liftsFinal) = true := by kernel_rfl
theorem uJ : (Tryz.prog.make == some Rows.arenaHoldsRow.make) = true := by kernel_rfl
theorem wz : (Rows.arenaHoldsRow.pinned == Rows.arenaHoldsRow.pinnedBy) = true := by kernel_rfl
theorem vp : (Rows.arenaHoldsRow.veiled == (Tryz.f6.params.toList ++ Rows.arenaHoldsSpec.plain.varTypes Tryz.prog ++ Tryz.f6.resultTypes.toList).any (Tryz.prog.veiledRec ·)) = true := by kernel_rfl
theorem vQ : Rows.arenaHoldsRow.veiledFits Tryz.prog Tryz.f6.params.toList (Tryz.f6.params.toList ++ Rows.arenaHoldsSpec.plain.varTypes Tryz.prog ++ Tryz.f6.resultTypes.toList) = true := by kernel_rfl
theorem yC : Rows.arenaHoldsRow.wfByText (OpenSpec.ofChange Rows.arenaHoldsSpec) = true := by kernel_rfl
theorem yn : false = Rows.arenaHoldsRow.goesBy Tryz.prog := by kernel_rfl
theorem pF : Tryz.prog.funcNamed "croft/croftlaw15.ArenaHolds" = some 6 := by kernel_rfl
theorem sT : joinedFacts Tryz.prog 6 Tryz.f6 Rows.arenaHoldsSpec Rows.arenaHoldsRow = true := by
  unfold joinedFacts
  simp only [Bool.and_eq_true]
  exact ⟨⟨⟨⟨⟨⟨⟨⟨⟨⟨⟨⟨⟨⟨⟨⟨⟨⟨⟨⟨⟨⟨⟨⟨⟨⟨⟨⟨⟨⟨⟨yd, p2⟩, p3⟩, yw⟩, yp⟩, yv⟩, p7⟩, xV⟩, p9⟩, xp⟩, vh⟩, vC⟩, vK⟩, vx⟩, wj⟩, vk⟩, vX⟩, uA⟩, vw⟩, wD⟩, wS⟩, vS⟩, vf⟩, vT⟩, ND⟩, p24⟩, ui⟩, uJ⟩, by kernel_rfl⟩, wz⟩, vp⟩, vQ⟩
end Go.Proofs.YtlgmpheammbacaaGreatDoor
