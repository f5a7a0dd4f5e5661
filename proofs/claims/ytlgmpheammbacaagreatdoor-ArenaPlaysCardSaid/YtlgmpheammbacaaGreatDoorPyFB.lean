import Derived.Test.YtlgmpheammbacaaGreatDoorFP
import Derived.Test.YtlgmpheammbacaaGreatDoorPyFA
set_option maxRecDepth 1000000
set_option maxHeartbeats 4000000
namespace Go.Proofs.YtlgmpheammbacaaGreatDoor
open Go
theorem vU : (Rows.arenaPlaysRow.recurses == Tryz.prog.recurses 8) = true := by kernel_rfl
theorem xz : (Rows.arenaPlaysRow.named == Tryz.prog.varsNamed 8) = true := by kernel_rfl
theorem vZ : (Rows.arenaPlaysRow.maps == (Tryz.f8.params.toList ++ Rows.arenaPlaysSpec.plain.varTypes Tryz.prog).any (Tryz.prog.mapsRec ·)) = true := by kernel_rfl
theorem xu : (Rows.arenaPlaysRow.ifaces == (Tryz.f8.params.toList ++ Rows.arenaPlaysSpec.plain.varTypes Tryz.prog).any (Tryz.prog.ifacesRec ·)) = true := by kernel_rfl
theorem wW : (Rows.arenaPlaysRow.mapsOut == Tryz.prog.mapsAmong Tryz.f8.resultTypes.toList) = true := by kernel_rfl
theorem wv : (Rows.arenaPlaysRow.loops == (Tryz.f8.params.toList ++ Rows.arenaPlaysSpec.plain.varTypes Tryz.prog).any (Tryz.prog.loopsFrom ·)) = true := by kernel_rfl
theorem uG : (Rows.arenaPlaysRow.wideKeys == (Tryz.f8.params.toList ++ Rows.arenaPlaysSpec.plain.varTypes Tryz.prog ++ Tryz.f8.resultTypes.toList).any (Tryz.prog.wideKeysFrom ·)) = true := by kernel_rfl
theorem vW : Rows.arenaPlaysSpec.vars.all (Tryz.prog.varReadable ·) = true := by kernel_rfl
theorem vV : Tryz.f8.resultTypes.all (fun t => Tryz.prog.readableRec t && decide (t < Tryz.prog.types.size)) = true := by kernel_rfl
theorem vI : (Rows.arenaPlaysRow.ifacesOut == Tryz.f8.resultTypes.toList.any (Tryz.prog.ifacesRec ·)) = true := by kernel_rfl
theorem vG : (Rows.arenaPlaysRow.loopsOut == Tryz.f8.resultTypes.toList.any (Tryz.prog.loopsFrom ·)) = true := by kernel_rfl
theorem vc : (Rows.arenaPlaysRow.plainKeys == Tryz.prog.plainKeys) = true := by kernel_rfl
theorem vP : Rows.arenaPlaysRow.shortTexts.isNone = true := by kernel_rfl
theorem uh : (Rows.arenaPlaysRow.lifted == Tryz.prog.liftsFinal) = true := by kernel_rfl
theorem uf : (Tryz.prog.make == some Rows.arenaPlaysRow.make) = true := by kernel_rfl
theorem wy : (Rows.arenaPlaysRow.pinned == Rows.arenaPlaysRow.pinnedBy) = true := by kernel_rfl
theorem vN : (Rows.arenaPlaysRow.veiled == (Tryz.f8.params.toList ++ Rows.arenaPlaysSpec.plain.varTypes Tryz.prog ++ Tryz.f8.resultTypes.toList).any (Tryz.prog.veiledRec ·)) = true := by kernel_rfl
theorem xb : Rows.arenaPlaysRow.veiledFits Tryz.prog Tryz.f8.params.toList (Tryz.f8.params.toList ++ Rows.arenaPlaysSpec.plain.varTypes Tryz.prog ++ Tryz.f8.resultTypes.toList) = true := by kernel_rfl
theorem xW : Rows.arenaPlaysRow.wfByText (OpenSpec.ofChange Rows.arenaPlaysSpec) = true := by kernel_rfl
theorem xP : false = Rows.arenaPlaysRow.goesBy Tryz.prog := by kernel_rfl
theorem pM : Tryz.prog.funcNamed "croft/croftlaw15.ArenaPlays" = some 8 := by kernel_rfl
theorem sy : joinedFacts Tryz.prog 8 Tryz.f8 Rows.arenaPlaysSpec Rows.arenaPlaysRow = true := by
  unfold joinedFacts
  simp only [Bool.and_eq_true]
  exact ⟨⟨⟨⟨⟨⟨⟨⟨⟨⟨⟨⟨⟨⟨⟨⟨⟨⟨⟨⟨⟨⟨⟨⟨⟨⟨⟨⟨⟨⟨⟨yz, p2⟩, p3⟩, xM⟩, yi⟩, yf⟩, p7⟩, xX⟩, p9⟩, wG⟩, vg⟩, vU⟩, xz⟩, vZ⟩, xu⟩, wW⟩, wv⟩, uG⟩, vW⟩, vV⟩, vI⟩, vG⟩, vc⟩, vP⟩, ND⟩, p24⟩, uh⟩, uf⟩, by kernel_rfl⟩, wy⟩, vN⟩, xb⟩
end Go.Proofs.YtlgmpheammbacaaGreatDoor
