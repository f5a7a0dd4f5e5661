import Derived.Test.YtlgmpheammbacaaGreatDoorFP
import Derived.Test.YtlgmpheammbacaaGreatDoorAkFA
set_option maxRecDepth 1000000
set_option maxHeartbeats 4000000
namespace Go.Proofs.YtlgmpheammbacaaGreatDoor
open Go
theorem xG : (Rows.arenaAsksRow.recurses == Tryz.prog.recurses 7) = true := by kernel_rfl
theorem xT : (Rows.arenaAsksRow.named == Tryz.prog.varsNamed 7) = true := by kernel_rfl
theorem yj : (Rows.arenaAsksRow.maps == (Tryz.f7.params.toList ++ Rows.arenaAsksSpec.plain.varTypes Tryz.prog).any (Tryz.prog.mapsRec ·)) = true := by kernel_rfl
theorem xF : (Rows.arenaAsksRow.ifaces == (Tryz.f7.params.toList ++ Rows.arenaAsksSpec.plain.varTypes Tryz.prog).any (Tryz.prog.ifacesRec ·)) = true := by kernel_rfl
theorem xK : (Rows.arenaAsksRow.mapsOut == Tryz.prog.mapsAmong Tryz.f7.resultTypes.toList) = true := by kernel_rfl
theorem yb : (Rows.arenaAsksRow.loops == (Tryz.f7.params.toList ++ Rows.arenaAsksSpec.plain.varTypes Tryz.prog).any (Tryz.prog.loopsFrom ·)) = true := by kernel_rfl
theorem wX : (Rows.arenaAsksRow.wideKeys == (Tryz.f7.params.toList ++ Rows.arenaAsksSpec.plain.varTypes Tryz.prog ++ Tryz.f7.resultTypes.toList).any (Tryz.prog.wideKeysFrom ·)) = true := by kernel_rfl
theorem yu : Rows.arenaAsksSpec.vars.all (Tryz.prog.varReadable ·) = true := by kernel_rfl
theorem xO : Tryz.f7.resultTypes.all (fun t => Tryz.prog.readableRec t && decide (t < Tryz.prog.types.size)) = true := by kernel_rfl
theorem xI : (Rows.arenaAsksRow.ifacesOut == Tryz.f7.resultTypes.toList.any (Tryz.prog.ifacesRec ·)) = true := by kernel_rfl
theorem yg : (Rows.arenaAsksRow.loopsOut == Tryz.f7.resultTypes.toList.any (Tryz.prog.loopsFrom ·)) = true := by kernel_rfl
theorem yr : (Rows.arenaAsksRow.plainKeys == Tryz.prog.plainKeys) = true := by kernel_rfl
theorem yA : Rows.arenaAsksRow.shortTexts.isNone = true := by kernel_rfl
theorem wO : (Rows.arenaAsksRow.lifted == Tryz.prog.liftsFinal) = true := by kernel_rfl
theorem vq : (Tryz.prog.make == some Rows.arenaAsksRow.make) = true := by kernel_rfl
theorem xR : (Rows.arenaAsksRow.pinned == Rows.arenaAsksRow.pinnedBy) = true := by kernel_rfl
theorem xH : (Rows.arenaAsksRow.veiled == (Tryz.f7.params.toList ++ Rows.arenaAsksSpec.plain.varTypes Tryz.prog ++ Tryz.f7.resultTypes.toList).any (Tryz.prog.veiledRec ·)) = true := by kernel_rfl
theorem ym : Rows.arenaAsksRow.veiledFits Tryz.prog Tryz.f7.params.toList (Tryz.f7.params.toList ++ Rows.arenaAsksSpec.plain.varTypes Tryz.prog ++ Tryz.f7.resultTypes.toList) = true := by kernel_rfl
theorem z7 : Rows.arenaAsksRow.wfByText (OpenSpec.ofChange Rows.arenaAsksSpec) = true := by kernel_rfl
theorem zN : false = Rows.arenaAsksRow.goesBy Tryz.prog := by kernel_rfl
theorem rU : Tryz.prog.funcNamed "croft/croftlaw15.ArenaAsks" = some 7 := by kernel_rfl
theorem uH : joinedFacts Tryz.prog 7 Tryz.f7 Rows.arenaAsksSpec Rows.arenaAsksRow = true := by
  unfold joinedFacts
  simp only [Bool.and_eq_true]
  exact ⟨⟨⟨⟨⟨⟨⟨⟨⟨⟨⟨⟨⟨⟨⟨⟨⟨⟨⟨⟨⟨⟨⟨⟨⟨⟨⟨⟨⟨⟨⟨AN, p2⟩, p3⟩, Bw⟩, As⟩, Bs⟩, p7⟩, AQ⟩, p9⟩, yo⟩, xS⟩, xG⟩, xT⟩, yj⟩, xF⟩, xK⟩, yb⟩, wX⟩, yu⟩, xO⟩, xI⟩, yg⟩, yr⟩, yA⟩, ND⟩, p24⟩, wO⟩, vq⟩, by kernel_rfl⟩, xR⟩, xH⟩, ym⟩
end Go.Proofs.YtlgmpheammbacaaGreatDoor
