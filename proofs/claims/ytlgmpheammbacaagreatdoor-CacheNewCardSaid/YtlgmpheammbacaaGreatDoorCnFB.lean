import Derived.Test.YtlgmpheammbacaaGreatDoorRows
import Derived.Test.YtlgmpheammbacaaGreatDoorProg
import Derived.JoinedOf
import GoSem.ClaimSeven
import Derived.Test.YtlgmpheammbacaaGreatDoorFP
import Derived.Test.YtlgmpheammbacaaGreatDoorCnFA
set_option maxRecDepth 1000000
set_option maxHeartbeats 4000000
namespace Go.Proofs.YtlgmpheammbacaaGreatDoor
open Go
theorem cacheNew_j12 : (Rows.cacheNewRow.recurses == Tryz.prog.recurses 4) = true := by kernel_rfl
theorem cacheNew_j13 : (Rows.cacheNewRow.named == Tryz.prog.varsNamed 4) = true := by kernel_rfl
theorem cacheNew_j14 : (Rows.cacheNewRow.maps == (Tryz.f4.params.toList ++ Rows.cacheNewSpec.plain.varTypes Tryz.prog).any (Tryz.prog.mapsRec ·)) = true := by kernel_rfl
theorem cacheNew_j15 : (Rows.cacheNewRow.ifaces == (Tryz.f4.params.toList ++ Rows.cacheNewSpec.plain.varTypes Tryz.prog).any (Tryz.prog.ifacesRec ·)) = true := by kernel_rfl
theorem cacheNew_j16 : (Rows.cacheNewRow.mapsOut == Tryz.prog.mapsAmong Tryz.f4.resultTypes.toList) = true := by kernel_rfl
theorem cacheNew_j17 : (Rows.cacheNewRow.loops == (Tryz.f4.params.toList ++ Rows.cacheNewSpec.plain.varTypes Tryz.prog).any (Tryz.prog.loopsFrom ·)) = true := by kernel_rfl
theorem cacheNew_j17b : (Rows.cacheNewRow.wideKeys == (Tryz.f4.params.toList ++ Rows.cacheNewSpec.plain.varTypes Tryz.prog ++ Tryz.f4.resultTypes.toList).any (Tryz.prog.wideKeysFrom ·)) = true := by kernel_rfl
theorem cacheNew_j18 : Rows.cacheNewSpec.vars.all (Tryz.prog.varReadable ·) = true := by kernel_rfl
theorem cacheNew_j19 : Tryz.f4.resultTypes.all (fun t => Tryz.prog.readableRec t && decide (t < Tryz.prog.types.size)) = true := by kernel_rfl
theorem cacheNew_j20 : (Rows.cacheNewRow.ifacesOut == Tryz.f4.resultTypes.toList.any (Tryz.prog.ifacesRec ·)) = true := by kernel_rfl
theorem cacheNew_j21 : (Rows.cacheNewRow.loopsOut == Tryz.f4.resultTypes.toList.any (Tryz.prog.loopsFrom ·)) = true := by kernel_rfl
theorem cacheNew_j22 : (Rows.cacheNewRow.plainKeys == Tryz.prog.plainKeys) = true := by kernel_rfl
theorem cacheNew_j23 : Rows.cacheNewRow.shortTexts.isNone = true := by kernel_rfl
theorem cacheNew_j24b : (Rows.cacheNewRow.lifted == Tryz.prog.liftsFinal) = true := by kernel_rfl
theorem cacheNew_j24c : (Tryz.prog.make == some Rows.cacheNewRow.make) = true := by kernel_rfl
theorem cacheNew_j26 : (Rows.cacheNewRow.pinned == Rows.cacheNewRow.pinnedBy) = true := by kernel_rfl
theorem cacheNew_j27 : (Rows.cacheNewRow.veiled == (Tryz.f4.params.toList ++ Rows.cacheNewSpec.plain.varTypes Tryz.prog ++ Tryz.f4.resultTypes.toList).any (Tryz.prog.veiledRec ·)) = true := by kernel_rfl
theorem cacheNew_j28 : Rows.cacheNewRow.veiledFits Tryz.prog Tryz.f4.params.toList (Tryz.f4.params.toList ++ Rows.cacheNewSpec.plain.varTypes Tryz.prog ++ Tryz.f4.resultTypes.toList) = true := by kernel_rfl
theorem cacheNew_jw : Rows.cacheNewRow.wfByText (OpenSpec.ofChange Rows.cacheNewSpec) = true := by kernel_rfl
theorem cacheNew_jg : false = Rows.cacheNewRow.goesBy Tryz.prog := by kernel_rfl
theorem cacheNew_jn : Tryz.prog.funcNamed "croft/croftlaw13.CacheNew" = some 4 := by kernel_rfl
theorem cacheNew_facts : joinedFacts Tryz.prog 4 Tryz.f4 Rows.cacheNewSpec Rows.cacheNewRow = true := by
  unfold joinedFacts
  simp only [Bool.and_eq_true]
  exact ⟨⟨⟨⟨⟨⟨⟨⟨⟨⟨⟨⟨⟨⟨⟨⟨⟨⟨⟨⟨⟨⟨⟨⟨⟨⟨⟨⟨⟨⟨⟨cacheNew_j1, p2⟩, p3⟩, cacheNew_j4⟩, cacheNew_j5⟩, cacheNew_j6⟩, p7⟩, cacheNew_j8⟩, p9⟩, cacheNew_j10⟩, cacheNew_j11⟩, cacheNew_j12⟩, cacheNew_j13⟩, cacheNew_j14⟩, cacheNew_j15⟩, cacheNew_j16⟩, cacheNew_j17⟩, cacheNew_j17b⟩, cacheNew_j18⟩, cacheNew_j19⟩, cacheNew_j20⟩, cacheNew_j21⟩, cacheNew_j22⟩, cacheNew_j23⟩, p23b⟩, p24⟩, cacheNew_j24b⟩, cacheNew_j24c⟩, by kernel_rfl⟩, cacheNew_j26⟩, cacheNew_j27⟩, cacheNew_j28⟩
end Go.Proofs.YtlgmpheammbacaaGreatDoor
