/- The closed law croft/croftlaw22.MarchKnown returns true: one run of a deterministic machine, proved sound for the model's programs, reckoned by the kernel in parts. Conditions: the program's text is the dump that the given Prog text loads; the variables croft/slab.widths and croft/march.looks read as the program's text lays it (tied card). -/
import Derived.Test.YtdnefddmghhgpaaGreatDoorMaStart
import Derived.Test.YtdnefddmghhgpaaGreatDoorMaK
import Derived.Test.YtdnefddmghhgpaaGreatDoorFP
import Derived.Test.YtdnefddmghhgpaaGreatDoorMaFA
import Derived.Test.YtdnefddmghhgpaaGreatDoorMaFB
import Derived.SevenTiedAt
import Derived.Test.YtdnefddmghhgpaaGreatDoorCards
import Derived.Test.YtdnefddmghhgpaaGreatDoorTie
set_option maxRecDepth 1000000
set_option maxHeartbeats 4000000
namespace Go.Proofs.YtdnefddmghhgpaaGreatDoor
open Go.ChangeShapes Go.WideShapes Go.ChangeAt Go.WideMaps Go.WideElems Go.RowKit
open AM
theorem marchKnown_lifted (hcalls : ∀ W, laidMetH Tryz.prog laidW W → 2 < W.heap.size → Calls Tryz.prog 7 #[] W fun e W' => e = .returned (.bool true) ∧ Below W.heap.size W W') (os : Os) (started : os.Started) (H : Type) (enc : TypeId × Value → H) :
    ReturnsInHanded {} Tryz.checked os 7 .any (fun w args => (Rows.marchKnownSpec.pre enc Tryz.prog Tryz.f7 [] false w args ∧ laidMetH Tryz.prog laidW w) ∧ sizedMet enc Tryz.prog Tryz.f7 (OpenSpec.ofChange Rows.marchKnownSpec) false w args)
      (Rows.marchKnownSpec.post enc Tryz.prog Tryz.f7 false true false false) := by
  refine returnsInHanded_shaped (C := Tryz.checked) (X := fun w _ => laidMetH Tryz.prog laidW w) (fun _ _ _ hh h => h.of_heap hh) own started (by kernel_rfl) Tryz.func7
    (ChangeSpec.witness_shaped (enc := enc) (C := Tryz.checked) (os := os) (X := fun w _ => laidMetH Tryz.prog laidW w) false (World.doorLaid Tryz.prog 19 os) #[] 8 rfl (World.shaped_of_RefB (by kernel_rfl) (by kernel_rfl)) (by kernel_rfl) (by kernel_rfl) (by kernel_rfl) (door_met os _)) ?_
  intro W base args ds gs before hsh hval0 hW _ _ hL _
  have hW' := hW
  obtain ⟨p, q, hA0, hV, rfl, hfz, hnd⟩ := hW
  have hA : DataW.TrodAll enc Tryz.prog W 0 (fun _ => true) true Tryz.f7.params.toList args.toList ds p := hA0
  rw [Tryz.params7] at hA
  obtain ⟨h1, rfl, rfl⟩ := trodAll_nil hA
  obtain rfl : args = #[] := by cases args; simp_all
  obtain ⟨rfl, rfl⟩ := trodVars_none hV
  refine (hcalls W hL (big_of hsh)).mono fun e W' ⟨he, bel⟩ => ?_
  subst he
  exact ⟨_, rfl, _, _, _, [], _, [], hW', trodAll_mk1 (shut_bool Tryz.underlying4 _), trodAll_mk0, rfl, bel.frame _, fun h => by cases h⟩
theorem marchKnown_facts : joinedFacts Tryz.prog 7 Tryz.f7 Rows.marchKnownSpec Rows.marchKnownRow = true := by
  unfold joinedFacts
  simp only [Bool.and_eq_true]
  exact ⟨⟨⟨⟨⟨⟨⟨⟨⟨⟨⟨⟨⟨⟨⟨⟨⟨⟨⟨⟨⟨⟨⟨⟨⟨⟨⟨⟨⟨⟨⟨marchKnown_j1, p2⟩, p3⟩, marchKnown_j4⟩, marchKnown_j5⟩, marchKnown_j6⟩, p7⟩, marchKnown_j8⟩, p9⟩, marchKnown_j10⟩, marchKnown_j11⟩, marchKnown_j12⟩, marchKnown_j13⟩, marchKnown_j14⟩, marchKnown_j15⟩, marchKnown_j16⟩, marchKnown_j17⟩, marchKnown_j17b⟩, marchKnown_j18⟩, marchKnown_j19⟩, marchKnown_j20⟩, marchKnown_j21⟩, marchKnown_j22⟩, marchKnown_j23⟩, p23b⟩, p24⟩, marchKnown_j24b⟩, marchKnown_j24c⟩, by kernel_rfl⟩, marchKnown_j26⟩, marchKnown_j27⟩, marchKnown_j28⟩
theorem marchKnown_wrap : Tryz.f7.isWrapper Tryz.prog Rows.marchKnownRow.wrapper Rows.marchKnownRow.mainSum := by
  unfold Func.isWrapper
  rw [if_neg (of_decide_eq_false (by kernel_rfl))]
  exact ⟨rfl, rfl⟩
theorem marchKnown_inst : Tryz.f7.isInstance Tryz.prog Rows.marchKnownRow.origin Rows.marchKnownRow.targs := of_decide_eq_true (by kernel_rfl)
theorem marchKnown_said : Rows.MarchKnownSaid :=
  OpenClaim.holds_of_wide 7 Tryz.f7 rfl rfl rfl rfl rfl rfl rfl ⟨rfl, rfl, rfl, rfl, rfl⟩ rfl rfl rfl rfl rfl marchKnown_jn Tryz.func7 marchKnown_facts
    marchKnown_inst marchKnown_wrap
    (fun os started H enc _ => marchKnown_lifted (fun W h hb => law_calls Mak297 rfl (by kernel_rfl) rfl h hb) os started H enc)
theorem marchKnown_stand (f : FuncId) (fn : Func) (hf : Tryz.prog.funcNamed Rows.marchKnownRow.func = some f) (hfn : Tryz.prog.funcs[f]? = some fn) : true = Tryz.prog.looks [] ∧ ∀ (j : Nat) t, fn.params[j]? = some t → Tryz.prog.wantsStandIn t = false := by
  obtain rfl : f = 7 := (Option.some.inj ((marchKnown_jn).symm.trans hf)).symm
  obtain rfl : fn = Tryz.f7 := (Option.some.inj (Tryz.func7.symm.trans hfn)).symm
  exact ⟨pLooks, fun j t ht => by
    rw [Tryz.params7] at ht
    simp at ht⟩
theorem marchKnown_card_holds : Rows.MarchKnownCardSaid :=
  Claim7.holds_tied_plain_at .later [] [.data, .funcs] true (true, "d6c4d136f33ae509d5e1b8d0e590986420a72b4daa374938f70fd4b03eb5a7b8") true
    marchKnown_said (fun _ h => by cases h) marchKnown_jw (fun _ h => by cases h) marchKnown_row_tie rfl ⟨rfl, rfl⟩ pMain rfl
    marchKnown_stand marchKnown_jg
#print axioms marchKnown_card_holds
end Go.Proofs.YtdnefddmghhgpaaGreatDoor
