/- The closed law croft/croftlaw19.DictKnown returns true: one run of a deterministic machine, proved sound for the model's programs, reckoned by the kernel in parts. Conditions: the program's text is the dump that the given Prog text loads; the variable croft/slab.widths reads as the program's text lays it (tied card). -/
import Derived.Test.YtdnefddmghhgpaaGreatDoorDcStart
import Derived.Test.YtdnefddmghhgpaaGreatDoorDcK
import Derived.Test.YtdnefddmghhgpaaGreatDoorFP
import Derived.Test.YtdnefddmghhgpaaGreatDoorDcFA
import Derived.Test.YtdnefddmghhgpaaGreatDoorDcFB
import Derived.SevenTiedAt
import Derived.Test.YtdnefddmghhgpaaGreatDoorCards
import Derived.Test.YtdnefddmghhgpaaGreatDoorTie
set_option maxRecDepth 1000000
set_option maxHeartbeats 4000000
namespace Go.Proofs.YtdnefddmghhgpaaGreatDoor
open Go.ChangeShapes Go.WideShapes Go.ChangeAt Go.WideMaps Go.WideElems Go.RowKit
open AM
theorem dictKnown_lifted (hcalls : ∀ W, laidMetH Tryz.prog laidW W → Calls Tryz.prog 5 #[] W fun e W' => e = .returned (.bool true) ∧ Below W.heap.size W W') (os : Os) (started : os.Started) (H : Type) (enc : TypeId × Value → H) :
    ReturnsInHanded {} Tryz.checked os 5 .any (fun w args => (Rows.dictKnownSpec.pre enc Tryz.prog Tryz.f5 [] false w args ∧ laidMetH Tryz.prog laidW w) ∧ sizedMet enc Tryz.prog Tryz.f5 (OpenSpec.ofChange Rows.dictKnownSpec) false w args)
      (Rows.dictKnownSpec.post enc Tryz.prog Tryz.f5 false true false false) := by
  refine returnsInHanded_of_change_and (C := Tryz.checked) (X := fun w _ => laidMetH Tryz.prog laidW w) (fun _ _ _ hh h => h.of_heap hh) own started (by kernel_rfl) Tryz.func5
    (ChangeSpec.witness_shaped (enc := enc) (C := Tryz.checked) (os := os) (X := fun w _ => laidMetH Tryz.prog laidW w) false (World.doorLaid Tryz.prog 19 os) #[] 8 rfl (World.shaped_of_RefB (by kernel_rfl) (by kernel_rfl)) (by kernel_rfl) (by kernel_rfl) (by kernel_rfl) (door_met os _)) ?_
  intro W base args ds gs before hval0 hW _ _ hL _
  have hW' := hW
  obtain ⟨p, q, hA0, hV, rfl, hfz, hnd⟩ := hW
  have hA : DataW.TrodAll enc Tryz.prog W 0 (fun _ => true) true Tryz.f5.params.toList args.toList ds p := hA0
  rw [Tryz.params5] at hA
  obtain ⟨h1, rfl, rfl⟩ := trodAll_nil hA
  obtain rfl : args = #[] := by cases args; simp_all
  obtain ⟨rfl, rfl⟩ := trodVars_none hV
  refine (hcalls W hL).mono fun e W' ⟨he, bel⟩ => ?_
  subst he
  exact ⟨_, rfl, _, _, _, [], _, [], hW', trodAll_mk1 (shut_bool Tryz.underlying4 _), trodAll_mk0, rfl, bel.frame _, fun h => by cases h⟩
theorem dictKnown_facts : joinedFacts Tryz.prog 5 Tryz.f5 Rows.dictKnownSpec Rows.dictKnownRow = true := by
  unfold joinedFacts
  simp only [Bool.and_eq_true]
  exact ⟨⟨⟨⟨⟨⟨⟨⟨⟨⟨⟨⟨⟨⟨⟨⟨⟨⟨⟨⟨⟨⟨⟨⟨⟨⟨⟨⟨⟨⟨⟨dictKnown_j1, p2⟩, p3⟩, dictKnown_j4⟩, dictKnown_j5⟩, dictKnown_j6⟩, p7⟩, dictKnown_j8⟩, p9⟩, dictKnown_j10⟩, dictKnown_j11⟩, dictKnown_j12⟩, dictKnown_j13⟩, dictKnown_j14⟩, dictKnown_j15⟩, dictKnown_j16⟩, dictKnown_j17⟩, dictKnown_j17b⟩, dictKnown_j18⟩, dictKnown_j19⟩, dictKnown_j20⟩, dictKnown_j21⟩, dictKnown_j22⟩, dictKnown_j23⟩, p23b⟩, p24⟩, dictKnown_j24b⟩, dictKnown_j24c⟩, by kernel_rfl⟩, dictKnown_j26⟩, dictKnown_j27⟩, dictKnown_j28⟩
theorem dictKnown_wrap : Tryz.f5.isWrapper Tryz.prog Rows.dictKnownRow.wrapper Rows.dictKnownRow.mainSum := by
  unfold Func.isWrapper
  rw [if_neg (of_decide_eq_false (by kernel_rfl))]
  exact ⟨rfl, rfl⟩
theorem dictKnown_inst : Tryz.f5.isInstance Tryz.prog Rows.dictKnownRow.origin Rows.dictKnownRow.targs := of_decide_eq_true (by kernel_rfl)
theorem dictKnown_said : Rows.DictKnownSaid :=
  OpenClaim.holds_of_wide 5 Tryz.f5 rfl rfl rfl rfl rfl rfl rfl ⟨rfl, rfl, rfl, rfl, rfl⟩ rfl rfl rfl rfl rfl dictKnown_jn Tryz.func5 dictKnown_facts
    dictKnown_inst dictKnown_wrap
    (fun os started H enc _ => dictKnown_lifted (fun W h => law_calls Dck60 rfl (by kernel_rfl) rfl h) os started H enc)
theorem dictKnown_stand (f : FuncId) (fn : Func) (hf : Tryz.prog.funcNamed Rows.dictKnownRow.func = some f) (hfn : Tryz.prog.funcs[f]? = some fn) : true = Tryz.prog.looks [] ∧ ∀ (j : Nat) t, fn.params[j]? = some t → Tryz.prog.wantsStandIn t = false := by
  obtain rfl : f = 5 := (Option.some.inj ((dictKnown_jn).symm.trans hf)).symm
  obtain rfl : fn = Tryz.f5 := (Option.some.inj (Tryz.func5.symm.trans hfn)).symm
  exact ⟨pLooks, fun j t ht => by
    rw [Tryz.params5] at ht
    simp at ht⟩
theorem dictKnown_card_holds : Rows.DictKnownCardSaid :=
  Claim7.holds_tied_plain_at .later [] [.data] true (true, "d6c4d136f33ae509d5e1b8d0e590986420a72b4daa374938f70fd4b03eb5a7b8") true
    dictKnown_said (fun _ h => by cases h) dictKnown_jw (fun _ h => by cases h) dictKnown_row_tie rfl ⟨rfl, rfl⟩ pMain rfl
    dictKnown_stand dictKnown_jg
#print axioms dictKnown_card_holds
end Go.Proofs.YtdnefddmghhgpaaGreatDoor
