/- The closed law croft/croftlaw13.CacheKnown returns true: one run of a deterministic machine, proved sound for the model's programs, reckoned by the kernel in parts. Conditions: the program's text is the dump that the given Prog text loads; the variable croft/slab.widths reads as the program's text lays it (tied card). -/
import Derived.Test.YtdnefddmghhgpaaGreatDoorStart
import Derived.Test.YtdnefddmghhgpaaGreatDoorCaK
import Derived.Test.YtdnefddmghhgpaaGreatDoorFP
import Derived.Test.YtdnefddmghhgpaaGreatDoorCaFA
import Derived.Test.YtdnefddmghhgpaaGreatDoorCaFB
import Derived.SevenTiedAt
import Derived.Test.YtdnefddmghhgpaaGreatDoorCards
import Derived.Test.YtdnefddmghhgpaaGreatDoorTie
set_option maxRecDepth 1000000
set_option maxHeartbeats 4000000
namespace Go.Proofs.YtdnefddmghhgpaaGreatDoor
open Go.ChangeShapes Go.WideShapes Go.ChangeAt Go.WideMaps Go.WideElems Go.RowKit
open AM
theorem cacheKnown_lifted (hcalls : ∀ W, laidMetH Tryz.prog laidW W → Calls Tryz.prog 4 #[] W fun e W' => e = .returned (.bool true) ∧ Below W.heap.size W W') (os : Os) (started : os.Started) (H : Type) (enc : TypeId × Value → H) :
    ReturnsInHanded {} Tryz.checked os 4 .any (fun w args => (Rows.cacheKnownSpec.pre enc Tryz.prog Tryz.f4 [] false w args ∧ laidMetH Tryz.prog laidW w) ∧ sizedMet enc Tryz.prog Tryz.f4 (OpenSpec.ofChange Rows.cacheKnownSpec) false w args)
      (Rows.cacheKnownSpec.post enc Tryz.prog Tryz.f4 false true false false) := by
  refine returnsInHanded_of_change_and (C := Tryz.checked) (X := fun w _ => laidMetH Tryz.prog laidW w) (fun _ _ _ hh h => h.of_heap hh) own started (by kernel_rfl) Tryz.func4
    (ChangeSpec.witness_shaped (enc := enc) (C := Tryz.checked) (os := os) (X := fun w _ => laidMetH Tryz.prog laidW w) false (World.doorLaid Tryz.prog 19 os) #[] 8 rfl (World.shaped_of_RefB (by kernel_rfl) (by kernel_rfl)) (by kernel_rfl) (by kernel_rfl) (by kernel_rfl) (door_met os _)) ?_
  intro W base args ds gs before hval0 hW _ _ hL _
  have hW' := hW
  obtain ⟨p, q, hA0, hV, rfl, hfz, hnd⟩ := hW
  have hA : DataW.TrodAll enc Tryz.prog W 0 (fun _ => true) true Tryz.f4.params.toList args.toList ds p := hA0
  rw [Tryz.params4] at hA
  obtain ⟨h1, rfl, rfl⟩ := trodAll_nil hA
  obtain rfl : args = #[] := by cases args; simp_all
  obtain ⟨rfl, rfl⟩ := trodVars_none hV
  refine (hcalls W hL).mono fun e W' ⟨he, bel⟩ => ?_
  subst he
  exact ⟨_, rfl, _, _, _, [], _, [], hW', trodAll_mk1 (shut_bool Tryz.underlying4 _), trodAll_mk0, rfl, bel.frame _, fun h => by cases h⟩
theorem cacheKnown_facts : joinedFacts Tryz.prog 4 Tryz.f4 Rows.cacheKnownSpec Rows.cacheKnownRow = true := by
  unfold joinedFacts
  simp only [Bool.and_eq_true]
  exact ⟨⟨⟨⟨⟨⟨⟨⟨⟨⟨⟨⟨⟨⟨⟨⟨⟨⟨⟨⟨⟨⟨⟨⟨⟨⟨⟨⟨⟨⟨⟨cacheKnown_j1, p2⟩, p3⟩, cacheKnown_j4⟩, cacheKnown_j5⟩, cacheKnown_j6⟩, p7⟩, cacheKnown_j8⟩, p9⟩, cacheKnown_j10⟩, cacheKnown_j11⟩, cacheKnown_j12⟩, cacheKnown_j13⟩, cacheKnown_j14⟩, cacheKnown_j15⟩, cacheKnown_j16⟩, cacheKnown_j17⟩, cacheKnown_j17b⟩, cacheKnown_j18⟩, cacheKnown_j19⟩, cacheKnown_j20⟩, cacheKnown_j21⟩, cacheKnown_j22⟩, cacheKnown_j23⟩, p23b⟩, p24⟩, cacheKnown_j24b⟩, cacheKnown_j24c⟩, by kernel_rfl⟩, cacheKnown_j26⟩, cacheKnown_j27⟩, cacheKnown_j28⟩
theorem cacheKnown_wrap : Tryz.f4.isWrapper Tryz.prog Rows.cacheKnownRow.wrapper Rows.cacheKnownRow.mainSum := by
  unfold Func.isWrapper
  rw [if_neg (of_decide_eq_false (by kernel_rfl))]
  exact ⟨rfl, rfl⟩
theorem cacheKnown_inst : Tryz.f4.isInstance Tryz.prog Rows.cacheKnownRow.origin Rows.cacheKnownRow.targs := of_decide_eq_true (by kernel_rfl)
theorem cacheKnown_said : Rows.CacheKnownSaid :=
  OpenClaim.holds_of_wide 4 Tryz.f4 rfl rfl rfl rfl rfl rfl rfl ⟨rfl, rfl, rfl, rfl, rfl⟩ rfl rfl rfl rfl rfl cacheKnown_jn Tryz.func4 cacheKnown_facts
    cacheKnown_inst cacheKnown_wrap
    (fun os started H enc _ => cacheKnown_lifted (fun W h => law_calls Cak57 rfl (by kernel_rfl) rfl h) os started H enc)
theorem cacheKnown_stand (f : FuncId) (fn : Func) (hf : Tryz.prog.funcNamed Rows.cacheKnownRow.func = some f) (hfn : Tryz.prog.funcs[f]? = some fn) : true = Tryz.prog.looks [] ∧ ∀ (j : Nat) t, fn.params[j]? = some t → Tryz.prog.wantsStandIn t = false := by
  obtain rfl : f = 4 := (Option.some.inj ((cacheKnown_jn).symm.trans hf)).symm
  obtain rfl : fn = Tryz.f4 := (Option.some.inj (Tryz.func4.symm.trans hfn)).symm
  exact ⟨pLooks, fun j t ht => by
    rw [Tryz.params4] at ht
    simp at ht⟩
theorem cacheKnown_card_holds : Rows.CacheKnownCardSaid :=
  Claim7.holds_tied_plain_at .later [] [.data] true (true, "d6c4d136f33ae509d5e1b8d0e590986420a72b4daa374938f70fd4b03eb5a7b8") true
    cacheKnown_said (fun _ h => by cases h) cacheKnown_jw (fun _ h => by cases h) cacheKnown_row_tie rfl ⟨rfl, rfl⟩ pMain rfl
    cacheKnown_stand cacheKnown_jg
#print axioms cacheKnown_card_holds
end Go.Proofs.YtdnefddmghhgpaaGreatDoor
