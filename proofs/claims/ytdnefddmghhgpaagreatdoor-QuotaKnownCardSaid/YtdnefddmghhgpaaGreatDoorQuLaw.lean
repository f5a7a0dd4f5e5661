/- The closed law croft/croftlaw14.QuotaKnown returns true: one run of a deterministic machine, proved sound for the model's programs, reckoned by the kernel in parts. Conditions: the program's text is the dump that the given Prog text loads; the variable croft/slab.widths reads as the program's text lays it (tied card). -/
import Derived.Test.YtdnefddmghhgpaaGreatDoorQuStart
import Derived.Test.YtdnefddmghhgpaaGreatDoorQuK
import Derived.Test.YtdnefddmghhgpaaGreatDoorFP
import Derived.Test.YtdnefddmghhgpaaGreatDoorQuFA
import Derived.Test.YtdnefddmghhgpaaGreatDoorQuFB
import Derived.SevenTiedAt
import Derived.Test.YtdnefddmghhgpaaGreatDoorCards
import Derived.Test.YtdnefddmghhgpaaGreatDoorTie
set_option maxRecDepth 1000000
set_option maxHeartbeats 4000000
namespace Go.Proofs.YtdnefddmghhgpaaGreatDoor
open Go.ChangeShapes Go.WideShapes Go.ChangeAt Go.WideMaps Go.WideElems Go.RowKit
open AM
theorem quotaKnown_lifted (hcalls : ∀ W, laidMetH Tryz.prog laidW W → 2 < W.heap.size → Calls Tryz.prog 10 #[] W fun e W' => e = .returned (.bool true) ∧ Below W.heap.size W W') (os : Os) (started : os.Started) (H : Type) (enc : TypeId × Value → H) :
    ReturnsInHanded {} Tryz.checked os 10 .any (fun w args => (Rows.quotaKnownSpec.pre enc Tryz.prog Tryz.f10 [] false w args ∧ laidMetH Tryz.prog laidW w) ∧ sizedMet enc Tryz.prog Tryz.f10 (OpenSpec.ofChange Rows.quotaKnownSpec) false w args)
      (Rows.quotaKnownSpec.post enc Tryz.prog Tryz.f10 false true false false) := by
  refine returnsInHanded_shaped (C := Tryz.checked) (X := fun w _ => laidMetH Tryz.prog laidW w) (fun _ _ _ hh h => h.of_heap hh) own started (by kernel_rfl) Tryz.func10
    (ChangeSpec.witness_shaped (enc := enc) (C := Tryz.checked) (os := os) (X := fun w _ => laidMetH Tryz.prog laidW w) false (World.doorLaid Tryz.prog 19 os) #[] 8 rfl (World.shaped_of_RefB (by kernel_rfl) (by kernel_rfl)) (by kernel_rfl) (by kernel_rfl) (by kernel_rfl) (door_met os _)) ?_
  intro W base args ds gs before hsh hval0 hW _ _ hL _
  have hW' := hW
  obtain ⟨p, q, hA0, hV, rfl, hfz, hnd⟩ := hW
  have hA : DataW.TrodAll enc Tryz.prog W 0 (fun _ => true) true Tryz.f10.params.toList args.toList ds p := hA0
  rw [Tryz.params10] at hA
  obtain ⟨h1, rfl, rfl⟩ := trodAll_nil hA
  obtain rfl : args = #[] := by cases args; simp_all
  obtain ⟨rfl, rfl⟩ := trodVars_none hV
  refine (hcalls W hL (big_of hsh)).mono fun e W' ⟨he, bel⟩ => ?_
  subst he
  exact ⟨_, rfl, _, _, _, [], _, [], hW', trodAll_mk1 (shut_bool Tryz.underlying4 _), trodAll_mk0, rfl, bel.frame _, fun h => by cases h⟩
theorem quotaKnown_facts : joinedFacts Tryz.prog 10 Tryz.f10 Rows.quotaKnownSpec Rows.quotaKnownRow = true := by
  unfold joinedFacts
  simp only [Bool.and_eq_true]
  exact ⟨⟨⟨⟨⟨⟨⟨⟨⟨⟨⟨⟨⟨⟨⟨⟨⟨⟨⟨⟨⟨⟨⟨⟨⟨⟨⟨⟨⟨⟨⟨quotaKnown_j1, p2⟩, p3⟩, quotaKnown_j4⟩, quotaKnown_j5⟩, quotaKnown_j6⟩, p7⟩, quotaKnown_j8⟩, p9⟩, quotaKnown_j10⟩, quotaKnown_j11⟩, quotaKnown_j12⟩, quotaKnown_j13⟩, quotaKnown_j14⟩, quotaKnown_j15⟩, quotaKnown_j16⟩, quotaKnown_j17⟩, quotaKnown_j17b⟩, quotaKnown_j18⟩, quotaKnown_j19⟩, quotaKnown_j20⟩, quotaKnown_j21⟩, quotaKnown_j22⟩, quotaKnown_j23⟩, p23b⟩, p24⟩, quotaKnown_j24b⟩, quotaKnown_j24c⟩, by kernel_rfl⟩, quotaKnown_j26⟩, quotaKnown_j27⟩, quotaKnown_j28⟩
theorem quotaKnown_wrap : Tryz.f10.isWrapper Tryz.prog Rows.quotaKnownRow.wrapper Rows.quotaKnownRow.mainSum := by
  unfold Func.isWrapper
  rw [if_neg (of_decide_eq_false (by kernel_rfl))]
  exact ⟨rfl, rfl⟩
theorem quotaKnown_inst : Tryz.f10.isInstance Tryz.prog Rows.quotaKnownRow.origin Rows.quotaKnownRow.targs := of_decide_eq_true (by kernel_rfl)
theorem quotaKnown_said : Rows.QuotaKnownSaid :=
  OpenClaim.holds_of_wide 10 Tryz.f10 rfl rfl rfl rfl rfl rfl rfl ⟨rfl, rfl, rfl, rfl, rfl⟩ rfl rfl rfl rfl rfl quotaKnown_jn Tryz.func10 quotaKnown_facts
    quotaKnown_inst quotaKnown_wrap
    (fun os started H enc _ => quotaKnown_lifted (fun W h hb => law_calls Quk47 rfl (by kernel_rfl) rfl h hb) os started H enc)
theorem quotaKnown_stand (f : FuncId) (fn : Func) (hf : Tryz.prog.funcNamed Rows.quotaKnownRow.func = some f) (hfn : Tryz.prog.funcs[f]? = some fn) : true = Tryz.prog.looks [] ∧ ∀ (j : Nat) t, fn.params[j]? = some t → Tryz.prog.wantsStandIn t = false := by
  obtain rfl : f = 10 := (Option.some.inj ((quotaKnown_jn).symm.trans hf)).symm
  obtain rfl : fn = Tryz.f10 := (Option.some.inj (Tryz.func10.symm.trans hfn)).symm
  exact ⟨pLooks, fun j t ht => by
    rw [Tryz.params10] at ht
    simp at ht⟩
theorem quotaKnown_card_holds : Rows.QuotaKnownCardSaid :=
  Claim7.holds_tied_plain_at .later [] [.data] true (true, "d6c4d136f33ae509d5e1b8d0e590986420a72b4daa374938f70fd4b03eb5a7b8") true
    quotaKnown_said (fun _ h => by cases h) quotaKnown_jw (fun _ h => by cases h) quotaKnown_row_tie rfl ⟨rfl, rfl⟩ pMain rfl
    quotaKnown_stand quotaKnown_jg
#print axioms quotaKnown_card_holds
end Go.Proofs.YtdnefddmghhgpaaGreatDoor
