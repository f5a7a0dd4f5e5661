/- The closed law croft/croftlaw18.CountKnown returns true: one run of a deterministic machine, proved sound for the model's programs, reckoned by the kernel in parts. Conditions: the program's text is the dump that the given Prog text loads; the variable croft/slab.widths reads as the program's text lays it (tied card). -/
import Derived.Test.YtdnefddmghhgpaaGreatDoorCtStart
import Derived.Test.YtdnefddmghhgpaaGreatDoorCtK
import Derived.Test.YtdnefddmghhgpaaGreatDoorFP
import Derived.Test.YtdnefddmghhgpaaGreatDoorCtFA
import Derived.Test.YtdnefddmghhgpaaGreatDoorCtFB
import Derived.SevenTiedAt
import Derived.Test.YtdnefddmghhgpaaGreatDoorCards
import Derived.Test.YtdnefddmghhgpaaGreatDoorTie
set_option maxRecDepth 1000000
set_option maxHeartbeats 4000000
namespace Go.Proofs.YtdnefddmghhgpaaGreatDoor
open Go.ChangeShapes Go.WideShapes Go.ChangeAt Go.WideMaps Go.WideElems Go.RowKit
open AM
theorem countKnown_lifted (hcalls : ∀ W, laidMetH Tryz.prog laidW W → 2 < W.heap.size → Calls Tryz.prog 9 #[] W fun e W' => e = .returned (.bool true) ∧ Below W.heap.size W W') (os : Os) (started : os.Started) (H : Type) (enc : TypeId × Value → H) :
    ReturnsInHanded {} Tryz.checked os 9 .any (fun w args => (Rows.countKnownSpec.pre enc Tryz.prog Tryz.f9 [] false w args ∧ laidMetH Tryz.prog laidW w) ∧ sizedMet enc Tryz.prog Tryz.f9 (OpenSpec.ofChange Rows.countKnownSpec) false w args)
      (Rows.countKnownSpec.post enc Tryz.prog Tryz.f9 false true false false) := by
  refine returnsInHanded_shaped (C := Tryz.checked) (X := fun w _ => laidMetH Tryz.prog laidW w) (fun _ _ _ hh h => h.of_heap hh) own started (by kernel_rfl) Tryz.func9
    (ChangeSpec.witness_shaped (enc := enc) (C := Tryz.checked) (os := os) (X := fun w _ => laidMetH Tryz.prog laidW w) false (World.doorLaid Tryz.prog 19 os) #[] 8 rfl (World.shaped_of_RefB (by kernel_rfl) (by kernel_rfl)) (by kernel_rfl) (by kernel_rfl) (by kernel_rfl) (door_met os _)) ?_
  intro W base args ds gs before hsh hval0 hW _ _ hL _
  have hW' := hW
  obtain ⟨p, q, hA0, hV, rfl, hfz, hnd⟩ := hW
  have hA : DataW.TrodAll enc Tryz.prog W 0 (fun _ => true) true Tryz.f9.params.toList args.toList ds p := hA0
  rw [Tryz.params9] at hA
  obtain ⟨h1, rfl, rfl⟩ := trodAll_nil hA
  obtain rfl : args = #[] := by cases args; simp_all
  obtain ⟨rfl, rfl⟩ := trodVars_none hV
  refine (hcalls W hL (big_of hsh)).mono fun e W' ⟨he, bel⟩ => ?_
  subst he
  exact ⟨_, rfl, _, _, _, [], _, [], hW', trodAll_mk1 (shut_bool Tryz.underlying4 _), trodAll_mk0, rfl, bel.frame _, fun h => by cases h⟩
theorem countKnown_facts : joinedFacts Tryz.prog 9 Tryz.f9 Rows.countKnownSpec Rows.countKnownRow = true := by
  unfold joinedFacts
  simp only [Bool.and_eq_true]
  exact ⟨⟨⟨⟨⟨⟨⟨⟨⟨⟨⟨⟨⟨⟨⟨⟨⟨⟨⟨⟨⟨⟨⟨⟨⟨⟨⟨⟨⟨⟨⟨countKnown_j1, p2⟩, p3⟩, countKnown_j4⟩, countKnown_j5⟩, countKnown_j6⟩, p7⟩, countKnown_j8⟩, p9⟩, countKnown_j10⟩, countKnown_j11⟩, countKnown_j12⟩, countKnown_j13⟩, countKnown_j14⟩, countKnown_j15⟩, countKnown_j16⟩, countKnown_j17⟩, countKnown_j17b⟩, countKnown_j18⟩, countKnown_j19⟩, countKnown_j20⟩, countKnown_j21⟩, countKnown_j22⟩, countKnown_j23⟩, p23b⟩, p24⟩, countKnown_j24b⟩, countKnown_j24c⟩, by kernel_rfl⟩, countKnown_j26⟩, countKnown_j27⟩, countKnown_j28⟩
theorem countKnown_wrap : Tryz.f9.isWrapper Tryz.prog Rows.countKnownRow.wrapper Rows.countKnownRow.mainSum := by
  unfold Func.isWrapper
  rw [if_neg (of_decide_eq_false (by kernel_rfl))]
  exact ⟨rfl, rfl⟩
theorem countKnown_inst : Tryz.f9.isInstance Tryz.prog Rows.countKnownRow.origin Rows.countKnownRow.targs := of_decide_eq_true (by kernel_rfl)
theorem countKnown_said : Rows.CountKnownSaid :=
  OpenClaim.holds_of_wide 9 Tryz.f9 rfl rfl rfl rfl rfl rfl rfl ⟨rfl, rfl, rfl, rfl, rfl⟩ rfl rfl rfl rfl rfl countKnown_jn Tryz.func9 countKnown_facts
    countKnown_inst countKnown_wrap
    (fun os started H enc _ => countKnown_lifted (fun W h hb => law_calls Ctk82 rfl (by kernel_rfl) rfl h hb) os started H enc)
theorem countKnown_stand (f : FuncId) (fn : Func) (hf : Tryz.prog.funcNamed Rows.countKnownRow.func = some f) (hfn : Tryz.prog.funcs[f]? = some fn) : true = Tryz.prog.looks [] ∧ ∀ (j : Nat) t, fn.params[j]? = some t → Tryz.prog.wantsStandIn t = false := by
  obtain rfl : f = 9 := (Option.some.inj ((countKnown_jn).symm.trans hf)).symm
  obtain rfl : fn = Tryz.f9 := (Option.some.inj (Tryz.func9.symm.trans hfn)).symm
  exact ⟨pLooks, fun j t ht => by
    rw [Tryz.params9] at ht
    simp at ht⟩
theorem countKnown_card_holds : Rows.CountKnownCardSaid :=
  Claim7.holds_tied_plain_at .later [] [.data] true (true, "d6c4d136f33ae509d5e1b8d0e590986420a72b4daa374938f70fd4b03eb5a7b8") true
    countKnown_said (fun _ h => by cases h) countKnown_jw (fun _ h => by cases h) countKnown_row_tie rfl ⟨rfl, rfl⟩ pMain rfl
    countKnown_stand countKnown_jg
#print axioms countKnown_card_holds
end Go.Proofs.YtdnefddmghhgpaaGreatDoor
