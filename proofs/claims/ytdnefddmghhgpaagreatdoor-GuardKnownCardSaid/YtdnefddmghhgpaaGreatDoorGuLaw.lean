/- The closed law croft/croftlaw23.GuardKnown returns true: one run of a deterministic machine, proved sound for the model's programs, reckoned by the kernel in parts. Conditions: the program's text is the dump that the given Prog text loads; the variable croft/slab.widths reads as the program's text lays it (tied card). -/
import Derived.Test.YtdnefddmghhgpaaGreatDoorGuStart
import Derived.Test.YtdnefddmghhgpaaGreatDoorGuK
import Derived.Test.YtdnefddmghhgpaaGreatDoorFP
import Derived.Test.YtdnefddmghhgpaaGreatDoorGuFA
import Derived.Test.YtdnefddmghhgpaaGreatDoorGuFB
import Derived.SevenTiedAt
import Derived.Test.YtdnefddmghhgpaaGreatDoorCards
import Derived.Test.YtdnefddmghhgpaaGreatDoorTie
set_option maxRecDepth 1000000
set_option maxHeartbeats 4000000
namespace Go.Proofs.YtdnefddmghhgpaaGreatDoor
open Go.ChangeShapes Go.WideShapes Go.ChangeAt Go.WideMaps Go.WideElems Go.RowKit
open AM
theorem guardKnown_lifted (hcalls : ∀ W, laidMetH Tryz.prog laidW W → 2 < W.heap.size → Calls Tryz.prog 6 #[] W fun e W' => e = .returned (.bool true) ∧ Below W.heap.size W W') (os : Os) (started : os.Started) (H : Type) (enc : TypeId × Value → H) :
    ReturnsInHanded {} Tryz.checked os 6 .any (fun w args => (Rows.guardKnownSpec.pre enc Tryz.prog Tryz.f6 [] false w args ∧ laidMetH Tryz.prog laidW w) ∧ sizedMet enc Tryz.prog Tryz.f6 (OpenSpec.ofChange Rows.guardKnownSpec) false w args)
      (Rows.guardKnownSpec.post enc Tryz.prog Tryz.f6 false true false false) := by
  refine returnsInHanded_shaped (C := Tryz.checked) (X := fun w _ => laidMetH Tryz.prog laidW w) (fun _ _ _ hh h => h.of_heap hh) own started (by kernel_rfl) Tryz.func6
    (ChangeSpec.witness_shaped (enc := enc) (C := Tryz.checked) (os := os) (X := fun w _ => laidMetH Tryz.prog laidW w) false (World.doorLaid Tryz.prog 19 os) #[] 8 rfl (World.shaped_of_RefB (by kernel_rfl) (by kernel_rfl)) (by kernel_rfl) (by kernel_rfl) (by kernel_rfl) (door_met os _)) ?_
  intro W base args ds gs before hsh hval0 hW _ _ hL _
  have hW' := hW
  obtain ⟨p, q, hA0, hV, rfl, hfz, hnd⟩ := hW
  have hA : DataW.TrodAll enc Tryz.prog W 0 (fun _ => true) true Tryz.f6.params.toList args.toList ds p := hA0
  rw [Tryz.params6] at hA
  obtain ⟨h1, rfl, rfl⟩ := trodAll_nil hA
  obtain rfl : args = #[] := by cases args; simp_all
  obtain ⟨rfl, rfl⟩ := trodVars_none hV
  refine (hcalls W hL (big_of hsh)).mono fun e W' ⟨he, bel⟩ => ?_
  subst he
  exact ⟨_, rfl, _, _, _, [], _, [], hW', trodAll_mk1 (shut_bool Tryz.underlying4 _), trodAll_mk0, rfl, bel.frame _, fun h => by cases h⟩
theorem guardKnown_facts : joinedFacts Tryz.prog 6 Tryz.f6 Rows.guardKnownSpec Rows.guardKnownRow = true := by
  unfold joinedFacts
  simp only [Bool.and_eq_true]
  exact ⟨⟨⟨⟨⟨⟨⟨⟨⟨⟨⟨⟨⟨⟨⟨⟨⟨⟨⟨⟨⟨⟨⟨⟨⟨⟨⟨⟨⟨⟨⟨guardKnown_j1, p2⟩, p3⟩, guardKnown_j4⟩, guardKnown_j5⟩, guardKnown_j6⟩, p7⟩, guardKnown_j8⟩, p9⟩, guardKnown_j10⟩, guardKnown_j11⟩, guardKnown_j12⟩, guardKnown_j13⟩, guardKnown_j14⟩, guardKnown_j15⟩, guardKnown_j16⟩, guardKnown_j17⟩, guardKnown_j17b⟩, guardKnown_j18⟩, guardKnown_j19⟩, guardKnown_j20⟩, guardKnown_j21⟩, guardKnown_j22⟩, guardKnown_j23⟩, p23b⟩, p24⟩, guardKnown_j24b⟩, guardKnown_j24c⟩, by kernel_rfl⟩, guardKnown_j26⟩, guardKnown_j27⟩, guardKnown_j28⟩
theorem guardKnown_wrap : Tryz.f6.isWrapper Tryz.prog Rows.guardKnownRow.wrapper Rows.guardKnownRow.mainSum := by
  unfold Func.isWrapper
  rw [if_neg (of_decide_eq_false (by kernel_rfl))]
  exact ⟨rfl, rfl⟩
theorem guardKnown_inst : Tryz.f6.isInstance Tryz.prog Rows.guardKnownRow.origin Rows.guardKnownRow.targs := of_decide_eq_true (by kernel_rfl)
theorem guardKnown_said : Rows.GuardKnownSaid :=
  OpenClaim.holds_of_wide 6 Tryz.f6 rfl rfl rfl rfl rfl rfl rfl ⟨rfl, rfl, rfl, rfl, rfl⟩ rfl rfl rfl rfl rfl guardKnown_jn Tryz.func6 guardKnown_facts
    guardKnown_inst guardKnown_wrap
    (fun os started H enc _ => guardKnown_lifted (fun W h hb => law_calls Guk203 rfl (by kernel_rfl) rfl h hb) os started H enc)
theorem guardKnown_stand (f : FuncId) (fn : Func) (hf : Tryz.prog.funcNamed Rows.guardKnownRow.func = some f) (hfn : Tryz.prog.funcs[f]? = some fn) : true = Tryz.prog.looks [] ∧ ∀ (j : Nat) t, fn.params[j]? = some t → Tryz.prog.wantsStandIn t = false := by
  obtain rfl : f = 6 := (Option.some.inj ((guardKnown_jn).symm.trans hf)).symm
  obtain rfl : fn = Tryz.f6 := (Option.some.inj (Tryz.func6.symm.trans hfn)).symm
  exact ⟨pLooks, fun j t ht => by
    rw [Tryz.params6] at ht
    simp at ht⟩
theorem guardKnown_card_holds : Rows.GuardKnownCardSaid :=
  Claim7.holds_tied_plain_at .later [] [.data] true (true, "d6c4d136f33ae509d5e1b8d0e590986420a72b4daa374938f70fd4b03eb5a7b8") true
    guardKnown_said (fun _ h => by cases h) guardKnown_jw (fun _ h => by cases h) guardKnown_row_tie rfl ⟨rfl, rfl⟩ pMain rfl
    guardKnown_stand guardKnown_jg
#print axioms guardKnown_card_holds
end Go.Proofs.YtdnefddmghhgpaaGreatDoor
