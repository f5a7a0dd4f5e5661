/- The closed law croft/croftlaw15.ArenaKnown returns true: one run of a deterministic machine, proved sound for the model's programs, reckoned by the kernel in parts. Conditions: the program's text is the dump that the given Prog text loads; the variable croft/slab.widths reads as the program's text lays it (tied card). -/
import Derived.Test.YtdnefddmghhgpaaGreatDoorStart
import Derived.Test.YtdnefddmghhgpaaGreatDoorArR
import Derived.Test.YtdnefddmghhgpaaGreatDoorFP
import Derived.Test.YtdnefddmghhgpaaGreatDoorArFA
import Derived.Test.YtdnefddmghhgpaaGreatDoorArFB
import Derived.SevenTiedAt
import Derived.Test.YtdnefddmghhgpaaGreatDoorCards
import Derived.Test.YtdnefddmghhgpaaGreatDoorTie
set_option maxRecDepth 1000000
set_option maxHeartbeats 4000000
namespace Go.Proofs.YtdnefddmghhgpaaGreatDoor
open Go.ChangeShapes Go.WideShapes Go.ChangeAt Go.WideMaps Go.WideElems Go.RowKit
open AM
theorem arenaKnown_lifted (hcalls : ∀ W, laidMetH Tryz.prog laidW W → Calls Tryz.prog 3 #[] W fun e W' => e = .returned (.bool true) ∧ Below W.heap.size W W') (os : Os) (started : os.Started) (H : Type) (enc : TypeId × Value → H) :
    ReturnsInHanded {} Tryz.checked os 3 .any (fun w args => (Rows.arenaKnownSpec.pre enc Tryz.prog Tryz.f3 [] false w args ∧ laidMetH Tryz.prog laidW w) ∧ sizedMet enc Tryz.prog Tryz.f3 (OpenSpec.ofChange Rows.arenaKnownSpec) false w args)
      (Rows.arenaKnownSpec.post enc Tryz.prog Tryz.f3 false true false false) := by
  refine returnsInHanded_of_change_and (C := Tryz.checked) (X := fun w _ => laidMetH Tryz.prog laidW w) (fun _ _ _ hh h => h.of_heap hh) own started (by kernel_rfl) Tryz.func3
    (ChangeSpec.witness_shaped (enc := enc) (C := Tryz.checked) (os := os) (X := fun w _ => laidMetH Tryz.prog laidW w) false (World.doorLaid Tryz.prog 19 os) #[] 8 rfl (World.shaped_of_RefB (by kernel_rfl) (by kernel_rfl)) (by kernel_rfl) (by kernel_rfl) (by kernel_rfl) (door_met os _)) ?_
  intro W base args ds gs before hval0 hW _ _ hL _
  have hW' := hW
  obtain ⟨p, q, hA0, hV, rfl, hfz, hnd⟩ := hW
  have hA : DataW.TrodAll enc Tryz.prog W 0 (fun _ => true) true Tryz.f3.params.toList args.toList ds p := hA0
  rw [Tryz.params3] at hA
  obtain ⟨h1, rfl, rfl⟩ := trodAll_nil hA
  obtain rfl : args = #[] := by cases args; simp_all
  obtain ⟨rfl, rfl⟩ := trodVars_none hV
  refine (hcalls W hL).mono fun e W' ⟨he, bel⟩ => ?_
  subst he
  exact ⟨_, rfl, _, _, _, [], _, [], hW', trodAll_mk1 (shut_bool Tryz.underlying4 _), trodAll_mk0, rfl, bel.frame _, fun h => by cases h⟩
theorem arenaKnown_facts : joinedFacts Tryz.prog 3 Tryz.f3 Rows.arenaKnownSpec Rows.arenaKnownRow = true := by
  unfold joinedFacts
  simp only [Bool.and_eq_true]
  exact ⟨⟨⟨⟨⟨⟨⟨⟨⟨⟨⟨⟨⟨⟨⟨⟨⟨⟨⟨⟨⟨⟨⟨⟨⟨⟨⟨⟨⟨⟨⟨arenaKnown_j1, p2⟩, p3⟩, arenaKnown_j4⟩, arenaKnown_j5⟩, arenaKnown_j6⟩, p7⟩, arenaKnown_j8⟩, p9⟩, arenaKnown_j10⟩, arenaKnown_j11⟩, arenaKnown_j12⟩, arenaKnown_j13⟩, arenaKnown_j14⟩, arenaKnown_j15⟩, arenaKnown_j16⟩, arenaKnown_j17⟩, arenaKnown_j17b⟩, arenaKnown_j18⟩, arenaKnown_j19⟩, arenaKnown_j20⟩, arenaKnown_j21⟩, arenaKnown_j22⟩, arenaKnown_j23⟩, p23b⟩, p24⟩, arenaKnown_j24b⟩, arenaKnown_j24c⟩, by kernel_rfl⟩, arenaKnown_j26⟩, arenaKnown_j27⟩, arenaKnown_j28⟩
theorem arenaKnown_wrap : Tryz.f3.isWrapper Tryz.prog Rows.arenaKnownRow.wrapper Rows.arenaKnownRow.mainSum := by
  unfold Func.isWrapper
  rw [if_neg (of_decide_eq_false (by kernel_rfl))]
  exact ⟨rfl, rfl⟩
theorem arenaKnown_inst : Tryz.f3.isInstance Tryz.prog Rows.arenaKnownRow.origin Rows.arenaKnownRow.targs := of_decide_eq_true (by kernel_rfl)
theorem arenaKnown_said : Rows.ArenaKnownSaid :=
  OpenClaim.holds_of_wide 3 Tryz.f3 rfl rfl rfl rfl rfl rfl rfl ⟨rfl, rfl, rfl, rfl, rfl⟩ rfl rfl rfl rfl rfl arenaKnown_jn Tryz.func3 arenaKnown_facts
    arenaKnown_inst arenaKnown_wrap
    (fun os started H enc _ => arenaKnown_lifted (fun W h => law_calls Ark18 rfl (by kernel_rfl) rfl h) os started H enc)
theorem arenaKnown_stand (f : FuncId) (fn : Func) (hf : Tryz.prog.funcNamed Rows.arenaKnownRow.func = some f) (hfn : Tryz.prog.funcs[f]? = some fn) : true = Tryz.prog.looks [] ∧ ∀ (j : Nat) t, fn.params[j]? = some t → Tryz.prog.wantsStandIn t = false := by
  obtain rfl : f = 3 := (Option.some.inj ((arenaKnown_jn).symm.trans hf)).symm
  obtain rfl : fn = Tryz.f3 := (Option.some.inj (Tryz.func3.symm.trans hfn)).symm
  exact ⟨pLooks, fun j t ht => by
    rw [Tryz.params3] at ht
    simp at ht⟩
theorem arenaKnown_card_holds : Rows.ArenaKnownCardSaid :=
  Claim7.holds_tied_plain_at .later [] [.data] true (true, "d6c4d136f33ae509d5e1b8d0e590986420a72b4daa374938f70fd4b03eb5a7b8") true
    arenaKnown_said (fun _ h => by cases h) arenaKnown_jw (fun _ h => by cases h) arenaKnown_row_tie rfl ⟨rfl, rfl⟩ pMain rfl
    arenaKnown_stand arenaKnown_jg
#print axioms arenaKnown_card_holds
end Go.Proofs.YtdnefddmghhgpaaGreatDoor
