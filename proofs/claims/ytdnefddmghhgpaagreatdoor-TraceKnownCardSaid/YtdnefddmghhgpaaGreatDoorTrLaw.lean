/- The closed law croft/croftlaw17.TraceKnown returns true: one run of a deterministic machine, proved sound for the model's programs, reckoned by the kernel in parts. Conditions: the program's text is the dump that the given Prog text loads; the variable croft/slab.widths reads as the program's text lays it (tied card). -/
import Derived.Test.YtdnefddmghhgpaaGreatDoorTrStart
import Derived.Test.YtdnefddmghhgpaaGreatDoorTrK
import Derived.Test.YtdnefddmghhgpaaGreatDoorFP
import Derived.Test.YtdnefddmghhgpaaGreatDoorTrFA
import Derived.Test.YtdnefddmghhgpaaGreatDoorTrFB
import Derived.SevenTiedAt
import Derived.Test.YtdnefddmghhgpaaGreatDoorCards
import Derived.Test.YtdnefddmghhgpaaGreatDoorTie
set_option maxRecDepth 1000000
set_option maxHeartbeats 4000000
namespace Go.Proofs.YtdnefddmghhgpaaGreatDoor
open Go.ChangeShapes Go.WideShapes Go.ChangeAt Go.WideMaps Go.WideElems Go.RowKit
open AM
theorem traceKnown_lifted (hcalls : ∀ W, laidMetH Tryz.prog laidW W → Calls Tryz.prog 8 #[] W fun e W' => e = .returned (.bool true) ∧ Below W.heap.size W W') (os : Os) (started : os.Started) (H : Type) (enc : TypeId × Value → H) :
    ReturnsInHanded {} Tryz.checked os 8 .any (fun w args => (Rows.traceKnownSpec.pre enc Tryz.prog Tryz.f8 [] false w args ∧ laidMetH Tryz.prog laidW w) ∧ sizedMet enc Tryz.prog Tryz.f8 (OpenSpec.ofChange Rows.traceKnownSpec) false w args)
      (Rows.traceKnownSpec.post enc Tryz.prog Tryz.f8 false true false false) := by
  refine returnsInHanded_of_change_and (C := Tryz.checked) (X := fun w _ => laidMetH Tryz.prog laidW w) (fun _ _ _ hh h => h.of_heap hh) own started (by kernel_rfl) Tryz.func8
    (ChangeSpec.witness_shaped (enc := enc) (C := Tryz.checked) (os := os) (X := fun w _ => laidMetH Tryz.prog laidW w) false (World.doorLaid Tryz.prog 19 os) #[] 8 rfl (World.shaped_of_RefB (by kernel_rfl) (by kernel_rfl)) (by kernel_rfl) (by kernel_rfl) (by kernel_rfl) (door_met os _)) ?_
  intro W base args ds gs before hval0 hW _ _ hL _
  have hW' := hW
  obtain ⟨p, q, hA0, hV, rfl, hfz, hnd⟩ := hW
  have hA : DataW.TrodAll enc Tryz.prog W 0 (fun _ => true) true Tryz.f8.params.toList args.toList ds p := hA0
  rw [Tryz.params8] at hA
  obtain ⟨h1, rfl, rfl⟩ := trodAll_nil hA
  obtain rfl : args = #[] := by cases args; simp_all
  obtain ⟨rfl, rfl⟩ := trodVars_none hV
  refine (hcalls W hL).mono fun e W' ⟨he, bel⟩ => ?_
  subst he
  exact ⟨_, rfl, _, _, _, [], _, [], hW', trodAll_mk1 (shut_bool Tryz.underlying4 _), trodAll_mk0, rfl, bel.frame _, fun h => by cases h⟩
theorem traceKnown_facts : joinedFacts Tryz.prog 8 Tryz.f8 Rows.traceKnownSpec Rows.traceKnownRow = true := by
  unfold joinedFacts
  simp only [Bool.and_eq_true]
  exact ⟨⟨⟨⟨⟨⟨⟨⟨⟨⟨⟨⟨⟨⟨⟨⟨⟨⟨⟨⟨⟨⟨⟨⟨⟨⟨⟨⟨⟨⟨⟨traceKnown_j1, p2⟩, p3⟩, traceKnown_j4⟩, traceKnown_j5⟩, traceKnown_j6⟩, p7⟩, traceKnown_j8⟩, p9⟩, traceKnown_j10⟩, traceKnown_j11⟩, traceKnown_j12⟩, traceKnown_j13⟩, traceKnown_j14⟩, traceKnown_j15⟩, traceKnown_j16⟩, traceKnown_j17⟩, traceKnown_j17b⟩, traceKnown_j18⟩, traceKnown_j19⟩, traceKnown_j20⟩, traceKnown_j21⟩, traceKnown_j22⟩, traceKnown_j23⟩, p23b⟩, p24⟩, traceKnown_j24b⟩, traceKnown_j24c⟩, by kernel_rfl⟩, traceKnown_j26⟩, traceKnown_j27⟩, traceKnown_j28⟩
theorem traceKnown_wrap : Tryz.f8.isWrapper Tryz.prog Rows.traceKnownRow.wrapper Rows.traceKnownRow.mainSum := by
  unfold Func.isWrapper
  rw [if_neg (of_decide_eq_false (by kernel_rfl))]
  exact ⟨rfl, rfl⟩
theorem traceKnown_inst : Tryz.f8.isInstance Tryz.prog Rows.traceKnownRow.origin Rows.traceKnownRow.targs := of_decide_eq_true (by kernel_rfl)
theorem traceKnown_said : Rows.TraceKnownSaid :=
  OpenClaim.holds_of_wide 8 Tryz.f8 rfl rfl rfl rfl rfl rfl rfl ⟨rfl, rfl, rfl, rfl, rfl⟩ rfl rfl rfl rfl rfl traceKnown_jn Tryz.func8 traceKnown_facts
    traceKnown_inst traceKnown_wrap
    (fun os started H enc _ => traceKnown_lifted (fun W h => law_calls Trk67 rfl (by kernel_rfl) rfl h) os started H enc)
theorem traceKnown_stand (f : FuncId) (fn : Func) (hf : Tryz.prog.funcNamed Rows.traceKnownRow.func = some f) (hfn : Tryz.prog.funcs[f]? = some fn) : true = Tryz.prog.looks [] ∧ ∀ (j : Nat) t, fn.params[j]? = some t → Tryz.prog.wantsStandIn t = false := by
  obtain rfl : f = 8 := (Option.some.inj ((traceKnown_jn).symm.trans hf)).symm
  obtain rfl : fn = Tryz.f8 := (Option.some.inj (Tryz.func8.symm.trans hfn)).symm
  exact ⟨pLooks, fun j t ht => by
    rw [Tryz.params8] at ht
    simp at ht⟩
theorem traceKnown_card_holds : Rows.TraceKnownCardSaid :=
  Claim7.holds_tied_plain_at .later [] [.data] true (true, "d6c4d136f33ae509d5e1b8d0e590986420a72b4daa374938f70fd4b03eb5a7b8") true
    traceKnown_said (fun _ h => by cases h) traceKnown_jw (fun _ h => by cases h) traceKnown_row_tie rfl ⟨rfl, rfl⟩ pMain rfl
    traceKnown_stand traceKnown_jg
#print axioms traceKnown_card_holds
end Go.Proofs.YtdnefddmghhgpaaGreatDoor
