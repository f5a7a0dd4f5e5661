/- The law croft/croftlaw15.ArenaSame returns true whatever the configuration, the chunk's size and the calls: two games are walked over a deterministic machine that is proved sound for the model's programs, and every call does the same to both. Conditions: the program's text is the dump that the given Prog text loads; the variable croft/slab.widths reads as the program's text lays it (tied card). -/
import Derived.Test.YtlgmpheammbacaaGreatDoorSmn
import Derived.Carry
import Derived.Test.YtlgmpheammbacaaGreatDoorSmFB
import Derived.SevenTiedAt
import Derived.Test.YtlgmpheammbacaaGreatDoorCards
import Derived.Test.YtlgmpheammbacaaGreatDoorTie

set_option maxRecDepth 1000000
set_option maxHeartbeats 4000000
namespace Go.Proofs.YtlgmpheammbacaaGreatDoor
open Go.ChangeShapes Go.WideShapes Go.ChangeAt Go.WideMaps Go.WideElems Go.RowKit
open AM
theorem same_types:Tryz.f5.params.toList++Rows.arenaSameSpec.plain.varTypes Tryz.prog=[30,28,52]:=by kernel_rfl
theorem arenaSame_lifted (os:Os) (started:os.Started) (H:Type) (enc:TypeId × Value -> H) :
  ReturnsInHanded {} Tryz.checked os 5 .any (fun w args=>(Rows.arenaSameSpec.pre enc Tryz.prog Tryz.f5 [] false w args /\ laidMetH Tryz.prog laidW w) /\ sizedMet enc Tryz.prog Tryz.f5 (OpenSpec.ofChange Rows.arenaSameSpec) false w args)
   (Rows.arenaSameSpec.post enc Tryz.prog Tryz.f5 false true false false):=by
 refine returnsInHanded_of_change_and (C:=Tryz.checked) (X:=fun w _=>laidMetH Tryz.prog laidW w) (fun _ _ _ hh h=>h.of_heap hh) own started (by kernel_rfl) Tryz.func5
  (ChangeSpec.witness_shaped (enc:=enc) (C:=Tryz.checked) (os:=os) (X:=fun w _=>laidMetH Tryz.prog laidW w) false (World.doorLaid Tryz.prog 19 os) #[.agg #[.int .u64 0,.int .i64 0,.int .i64 0],.int .u64 0,.slice none 0 0] 8 rfl (World.shaped_of_RefB (by kernel_rfl) (by kernel_rfl)) (by kernel_rfl) (by kernel_rfl) (by kernel_rfl) (door_met os _)) ?_
 intro W base args ds gs before hval0 hW _ hz hL _
 have hΓ:EnvOk Tryz.prog Tryz.prog.globals.size G0:=envOkB
 have hW':=hW
 obtain ⟨p,q,hA0,hV,rfl,hfz,hnd⟩:=hW
 have hA:DataW.TrodAll enc Tryz.prog W 0 (fun _=>true) true Tryz.f5.params.toList args.toList ds p:=hA0
 rw [Tryz.params5] at hA
 obtain ⟨v,v',v'',d,d',d'',p1,p1',p1'',rfl,rfl,rfl,hd,hd',hd''⟩:=trodAll_three hA
 have hval:Value.okWide Tryz.prog W .any base 30 v:=hval0 0 30 v (by rw [Tryz.params5];rfl) rfl
 have hval':Value.okWide Tryz.prog W .any base 28 v':=hval0 1 28 v' (by rw [Tryz.params5];rfl) rfl
 have hval'':Value.okWide Tryz.prog W .any base 52 v'':=hval0 2 52 v'' (by rw [Tryz.params5];rfl) rfl
 obtain ⟨rfl,rfl⟩:=trodVars_none hV
 have hz':(DataW.weightsEach Tryz.prog (Tryz.f5.params.toList++Rows.arenaSameSpec.plain.varTypes Tryz.prog) ([d,d',d'']++[])).all (· <= reachBytes)=true:=hz
 rw [same_types,List.append_nil] at hz'
 have hlt:∀ x,x∈p1 \/ x∈p1' \/ x∈p1'' -> x.block<W.heap.size:=fun x hx=>hW'.lt x (by simpa [or_assoc] using hx)
 refine (same_calls hΓ hL hval hval' hval'' hd'' (fun a len cap hv=>few_ops hz' hd'' a len cap hv)).mono fun e W' ⟨he,bel⟩=>?_
 subst he
 exact ⟨_,rfl,_,_,_,[],_,[],hW',trodAll_mk1 (shut_bool Tryz.underlying4 _),trodAll_mk3 (Below.trod p2 (by kernel_rfl) (of_decide_eq_true (by kernel_rfl)) hd bel fun x hx=>hlt x (.inl hx)) (Below.trod p2 (by kernel_rfl) (of_decide_eq_true (by kernel_rfl)) hd' bel fun x hx=>hlt x (.inr (.inl hx))) (Below.trod p2 (by kernel_rfl) (of_decide_eq_true (by kernel_rfl)) hd'' bel fun x hx=>hlt x (.inr (.inr hx))),rfl,bel.frame _,fun h=>by cases h⟩
theorem arenaSame_wrap:Tryz.f5.isWrapper Tryz.prog Rows.arenaSameRow.wrapper Rows.arenaSameRow.mainSum:=by
 unfold Func.isWrapper
 rw [if_neg (of_decide_eq_false (by kernel_rfl))]
 exact ⟨rfl,rfl⟩
theorem arenaSame_inst:Tryz.f5.isInstance Tryz.prog Rows.arenaSameRow.origin Rows.arenaSameRow.targs:=of_decide_eq_true (by kernel_rfl)
theorem arenaSame_said:Rows.ArenaSameSaid :=
 OpenClaim.holds_of_wide 5 Tryz.f5 rfl rfl rfl rfl rfl rfl rfl ⟨rfl,rfl,rfl,rfl,rfl⟩ rfl rfl rfl rfl rfl arenaSame_jn Tryz.func5 arenaSame_facts
  arenaSame_inst arenaSame_wrap
  (fun os started H enc _=>arenaSame_lifted os started H enc)
theorem arenaSame_stand (f:FuncId) (fn:Func) (hf:Tryz.prog.funcNamed Rows.arenaSameRow.func=some f) (hfn:Tryz.prog.funcs[f]?=some fn):true=Tryz.prog.looks [] /\ ∀ (j:Nat) t,fn.params[j]?=some t -> Tryz.prog.wantsStandIn t=false:=by
 obtain rfl:f=5:=(Option.some.inj ((arenaSame_jn).symm.trans hf)).symm
 obtain rfl:fn=Tryz.f5:=(Option.some.inj (Tryz.func5.symm.trans hfn)).symm
 refine ⟨pLooks,fun j t ht=>?_⟩
 rw [Tryz.params5] at ht
 match j,ht with
 | 0,ht=>simp at ht;subst ht;exact (by kernel_rfl:Tryz.prog.wantsStandIn 30=false)
 | 1,ht=>simp at ht;subst ht;exact (by kernel_rfl:Tryz.prog.wantsStandIn 28=false)
 | 2,ht=>simp at ht;subst ht;exact (by kernel_rfl:Tryz.prog.wantsStandIn 52=false)
 |j+3,ht=>simp at ht
theorem arenaSame_card_holds:Rows.ArenaSameCardSaid :=
 Claim7.holds_tied_plain_at .later [] [.data] true (true, "817c758723e18fd19d055998a437fb7a2393ac040341109b507c7ace94e1ce7e") true
  arenaSame_said (fun _ h=>by cases h) arenaSame_jw (fun _ h=>by cases h) arenaSame_row_tie rfl ⟨rfl,rfl⟩ pMain rfl
  arenaSame_stand arenaSame_jg
#print axioms arenaSame_card_holds
end Go.Proofs.YtlgmpheammbacaaGreatDoor
