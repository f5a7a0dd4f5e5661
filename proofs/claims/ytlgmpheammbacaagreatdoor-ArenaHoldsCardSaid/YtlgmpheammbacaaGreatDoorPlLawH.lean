/- The law croft/croftlaw15.ArenaHolds returns true whatever the configuration, the chunk's size and the calls: a game is walked over a deterministic machine that is proved sound for the model's programs; every piece lies in a chunk, apart from the others, where it was asked for, and keeps its bytes. Conditions: the program's text is the dump that the given Prog text loads; the variable croft/slab.widths reads as the program's text lays it (tied card). -/
import Derived.Test.YtlgmpheammbacaaGreatDoorPyH1
import Derived.Carry
import Derived.Test.YtlgmpheammbacaaGreatDoorHoFB
import Derived.SevenTiedAt
import Derived.Test.YtlgmpheammbacaaGreatDoorCards
import Derived.Test.YtlgmpheammbacaaGreatDoorTie
set_option linter.all false

set_option maxRecDepth 1000000
set_option maxHeartbeats 4000000
namespace Go.Proofs.YtlgmpheammbacaaGreatDoor
open Go.ChangeShapes Go.WideShapes Go.ChangeAt Go.WideMaps Go.WideElems Go.RowKit
open AM
def Cq:Tryz.f6.params.toList++Rows.arenaHoldsSpec.plain.varTypes Tryz.prog=[30,28,52]:=by kernel_rfl
def qE(os:Os)(i:os.Started)(H:Type)(enc:TypeId×Value->H):
  ReturnsInHanded {} Tryz.checked os 6 .any (fun w args=>(Rows.arenaHoldsSpec.pre enc Tryz.prog Tryz.f6 [] false w args /\ laidMetH Tryz.prog iW w) /\ sizedMet enc Tryz.prog Tryz.f6 (OpenSpec.ofChange Rows.arenaHoldsSpec) false w args)
   (Rows.arenaHoldsSpec.post enc Tryz.prog Tryz.f6 false true false false):=by
 refine returnsInHanded_of_change_and (C:=Tryz.checked) (X:=fun w _=>laidMetH Tryz.prog iW w) (fun _ _ _ Y h=>h.of_heap Y) TJ i (by kernel_rfl) Tryz.func6
  (ChangeSpec.witness_shaped (enc:=enc) (C:=Tryz.checked) (os:=os) (X:=fun w _=>laidMetH Tryz.prog iW w) false (World.doorLaid Tryz.prog 19 os) #[.agg #[.int .u64 0,.int .i64 0,.int .i64 0],.int .u64 0,.slice none 0 0] 6 rfl (World.shaped_of_RefB (by kernel_rfl) (by kernel_rfl)) (by kernel_rfl) (by kernel_rfl) (by kernel_rfl) (qL os _)) ?_
 intro W Tj args ds gs z f J _ hz S _;have F:gh Tryz.prog Tryz.prog.globals.size G0:=BL;have s:=J;obtain ⟨p,q,D,T,rfl,V,Z⟩:=J;have I:DataW.TrodAll enc Tryz.prog W 0 (fun _=>true) true Tryz.f6.params.toList args.toList ds p:=D;rw [Tryz.params6]at I;obtain ⟨v,K,y,d,R,B,p1,G,u,rfl,rfl,rfl,hd,E,g⟩:=trodAll_three I;have t:Value.okWide Tryz.prog W .any Tj 30 v:=f 0 30 v (by rw [Tryz.params6];rfl) rfl;have n:Value.okWide Tryz.prog W .any Tj 28 K:=f 1 28 K (by rw [Tryz.params6];rfl) rfl;have k:Value.okWide Tryz.prog W .any Tj 52 y:=f 2 52 y (by rw [Tryz.params6];rfl) rfl;obtain ⟨rfl,rfl⟩:=trodVars_none T;have r:(DataW.weightsEach Tryz.prog (Tryz.f6.params.toList++Rows.arenaHoldsSpec.plain.varTypes Tryz.prog) ([d,R,B]++[])).all (· <=reachBytes)=true:=hz;rw [Cq,Wr]at r;simp only [DataW.weightsEach,List.all_append,Vs]at r;have m:∀x,x∈p1 \/x∈G \/x∈u->x.block<W.heap.size:=fun x hx=>s.lt x (by simpa [or_assoc]using hx)
 refine (vB g6 (fun l b l' o c M oo e q ac L N O P Q=>Bu (fun h W=>h.ls W) (xWd l) L N O P Q) F S t n k g (fun a len A hv=>vO r.2.2.1 g a len A hv)).mono fun e W' ⟨U,j⟩=>?_
 subst U;exact ⟨_,rfl,_,_,_,[],_,[],s,trodAll_mk1 (shut_bool Tryz.underlying4 _),trodAll_mk3 (Below.trod p2 (by kernel_rfl) (abP (by kernel_rfl)) hd j fun x hx=>m x (.inl hx)) (Below.trod p2 (by kernel_rfl) (abP (by kernel_rfl)) E j fun x hx=>m x (.inr (.inl hx))) (Below.trod p2 (by kernel_rfl) (abP (by kernel_rfl)) g j fun x hx=>m x (.inr (.inr hx))),rfl,j.frame _,fun h=>by cases h⟩
def ux:Tryz.f6.isWrapper Tryz.prog Rows.arenaHoldsRow.wrapper Rows.arenaHoldsRow.mainSum:=by unfold Func.isWrapper;rw [Tg (of_decide_eq_false (by kernel_rfl))];exact ⟨rfl,rfl⟩
def uC:Tryz.f6.isInstance Tryz.prog Rows.arenaHoldsRow.origin Rows.arenaHoldsRow.targs:=abP (by kernel_rfl)
def uq:Rows.ArenaHoldsSaid:=
 OpenClaim.holds_of_wide 6 Tryz.f6 rfl rfl rfl rfl rfl rfl rfl ⟨rfl,rfl,rfl,rfl,rfl⟩ rfl rfl rfl rfl rfl pF Tryz.func6 sT
  uC ux
  (fun c a H b _=>qE c a H b)
def sV(f:FuncId)(a:Func)(c:Tryz.prog.funcNamed Rows.arenaHoldsRow.func=some f)(b:Tryz.prog.funcs[f]?=some a):true=Tryz.prog.looks [] /\ ∀(j:Nat) t,a.params[j]?=some t->Tryz.prog.wantsStandIn t=false:=by
 obtain rfl:f=6:=(XP ((pF).symm.trans c)).symm;obtain rfl:a=Tryz.f6:=(XP (Tryz.func6.symm.trans b)).symm;refine ⟨BN,fun j t ht=>?_⟩;rw [Tryz.params6]at ht
 match j,ht with
 | 0,ht=>simp at ht;subst ht;exact (by kernel_rfl:Tryz.prog.wantsStandIn 30=false)
 | 1,ht=>simp at ht;subst ht;exact (by kernel_rfl:Tryz.prog.wantsStandIn 28=false)
 | 2,ht=>simp at ht;subst ht;exact (by kernel_rfl:Tryz.prog.wantsStandIn 52=false)
 |j+3,ht=>simp at ht
theorem arenaHolds_card_holds:Rows.ArenaHoldsCardSaid:=
 Claim7.holds_tied_plain_at .later [] [.data] true (true, "817c758723e18fd19d055998a437fb7a2393ac040341109b507c7ace94e1ce7e") true
  uq (fun _ h=>by cases h) yC (fun _ h=>by cases h) arenaHolds_row_tie rfl ⟨rfl,rfl⟩ F5 rfl
  sV yn
#print axioms arenaHolds_card_holds
end Go.Proofs.YtlgmpheammbacaaGreatDoor
