/- The law croft/croftlaw15.ArenaAsks returns true whatever the configuration, the chunk's size and the calls: a game is walked over a deterministic machine that is proved sound for the model's programs; every alloc asks the heap just as the document says. Conditions: the program's text is the dump that the given Prog text loads; the variable croft/slab.widths reads as the program's text lays it (tied card). -/
import Derived.Test.YtlgmpheammbacaaGreatDoorPyA1
import Derived.Carry
import Derived.Test.YtlgmpheammbacaaGreatDoorAkFB
import Derived.SevenTiedAt
import Derived.Test.YtlgmpheammbacaaGreatDoorCards
import Derived.Test.YtlgmpheammbacaaGreatDoorTie
set_option linter.all false

set_option maxRecDepth 1000000
set_option maxHeartbeats 4000000
namespace Go.Proofs.YtlgmpheammbacaaGreatDoor
open Go.ChangeShapes Go.WideShapes Go.ChangeAt Go.WideMaps Go.WideElems Go.RowKit
open AM
def Fm:Tryz.f7.params.toList++Rows.arenaAsksSpec.plain.varTypes Tryz.prog=[30,28,52]:=by kernel_rfl
def sI(os:Os)(i:os.Started)(H:Type)(enc:TypeId×Value->H):
  ReturnsInHanded {} Tryz.checked os 7 .any (fun w args=>(Rows.arenaAsksSpec.pre enc Tryz.prog Tryz.f7 [] false w args /\ laidMetH Tryz.prog iW w) /\ sizedMet enc Tryz.prog Tryz.f7 (OpenSpec.ofChange Rows.arenaAsksSpec) false w args)
   (Rows.arenaAsksSpec.post enc Tryz.prog Tryz.f7 false true false false):=by
 refine returnsInHanded_of_change_and (C:=Tryz.checked) (X:=fun w _=>laidMetH Tryz.prog iW w) (fun _ _ _ Y h=>h.of_heap Y) TJ i (by kernel_rfl) Tryz.func7
  (ChangeSpec.witness_shaped (enc:=enc) (C:=Tryz.checked) (os:=os) (X:=fun w _=>laidMetH Tryz.prog iW w) false (World.doorLaid Tryz.prog 19 os) #[.agg #[.int .u64 0,.int .i64 0,.int .i64 0],.int .u64 0,.slice none 0 0] 7 rfl (World.shaped_of_RefB (by kernel_rfl) (by kernel_rfl)) (by kernel_rfl) (by kernel_rfl) (by kernel_rfl) (qL os _)) ?_
 intro W Tj args ds gs z f J _ hz S _;have F:gh Tryz.prog Tryz.prog.globals.size G0:=BL;have s:=J;obtain ⟨p,q,D,T,rfl,V,Z⟩:=J;have I:DataW.TrodAll enc Tryz.prog W 0 (fun _=>true) true Tryz.f7.params.toList args.toList ds p:=D;rw [Tryz.params7]at I;obtain ⟨v,K,y,d,R,B,p1,G,u,rfl,rfl,rfl,hd,E,g⟩:=trodAll_three I;have t:Value.okWide Tryz.prog W .any Tj 30 v:=f 0 30 v (by rw [Tryz.params7];rfl) rfl;have n:Value.okWide Tryz.prog W .any Tj 28 K:=f 1 28 K (by rw [Tryz.params7];rfl) rfl;have k:Value.okWide Tryz.prog W .any Tj 52 y:=f 2 52 y (by rw [Tryz.params7];rfl) rfl;obtain ⟨rfl,rfl⟩:=trodVars_none T;have r:(DataW.weightsEach Tryz.prog (Tryz.f7.params.toList++Rows.arenaAsksSpec.plain.varTypes Tryz.prog) ([d,R,B]++[])).all (· <=reachBytes)=true:=hz;rw [Fm,Wr]at r;simp only [DataW.weightsEach,List.all_append,Vs]at r;have m:∀x,x∈p1 \/x∈G \/x∈u->x.block<W.heap.size:=fun x hx=>s.lt x (by simpa [or_assoc]using hx)
 refine (vB g7 (fun l b l' o c M oo e q ac L N O P Q=>CO (xWd l) L N O P Q) F S t n k g (fun a len A hv=>vO r.2.2.1 g a len A hv)).mono fun e W' ⟨U,j⟩=>?_
 subst U;exact ⟨_,rfl,_,_,_,[],_,[],s,trodAll_mk1 (shut_bool Tryz.underlying4 _),trodAll_mk3 (Below.trod p2 (by kernel_rfl) (abP (by kernel_rfl)) hd j fun x hx=>m x (.inl hx)) (Below.trod p2 (by kernel_rfl) (abP (by kernel_rfl)) E j fun x hx=>m x (.inr (.inl hx))) (Below.trod p2 (by kernel_rfl) (abP (by kernel_rfl)) g j fun x hx=>m x (.inr (.inr hx))),rfl,j.frame _,fun h=>by cases h⟩
def wC:Tryz.f7.isWrapper Tryz.prog Rows.arenaAsksRow.wrapper Rows.arenaAsksRow.mainSum:=by unfold Func.isWrapper;rw [Tg (of_decide_eq_false (by kernel_rfl))];exact ⟨rfl,rfl⟩
def xr:Tryz.f7.isInstance Tryz.prog Rows.arenaAsksRow.origin Rows.arenaAsksRow.targs:=abP (by kernel_rfl)
def vL:Rows.ArenaAsksSaid:=
 OpenClaim.holds_of_wide 7 Tryz.f7 rfl rfl rfl rfl rfl rfl rfl ⟨rfl,rfl,rfl,rfl,rfl⟩ rfl rfl rfl rfl rfl rU Tryz.func7 uH
  xr wC
  (fun c a H b _=>sI c a H b)
def uo(f:FuncId)(a:Func)(c:Tryz.prog.funcNamed Rows.arenaAsksRow.func=some f)(b:Tryz.prog.funcs[f]?=some a):true=Tryz.prog.looks [] /\ ∀(j:Nat) t,a.params[j]?=some t->Tryz.prog.wantsStandIn t=false:=by
 obtain rfl:f=7:=(XP ((rU).symm.trans c)).symm;obtain rfl:a=Tryz.f7:=(XP (Tryz.func7.symm.trans b)).symm;refine ⟨BN,fun j t ht=>?_⟩;rw [Tryz.params7]at ht
 match j,ht with
 | 0,ht=>simp at ht;subst ht;exact (by kernel_rfl:Tryz.prog.wantsStandIn 30=false)
 | 1,ht=>simp at ht;subst ht;exact (by kernel_rfl:Tryz.prog.wantsStandIn 28=false)
 | 2,ht=>simp at ht;subst ht;exact (by kernel_rfl:Tryz.prog.wantsStandIn 52=false)
 |j+3,ht=>simp at ht
theorem arenaAsks_card_holds:Rows.ArenaAsksCardSaid:=
 Claim7.holds_tied_plain_at .later [] [.data] true (true, "817c758723e18fd19d055998a437fb7a2393ac040341109b507c7ace94e1ce7e") true
  vL (fun _ h=>by cases h) z7 (fun _ h=>by cases h) arenaAsks_row_tie rfl ⟨rfl,rfl⟩ F5 rfl
  uo zN
#print axioms arenaAsks_card_holds
end Go.Proofs.YtlgmpheammbacaaGreatDoor
