/- The law croft/croftlaw15.ArenaTwo returns true, whatever its arguments: two games over one heap are walked over a machine that is proved sound for the model. Conditions: the program's text is the given Prog's; croft/slab.widths reads as laid (tied card). -/
import Derived.Test.YtlgmpheammbacaaGreatDoorPyT1
import Derived.Test.YtlgmpheammbacaaGreatDoorTwFB
import Derived.SevenTiedAt
import Derived.Test.YtlgmpheammbacaaGreatDoorCards
import Derived.Test.YtlgmpheammbacaaGreatDoorTie
set_option linter.all false
set_option maxRecDepth 1000000
set_option maxHeartbeats 4000000
namespace Go.Proofs.YtlgmpheammbacaaGreatDoor
open Go.ChangeShapes Go.WideShapes Go.ChangeAt Go.WideMaps Go.WideElems Go.RowKit
open AM
def adn:Tryz.f10.params.toList++Rows.arenaTwoSpec.plain.varTypes W9=[30,28,28,52,52]:=by kernel_rfl
def aa3(os:Os)(k:os.Started)(H:Type)(enc:TypeId×Value->H):
  ReturnsInHanded {} Tryz.checked os 10 .any (fun w args=>(Rows.arenaTwoSpec.pre enc W9 Tryz.f10 [] false w args /\ laidMetH W9 iW w) /\ sizedMet enc W9 Tryz.f10 (OpenSpec.ofChange Rows.arenaTwoSpec) false w args)
   (Rows.arenaTwoSpec.post enc W9 Tryz.f10 false true false false):=by
 refine returnsInHanded_of_change_and (C:=Tryz.checked) (X:=fun w _=>laidMetH W9 iW w) (fun _ _ _ hh h=>h.of_heap hh) TJ k (by kernel_rfl) Tryz.func10
  (ChangeSpec.witness_shaped (enc:=enc) (C:=Tryz.checked) (os:=os) (X:=fun w _=>laidMetH W9 iW w) false (World.doorLaid W9 19 os) #[.agg #[.int .u64 0,.int .i64 0,.int .i64 0],.int .u64 0,.int .u64 0,.slice none 0 0,.slice none 0 0] 10 rfl (World.shaped_of_RefB (by kernel_rfl) (by kernel_rfl)) (by kernel_rfl) (by kernel_rfl) (by kernel_rfl) (qL os _)) ?_
 intro W Tj args ds gs E f P _ hz hL _;have L:gh W9 W9.globals.size G0:=BL;have z:=P;obtain ⟨p,q,G,hV,rfl,ac,ad⟩:=P;have O:DataW.TrodAll enc W9 W 0 (fun _=>true) true Tryz.f10.params.toList args.toList ds p:=G;rw [Tryz.params10]at O;obtain ⟨v,R,S,D,T,d,d',d0,F,d3,p1,N,p0,B,p3,rfl,rfl,rfl,hd,I,J,i,s⟩:=acV O;have A:Value.okWide W9 W .any Tj 30 v:=f 0 30 v (by rw [Tryz.params10];rfl) rfl;have t:Value.okWide W9 W .any Tj 28 R:=f 1 28 R (by rw [Tryz.params10];rfl) rfl;have y:Value.okWide W9 W .any Tj 28 S:=f 2 28 S (by rw [Tryz.params10];rfl) rfl;have m:Value.okWide W9 W .any Tj 52 D:=f 3 52 D (by rw [Tryz.params10];rfl) rfl;have u:Value.okWide W9 W .any Tj 52 T:=f 4 52 T (by rw [Tryz.params10];rfl) rfl;obtain ⟨rfl,rfl⟩:=trodVars_none hV;have n:(DataW.weightsEach W9 (Tryz.f10.params.toList++Rows.arenaTwoSpec.plain.varTypes W9) ([d,d',d0,F,d3]++[])).all (· <=reachBytes)=true:=hz;rw [adn,Wr]at n;simp only [DataW.weightsEach,List.all_append,Vs]at n;have j:∀x,x∈p1 \/x∈N \/x∈p0 \/x∈B \/x∈p3->x.block<W.heap.size:=fun x hx=>z.lt x (by simpa [or_assoc]using hx)
 refine (ads g10 (fun l b l' o c c2 M oo e M2 af e2 q q2 ag Q U V Y Z a5 a6 a7 a8=>adh (fun h W=>h.ls W) (xWd l) U V Y Z a5 a6 a7 a8) L hL A t y m u i (fun a len r K=>vO n.2.2.2.1 i a len r K) s (fun a len r K=>vO n.2.2.2.2.1 s a len r K)).mono fun e W' ⟨he,g⟩=>?_
 subst he;exact ⟨_,rfl,_,_,_,[],_,[],z,trodAll_mk1 (shut_bool Tryz.underlying4 _),adf (Below.trod p2 (by kernel_rfl) (abP (by kernel_rfl)) hd g fun x hx=>j x (.inl hx)) (Below.trod p2 (by kernel_rfl) (abP (by kernel_rfl)) I g fun x hx=>j x (.inr (.inl hx))) (Below.trod p2 (by kernel_rfl) (abP (by kernel_rfl)) J g fun x hx=>j x (.inr (.inr (.inl hx)))) (Below.trod p2 (by kernel_rfl) (abP (by kernel_rfl)) i g fun x hx=>j x (.inr (.inr (.inr (.inl hx))))) (Below.trod p2 (by kernel_rfl) (abP (by kernel_rfl)) s g fun x hx=>j x (.inr (.inr (.inr (.inr hx))))),rfl,g.frame _,fun h=>by cases h⟩
def abJ:Tryz.f10.isWrapper W9 W6.wrapper W6.mainSum:=by unfold Func.isWrapper;rw [Tg (of_decide_eq_false (by kernel_rfl))];exact ⟨rfl,rfl⟩
def abG:Tryz.f10.isInstance W9 W6.origin W6.targs:=abP (by kernel_rfl)
def abO:Rows.ArenaTwoSaid:=
 OpenClaim.holds_of_wide 10 Tryz.f10 rfl rfl rfl rfl rfl rfl rfl ⟨rfl,rfl,rfl,rfl,rfl⟩ rfl rfl rfl rfl rfl aa1 Tryz.func10 aa4
  abG abJ
  (fun c a H b _=>aa3 c a H b)
def aa5(f:FuncId)(a:Func)(c:W9.funcNamed W6.func=some f)(b:W9.funcs[f]?=some a):true=W9.looks [] /\ ∀(j:Nat) t,a.params[j]?=some t->W9.wantsStandIn t=false:=by
 obtain rfl:f=10:=(XP ((aa1).symm.trans c)).symm;obtain rfl:a=Tryz.f10:=(XP (Tryz.func10.symm.trans b)).symm;refine ⟨BN,fun j t ht=>?_⟩;rw [Tryz.params10]at ht
 match j,ht with
 | 0,ht=>simp at ht;subst ht;exact (by kernel_rfl:W9.wantsStandIn 30=false)
 | 1,ht=>simp at ht;subst ht;exact (by kernel_rfl:W9.wantsStandIn 28=false)
 | 2,ht=>simp at ht;subst ht;exact (by kernel_rfl:W9.wantsStandIn 28=false)
 | 3,ht=>simp at ht;subst ht;exact (by kernel_rfl:W9.wantsStandIn 52=false)
 | 4,ht=>simp at ht;subst ht;exact (by kernel_rfl:W9.wantsStandIn 52=false)
 |j+5,ht=>simp at ht
theorem arenaTwo_card_holds:Rows.ArenaTwoCardSaid:=
 Claim7.holds_tied_plain_at .later [] [.data] true (true, "817c758723e18fd19d055998a437fb7a2393ac040341109b507c7ace94e1ce7e") true
  abO (fun _ h=>by cases h) adb (fun _ h=>by cases h) arenaTwo_row_tie rfl ⟨rfl,rfl⟩ F5 rfl
  aa5 ac9
#print axioms arenaTwo_card_holds
end Go.Proofs.YtlgmpheammbacaaGreatDoor
