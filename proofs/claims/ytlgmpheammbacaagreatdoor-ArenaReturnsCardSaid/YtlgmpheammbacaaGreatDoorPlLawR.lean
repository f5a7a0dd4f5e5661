/- The law croft/croftlaw15.ArenaReturns returns true whatever the configuration, the chunk's size and the calls: a game is walked over a deterministic machine that is proved sound for the model's programs; what is taken behind a mark, Release and Reset give back. Conditions: the program's text is the dump that the given Prog text loads; the variable croft/slab.widths reads as the program's text lays it (tied card). -/
import Derived.Test.YtlgmpheammbacaaGreatDoorPyR1
import Derived.Carry
import Derived.Test.YtlgmpheammbacaaGreatDoorRwFB
import Derived.SevenTiedAt
import Derived.Test.YtlgmpheammbacaaGreatDoorCards
import Derived.Test.YtlgmpheammbacaaGreatDoorTie
set_option linter.all false

set_option maxRecDepth 1000000
set_option maxHeartbeats 4000000
namespace Go.Proofs.YtlgmpheammbacaaGreatDoor
open Go.ChangeShapes Go.WideShapes Go.ChangeAt Go.WideMaps Go.WideElems Go.RowKit
open AM
def xN:Tryz.f9.params.toList++Rows.arenaReturnsSpec.plain.varTypes Tryz.prog=[30,28,52,52]:=by kernel_rfl
def py(os:Os)(j:os.Started)(H:Type)(enc:TypeId×Value->H):
  ReturnsInHanded {} Tryz.checked os 9 .any (fun w args=>(Rows.arenaReturnsSpec.pre enc Tryz.prog Tryz.f9 [] false w args /\ laidMetH Tryz.prog iW w) /\ sizedMet enc Tryz.prog Tryz.f9 (OpenSpec.ofChange Rows.arenaReturnsSpec) false w args)
   (Rows.arenaReturnsSpec.post enc Tryz.prog Tryz.f9 false true false false):=by
 refine returnsInHanded_of_change_and (C:=Tryz.checked) (X:=fun w _=>laidMetH Tryz.prog iW w) (fun _ _ _ hh h=>h.of_heap hh) TJ j (by kernel_rfl) Tryz.func9
  (ChangeSpec.witness_shaped (enc:=enc) (C:=Tryz.checked) (os:=os) (X:=fun w _=>laidMetH Tryz.prog iW w) false (World.doorLaid Tryz.prog 19 os) #[.agg #[.int .u64 0,.int .i64 0,.int .i64 0],.int .u64 0,.slice none 0 0,.slice none 0 0] 9 rfl (World.shaped_of_RefB (by kernel_rfl) (by kernel_rfl)) (by kernel_rfl) (by kernel_rfl) (by kernel_rfl) (qL os _)) ?_
 intro W Tj args ds gs D f N _ hz hL _;have J:gh Tryz.prog Tryz.prog.globals.size G0:=BL;have y:=N;obtain ⟨p,q,F,hV,rfl,ac,ad⟩:=N;have L:DataW.TrodAll enc Tryz.prog W 0 (fun _=>true) true Tryz.f9.params.toList args.toList ds p:=F;rw [Tryz.params9]at L;obtain ⟨v,P,B,Q,d,d',E,d3,p1,K,A,p3,rfl,rfl,rfl,hd,G,i,s⟩:=trodAll_four L;have z:Value.okWide Tryz.prog W .any Tj 30 v:=f 0 30 v (by rw [Tryz.params9];rfl) rfl;have t:Value.okWide Tryz.prog W .any Tj 28 P:=f 1 28 P (by rw [Tryz.params9];rfl) rfl;have m:Value.okWide Tryz.prog W .any Tj 52 B:=f 2 52 B (by rw [Tryz.params9];rfl) rfl;have u:Value.okWide Tryz.prog W .any Tj 52 Q:=f 3 52 Q (by rw [Tryz.params9];rfl) rfl;obtain ⟨rfl,rfl⟩:=trodVars_none hV;have n:(DataW.weightsEach Tryz.prog (Tryz.f9.params.toList++Rows.arenaReturnsSpec.plain.varTypes Tryz.prog) ([d,d',E,d3]++[])).all (· <=reachBytes)=true:=hz;rw [xN,Wr]at n;simp only [DataW.weightsEach,List.all_append,Vs]at n;have k:∀x,x∈p1 \/x∈K \/x∈A \/x∈p3->x.block<W.heap.size:=fun x hx=>y.lt x (by simpa [or_assoc]using hx)
 refine (PS g9 (fun l b l' o c M oo e M2 af e2 q q2 ag O R S T U V Y Z=>wu (xWd l) R S T U V Y Z) J hL z t m u i (fun a len r I=>vO n.2.2.1 i a len r I) s (fun a len r I=>vO n.2.2.2.1 s a len r I)).mono fun e W' ⟨he,g⟩=>?_
 subst he;exact ⟨_,rfl,_,_,_,[],_,[],y,trodAll_mk1 (shut_bool Tryz.underlying4 _),trodAll_mk4 (Below.trod p2 (by kernel_rfl) (abP (by kernel_rfl)) hd g fun x hx=>k x (.inl hx)) (Below.trod p2 (by kernel_rfl) (abP (by kernel_rfl)) G g fun x hx=>k x (.inr (.inl hx))) (Below.trod p2 (by kernel_rfl) (abP (by kernel_rfl)) i g fun x hx=>k x (.inr (.inr (.inl hx)))) (Below.trod p2 (by kernel_rfl) (abP (by kernel_rfl)) s g fun x hx=>k x (.inr (.inr (.inr hx)))),rfl,g.frame _,fun h=>by cases h⟩
def qA:Tryz.f9.isWrapper Tryz.prog Rows.arenaReturnsRow.wrapper Rows.arenaReturnsRow.mainSum:=by unfold Func.isWrapper;rw [Tg (of_decide_eq_false (by kernel_rfl))];exact ⟨rfl,rfl⟩
def rL:Tryz.f9.isInstance Tryz.prog Rows.arenaReturnsRow.origin Rows.arenaReturnsRow.targs:=abP (by kernel_rfl)
def rW:Rows.ArenaReturnsSaid:=
 OpenClaim.holds_of_wide 9 Tryz.f9 rfl rfl rfl rfl rfl rfl rfl ⟨rfl,rfl,rfl,rfl,rfl⟩ rfl rfl rfl rfl rfl nB Tryz.func9 pO
  rL qA
  (fun c a H b _=>py c a H b)
def qf(f:FuncId)(a:Func)(c:Tryz.prog.funcNamed Rows.arenaReturnsRow.func=some f)(b:Tryz.prog.funcs[f]?=some a):true=Tryz.prog.looks [] /\ ∀(j:Nat) t,a.params[j]?=some t->Tryz.prog.wantsStandIn t=false:=by
 obtain rfl:f=9:=(XP ((nB).symm.trans c)).symm;obtain rfl:a=Tryz.f9:=(XP (Tryz.func9.symm.trans b)).symm;refine ⟨BN,fun j t ht=>?_⟩;rw [Tryz.params9]at ht
 match j,ht with
 | 0,ht=>simp at ht;subst ht;exact (by kernel_rfl:Tryz.prog.wantsStandIn 30=false)
 | 1,ht=>simp at ht;subst ht;exact (by kernel_rfl:Tryz.prog.wantsStandIn 28=false)
 | 2,ht=>simp at ht;subst ht;exact (by kernel_rfl:Tryz.prog.wantsStandIn 52=false)
 | 3,ht=>simp at ht;subst ht;exact (by kernel_rfl:Tryz.prog.wantsStandIn 52=false)
 |j+4,ht=>simp at ht
theorem arenaReturns_card_holds:Rows.ArenaReturnsCardSaid:=
 Claim7.holds_tied_plain_at .later [] [.data] true (true, "817c758723e18fd19d055998a437fb7a2393ac040341109b507c7ace94e1ce7e") true
  rW (fun _ h=>by cases h) uj (fun _ h=>by cases h) arenaReturns_row_tie rfl ⟨rfl,rfl⟩ F5 rfl
  qf uI
#print axioms arenaReturns_card_holds
end Go.Proofs.YtlgmpheammbacaaGreatDoor
