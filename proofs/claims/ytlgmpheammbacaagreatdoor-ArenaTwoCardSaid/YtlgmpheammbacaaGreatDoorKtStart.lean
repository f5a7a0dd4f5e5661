import Derived.Test.YtlgmpheammbacaaGreatDoorPyl
import Derived.Test.YtlgmpheammbacaaGreatDoorRows
import Derived.WalkKit
import Derived.ProofKit
import Derived.LaidMore
import Derived.OpenShut
import Derived.Stop.Joined
import Derived.ChangeOld
set_option linter.all false
set_option maxRecDepth 1000000
namespace Go.Proofs.YtlgmpheammbacaaGreatDoor
open Go.ChangeShapes Go.WideShapes Go.ChangeAt Go.WideMaps Go.WideElems Go.RowKit
open AM
noncomputable section
def acy:Tryz.prog.follows .mixedOrders=true:=by kernel_rfl
def TJ:ownKnob Tryz.prog.godebug=none:=by kernel_rfl
def gsz:Tryz.prog.globals.size=1:=by kernel_rfl
def No: Tryz.prog.globalNamed "croft/slab.widths" = some 0 := by kernel_rfl
def MZ:(Tryz.prog.globals[0]?).map (·.type)=some 310:=by kernel_rfl
def iW: List (String × DataW Unit) := [("croft/slab.widths", Rows.laid_croft_slab_widths)]
def qL(os:Os)(args:Array Value):laidMetH Tryz.prog iW ((World.doorLaid Tryz.prog 19 os).forCall (fun _ _=>0) ⟨#[],args,[]⟩).memory:=
 laidMetH_of_parts3 (fuel:=8) (laidMet_of_run' 8 (by kernel_rfl) (by kernel_rfl)) (by kernel_rfl) (by kernel_rfl)
def Mu{W:World}(h:laidMetH Tryz.prog iW W):∃C E m,W.heap[0]?=some (.cells C E m)∧C.toList=[.int .u64 16,.int .u64 32,.int .u64 64,.int .u64 128,.int .u64 256,.int .u64 512,.int .u64 1024,.int .u64 2048]:=by
 rw[MakeChecks.laidMetH_plain _ _ _ (by kernel_rfl)]at h;obtain⟨O,⟨M,R,f,L,N,P,o,u,j,r,_,_⟩,_,_⟩:=h;obtain rfl:=XP (No.symm.trans o);obtain rfl:=XP (MZ.symm.trans u);have g:∃E m,W.heap[0]?=some (.cells f E m):=by
  simp only[World.var?,o,Option.bind_some]at j;split at j
  .rename_i c E m q;cases j;exact⟨E,m,q⟩
  cases j
 obtain⟨E,m,q⟩:=g;refine⟨f,E,m,q,?_⟩;obtain⟨xs,w,rfl,e,l,t,b⟩:=DataW.trod_array Tryz.underlying310 r;have y:Tryz.prog.cellsOf 28=1:=by kernel_rfl
 have p:Tryz.prog.cellsOf 310=8:=by kernel_rfl
 rw[p]at l;have b:∀i,i<8->DataW.trod (fun _=>()) Tryz.prog W 0 (fun _=>true) false w 28 ((f.toList.drop i).take 1)=xs[i]?:=by intro i hi;have:=b i hi;rw[y]at this;simpa using this
 simp only[Rows.laid_croft_slab_widths,TU,DataW.agg.injEq]at e
 match A:f.toList,l with
 | [a0,a1,a2,a3,a4,a5,a6,a7],_=>
  match xs,t,e with
  | [x0,x1,x2,x3,x4,x5,x6,x7],_,e=>
   rw[A]at b;simp only[Xr,List.map_nil,abf,YJ]at e;obtain⟨⟨B,D,F,G,H,I,J,K⟩,_⟩:=e;have d:∀(a:Value) (x:DataW Unit×List MemPlace) (k:Int),DataW.trod (fun _=>()) Tryz.prog W 0 (fun _=>true) false w 28 [a]=some x->.lit (.int .u64 k)=x.1->a=.int .u64 k:=by intro a x k h s;obtain⟨n,v,z,_⟩:=Z1 Tryz.underlying28 h;rw[z]at s;simp at s v;rw[v,s]
   rw[d a0 x0 16 (by simpa using b 0 Q) B,d a1 x1 32 (by simpa using b 1 Q) D,d a2 x2 64 (by simpa using b 2 Q) F,d a3 x3 128 (by simpa using b 3 Q) G,
    d a4 x4 256 (by simpa using b 4 Q) H,d a5 x5 512 (by simpa using b 5 Q) I,d a6 x6 1024 (by simpa using b 6 Q) J,d a7 x7 2048 (by simpa using b 7 Q) K]
structure XR where
 b:Nat
 n:Nat
 o:Option (Nat × List V)
def M4:AM.Obj:=.cells true 0 8 [] (ofList [.int .u64 16,.int .u64 32,.int .u64 64,.int .u64 128,.int .u64 256,.int .u64 512,.int .u64 1024,.int .u64 2048])
def KX(p:Nat×List V):AM.Obj:=.cells true 0 (p.1+p.2.length) [] (mf .nil p.1 p.2)
def qZ:List XR->Nat->T AM.Obj
 | [],_=>T.set .nil 0 M4
 |x ::r,i=>match x.o with
  |some p=>T.set (qZ r (i+1)) i (KX p)
  |none=>qZ r (i+1)
def pj:∀(l:List XR) (i a:Nat),0<i->(qZ l i).get a=if a=0 then some M4 else if i≤a then((l[a-i]?).bind (·.o)).map KX else none
 | [],i,a,hi=>by
  simp only[qZ,T.aJ,T.Xm];by_cases c:a=0
  .rw[Ti c,Ti c]
  rw[Tg c,Tg c];simp
 |x ::r,i,a,hi=>by
  have g:=pj r (i+1) a Q;cases f:x.o with
  |none=>
   simp only[qZ,f];rw[g];by_cases c:a=0
   .rw[Ti c,Ti c]
   rw[Tg c,Tg c];by_cases d:i+1≤a
   .rw[Ti d,Ti Q,(Q:a-i=(a-(i+1))+1),ZF]
   rw[Tg d];by_cases e:i≤a
   .rw[Ti e,(Q:a-i=0),aaA];simp[f]
   rw[Tg e]
  |some p=>
   simp only[qZ,f,T.aJ];by_cases c:a=i
   .subst c;rw[Ti rfl,Tg Q,Ti (Tx _),Yf,aaA];simp[f]
   rw[Tg c,g];by_cases b:a=0
   .rw[Ti b,Ti b]
   rw[Tg b,Tg b];by_cases d:i+1≤a
   .rw[Ti d,Ti Q,(Q:a-i=(a-(i+1))+1),ZF]
   rw[Tg d,Tg Q]
def Wf(l:List XR):St:=⟨1+l.length,qZ l 1,.nil⟩
def nF(W:World)(l:List XR):TF:=fun a=>if a<1 then some (a,match W.heap[a]? with|some (.cells C _ _)=>C.size|_=>0)else(l[a-1]?).map fun x=>(x.b,x.n)
structure CD (W:World) (φ:TF) (x:XR):Prop where
 lt:x.b<W.heap.size
 row:∀ p,x.o=some p -> ∃ C E fz,W.heap[x.b]?=some (.cells C E fz)∧C.size=x.n∧p.1+p.2.length≤C.size∧∀ i v,p.2[i]?=some v -> ∃ y,C[p.1+i]?=some y∧VR φ v y
def E7(l:List XR)(a:Nat)(o:AM.Obj)(h:(Wf l).Tq.get a=some o):(a=0∧o=M4)∨(1≤a∧∃x p,l[a-1]?=some x∧x.o=some p∧o=KX p):=by
 simp only[Wf]at h;rw[pj l 1 a Q]at h;by_cases c:a=0
 .rw[Ti c]at h;exact .inl ⟨c,(XP h).symm⟩
 rw[Tg c]at h;by_cases d:1≤a
 .rw[Ti d]at h;obtain⟨p,e,rfl⟩:=Y1.1 h;obtain⟨x,hx,b⟩:=Option.bind_eq_some_iff.1 e;exact .inr ⟨d,x,p,hx,b,rfl⟩
 rw[Tg d]at h;cases h
def start{W:World}(h:laidMetH Tryz.prog iW W)(l:List XR)(r:∀x∈l,CD W (nF W l) x):T2 Tryz.prog.globals.size W.heap.size ⟨W,fun _=>False⟩ (nF W l) (Wf l) W:=by
 obtain⟨C,E,u,k,q⟩:=Mu h;have H:0<W.heap.size:=(aas.1 k).1;rw[gsz];refine⟨Below.refl _ _,Tx _,?_,?_,?_,?_,?_,?_,?_,?_⟩
 .intro a b n d;simp only[nF]at d;split at d
  .simp only[TC,TU]at d;obtain⟨rfl,_⟩:=d;exact⟨by simp only[Wf];omega,Q⟩
  obtain⟨x,hx,e⟩:=Y1.1 d;simp only[TU]at e;obtain⟨rfl,rfl⟩:=e;have:=(ab0.1 hx).1;exact⟨by simp only[Wf];omega,(r x (List.mem_of_getElem? hx)).lt⟩
 .intro g hg;exact⟨by simp only[Wf];omega,_,by simp[nF,hg];rfl⟩
 .intro a o b n G d;rcases E7 l a o G with⟨rfl,rfl⟩|⟨A,x,p,hx,m,rfl⟩
  .simp only[nF]at d;rw[Ti Q,k]at d;simp only[TC,TU]at d;obtain⟨rfl,rfl⟩:=d;have K:C.size=8:=by rw[<- aat,q];rfl
   refine⟨C,E,u,k,rfl,(fun h=>by cases h),Q,?_⟩;intro i v hi;unfold Vw at hi;split at hi
   .rename_i D;rw[mK]at hi;refine⟨_,Array.getElem?_eq_getElem Q,?_⟩;have:C[i]'Q=C.toList[i]'(by rw[aat];omega):=by simp
    rw[this];simp only[q];clear this;rcases(by omega:i=0∨i=1∨i=2∨i=3∨i=4∨i=5∨i=6∨i=7)with rfl|rfl|rfl|rfl|rfl|rfl|rfl|rfl <;> (simp at hi;subst hi;rfl)
   cases hi
  simp only[nF]at d;rw[Tg Q,hx]at d;simp only[Xd,TC,TU]at d;obtain⟨rfl,rfl⟩:=d;obtain⟨s,t,j,f,y,J,z⟩:=(r x (List.mem_of_getElem? hx)).row p m;refine⟨s,t,j,f,y,(fun h=>by cases h),Q,?_⟩;intro i v hi;unfold Vw at hi;split at hi
  .rw[lN]at hi;by_cases c:p.1≤i∧i<p.1+p.2.length
   .rw[Ti c]at hi;obtain⟨w,hw⟩:∃w,p.2[i-p.1]?=some w:=⟨_,UQ Q⟩
    rw[hw]at hi;simp only[TC]at hi;subst hi;have:=z (i-p.1) w hw
    rwa [(Q:p.1+(i-p.1)=i)]at this
   rw[Tg c,T.Xm]at hi;simp at hi
  cases hi
 .intro a ha;cases B:(Wf l).Tq.get a with
  |none=>rfl
  |some o=>
   simp only[Wf]at ha;rcases E7 l a o B with⟨rfl,_⟩|⟨A,x,p,hx,_⟩
   .omega
   have:=(ab0.1 hx).1;omega
 .intro a I o M b n L _ f _ F;rcases E7 l a o f with⟨_,rfl⟩|⟨_,x,p,_,_,rfl⟩ <;> simp[AM.Obj.X6,M4,KX]at F
 .intro a o f hg;rcases E7 l a o f with⟨_,rfl⟩|⟨_,x,p,_,_,rfl⟩ <;> exact(hg rfl).elim
 .intro g _;simp[Wf,T.get]
 intro a ha;exact ha.elim
def xGW(l:List XR):GW (Wf l) where
 pos:=by simp only[Wf];omega
 VS a ha:=by
  cases b:(Wf l).Tq.get a with
  |none=>rfl
  |some o=>
   simp only[Wf]at ha;rcases E7 l a o b with⟨rfl,_⟩|⟨c,x,p,hx,_⟩
   .omega
   have:=(ab0.1 hx).1;omega
 zero:=by simp[St.row,Wf,T.get]
 lt g a ha:=by simp[St.row,Wf,T.get]at ha
 TG g a o ha:=by simp[St.row,Wf,T.get]at ha
 mem a o h1 hg:=by rcases E7 l a o h1 with⟨_,rfl⟩|⟨_,x,p,_,_,rfl⟩ <;> exact(hg rfl).elim
def SU(l:List XR):Vv (Wf l):=by
 refine⟨8,[],ofList [.int .u64 16,.int .u64 32,.int .u64 64,.int .u64 128,.int .u64 256,.int .u64 512,.int .u64 1024,.int .u64 2048],Tx _,?_,?_⟩
 .show(qZ l 1).get 0=_;rw[pj l 1 _ Q,Ti rfl];rfl
 intro c a;rcases(by omega:c=0∨c=1∨c=2∨c=3∨c=4∨c=5∨c=6∨c=7)with rfl|rfl|rfl|rfl|rfl|rfl|rfl|rfl <;> rfl
def RD(l:List XR){i:Nat}{x:XR}{o:Nat}{vs:List V}(hx:l[i]?=some x)(b:x.o=some (o,vs)):pN (Wf l) (1+i) o vs.length (Tn vs):=by
 refine⟨o+vs.length,[],mf .nil o vs,Tx _,?_,?_⟩
 .show(qZ l 1).get _=_;rw[pj l 1 _ Q,Tg Q,Ti Q,Z9,hx];simp[b,KX]
 intro j a;unfold Vw;rw[Ti Q,lN,Ti Q,Z9,UQ a];simp[Tn,U7,UQ a]
def jK{Γ:T AF}(d:gh Tryz.prog Tryz.prog.globals.size Γ){g:FuncId}{xs:List V}{l:List XR}{W:World}{args:Array Value}(h:laidMetH Tryz.prog iW W)(s:∀x∈l,CD W (nF W l) x)(ha:LR (nF W l) xs args.toList){k:jj}(hg:Γ.get g=some (.code k))(u:au Γ [] g xs (Wf l) fun v _=>v=.bool true):
  Calls Tryz.prog g args W fun e i=>e=.returned (.bool true)∧Below W.heap.size W i:=by
 obtain⟨v,σ',rfl,j,r⟩:=u;have q:=r j (Tx _);obtain⟨n,o,_⟩:=MV (P:=Tryz.prog) (G:=Tryz.prog.globals.size) Γ [] [] mR.nil d (fun m t=>nomatch t) rfl (fun call b=>wP acy rfl b) (m:=⟨g,xs,Wf l,.bool true,σ',none⟩) hg q;rcases n _ _ _ _ args (start h l s) ha with⟨_,a⟩|⟨x,w,f,a,_⟩
 .refine a.mono ?_;rintro e w ⟨f,x,rfl,_,p,c⟩;cases c;exact⟨rfl,p.below⟩
 rw[o args W]at a;simp at a
def G7{W:World}{H:Type}{enc:TypeId×Value->H}{Tj:Nat}{t e:TypeId}{v:Value}{d:DataW H}{p:List MemPlace}(ht:Tryz.prog.underlying t=some (.slice e))(o:Value.okWide Tryz.prog W .any Tj t v)(hd:DataW.Trod enc Tryz.prog W 0 (fun _=>true) true t v d p)(L:0<Tryz.prog.cellsOf e):
  v=.slice none 0 0∨∃b off len f C E s,v=.slice (some ⟨b,off,none⟩) len f∧W.heap[b]?=some (.cells C E s)∧len≤f∧f≤maxLen∧(0<f->off+f*Tryz.prog.cellsOf e≤C.size)∧
   ∀i,i<len->∃cs n y,cs.length=Tryz.prog.cellsOf e∧(∀j,j<Tryz.prog.cellsOf e->C[off+i*Tryz.prog.cellsOf e+j]?=cs[j]?)∧DataW.trod enc Tryz.prog W 0 (fun _=>true) true n e cs=some y:=by
 obtain⟨J,S⟩:=hd;have m:Cell.ok Tryz.prog W .any Tj t v:=by unfold Value.okWide at o;rw[ht]at o;unfold Cell.okWide at o;rw[ht]at o;exact o
 have hs:∃a l c,v=.slice a l c:=by have h:=m;unfold Cell.ok at h;rw[ht]at h;cases v <;> first|exact⟨_,_,_,rfl⟩|exact h.elim
 obtain⟨Y,l0,k0,hs⟩:=hs;rcases DataW.trod_slice ht S with⟨h,_⟩|⟨a,len,f,z,M,n,_,h,_,_,G,D,R,P,V,_⟩
 .left;rw[hs]at h;rw[hs]
  simpa [Value.cells]using h
 right;have X:v=.slice (some a) len f:=by
  rw[hs]at h;rw[hs]
  simpa [Value.cells]using h
 subst X;unfold Cell.ok at m;rw[ht]at m;obtain⟨_,_,_,r,row,cells,g,_⟩:=m;obtain⟨b,off,N⟩:=a;simp only at r g;subst r;obtain⟨C,E,s,K⟩:∃C E s,W.heap[b]?=some (.cells C E s):=by
  unfold World.shape? at g;split at g
  .rename_i c E s O;exact⟨c,E,s,O⟩
  cases g
 have q:∀k (U:k<f), ∃cs y,cs.length=Tryz.prog.cellsOf e∧(∀j,j<Tryz.prog.cellsOf e->C[off+k*Tryz.prog.cellsOf e+j]?=cs[j]?)∧DataW.trod enc Tryz.prog W 0 (fun _=>true) true n e cs=some y:=by
  intro k U;have I:∃y,(W.cells? 0 ((⟨b,off,none⟩:Addr).add (k*Tryz.prog.cellsOf e)) (Tryz.prog.cellsOf e)).bind (DataW.trod enc Tryz.prog W 0 (fun _=>true) true n e)=some y:=by
   rcases Vm k len with c|c
   .rw[P k c];exact⟨_,UQ Q⟩
   obtain⟨A,u⟩:=V rfl;have:=u (k-len) Q;rw[(Q:len+(k-len)=k)]at this;rw[this];exact⟨_,UQ Q⟩
  obtain⟨y,hy⟩:=I;obtain⟨cs,F,hy⟩:=Option.bind_eq_some_iff.1 hy;obtain⟨_,w,B⟩:=World.cells?_some F;refine⟨cs,y,w,fun j T=>?_,hy⟩;have:=B j T;rw[jg,jg]at this;rw[<- this];simp[World.cell?,K]
 refine⟨b,off,len,f,C,E,s,rfl,K,G,D,fun hc=>?_,fun i hi=>?_⟩
 .obtain⟨cs,y,A,u,_⟩:=q (f-1) Q;have x:=u (Tryz.prog.cellsOf e-1) Q;rw[UQ Q]at x;have Z:=(aas.1 x).1;have h5:f*Tryz.prog.cellsOf e=(f-1)*Tryz.prog.cellsOf e+Tryz.prog.cellsOf e:=by
   conv=>lhs;rw[(Q:f=(f-1)+1)]
   rw[UW,WH]
  omega
 obtain⟨cs,y,A,u,x⟩:=q i Q;exact⟨cs,n,y,A,u,x⟩
end
end Go.Proofs.YtlgmpheammbacaaGreatDoor
