import Derived.Test.YtlgmpheammbacaaGreatDoorPyk
set_option linter.all false
set_option maxRecDepth 1000000
attribute [local irreducible] AM.T.get AM.T.set
namespace Go.Proofs.YtlgmpheammbacaaGreatDoor
open AM Go
noncomputable section
section
variable {σ:St} {A:Tu -> Nat} {H H':aa} {fl pl fc:Nat -> List Nat} {hole:Nat -> Prop}
def _root_.AM.aa.hU(H:aa)(a:Nat):Option (Nat×Nat):=
 if a<H.Tj∨H.Ut≤a then none
 else if(H.Tf ((a-H.Tj)/4096)).kind=4 then
  (if(H.Tf ((a-H.Tj)/4096)).Uc ((a-H.Tj)%4096/(16*2^(H.Tf ((a-H.Tj)/4096)).TQ.toNat))=1 then
   some (H.Tk ((a-H.Tj)/4096)+(a-H.Tj)%4096/(16*2^(H.Tf ((a-H.Tj)/4096)).TQ.toNat)*(16*2^(H.Tf ((a-H.Tj)/4096)).TQ.toNat),16*2^(H.Tf ((a-H.Tj)/4096)).TQ.toNat)else none)
 else if(H.Tf ((a-H.Tj)/4096)).kind=2∨(H.Tf ((a-H.Tj)/4096)).kind=3 then
  some (H.Tk ((a-H.Tj)/4096/2^(H.Tf ((a-H.Tj)/4096)).Th.toNat*2^(H.Tf ((a-H.Tj)/4096)).Th.toNat),4096*2^(H.Tf ((a-H.Tj)/4096)).Th.toNat)
 else none
def Dq(p:aw σ A H)(h:Tv H fl pl fc (fun _=>False))(a:Nat):
  au G0 [] 132 [.acK (A .heap) 0,.u a] σ fun r s=>(∃P w:Nat,r=.tuple [.agg [.u P,.u w],.bool (H.hU a).isSome]∧∀x,H.hU a=some x->x=(P,w))∧aH σ s:=by
 unfold aa.hU;by_cases c:a<H.Tj∨H.Ut≤a
 .rw[Ti c];refine(Pu p h.ok c).mono ?_;rintro v s ⟨rfl,g⟩;exact⟨⟨0,0,rfl,fun x hx=>by cases hx⟩,g⟩
 rw[Tg c];obtain⟨x,hx⟩:=acH ((a-H.Tj)/4096);obtain⟨y,hy⟩:=acH ((a-H.Tj)%4096);have J:=od H;have b:x<H.np:=Q;have ha:a=H.Tk x+y:=by unfold aa.Tk;omega
 have l:y<4096:=Q;rw[<- hx, <- hy,ha];obtain⟨k,I,g⟩:=h.pg x b (fun e=>e);have n:=g.Th;by_cases o:(H.Tf x).kind=4
 .rw[Ti o];obtain⟨j,s⟩:=h.sl x b (fun e=>e) o;have C:(H.Tf x).TQ.toNat=j:=by have:=s.TQ;omega
  rw[C];refine(Qu p h.ok (q:=y/(16*2^j)) b o s.TQ s.c8 l rfl s.Uf).mono ?_;rintro v t ⟨rfl,m⟩;refine⟨⟨H.Tk x+y/(16*2^j)*(16*2^j),16*2^j,?_,?_⟩,m⟩
  .by_cases cb:(H.Tf x).Uc (y/(16*2^j))=1
   .rw[Ti cb,UR cb];rfl
   rw[Tg cb,UK cb];rfl
  intro z d;by_cases cb:(H.Tf x).Uc (y/(16*2^j))=1
  .rw[Ti cb]at d;exact(XP d).symm
  rw[Tg cb]at d;cases d
 rw[Tg o];have F:(H.Tf x).Th.toNat=k:=Q;rw[F];have E:k≤8:=V4 g.le h.ok.VI;by_cases i:(H.Tf x).kind=2∨(H.Tf x).kind=3
 .rw[Ti i];refine(PW p h.ok (k:=k) b i rfl n E l).mono ?_;rintro v t ⟨rfl,m⟩;exact⟨⟨_,_,rfl,fun z d=>(XP d).symm⟩,m⟩
 rw[Tg i];have B:(H.Tf x).kind=0∨(H.Tf x).kind=1:=by
  have D:=(g.all x rfl).2.2;rcases g.Xy with f|f|⟨f,G⟩
  .split at D <;> omega
  .split at D <;> omega
  subst G;rw[Ti (by simp[XM])]at D;omega
 refine(Pm p h.ok b B rfl l).mono ?_;rintro v t ⟨rfl,m⟩;exact⟨⟨0,0,rfl,fun z d=>by cases d⟩,m⟩
def _root_.AM.aa.eL(H:aa)(a:Nat):Option Nat:=match H.hU a with
 |some x=>if x.1=a then some x.2 else none
 |none=>none
def BV(hR:aw σ A H)(h:Tv H fl pl fc (fun _=>False))(a:Nat):
  au G0 [] 122 [.acK (A .heap) 0,.u a] σ fun r s=>r=(match H.eL a with|some w=>.tuple [.agg [.u a,.u w],.i 0]|none=>.tuple [.agg [.u 0,.u 0],.i 1])∧aH σ s:=by
 refine ai g122 rfl ?_;have O:=aH.new σ (.acM 2 [.u 0,.u 0] .nil);have p:=hR.new (.acM 2 [.u 0,.u 0] .nil) rfl;have y:=To.fx σ [.u 0,.u 0] 2 (.inl Y);obtain⟨lx,D⟩:=acH (σ.next);simp only[go_sem,TH,TK];rw[<- D]at y⊢;generalize σ.new (.acM 2 _ .nil)=ac at O p y⊢;obtain⟨v,l,⟨⟨P,w,hv,m⟩,R,L⟩,E⟩:=p.dF (Dq p h a);subst hv;refine ab E ?_;have g:=aQ (σ:=l) (z:=[.u 0,.u 0]) (vs:=[.u P,.u w]) (n:=2) Y rfl;have S:=aH.Ts l 2 [.u 0,.u 0] [.u P,.u w];have M:=L.Ts (n:=2) (z:=[.u 0,.u 0]) (vs:=[.u P,.u w]) Y rfl;have J:=To.Ts l 2 [.u 0,.u 0] [.u P,.u w] rfl;have K:=(y.Ui p.gw R).Ui L.gw S;have q:=J.cell (i:=0) Q;rw[show Tn [V.u P,.u w] 0=.u P from rfl]at q;have t:=J.load (off:=0) (k:=2) Q;rw[show((List.range 2).map fun j=>Tn [V.u P,V.u w] (0+j))=[V.u P,V.u w]from rfl]at t;obtain⟨G,F,W,w4,B⟩:=K.store M.gw (off:=0) (vs:=[.u P,.u w]) Y rfl;have d:=(O.trans R).trans S;have g4:aH σ G:=⟨by rw[B.next];exact d.next,B.TX.trans d.TX,fun b m=>(B.TE b Q).trans (d.TE b m)⟩
 have U:=W.load (off:=0) (k:=2) Q;rw[show((List.range 2).map fun j=>UO (fun i=>[V.u 0,V.u 0].getD (i% [V.u 0,V.u 0].length) .undef) 0 [V.u P,V.u w] (0+j))=[V.u P,V.u w]from rfl]at U;obtain⟨I,o,X,w5,C⟩:=K.store M.gw (off:=0) (vs:=[.u 0,.u 0]) Y rfl;have T:aH σ I:=⟨by rw[C.next];exact d.next,C.TX.trans d.TX,fun b m=>(C.TE b Q).trans (d.TE b m)⟩
 have f:=X.load (off:=0) (k:=2) Q;rw[show((List.range 2).map fun j=>UO (fun i=>[V.u 0,V.u 0].getD (i% [V.u 0,V.u 0].length) .undef) 0 [V.u 0,V.u 0] (0+j))=[V.u 0,V.u 0]from rfl]at f;have N:bZ [V.u 0,.u 0] []=some [V.u 0,.u 0]:=rfl;cases e:H.hU a with
 |none=>
  rw[show H.eL a=none by unfold aa.eL;rw[e]];simp only[go_sem,TH,TK,aj,g,Option.isSome,Z0,q,t,aG,N,o,f,TT];exact T
 |some x=>
  have:=m x e;subst this;by_cases c:P=a
  .subst c;rw[show H.eL P=some w by unfold aa.eL;rw[e];exact Ti rfl];simp only[go_sem,TH,TK,aj,g,Option.isSome,XZ,q,t,TV,Uq,F,U];exact g4
  rw[show H.eL a=none by unfold aa.eL;rw[e];exact Tg c];have Z:¬((P:Int)=(a:Int)):=Q;simp only[go_sem,TH,TK,aj,g,Option.isSome,XZ,q,t,TV,Z,Ug,aG,N,o,f];exact T
def Tv.aC(h:Tv H fl pl fc hole)(l:Int):Tv (H.aC l) fl pl fc hole:=
 ⟨EZ h.ok,fun x hx hn=>by obtain⟨k,a,g⟩:=h.pg x hx hn;exact⟨k,a,g.le,g.Xy,g.all⟩,h.Uy,h.VC,fun k b=>FL.VW (h.Ve k b) rfl rfl fun _ _ _ _=>rfl,h.bits,fun x hx hn b=>by
  obtain⟨c,s⟩:=h.sl x hx hn b;exact⟨c,s.eC rfl (UI.refl _) fun _ _=>rfl⟩,h.U0,h.VE,fun c d=>(h.Vy c d).congr rfl fun _ _=>⟨rfl,rfl⟩⟩
theorem Dv(H:aa)(l:Int)(a:Nat):(H.aC l).eL a=H.eL a:=rfl
def ff{H:aa}(h:H.lock=0):(H.aC 1).aC 0=H:=by rw[<- h];rfl
def yE(x:aw σ A H)(h:Tv H fl pl fc (fun _=>False))(m:H.lock=0)(a:Nat):
  au G0 [] 62 [.acK (A .heap) 0,.u a] σ fun r s=>aw s A H∧r=match H.eL a with|some w=>.tuple [.u w,.i 0]|none=>.tuple [.u 0,.i 1]:=by
 refine ai g62 rfl ?_;obtain⟨v,y,⟨q,b⟩,o⟩:=kL x m;subst b;simp only[go_sem];refine ab o ?_;obtain⟨v,c,⟨b,B,t⟩,g⟩:=q.dF (BV q (h.aC 1) a);rw[Dv]at b;cases hs:H.eL a with
 |some w=>
  rw[hs]at b;simp only at b;subst b;simp only[go_sem];refine ab g ?_;have e:=aQ (σ:=c) (z:=[.u 0,.u 0]) (vs:=[.u a,.u w]) (n:=2) Y rfl;have l:=t.Ts (n:=2) (z:=[.u 0,.u 0]) (vs:=[.u a,.u w]) Y rfl;have k:=To.Ts c 2 [.u 0,.u 0] [.u a,.u w] rfl;have j:=k.cell (i:=1) Q;rw[show Tn [V.u a,.u w] 1=.u w from rfl]at j;obtain⟨v,p,⟨f,b⟩,d⟩:=fg l rfl;subst b;simp only[go_sem,TH,TK,aj,e,j,b7];refine⟨.inr fi,?_⟩;refine ab d ?_;simp only[go_sem];rw[ff m]at f;exact f
 |none=>
  rw[hs]at b;simp only at b;subst b;simp only[go_sem];refine ab g ?_;have e:=aQ (σ:=c) (z:=[.u 0,.u 0]) (vs:=[.u 0,.u 0]) (n:=2) Y rfl;have l:=t.Ts (n:=2) (z:=[.u 0,.u 0]) (vs:=[.u 0,.u 0]) Y rfl;have k:=To.Ts c 2 [.u 0,.u 0] [.u 0,.u 0] rfl;have j:=k.cell (i:=1) Q;rw[show Tn [V.u 0,.u 0] 1=.u 0 from rfl]at j;obtain⟨v,p,⟨f,b⟩,d⟩:=fg l rfl;subst b;simp only[go_sem,TH,TK,aj,e,j,b7];refine⟨.inr fi,?_⟩;refine ab d ?_;simp only[go_sem];rw[ff m]at f;exact f
def pY:∀(n:Nat) (H:aa) (p k:Nat),(H.iV n p k).lock=H.lock
 | 0,H,p,k=>by rw[aa.iV,aa.enter,oI];exact j7 H p k
 |n+1,H,p,k=>by
  rw[aa.iV];split
  .rw[aa.enter,oI];exact j7 H p k
  rw[pY n,mQ,j7]
def zu(H:aa)(p c:Nat):(H.Vh p c).lock=H.lock:=by simp only[aa.Vh,aa.dQ];split <;> rfl
def tX(H:aa)(p c:Nat):(H.dh p c).lock=H.lock:=by simp only[aa.dh,aa.iI,aa.gq,aa.aB,aa.dQ];split <;> split <;> rfl
def BF(H:aa)(p c q:Nat):(H.gN p c q).lock=H.lock:=(tX (H.dz p q) p c)
def EX(H:aa)(p c q:Nat):(H.V1 p c q).lock=H.lock:=by
 show(H.dy p c q).lock=_;unfold aa.dy;split
 .exact zu _ _ _
 rfl
def wa(H:aa)(p c f:Nat)(nf:Int):(H.Tz p c f nf).lock=H.lock:=by
 unfold aa.Tz;split
 .exact tX _ _ _
 rfl
def Du(H:aa)(p c q:Nat):(H.lG p c q).lock=H.lock:=by
 unfold aa.lG;split
 .rw[pY,BF]
 exact EX _ _ _ _
def _root_.AM.aa.lO(H:aa)(a w:Nat):aa:=
 if w<4096 then H.lG ((a-H.Tj)/4096) (H.Tf ((a-H.Tj)/4096)).TQ.toNat ((a-H.Tj)%4096/w)else H.iV H.Th ((a-H.Tj)/4096) (H.Tf ((a-H.Tj)/4096)).Th.toNat
def _root_.AM.aa.mh(H:aa)(a:Nat):aa×Nat:=if a=0 then(H,0)else match H.eL a with
 |some w=>(H.lO a w,0)
 |none=>(H,1)
def Fg(H:aa)(a w:Nat):(H.lO a w).lock=H.lock:=by
 unfold aa.lO;split
 .exact Du _ _ _ _
 exact pY _ _ _ _
def Tv.Ej(h:Tv H fl pl fc (fun _=>False)){a w:Nat}(hs:H.eL a=some w):(a-H.Tj)/4096<H.np∧H.Tj≤a∧
    ((∃c,(H.Tf ((a-H.Tj)/4096)).kind=4∧(H.Tf ((a-H.Tj)/4096)).TQ=((c:Nat):Int)∧c<8∧w=16*2^c∧(a-H.Tj) % 4096/w<256/2^c∧(H.Tf ((a-H.Tj)/4096)).Uc ((a-H.Tj) % 4096/w)=1∧a=H.Tk ((a-H.Tj)/4096)+(a-H.Tj) % 4096/w*w)∨
     (∃k,(H.Tf ((a-H.Tj)/4096)).kind=2∧(H.Tf ((a-H.Tj)/4096)).Th=((k:Nat):Int)∧k≤H.Th∧w=4096*2^k∧a=H.Tk ((a-H.Tj)/4096)∧(a-H.Tj)/4096 % 2^k=0)):=by
  unfold aa.eL aa.hU at hs;by_cases c:a<H.Tj∨H.Ut≤a
  · rw[Ti c]at hs;cases hs
  · rw[Tg c]at hs;obtain⟨x,hx⟩: ∃x,x=(a-H.Tj)/4096:=⟨_,rfl⟩;obtain⟨y,hy⟩: ∃y,y=(a-H.Tj) % 4096:=⟨_,rfl⟩;have u:=od H;have d:x<H.np:=Q
    have ha:a=H.Tk x+y:=by unfold aa.Tk;omega
    have q:y<4096:=Q;rw[<- hx, <- hy]at hs⊢;refine⟨d,Q, ?_⟩;obtain⟨k,t,g⟩:=h.pg x d (fun e=>e);have j:=g.Th;by_cases l:(H.Tf x).kind=4
    · rw[Ti l]at hs;obtain⟨m,s⟩:=h.sl x d (fun e=>e) l
      have n:(H.Tf x).TQ.toNat=m:=by have:=s.TQ;omega
      rw[n]at hs;by_cases cb:(H.Tf x).Uc (y/(16*2^m))=1
      · rw[Ti cb]at hs;simp only at hs;split at hs
        · rename_i e;simp only[TC]at hs;subst hs;refine .inl ⟨m,l,s.TQ,s.c8,rfl, ?_,cb,e.symm⟩;have:=(w8 s.c8).1;exact ZK (by rw[this];exact q)
        · cases hs
      · rw[Tg cb]at hs;cases hs
    · rw[Tg l]at hs;have p:(H.Tf x).Th.toNat=k:=Q
      rw[p]at hs;by_cases i:(H.Tf x).kind=2∨(H.Tf x).kind=3
      · rw[Ti i]at hs;simp only at hs;split at hs
        · rename_i e;simp only[TC]at hs;subst hs;have v:x/2^k*2^k≤x:=Yr _ _;have z:x/2^k*2^k=x∧y=0:=by unfold aa.Tk at e ha;omega
          have r:x % 2^k=0:=by have:=XJ x (2^k);rw[UF]at this;omega
          have o:=(g.all x rfl).2.2;rw[Ti r]at o;have b:(H.Tf x).kind=2:=by rcases g.Xy with f|f|⟨f,_⟩ <;> omega
          exact .inr ⟨k,b,j,g.le,rfl,Q,r⟩
        · cases hs
      · rw[Tg i]at hs;cases hs
def MC(m:aw σ A H)(h:Tv H fl pl fc (fun _=>False)){a w:Nat}(hs:H.eL a=some w):
  au G0 [] 127 [.acK (A .heap) 0,.agg [.u a,.u w]] σ fun r s=>aw s A (H.lO a w):=by
 obtain⟨l,t,d|d⟩:=h.Ej hs
 .obtain⟨c,f,g,n,i,j,o,p⟩:=d;have hw:=(w8 n).2.2.1;have b:w<4096:=Q;unfold aa.lO;rw[Ti b,(Q:(H.Tf ((a-H.Tj)/4096)).TQ.toNat=c)];refine Nr m (a:=(a:Nat)) (w:=(w:Nat)) (P:=fun s=>aw s A (H.lG ((a-H.Tj)/4096) c ((a-H.Tj)%4096/w))) Q fun s R=>?_
  have:=J4 R h l f g j o;rw[<- i, <- p]at this;exact this.mono fun v q e=>e.1
 obtain⟨k,f,g,n,i,j,o⟩:=d;have b:¬w<4096:=by have:=aK k;omega
 unfold aa.lO;rw[Tg b,(Q:(H.Tf ((a-H.Tj)/4096)).Th.toNat=k),i];refine OB m (a:=(a:Nat)) (k:=k) (P:=fun s=>aw s A (H.iV H.Th ((a-H.Tj)/4096) k)) (by have:=h.ok.VI;omega) fun s R=>?_
 have:=Jd R h l f g;rw[<- j]at this;exact this.mono fun v q e=>e.1
def FK(J:aw σ A H)(h:Tv H fl pl fc (fun _=>False))(K:H.lock=0)(a:Nat):
  au G0 [] 72 [.acK (A .heap) 0,.u a] σ fun r s=>aw s A (((H.aC 1).mh a).1.aC 0)∧r=.i ((H.aC 1).mh a).2:=by
 refine ai g72 rfl ?_;obtain⟨v,L,⟨q,b⟩,y⟩:=kL J K;subst b;have D:=h.aC 1;simp only[go_sem];refine ab y ?_;by_cases c:a=0
 .have d:(a:Int)=0:=Q;unfold aa.mh;rw[Ti c];obtain⟨v,p,⟨m,b⟩,f⟩:=fg q rfl;subst b;simp only[go_sem,d,b7];refine⟨.inr fi,?_⟩;refine ab f ?_;simp only[go_sem];exact⟨m,rfl⟩
 have d:¬(a:Int)=0:=Q;obtain⟨v,l,⟨b,N,C⟩,o⟩:=q.dF (BV q D a);cases hs:(H.aC 1).eL a with
 |some w=>
  rw[hs]at b;simp only at b;subst b;have x:=Fg (H.aC 1) a w;have e:(H.aC 1).mh a=((H.aC 1).lO a w,0):=by unfold aa.mh;rw[Tg c,hs]
  rw[e];simp only[go_sem,d];refine ab o ?_;have g:=aQ (σ:=l) (z:=[.u 0,.u 0]) (vs:=[.u a,.u w]) (n:=2) Y rfl;have t:=C.Ts (n:=2) (z:=[.u 0,.u 0]) (vs:=[.u a,.u w]) Y rfl;have F:=To.Ts l 2 [.u 0,.u 0] [.u a,.u w] rfl;have E:=F.load (off:=0) (k:=2) Q;rw[show((List.range 2).map fun j=>Tn [V.u a,V.u w] (0+j))=[V.u a,V.u w]from rfl]at E;simp only[go_sem,TH,TK,aj,g,E];obtain⟨v,M,G,B⟩:=MC t D hs;refine ab B ?_;obtain⟨v,p,⟨m,b⟩,f⟩:=fg G x;subst b;simp only[go_sem,b7];refine⟨.inr fi,?_⟩;refine ab f ?_;simp only[go_sem];exact⟨m,rfl⟩
 |none=>
  rw[hs]at b;simp only at b;subst b;have e:(H.aC 1).mh a=(H.aC 1,1):=by unfold aa.mh;rw[Tg c,hs]
  rw[e];simp only[go_sem,d];refine ab o ?_;have g:=aQ (σ:=l) (z:=[.u 0,.u 0]) (vs:=[.u 0,.u 0]) (n:=2) Y rfl;have t:=C.Ts (n:=2) (z:=[.u 0,.u 0]) (vs:=[.u 0,.u 0]) Y rfl;have I:¬(1:Int)=0:=by decide
  obtain⟨v,p,⟨m,b⟩,f⟩:=fg t rfl;subst b;simp only[go_sem,TH,TK,aj,g,I,b7];refine⟨.inr fi,?_⟩;refine ab f ?_;simp only[go_sem];exact⟨m,rfl⟩
def GZ(H:aa)(p c:Nat):(H.born p c).lock=H.lock:=by
 unfold aa.born;rw[zu];show(H.fD p c).lock=H.lock;unfold aa.fD;have:∀(G:aa) (a w n i:Nat),(G.ib a w n i).lock=G.lock:=by
  intro G a w n i;induction i with
  |zero=>rfl
  |succ i b=>exact b
 rw[this];rfl
def rZ(H:aa):Prop:=∃fl pl fc,Tv H fl pl fc (fun _=>False)
def Tv.fR(h:Tv H fl pl fc (fun _=>False)){c:Nat}(a:c<8)(d:Bool):rZ (H.fR c d).1∧(H.fR c d).1.lock=H.lock:=by
 unfold aa.fR;by_cases e:0≤H.part c
 .rw[Ti e];obtain⟨p,f,r,A,b,u,B,_⟩:=h.oP a e;have v:(H.part c).toNat=p:=Q;have w:(H.Tf p).first.toNat=f:=Q;rw[v,w,h.wK a b u];obtain⟨s,i⟩:=h.Tz a b u;exact⟨⟨_,_,_,i⟩,wa _ _ _ _ _⟩
 rw[Tg e];obtain⟨A,C⟩:=h.uO a e;obtain⟨k,y,g⟩:=h.dU (VK _) d;have t:=k.Tj;cases D:(H.dU 0 d).2 with
 |none=>exact⟨⟨_,_,_,g⟩,t.2.2.2.2.1⟩
 |some p=>
  rw[D]at k;obtain⟨q,z⟩:=k.KV g;obtain⟨E,F,G,I⟩:=g.born q a z C;have J:=(w8 a).2.2.2.1;have o:p∈(fun j=>if j=c then [p]else pl j) c:=by simp
  have l:(fun x=>if x=p then List.range' 0 (256/2^c)else fc x) p=0 ::List.range' 1 (256/2^c-1):=by
   simp only[TT];obtain⟨m,b⟩:∃m,256/2^c=m+1:=⟨256/2^c-1,Q⟩
   rw[b,Ya];rfl
  have n:Ux (List.range' 1 (256/2^c-1)) (-1)=1:=by
   obtain⟨m,b⟩:∃m,256/2^c=m+2:=⟨256/2^c-2,Q⟩
   rw[b,(Q:m+2-1=m+1),Ya];rfl
  obtain⟨s,i⟩:=E.Tz a o l;rw[n]at i;exact⟨⟨_,_,_,i⟩,by rw[wa,GZ,t.2.2.2.2.1]⟩
def _root_.AM.aa.eD(H:aa)(r:Nat)(a:Bool):aa×Option Nat:=
 if r<4096 then((H.fR (UP (r/16)-1) a).1,(H.fR (UP (r/16)-1) a).2.map fun x=>H.Tk x.1+x.2*r)
 else((H.dU (UP (r/4096)-1) a).1,(H.dU (UP (r/4096)-1) a).2.map H.Tk)
def iQ{n a:Nat}(hn:n<18446744073709551616)(ha:a<18446744073709551616):∃b,4≤b∧aE n a=2^b:=by unfold aE kf;have d:16≤max (max n a) 16:=Q;rw[Tg Q];refine⟨_,?_,rfl⟩;have c:3≤(max (max n a) 16-1).log2:=(Nat.le_log2 Q).2 Q;unfold UP;rw[Tg Q];omega
def mI(ok:H.OK){b:Nat}(d:4≤b)(a:¬H.Tp<2^b):(∃c,c<8∧2^b=16*2^c∧2^b<4096∧UP (2^b/16)-1=c)∨(∃k,k≤H.Th∧2^b=4096*2^k∧¬2^b<4096∧UP (2^b/4096)-1=k):=by
 by_cases c:b<12
 .have e:2^b=16*2^(b-4):=by rw[show(16:Nat)=2^4 from rfl, <- X3];congr 1;omega
  refine .inl ⟨b-4,Q,e,?_,?_⟩
  .have:2^b≤2^11:=Vb Q Q;omega
  rw[e,Yd _ Q,nH];omega
 have e:2^b=4096*2^(b-12):=by rw[show(4096:Nat)=2^12 from rfl, <- X3];congr 1;omega
 refine .inr ⟨b-12,?_,e,?_,?_⟩
 .unfold aa.Tp at a;rw[e]at a;exact(Nat.pow_le_pow_iff_right (by omega:1<2)).1 Q
 .have:2^12≤2^b:=Vb Q Q;omega
 rw[e,Yd _ Q,nH];omega
def Tv.eD(h:Tv H fl pl fc (fun _=>False)){b:Nat}(n:4≤b)(g:¬H.Tp<2^b)(d:Bool):rZ (H.eD (2^b) d).1∧(H.eD (2^b) d).1.lock=H.lock:=by
 unfold aa.eD;rcases mI h.ok n g with⟨c,a,j,e,f⟩|⟨k,a,j,e,f⟩
 .rw[Ti e,f];exact h.fR a d
 rw[Tg e,f];obtain⟨m,i,l⟩:=h.dU a d;exact⟨⟨_,_,_,l⟩,m.Tj.2.2.2.2.1⟩
def IK(o:aw σ A H)(h:Tv H fl pl fc (fun _=>False)){b:Nat}(D:4≤b)(B:¬H.Tp<2^b)(d:Bool):
  au G0 [] 158 [.acK (A .heap) 0,.u (2^b:Nat),.bool d] σ fun r s=>∃A',aw s A' (H.eD (2^b) d).1∧A' .heap=A .heap∧
   r=.tuple [.u ((match (H.eD (2^b) d).2 with|some x=>x|none=>0:Nat):Int),.i (match (H.eD (2^b) d).2 with|some _=>0|none=>2)]:=by
 unfold aa.eD;rcases mI h.ok D B with⟨c,p,w,y,z⟩|⟨k,p,w,y,z⟩
 .rw[Ti y,z,w];obtain⟨v,s,⟨⟨A',C,R⟩,j⟩,t⟩:=JU o h p d;have f:=C .heap Y Y Y Y;cases q:(H.fR c d).2 with
  |some x=>
   rw[q]at j;obtain⟨g,rfl⟩:=j;refine(F3 o p (P:=fun s=>∃A',aw s A' (H.fR c d).1∧A' .heap=A .heap) (e:=0) ⟨_,s,⟨⟨A',R,f⟩,rfl⟩,t⟩).mono ?_;rintro v s ⟨⟨A',m,n⟩,rfl⟩;exact⟨A',m,n,rfl⟩
  |none=>
   rw[q]at j;simp only at j;subst j;refine(F3 o p (P:=fun s=>∃A',aw s A' (H.fR c d).1∧A' .heap=A .heap) (a:=0) (e:=2) ⟨_,s,⟨⟨A',R,f⟩,rfl⟩,t⟩).mono ?_;rintro v s ⟨⟨A',m,n⟩,rfl⟩;exact⟨A',m,n,rfl⟩
 rw[Tg y,z,w];obtain⟨v,s,⟨⟨A',C,R⟩,j⟩,t⟩:=FH o h p d;have f:=C .heap Y Y Y Y;have l:k≤40:=by have:=h.ok.VI;omega
 cases q:(H.dU k d).2 with
 |some x=>
  rw[q]at j;obtain⟨g,rfl⟩:=j;refine(Gy o l (P:=fun s=>∃A',aw s A' (H.dU k d).1∧A' .heap=A .heap) (e:=0) ⟨_,s,⟨⟨A',R,f⟩,rfl⟩,t⟩).mono ?_;rintro v s ⟨⟨A',m,n⟩,rfl⟩;exact⟨A',m,n,rfl⟩
 |none=>
  rw[q]at j;simp only at j;subst j;refine(Gy o l (P:=fun s=>∃A',aw s A' (H.dU k d).1∧A' .heap=A .heap) (a:=0) (e:=2) ⟨_,s,⟨⟨A',R,f⟩,rfl⟩,t⟩).mono ?_;rintro v s ⟨⟨A',m,n⟩,rfl⟩;exact⟨A',m,n,rfl⟩
def _root_.AM.aa.df(H:aa)(n a:Nat)(b:Bool):aa×Nat×Nat:=
 if cQ a=false then(H,0,1)
 else if H.Tp<aE n a then(H,0,3)
 else match (H.eD (aE n a) b).2 with
  |some x=>((H.eD (aE n a) b).1,x,0)
  |none=>((H.eD (aE n a) b).1,0,2)
def Tv.df(h:Tv H fl pl fc (fun _=>False)){n a:Nat}(hn:n<18446744073709551616)(ha:a<18446744073709551616)(d:Bool):rZ (H.df n a d).1∧(H.df n a d).1.lock=H.lock:=by
 unfold aa.df;by_cases c:cQ a=false
 .rw[Ti c];exact⟨⟨_,_,_,h⟩,rfl⟩
 rw[Tg c];by_cases f:H.Tp<aE n a
 .rw[Ti f];exact⟨⟨_,_,_,h⟩,rfl⟩
 rw[Tg f];obtain⟨b,g,e⟩:=iQ hn ha;rw[e]at f⊢;have:=h.eD g f d;split <;> exact this
def Hr(j:aw σ A H)(h:Tv H fl pl fc (fun _=>False)){n a:Nat}(hn:n<18446744073709551616)(ha:a<18446744073709551616)(d:Bool):
  au G0 [] 121 [.acK (A .heap) 0,.u n,.u a,.bool d] σ fun r s=>∃A',aw s A' (H.df n a d).1∧A' .heap=A .heap∧
   r=.tuple [.agg [.u (H.df n a d).2.1,.u ((if(H.df n a d).2.2=0 then aE n a else 0:Nat):Int)],.i (H.df n a d).2.2]:=by
 unfold aa.df;by_cases c:cQ a=false
 .rw[Ti c];refine((j.dF (yM j h.ok (d:=.bool d) hn ha (.inl c)))).mono ?_;rintro v s ⟨rfl,_,R⟩;rw[Ti c];exact⟨A,R,rfl,rfl⟩
 rw[Tg c];by_cases g:H.Tp<aE n a
 .rw[Ti g];refine((j.dF (yM j h.ok (d:=.bool d) hn ha (.inr g)))).mono ?_;rintro v s ⟨rfl,_,R⟩;rw[Tg c];exact⟨A,R,rfl,rfl⟩
 rw[Tg g];obtain⟨b,o,e⟩:=iQ hn ha;have k:=g;rw[e]at k;have f:∀s,aw s A H->au G0 [] 158 [.acK (A .heap) 0,.u (aE n a),.bool d] s fun r p=>∃A',aw p A' (H.eD (aE n a) d).1∧A' .heap=A .heap∧
   r=.tuple [.u ((match (H.eD (aE n a) d).2 with|some x=>x|none=>0:Nat):Int),.i (match (H.eD (aE n a) d).2 with|some _=>0|none=>2)]:=by
  intro s R;have:=IK R h o k d;rw[<- e]at this;exact this
 have m:cQ a=true:=by cases hx:cQ a;exact(c hx).elim;rfl
 cases l:(H.eD (aE n a) d).2 with
 |some x=>
  rw[l]at f;exact Co (e:=0) j h.ok hn ha m g f
 |none=>
  rw[l]at f;exact Co (adr:=(0:Nat)) (e:=2) j h.ok hn ha m g f
def _root_.AM.aa.held(H:aa):aa:=H.aC 1
def CS(c:aw σ A H)(h:Tv H fl pl fc (fun _=>False))(e:H.lock=0){n a:Nat}(hn:n<18446744073709551616)(ha:a<18446744073709551616)(d:Bool):
  au G0 [] 61 [.acK (A .heap) 0,.u a,.u n,.bool d] σ fun r s=>∃A',aw s A' ((H.held.df n a d).1.aC 0)∧A' .heap=A .heap∧r=.tuple [.u (H.held.df n a d).2.1,.i (H.held.df n a d).2.2]:=by
 have b:=h.aC 1;exact wi c e (b.df hn ha d).2 fun s R=>Hr R b hn ha d
def cW(H:aa)(x a s:Nat):Prop:=
 ((H.Tf x).kind=2∧∃k:Nat,(H.Tf x).Th=(k:Int)∧a=H.Tk x∧s=4096*2^k)∨
 ((H.Tf x).kind=4∧∃c q:Nat,(H.Tf x).TQ=(c:Int)∧q<256/2^c∧(H.Tf x).Uc q=1∧a=H.Tk x+q*(16*2^c)∧s=16*2^c)
def aV(H:aa)(a s:Nat):Prop:=∃x,x<H.np∧cW H x a s
def Tv.Oz(h:Tv H fl pl fc (fun _=>False)){a s:Nat}(hs:H.eL a=some s):aV H a s:=by
 obtain⟨i,n,b|b⟩:=h.Ej hs
 .obtain⟨c,d,e,l,f,g,j,m⟩:=b;subst f;exact⟨_,i,.inr ⟨d,c,_,e,g,j,m,rfl⟩⟩
 obtain⟨k,d,e,l,f,g,j⟩:=b;exact⟨_,i,.inl ⟨d,k,e,g,f⟩⟩
def Tv.gX(h:Tv H fl pl fc (fun _=>False)){a s:Nat}(n:aV H a s):H.eL a=some s:=by
 obtain⟨x,hx,n⟩:=n;have w:=od H;obtain⟨k,r,g⟩:=h.pg x hx (fun e=>e);unfold aa.eL aa.hU;rcases n with⟨o,j,y,d,l⟩|⟨d,c,q,l,t,u,f,v⟩
 .have m:j=k:=by have:=g.Th;omega
  subst m;obtain⟨_,al⟩:=g.Xi o;have i:(a-H.Tj)/4096=x:=by rw[d];unfold aa.Tk;omega
  have b:¬(a<H.Tj∨H.Ut≤a):=by rw[d];unfold aa.Tk;omega
  rw[Tg b,i,Tg Q,Ti (.inl o),(Q:(H.Tf x).Th.toNat=j),mV al];simp only;rw[Ti d.symm,l]
 have s:=h.Ua hx (fun e=>e) d l;have z:=ey s.c8 t;have hw:=w8 s.c8;have i:(a-H.Tj)/4096=x:=by rw[f];unfold aa.Tk;omega
 have p:(a-H.Tj)%4096=q*(16*2^c):=by rw[f];unfold aa.Tk;omega
 have b:¬(a<H.Tj∨H.Ut≤a):=by rw[f];unfold aa.Tk;omega
 rw[Tg b,i,p,Ti d,(Q:(H.Tf x).TQ.toNat=c),WG _ Q,Ti u];simp only;rw[Ti f.symm,v]
def cW.congr{x a s:Nat}(c:H'.Tj=H.Tj)(b:UI (H.Tf x) (H'.Tf x)):cW H' x a s↔cW H x a s:=by
 have ha:H'.Tk x=H.Tk x:=by unfold aa.Tk;rw[c]
 unfold cW;rw[b.kind,b.Th,b.TQ,ha];simp only[b.Uc]
def cW.Vf{x a s:Nat}(h:eW H x):¬cW H x a s:=by unfold eW at h;rintro(⟨b,_⟩|⟨c,_⟩) <;> omega
def vj.Ty{k p:Nat}(t:vj H H' k p){a s:Nat}:aV H' a s↔aV H a s∨(a=H.Tk p∧s=4096*2^k):=by
 have sm:=t.T6;have m:=aK k;constructor
 .rintro⟨x,hx,g⟩;rw[sm.np]at hx;by_cases c:x/2^k=p/2^k
  .have e:=t.is x c;by_cases d:x=p
   .subst d;rw[Ti rfl]at e;rcases g with⟨h,j,l,b,q⟩|⟨b,_⟩
    .rw[e]at l;have o:(k:Int)=(j:Int):=l;have:k=j:=Q;subst this;exact .inr ⟨by rw[b,sm.Tk],q⟩
    rw[e]at b;have i:(2:Int)=4:=b;omega
   rw[Tg d]at e;rcases g with⟨h,_⟩|⟨b,_⟩
   .rw[e]at h;have n:(2:Int)+1=2:=h;omega
   rw[e]at b;have i:(2:Int)+1=4:=b;omega
  by_cases f:eW H x
  .exact(cW.Vf (t.Vf x hx f c) g).elim
  obtain⟨e,_⟩:=t.held x hx f;exact .inl ⟨x,hx,(cW.congr sm.Tj (e▸UI.refl _)).1 g⟩
 rintro(⟨x,hx,g⟩|⟨rfl,rfl⟩)
 .by_cases f:eW H x
  .exact(cW.Vf f g).elim
  obtain⟨e,_⟩:=t.held x hx f;exact⟨x,by rw[sm.np];exact hx,(cW.congr sm.Tj (e▸UI.refl _)).2 g⟩
 have e:=t.is p rfl;rw[Ti rfl]at e;exact⟨p,by rw[sm.np];have:=t.le;omega,.inl ⟨by rw[e];rfl,k,by rw[e];rfl,by rw[sm.Tk],rfl⟩⟩
def uB.Ty(g:uB H H'){a s:Nat}:aV H' a s↔aV H a s:=by
 have d:=g.np;have h:=aK H.Th;constructor
 .rintro⟨x,hx,b⟩;rw[d]at hx;by_cases c:x<H.np
  .by_cases f:eW H x
   .exact(cW.Vf (g.Vf x c f) b).elim
   obtain⟨e,_⟩:=g.held x c f;exact⟨x,c,(cW.congr g.Tj (e▸UI.refl _)).1 b⟩
  exact(cW.Vf (g.new x Q hx) b).elim
 rintro⟨x,hx,b⟩;by_cases f:eW H x
 .exact(cW.Vf f b).elim
 obtain⟨e,_⟩:=g.held x hx f;exact⟨x,by rw[d];omega,(cW.congr g.Tj (e▸UI.refl _)).2 b⟩
def eR.Ty{k p:Nat}{d:Bool}(n:eR H k d H' (some p)){a s:Nat}:aV H' a s↔aV H a s∨(a=H.Tk p∧s=4096*2^k):=by
 cases n with
 |TE _ t=>exact t.Ty
 |Yu _ _ _ g t=>rw[t.Ty,g.Ty,g.Tk]
def Zl(H H':aa):Prop:=∀a s,aV H a s->∀i,i<s->H'.mem (a-H.Tj+i)=H.mem (a-H.Tj+i)
def Tv.fa(h:Tv H fl pl fc (fun _=>False)){x a s:Nat}(hx:x<H.np)(p:cW H x a s){i:Nat}(hi:i<s):
  ∃y j,a-H.Tj+i=4096*y+j∧j<4096∧y<H.np∧¬eW H y∧((H.Tf x).kind=4->y=x):=by
 obtain⟨k,l,g⟩:=h.pg x hx (fun e=>e);rcases p with⟨m,j,r,b,d⟩|⟨b,c,q,d,n,t,o,u⟩
 .have f:j=k:=by have:=g.Th;omega
  subst f;obtain⟨rfl,al⟩:=g.Xi m;have hy:(x+i/4096)/2^j=x/2^j:=(dB al).2 ⟨Q,by rw[d]at hi;have:i/4096<2^j:=ZK hi;omega⟩;refine⟨x+i/4096,i%4096,by rw[b];unfold aa.Tk;omega,Q,nR g.le hx hy,?_,fun e=>Q⟩;unfold eW;rcases g.kinds hy with e|e <;> omega
 have s:=h.Ua hx (fun e=>e) b d;have v:=ey s.c8 n;refine⟨x,q*(16*2^c)+i,by rw[o];unfold aa.Tk;omega,Q,hx,?_,fun _=>rfl⟩;unfold eW;omega
def vj.bytes(h:Tv H fl pl fc (fun _=>False)){k p:Nat}(t:vj H H' k p):Zl H H':=by rintro a s ⟨x,hx,d⟩ i hi;obtain⟨y,j,e,c,hy,b,_⟩:=h.fa hx d hi;rw[e];exact(t.held y hy b).2 j c
def uB.bytes(h:Tv H fl pl fc (fun _=>False))(g:uB H H'):Zl H H':=by rintro a s ⟨x,hx,d⟩ i hi;obtain⟨y,j,e,c,hy,b,_⟩:=h.fa hx d hi;rw[e];exact(g.held y hy b).2 j c
def eR.bytes(h:Tv H fl pl fc (fun _=>False)){k:Nat}{d:Bool}{o:Option Nat}(n:eR H k d H' o):Zl H H':=by
 cases n with
 |TE _ t=>exact t.bytes h
 |Yu _ _ b g t=>
  intro a s e i hi;have f:=g.bytes h a s e i hi;have c:=t.bytes (h.WD b).1 a s (g.Ty.2 e) i hi;rw[g.Tj]at c;exact c.trans f
 |none _ _=>exact fun _ _ _ _ _=>rfl
def Tv.Xv(h:Tv H fl pl fc (fun _=>False)){a s b t:Nat}(U:aV H a s)(o:aV H b t)(Y:a≠b):a+s≤b∨b+t≤a:=by
 obtain⟨x,hx,r⟩:=U;obtain⟨y,hy,n⟩:=o;obtain⟨k,d,g⟩:=h.pg x hx (fun e=>e);obtain⟨j,L,v⟩:=h.pg y hy (fun e=>e);have cells:∀{x a s k d},kc H (fun _=>False) x k d->x<H.np->cW H x a s->H.Tk (x/2^k*2^k)≤a∧a+s≤H.Tk (x/2^k*2^k+2^k):=by
  intro x a s k d g hx X;rcases X with⟨o,j,V,f,p⟩|⟨f,c,q,p,M,W,N,O⟩
  .have D:j=k:=by have:=g.Th;omega
   subst D;obtain⟨rfl,al⟩:=g.Xi o;rw[mV al,f,p];unfold aa.Tk;omega
  obtain⟨rfl,rfl⟩:=g.Zy f;have s:=h.Ua hx (fun e=>e) f p;have hf:=ey s.c8 M;have e:x/2^0*2^0=x:=by simp
  rw[e,N,O];have:(2:Nat)^0=1:=rfl;unfold aa.Tk;omega
 by_cases c:x/2^k=y/2^k∧k=j
 .obtain⟨c1,rfl⟩:=c;rcases r with⟨o,i,V,f,p⟩|⟨f,c,q,p,M,W,N,O⟩
  .obtain⟨rfl,al⟩:=g.Xi o;rcases n with⟨P,i',k3,G,Z⟩|⟨G,_⟩
   .obtain⟨rfl,w⟩:=v.Xi P;have:=AU w al c1;subst this;omega
   obtain⟨_,rfl⟩:=v.Zy G;have:x=y:=by simpa using c1
   subst this;omega
  obtain⟨rfl,rfl⟩:=g.Zy f;have F:x=y:=by simpa using c1
  subst F;rcases n with⟨P,_⟩|⟨G,C,I,Z,k6,k7,k8,k9⟩
  .omega
  have:C=c:=Q;subst this;have E:q≠I:=by intro e;subst e;omega
  rcases aaN E with l|l
  .left;have:=UG (16*2^C) (Q:q+1≤I);rw[UW]at this;omega
  right;have:=UG (16*2^C) (Q:I+1≤q);rw[UW]at this;omega
 have b1:=cells g hx r;have b2:=cells v hy n;have A:x/2^k*2^k%2^k=0:=Xl _ _;have B:y/2^j*2^j%2^j=0:=Xl _ _;have p1:=aK k;have p2:=aK j;have J:x/2^k*2^k/2^k=x/2^k:=WG _ p1;have K:y/2^j*2^j/2^j=y/2^j:=WG _ p2;have u:∀z, ¬(z/2^k=x/2^k∧z/2^j=y/2^j):=by rintro z ⟨z1,z2⟩;obtain⟨R,S⟩:=g.one v z1 z2;exact c ⟨S,R⟩
 have T:x/2^k*2^k+2^k≤y/2^j*2^j∨y/2^j*2^j+2^j≤x/2^k*2^k:=by
  rcases Vm (x/2^k*2^k) (y/2^j*2^j)with l|l
  .left;refine abu fun m=>?_
   refine u (y/2^j*2^j) ⟨?_,K⟩;rw[<- J];exact(dB A).2 ⟨Q,m⟩
  right;refine abu fun m=>?_
  refine u (x/2^k*2^k) ⟨J,?_⟩;rw[<- K];exact(dB B).2 ⟨l,m⟩
 unfold aa.Tk at b1 b2;omega
def V9(H:aa):Prop:=∀x,x<H.np->(H.Tf x).kind=4->1≤(H.Tf x).Ty
def vj.VS(h:Tv H fl pl fc (fun _=>False)){k p:Nat}(t:vj H H' k p){a s:Nat}(b:aV H a s):a+s≤H.Tk p∨H.Tk p+4096*2^k≤a:=by
 obtain⟨x,hx,b⟩:=b;have d:0<s:=by
  rcases b with⟨_,j,_,_,r⟩|⟨_,c,q,_,_,_,_,u⟩
  .have:=aK j;omega
  have:=aK c;omega
 have n:H.Tj≤a:=by
  rcases b with⟨_,j,_,l,_⟩|⟨_,c,q,_,_,_,m,_⟩
  .rw[l];unfold aa.Tk;omega
  rw[m];unfold aa.Tk;omega
 have al:=t.al;refine aax fun hn=>?_
 obtain⟨i,hi,g,f⟩:∃i,i<s∧H.Tk p≤a+i∧a+i<H.Tk p+4096*2^k:=by
  rcases Vm a (H.Tk p)with c|c
  .exact⟨H.Tk p-a,Q,Q,by have:=aK k;omega⟩
  exact⟨0,d,Q,Q⟩
 obtain⟨y,j,e,v,hy,o,_⟩:=h.fa hx b hi;refine o (t.was y ((dB al).2 ?_));unfold aa.Tk at g f;omega
def eR.VS(h:Tv H fl pl fc (fun _=>False)){k p:Nat}{d:Bool}(n:eR H k d H' (some p)){a s:Nat}(c:aV H a s):a+s≤H.Tk p∨H.Tk p+4096*2^k≤a:=by
 cases n with
 |TE _ t=>exact t.VS h c
 |Yu _ _ b g t=>have:=t.VS (h.WD b).1 (g.Ty.2 c);rw[g.Tk]at this;exact this
def vj.V0{k p:Nat}(t:vj H H' k p)(g:V9 H):V9 H':=by
 intro x hx a;rw[t.T6.np]at hx;by_cases c:x/2^k=p/2^k
 .have e:=t.is x c;by_cases d:x=p
  .rw[Ti d]at e;rw[e]at a;have b:(2:Int)=4:=a;omega
  rw[Tg d]at e;rw[e]at a;have b:(2:Int)+1=4:=a;omega
 by_cases f:eW H x
 .have:=t.Vf x hx f c;unfold eW at this;omega
 obtain⟨e,_⟩:=t.held x hx f;rw[e]at a⊢;exact g x hx a
def uB.V0(g:uB H H')(b:V9 H):V9 H':=by
 intro x hx a;rw[g.np]at hx;by_cases c:x<H.np
 .by_cases f:eW H x
  .have:=g.Vf x c f;unfold eW at this;omega
  obtain⟨e,_⟩:=g.held x c f;rw[e]at a⊢;exact b x c a
 have:=g.new x Q hx;unfold eW at this;omega
def eR.V0{k:Nat}{d:Bool}{o:Option Nat}(n:eR H k d H' o)(a:V9 H):V9 H':=by
 cases n with
 |TE _ t=>exact t.V0 a
 |Yu _ _ _ g t=>exact t.V0 (g.V0 a)
 |none _ _=>exact a
def BR{p c f:Nat}{b:Bool}(A:H'.Tj=H.Tj)(x:(H'.Tf p).kind=(H.Tf p).kind)(o:(H.Tf p).kind=4)(r:(H'.Tf p).TQ=(H.Tf p).TQ)(w:(H.Tf p).TQ=(c:Int))(v:c<8)(u:∀j,(H'.Tf p).bw j=((H.Tf p).TJ f b).bw j)(y:f<256/2^c)(g:(H.Tf p).Uc f=if b=true then 0 else 1){a s:Nat}:
  cW H' p a s↔if b=true then cW H p a s∨(a=H.Tk p+f*(16*2^c)∧s=16*2^c)else cW H p a s∧a≠H.Tk p+f*(16*2^c):=by
 have ha:H'.Tk p=H.Tk p:=by unfold aa.Tk;rw[A]
 have hw:=w8 v;have d:∀q,q<256/2^c->(H'.Tf p).Uc q=if q=f then 1-(H.Tf p).Uc f else(H.Tf p).Uc q:=by
  intro q B;have:(H'.Tf p).Uc q=((H.Tf p).TJ f b).Uc q:=by unfold bB.Uc;rw[u]
  rw[this,zU _ _ Q Q]
 have m:∀{k:Nat},(H.Tf p).TQ=(k:Int)->k=c:=fun e=>Q
 cases b with
 |true=>
  simp only[TT]at g⊢;constructor
  .rintro(⟨t,_⟩|⟨_,k,q,h,i,l,k8,n⟩)
   .omega
   rw[r]at h;obtain rfl:=m h;rw[ha]at k8;by_cases e:q=f
   .subst e;exact .inr ⟨k8,n⟩
   rw[d q i,Tg e]at l;exact .inl (.inr ⟨o,k,q,h,i,l,k8,n⟩)
  rintro((⟨t,_⟩|⟨_,k,q,h,i,l,k8,n⟩)|⟨rfl,rfl⟩)
  .omega
  .obtain rfl:=m h;refine .inr ⟨x.trans o,k,q,r.trans h,i,?_,by rw[ha];exact k8,n⟩;rw[d q i];by_cases e:q=f
   .subst e;omega
   rw[Tg e];exact l
  exact .inr ⟨x.trans o,c,f,r.trans w,y,by rw[d f y,Ti rfl,g],by rw[ha],rfl⟩
 |false=>
  simp only[U5,Ul]at g⊢;constructor
  .rintro(⟨t,_⟩|⟨_,k,q,h,i,l,k8,n⟩)
   .omega
   rw[r]at h;obtain rfl:=m h;rw[ha]at k8;by_cases e:q=f
   .subst e;rw[d q i,Ti rfl,g]at l;omega
   rw[d q i,Tg e]at l;refine⟨.inr ⟨o,k,q,h,i,l,k8,n⟩,fun z=>e ?_⟩;rw[k8]at z;exact Nat.eq_of_mul_eq_mul_right (by omega:0<16*2^k) Q
  rintro⟨⟨t,_⟩|⟨_,k,q,h,i,l,k8,n⟩,hne⟩
  .omega
  obtain rfl:=m h;refine .inr ⟨x.trans o,k,q,r.trans h,i,?_,by rw[ha];exact k8,n⟩;have e:q≠f:=by rintro rfl;exact hne k8
  rw[d q i,Tg e];exact l
def lg(H:aa)(p c f:Nat)(nf:Int):((H.Tz p c f nf).Tf p).TQ=(H.Tf p).TQ∧(∀j,((H.Tz p c f nf).Tf p).bw j=((H.Tf p).TJ f true).bw j)∧((H.Tz p c f nf).Tf p).Ty=(H.Tf p).Ty+1∧(H.Tz p c f nf).mem=H.mem:=by
 have a:(H.ft p f nf).Tf p={ (H.Tf p).TJ f true with first:=nf }:=by rw[gy,Ti rfl]
 unfold aa.Tz;by_cases e:nf<0
 .rw[Ti e];have k:=lA (H.ft p f nf) p c p;refine⟨k.TQ.trans (by rw[a];rfl),fun j=>(k.bw j).trans (by rw[a];rfl),k.Ty.trans (by rw[a];rfl),?_⟩;simp only[aa.dh,aa.iI,aa.gq,aa.aB,aa.dQ];split <;> split <;> rfl
 rw[Tg e,a];exact⟨rfl,fun _=>rfl,rfl,rfl⟩
def ni{p c f:Nat}{nf:Int}(t:H.sn p c f nf){a s:Nat}:aV (H.Tz p c f nf) a s↔aV H a s∨(a=H.Tk p+f*(16*2^c)∧s=16*2^c):=by
 have w:=fw H p c f nf;obtain⟨h,i,j,l⟩:=lg H p c f nf;have g:=BR (H':=H.Tz p c f nf) (b:=true) w.T6.Tj w.kind t.kind h t.TQ t.abL i t.cell (by rw[t.Vf];rfl) (a:=a) (s:=s);rw[Ti rfl]at g;constructor
 .rintro⟨x,hx,d⟩;rw[w.T6.np]at hx;by_cases e:x=p
  .subst e;rcases g.1 d with k|k
   .exact .inl ⟨x,hx,k⟩
   exact .inr k
  exact .inl ⟨x,hx,(cW.congr w.T6.Tj (w.Xw x e)).1 d⟩
 rintro(⟨x,hx,d⟩|k)
 .by_cases e:x=p
  .subst e;exact⟨x,by rw[w.T6.np];exact hx,g.2 (.inl d)⟩
  exact⟨x,by rw[w.T6.np];exact hx,(cW.congr w.T6.Tj (w.Xw x e)).2 d⟩
 exact⟨p,by rw[w.T6.np];exact t.Tf,g.2 (.inr k)⟩
def wU{p c f:Nat}{nf:Int}(t:H.sn p c f nf)(d:∀x,x<H.np->x≠p->(H.Tf x).kind=4->1≤(H.Tf x).Ty):V9 (H.Tz p c f nf):=by
 have w:=fw H p c f nf;obtain⟨g,h,b,i⟩:=lg H p c f nf;intro x hx a;rw[w.T6.np]at hx;by_cases e:x=p
 .subst e;rw[b];have:=t.Ty.1;omega
 rw[(w.Xw x e).kind]at a;rw[(w.Xw x e).Ty];exact d x hx e a
structure BJ (H H':aa) (p q c:Nat):Prop where
 Ty:∀ a s,aV H' a s↔aV H a s∨(a=H.Tk p+q*(16*2^c)∧s=16*2^c)
 bytes:Zl H H'
 V0:V9 H -> V9 H'
 new:∀ a s,aV H a s -> a+s≤H.Tk p+q*(16*2^c)∨H.Tk p+q*(16*2^c)+16*2^c≤a
 cell:q<256 / 2^c
 Tf:p<H'.np
def Tv.Jw(h:Tv H fl pl fc (fun _=>False)){c:Nat}(v:c<8)(d:Bool):match (H.fR c d).2 with
  |some x=>BJ H (H.fR c d).1 x.1 x.2 c∧((0≤H.part c∧(H.fR c d).1.cJ H)∨(¬0≤H.part c∧∃u,eR H 0 d u (some x.1)∧(H.fR c d).1.cJ u))
  |none=>(H.fR c d).1=H∧¬0≤H.part c∧eR H 0 d H none:=by
 unfold aa.fR;by_cases G:0≤H.part c
 .rw[Ti G];obtain⟨p,f,r,h0,F,hf,aC,_⟩:=h.oP v G;have R:(H.part c).toNat=p:=Q;have S:(H.Tf p).first.toNat=f:=Q;rw[R,S,h.wK v F hf];have t:=h.zK v F hf;obtain⟨k1,k2,k3,k4⟩:=lg H p c f (Ux r (-1));have w:=fw H p c f (Ux r (-1));show BJ H (H.Tz p c f (Ux r (-1))) p f c∧((0≤H.part c∧(H.Tz p c f (Ux r (-1))).cJ H)∨_);refine⟨⟨fun a s=>ni t,fun a s _ i _=>by rw[k4],fun E=>wU t fun x hx _ T=>E x hx T,fun a s O=>?_,t.cell,by rw[w.T6.np];exact t.Tf⟩,.inl ⟨G,w.T6⟩⟩;obtain⟨aJ,i⟩:=h.Tz v F hf;have n1:aV (H.Tz p c f (Ux r (-1))) (H.Tk p+f*(16*2^c)) (16*2^c):=(ni t).2 (.inr ⟨rfl,rfl⟩);have n2:aV (H.Tz p c f (Ux r (-1))) a s:=(ni t).2 (.inl O);refine i.Xv n2 n1 ?_;rintro rfl;have hs:=h.gX O;obtain⟨x,hx,b⟩:=O;have M:=ey v t.cell;have hw:=w8 v;have am:x=p:=by
   obtain⟨y,j,e,hj,hy,ad,ao⟩:=h.fa hx b (i:=0) (by
    rcases b with⟨_,j,_,_,Y⟩|⟨_,B,q,_,_,_,_,h9⟩
    .have:=aK j;omega
    have:=aK B;omega)
   have I:y=p:=by unfold aa.Tk at e;omega
   rcases b with⟨h2,j',W,o,Y⟩|⟨o,_⟩
   .obtain⟨k,ar,g⟩:=h.pg x hx (fun e=>e);obtain⟨k',ap,g'⟩:=h.pg p t.Tf (fun e=>e);obtain⟨_,rfl⟩:=g'.Zy t.kind;have:H.Tk x=H.Tk p+f*(16*2^c):=o.symm;unfold aa.Tk at this;omega
   exact(ao o).symm.trans I
  subst am;rcases b with⟨h2,_⟩|⟨_,B,q,k5,V,k7,k8,k9⟩
  .have:=t.kind;omega
  have:B=c:=by have:=t.TQ;omega
  subst this;have:q=f:=Nat.eq_of_mul_eq_mul_right (by omega:0<16*2^B) Q;subst this;have:=t.Vf;omega
 rw[Tg G];obtain⟨h0,O⟩:=h.uO v G;obtain⟨l,av,K⟩:=h.dU (VK _) d;have C:=l.Tj;cases ho:(H.dU 0 d).2 with
 |none=>
  rw[ho]at l;simp only;have:(H.dU 0 d).1=H:=by generalize (H.dU 0 d).1=X at l;cases l;rfl
  rw[this]at l⊢;exact⟨rfl,G,l⟩
 |some p=>
  rw[ho]at l;simp only;obtain⟨z,gp⟩:=l.KV K;obtain⟨u,Z⟩:=acH ((H.dU 0 d).1);rw[<- Z]at l K z gp C⊢;obtain⟨i1,U,A,i4⟩:=K.born z v gp O;have hw:=w8 v;have al:p∈(fun j=>if j=c then [p]else pl j) c:=by simp
  have ac:(fun x=>if x=p then List.range' 0 (256/2^c)else fc x) p=0 ::List.range' 1 (256/2^c-1):=by
   simp only[TT];obtain⟨m,F⟩:∃m,256/2^c=m+1:=⟨256/2^c-1,Q⟩
   rw[F,Ya];rfl
  have af:Ux (List.range' 1 (256/2^c-1)) (-1)=1:=by
   obtain⟨m,F⟩:∃m,256/2^c=m+2:=⟨256/2^c-2,Q⟩
   rw[F,(Q:m+2-1=m+1),Ya];rfl
  have t:=i1.zK v al ac;rw[af]at t;obtain⟨k1,k2,k3,k4⟩:=lg (u.born p c) p c 0 1;have w:=fw (u.born p c) p c 0 1;have ea:(u.born p c).Tk p=H.Tk p:=by rw[A.Tk];unfold aa.Tk;rw[C.1]
  have D:∀a s, ¬cW (u.born p c) p a s:=by
   have s:=i1.Ua (p:=p) (by rw[A.np];exact z) (fun e=>e) t.kind t.TQ;rintro a s' (⟨h2,_⟩|⟨_,B,q,k5,V,k7,_⟩)
   .have:=t.kind;omega
   have:B=c:=by have:=t.TQ;omega
   subst this;have L:=s.Uc q V;rw[Ti rfl]at L;rw[Ti (by rw[List.mem_range'_1];omega)]at L;omega
  have ah:∀a s,cW u p a s->a=H.Tk p∧s=4096:=by
   intro a s b;have e:=l.is.2 p rfl;rw[Ti rfl]at e;rcases b with⟨_,j,W,o,Y⟩|⟨o,_⟩
   .rw[e]at W;have ax:(0:Int)=(j:Int):=W;have:j=0:=Q;subst this;exact⟨by rw[o];unfold aa.Tk;rw[C.1],Y⟩
   rw[e]at o;have ay:(2:Int)=4:=o;omega
  have lv:∀a s,aV (u.born p c) a s↔aV H a s:=by
   intro a s;constructor
   .rintro⟨x,hx,b⟩;rw[A.np]at hx;by_cases e:x=p
    .subst e;exact(D a s b).elim
    have J:cW u x a s:=(cW.congr A.Tj (U x e)).1 b;rcases l.Ty.1 ⟨x,hx,J⟩with k|⟨rfl,rfl⟩
    .exact k
    exfalso;apply e;rcases J with⟨_,j,_,o,_⟩|⟨ag,B,q,k5,V,_,k8,_⟩
    .unfold aa.Tk at o;rw[C.1]at o;omega
    have s:=K.Ua hx (fun e=>e) ag k5;have:=ey s.c8 V;unfold aa.Tk at k8;rw[C.1]at k8;omega
   intro n;obtain⟨x,hx,J⟩:=l.Ty.2 (.inl n);by_cases e:x=p
   .subst e;obtain⟨rfl,rfl⟩:=ah a s J;have:=l.VS h n;have S:(2:Nat)^0=1:=rfl;omega
   exact⟨x,by rw[A.np];exact hx,(cW.congr A.Tj (U x e)).2 J⟩
  refine⟨⟨fun a s=>?_,fun a s n i hi=>?_,fun E=>?_,fun a s n=>?_,t.cell,by rw[w.T6.np,A.np];exact z⟩,.inr ⟨G,u,l,aa.cJ.trans w.T6 A⟩⟩
  .rw[ni t,lv,ea]
  ·
   rw[k4];have R:=l.bytes h a s n i hi;obtain⟨x,hx,b⟩:=l.Ty.2 (.inl n);obtain⟨y,j,e,hj,hy,ad,_⟩:=K.fa hx b hi;rw[C.1]at e;have I:y≠p:=by
    rintro rfl;have N:=l.VS h n;have S:(2:Nat)^0=1:=rfl;have aB:H.Tj≤a:=by
     rcases b with⟨_,j,_,o,_⟩|⟨_,B,q,_,_,_,h8,_⟩
     .rw[o];unfold aa.Tk;rw[C.1];omega
     rw[h8];unfold aa.Tk;rw[C.1];omega
    unfold aa.Tk at N;omega
   rw[e]at R⊢;exact(i4 y I j hj).trans R
  .refine wU t fun x hx P T=>?_
   rw[A.np]at hx;rw[(U x P).kind]at T;rw[(U x P).Ty];exact l.V0 E x hx T
  have:=l.VS h n;have S:(2:Nat)^0=1:=rfl;have M:=ey v t.cell;rcases this with k|k
  .left;omega
  right;omega
structure Gv (H H':aa) (a:Nat):Prop where
 Ty:∀ b s,aV H' b s↔aV H b s∧b≠a
 bytes:∀ b s,aV H' b s -> ∀ i,i<s -> H'.mem (b-H.Tj+i)=H.mem (b-H.Tj+i)
 V0:V9 H -> V9 H'
 T6:H'.cJ H
def Tv.tG(h:Tv H fl pl fc (fun _=>False)){p k:Nat}(hp:p<H.np)(g:kc H (fun _=>False) p k 2)(al:p%2^k=0):rZ (H.iV H.Th p k)∧Gv H (H.iV H.Th p k) (H.Tk p):=by
 have z:=aK k;have r:p+2^k≤H.np:=by have l:=nR (x:=p) (y:=p+2^k-1) g.le hp ((dB al).2 Q);omega
 have F:=(h.abQ g).fS (hole':=fun x=>x/2^k=p/2^k) (fun x=>by simp);obtain⟨⟨B,A⟩,d,u⟩:=Tv.iV H.Th (H:=H) Q g.le al r F;refine⟨⟨_,_,_,A⟩,?_,?_,?_,d.T6⟩
 .intro a s;constructor
  .rintro⟨x,hx,l⟩;rw[d.T6.np]at hx;by_cases c:x/2^k=p/2^k
   .exact(cW.Vf (u x c) l).elim
   by_cases f:eW H x
   .exact(cW.Vf (d.Vf x hx c f) l).elim
   obtain⟨e,_⟩:=d.held x hx c f;have n:=(cW.congr d.T6.Tj (e▸UI.refl _)).1 l;refine⟨⟨x,hx,n⟩,?_⟩;rintro rfl;rcases n with⟨_,j,_,m,_⟩|⟨m,K,q,I,J,_,k8,_⟩
   .have:x=p:=(ri m).symm;exact c (by rw[this])
   have s:=h.Ua hx (fun e=>e) m I;have:=ey s.c8 J;have G:=(w8 s.c8).2.1;have t:x=p:=by unfold aa.Tk at k8;omega
   exact c (by rw[t])
  rintro⟨⟨x,hx,l⟩,hne⟩;by_cases f:eW H x
  .exact(cW.Vf f l).elim
  by_cases c:x/2^k=p/2^k
  .exfalso;rcases l with⟨C,j,L,m,M⟩|⟨m,_⟩
   .have e:=(g.all x c).2.2;rw[C]at e;split at e
    .rename_i E;have:=AU al E c;subst this;exact hne m
    omega
   rcases g.kinds c with e|e <;> omega
  obtain⟨e,_⟩:=d.held x hx c f;exact⟨x,by rw[d.T6.np];exact hx,(cW.congr d.T6.Tj (e▸UI.refl _)).2 l⟩
 .rintro b s ⟨x,hx,l⟩ i hi;obtain⟨y,j,e,D,hy,v,_⟩:=A.fa hx l hi;rw[d.T6.np]at hy;rw[d.T6.Tj]at e;have c:¬y/2^k=p/2^k:=fun c=>v (u y c)
  have f:¬eW H y:=fun f=>v (d.Vf y hy c f)
  rw[e];exact(d.held y hy c f).2 j D
 intro o x hx w;rw[d.T6.np]at hx;by_cases c:x/2^k=p/2^k
 .have:=u x c;unfold eW at this;omega
 by_cases f:eW H x
 .have:=d.Vf x hx c f;unfold eW at this;omega
 obtain⟨e,_⟩:=d.held x hx c f;rw[e]at w⊢;exact o x hx w
def Tv.Bd(h:Tv H fl pl fc (fun _=>False)){p c q:Nat}(hp:p<H.np)(T:(H.Tf p).kind=4)(u:(H.Tf p).TQ=(c:Int))(M:q<256/2^c)(R:(H.Tf p).Uc q=1):
  rZ (H.lG p c q)∧Gv H (H.lG p c q) (H.Tk p+q*(16*2^c)):=by
 have s:=h.Ua hp (fun e=>e) T u;have hc:=s.c8;obtain⟨w1,w2,w3,w4,w5⟩:=w8 hc;have ao:=ey hc M;have am:q∉fc p:=fun W=>by rw[s.Uc q M,Ti W]at R;cases R
 unfold aa.lG;by_cases I:(H.Tf p).Ty=1
 .rw[Ti I];obtain⟨⟨ay,i1⟩,e1,O,P,B⟩:=h.gN hp (fun e=>e) T u M R I;obtain⟨H1,ad⟩:=acH (H.gN p c q);rw[<- ad]at i1 e1 O P B⊢;have X:p<H1.np:=by rw[B.np];exact hp
  obtain⟨k,ac,g⟩:=i1.pg p X (fun e=>e);have af:k=0:=by have F:=g.Th;rw[P]at F;have h3:(0:Int)=(k:Int):=F;omega
  subst af;obtain⟨rfl,al⟩:=g.Xi (by rw[P];rfl);obtain⟨f1,f2⟩:=i1.tG X g al;have ea:H1.Tk p=H.Tk p:=B.Tk p;have only:∀a L,cW H p a L->a=H.Tk p+q*(16*2^c):=by
   rintro a L (⟨F,_⟩|⟨_,z,v,k5,N,k7,k8,k9⟩)
   .omega
   have:z=c:=Q;subst this;rw[k8];have Z:v∉fc p:=fun W=>by rw[s.Uc v N,Ti W]at k7;cases k7
   by_cases e:v=q
   .rw[e]
   exfalso;have hs:(v ::q ::fc p) ⊆ List.range (256/2^z):=fun x hx=>by
    rcases U8.1 hx with rfl|hx
    .exact Ws.2 N
    rcases U8.1 hx with rfl|hx
    .exact Ws.2 M
    exact Ws.2 (s.lt x hx)
   have ah:(v ::q ::fc p).Nodup:=WO.2 ⟨by simp[e,Z],WO.2 ⟨am,s.nd⟩⟩;have U:=abX ah hs;simp only[TH,YE]at U;have:=s.Ty;omega
  have ax:∀a L,(aV H1 a L∧a≠H.Tk p)↔aV H a L∧a≠H.Tk p+q*(16*2^c):=by
   intro a L;constructor
   .rintro⟨⟨x,hx,o⟩,hne⟩;rw[B.np]at hx;by_cases e:x=p
    .subst e;exfalso;rcases o with⟨_,j,_,m,_⟩|⟨m,_⟩
     .rw[ea]at m;exact hne m
     rw[P]at m;have G:(2:Int)=4:=m;omega
    have d:=(cW.congr B.Tj (O x e)).1 o;refine⟨⟨x,hx,d⟩,?_⟩;rintro rfl;have ar:=h.fa hx d (i:=0) (by
     rcases d with⟨_,j,_,_,h5⟩|⟨_,z,v,_,_,_,_,h9⟩
     .have:=aK j;omega
     have:=aK z;omega)
    obtain⟨y,j,C,hj,hy,S,A⟩:=ar;have K:y=p:=by unfold aa.Tk at C;omega
    rcases d with⟨_,j',_,m,_⟩|⟨m,_⟩
    .unfold aa.Tk at m;omega
    exact e ((A m).symm.trans K)
   rintro⟨⟨x,hx,o⟩,hne⟩;by_cases e:x=p
   .subst e;exact(hne (only a L o)).elim
   refine⟨⟨x,by rw[B.np];exact hx,(cW.congr B.Tj (O x e)).2 o⟩,?_⟩;rintro rfl;apply e;rcases o with⟨_,j,_,m,_⟩|⟨m,z,v,k5,N,_,k8,_⟩
   .exact(ri m).symm
   have s2:=h.Ua hx (fun e=>e) m k5;have:=ey s2.c8 N;have aC:=(w8 s2.c8).2.1;unfold aa.Tk at k8;omega
  refine⟨f1,fun b t=>?_,fun b t o i hi=>?_,fun D=>f2.V0 ?_,aa.cJ.trans f2.T6 B⟩
  .rw[f2.Ty,ea,ax]
  .have:=f2.bytes b t o i hi;rw[B.Tj,e1]at this;exact this
  intro x hx r;rw[B.np]at hx;by_cases e:x=p
  .subst e;rw[P]at r;have G:(2:Int)=4:=r;omega
  rw[(O x e).kind]at r;rw[(O x e).Ty];exact D x hx r
 rw[Tg I];obtain⟨⟨ay,i1⟩,w,W⟩:=h.V1 hp (fun e=>e) T u M R;have g2:=qC H p c q;have E:=fN H p c q p;rw[Ti rfl]at E;have V:=fun a s=>BR (H':=H.V1 p c q) (b:=false) (f:=q) (a:=a) (s:=s) w.T6.Tj w.kind T (by rw[E];exact g2.2.1.TQ) u hc (fun j=>by rw[E];exact g2.2.1.bw j) M (by rw[R];rfl)
 refine⟨⟨_,_,_,i1⟩,fun b t=>?_,?_,fun D x hx r=>?_,w.T6⟩
 .have n:=V b t;rw[Tg Y]at n;constructor
  .rintro⟨x,hx,o⟩;rw[w.T6.np]at hx;by_cases e:x=p
   .subst e;obtain⟨a1,a2⟩:=n.1 o;exact⟨⟨x,hx,a1⟩,a2⟩
   have d:=(cW.congr w.T6.Tj (w.Xw x e)).1 o;refine⟨⟨x,hx,d⟩,?_⟩;rintro rfl;obtain⟨y,j,C,hj,hy,S,A⟩:=h.fa hx d (i:=0) (by
    rcases d with⟨_,j,_,_,h5⟩|⟨_,z,v,_,_,_,_,h9⟩
    .have:=aK j;omega
    have:=aK z;omega)
   have K:y=p:=by unfold aa.Tk at C;omega
   rcases d with⟨F,j',_,m,_⟩|⟨m,_⟩
   .have G:H.Tk x=H.Tk p+q*(16*2^c):=m.symm;unfold aa.Tk at G;omega
   exact e ((A m).symm.trans K)
  rintro⟨⟨x,hx,o⟩,hne⟩;by_cases e:x=p
  .subst e;exact⟨x,by rw[w.T6.np];exact hx,n.2 ⟨o,hne⟩⟩
  exact⟨x,by rw[w.T6.np];exact hx,(cW.congr w.T6.Tj (w.Xw x e)).2 o⟩
 .rintro b t ⟨x,hx,o⟩ i hi;have J:=hx;rw[w.T6.np]at J;by_cases e:x=p
  .subst e;have n:=V b t;rw[Tg Y]at n;obtain⟨a1,a2⟩:=n.1 o;rcases a1 with⟨F,_⟩|⟨_,z,v,k5,N,k7,k8,k9⟩
   .omega
   have:z=c:=Q;subst this;have ap:v≠q:=by rintro rfl;exact a2 k8
   have aB:=ey hc N;have C:b-H.Tj+i=4096*x+(v*(16*2^z)+i):=by rw[k8];unfold aa.Tk;omega
   rw[C];refine W _ Q ?_;rcases aaN ap with l|l
   .left;have:=UG (16*2^z) (Q:v+1≤q);rw[UW]at this;omega
   right;have:=UG (16*2^z) (Q:q+1≤v);rw[UW]at this;omega
  have d:=(cW.congr w.T6.Tj (w.Xw x e)).1 o;obtain⟨y,j,C,hj,hy,S,A⟩:=h.fa J d hi;rw[C];refine w.mem y ?_ j hj;rintro rfl;rcases d with⟨F,k',h3,m,h5⟩|⟨m,_⟩
  ·
   obtain⟨k,ac,g⟩:=h.pg x J (fun e=>e);have ag:k'=k:=by have:=g.Th;omega
   subst ag;obtain⟨rfl,al⟩:=g.Xi F;have av:y/2^k'=x/2^k':=(dB al).2 (by
    rw[m]at C;unfold aa.Tk at C;omega)
   rcases g.kinds av with e6|e6 <;> omega
  exact e (A m).symm
 rw[w.T6.np]at hx;by_cases e:x=p
 .subst e;rw[E];show 1≤((H.dy x c q).Tf x).Ty;rw[g2.2.1.Ty];show 1≤(H.Tf x).Ty-1;have:=D x hx T;omega
 rw[(w.Xw x e).kind]at r;rw[(w.Xw x e).Ty];exact D x hx r
def Tv.lO(h:Tv H fl pl fc (fun _=>False)){a w:Nat}(hs:H.eL a=some w):rZ (H.lO a w)∧Gv H (H.lO a w) a:=by
 obtain⟨b,r,d|d⟩:=h.Ej hs
 .obtain⟨c,f,l,m,n,i,o,q⟩:=d;have hw:=(w8 m).2.2.1;unfold aa.lO;rw[Ti Q,(Q:(H.Tf ((a-H.Tj)/4096)).TQ.toNat=c)];have:=h.Bd b f l i o;rw[<- n, <- q]at this;exact this
 obtain⟨k,f,l,m,n,i,o⟩:=d;unfold aa.lO;rw[Tg (by have:=aK k;omega),(Q:(H.Tf ((a-H.Tj)/4096)).Th.toNat=k)];obtain⟨j,p,g⟩:=h.pg _ b (fun e=>e);have:j=k:=by have:=g.Th;omega
 subst this;obtain⟨rfl,al⟩:=g.Xi f;have:=h.tG b g al;rw[<- i]at this;exact this
end
section
variable {σ σ':St}
inductive cA where
 |row (n:Nat) (f:Nat -> V)
 |ro (o n:Nat) (f:Nat -> V)
 |map (es:List (V × V))
def pN(σ:St)(id o n:Nat)(f:Nat->V):Prop:=∃m z t,o+n≤m∧σ.Tq.get id=some (.cells true 0 m z t)∧∀i,i<n->Vw m z t (o+i)=some (f i)
def pN.cell{id o n:Nat}{f:Nat->V}(h:pN σ id o n f){i:Nat}(hi:i<n):σ.cell id (o+i)=some (f i):=by obtain⟨m,z,t,c,b,a⟩:=h;simp only[St.cell,b];exact a i hi
def pN.load{id o n:Nat}{f:Nat->V}(h:pN σ id o n f){off k:Nat}(e:off+k≤n):σ.load id (o+off) k=some ((List.range k).map fun j=>f (off+j)):=by
 obtain⟨m,z,t,g,b,a⟩:=h;simp only[St.load,b];rw[rB (f:=fun j=>f (j-o)) k (o+off) fun i c d=>by
  have:=a (i-o) Q
  rwa [(Q:o+(i-o)=i)]at this]
 congr 1;apply ZH;intro j _;show f (o+off+j-o)=_;congr 1;omega
def jS(σ:St)(id:Nat):cA->Prop
 | .row n f=>Row σ id n f
 | .ro o n f=>pN σ id o n f
 | .map es=>σ.Tq.get id=some (.map es)
def jS.VM{id:Nat}{c:cA}(h:jS σ id c):∃o,σ.Tq.get id=some o∧o.Ty=true:=by
 cases c with
 |row n f=>
  obtain⟨g,m,z,t,d,a,b⟩:=h;exact⟨_,a,rfl⟩
 |ro k n f=>
  obtain⟨m,z,t,d,a,b⟩:=h;exact⟨_,a,rfl⟩
 |map e=>exact⟨_,h,rfl⟩
def jS.Vl{id:Nat}{c:cA}(h:jS σ id c)(e:σ'.Tq.get id=σ.Tq.get id):jS σ' id c:=by
 cases c with
 |row n f=>
  obtain⟨g,m,z,t,b,d,a⟩:=h;exact⟨g,m,z,t,b,e.trans d,a⟩
 |ro k n f=>
  obtain⟨m,z,t,b,d,a⟩:=h;exact⟨m,z,t,b,e.trans d,a⟩
 |map i=>exact e.trans h
structure Wd {ι:Type} (σ:St) (has:ι -> Prop) (A:ι -> Nat) (c:ι -> cA):Prop where
 gw:GW σ
 Ub:Vv σ
 V2:∀ {i},has i -> A i≠dE
 inj:∀ i j,has i -> has j -> A i=A j -> i=j
 Ur:∀ i,has i -> jS σ (A i) (c i)
 cut:∀ i j o,has i -> has j -> i≠j -> σ.Tq.get (A i)=some o -> o.TG≠0 -> A j∉σ.row o.TG
section
variable {ι κ:Type} {has:ι -> Prop} {A:ι -> Nat} {c:ι -> cA}
def Wd.lt(h:Wd σ has A c){i:ι}(hi:has i):A i<σ.next:=by obtain⟨o,a,_⟩:=(h.Ur i hi).VM;exact h.gw.UL a
def Wd.Ui(h:Wd σ has A c)(g:aH σ σ')(w:GW σ'):Wd σ' has A c where
 gw:=w
 Ub:=h.Ub.fQ (g.TE _ (h.Ub.lt h.gw))
 V2:=h.V2
 inj:=h.inj
 Ur i hi:=(h.Ur i hi).Vl (g.TE _ (h.lt hi))
 cut i j o hi hj hne ho hg:=by
  rw[g.TE _ (h.lt hi)]at ho;have:=h.cut i j o hi hj hne ho hg
  simpa only[St.row,g.TX]using this
def Wd.new(h:Wd σ has A c)(o:AM.Obj)(a:o.TG=0):Wd (σ.new o) has A c:=h.Ui (aH.new σ o) (h.gw.new o a)
def Wd.Ts(h:Wd σ has A c){n:Nat}{z vs:List V}(b:vs.length≤n)(a:vs.all V.Tr=true):Wd (σ.Ts n z vs) has A c:=h.Ui (aH.Ts σ n z vs) (h.gw.Ts b a)
def Wd.sub{a:κ->Prop}{A':κ->Nat}{j:κ->cA}(h:Wd σ has A c)(e:κ->ι)(g:∀k,a k->has (e k))(hi:∀k l,a k->a l->e k=e l->k=l)(d:∀k,a k->A' k=A (e k))(r:∀k,a k->j k=c (e k)∨∃n f n' f',c (e k)=.row n f∧j k=.row n' f'∧n'≤n∧∀i,i<n'->f i=f' i):Wd σ a A' j where
 gw:=h.gw
 Ub:=h.Ub
 V2 hk:=by rw[d _ hk];exact h.V2 (g _ hk)
 inj k l hk hl b:=hi k l hk hl (h.inj _ _ (g k hk) (g l hl) (by rw[<- d k hk, <- d l hl];exact b))
 Ur k hk:=by
  have:=h.Ur _ (g k hk);rw[d k hk];rcases r k hk with b|⟨n,f,n',f',b,m,p,q⟩
  .rw[b];exact this
  rw[b]at this;rw[m];exact Row.congr this p q
 cut k l o hk hl hne ho hg:=by rw[d k hk]at ho;rw[d l hl];exact h.cut _ _ o (g k hk) (g l hl) (fun b=>hne (hi k l hk hl b)) ho hg
def Wd.row(h:Wd σ has A c){i:ι}(hi:has i){n:Nat}{f:Nat->V}(e:c i=.row n f):Row σ (A i) n f:=by have:=h.Ur i hi;rw[e]at this;exact this
def Wd.cell(h:Wd σ has A c){i:ι}(hi:has i){n:Nat}{f:Nat->V}(e:c i=.row n f){k:Nat}(a:k<n):σ.cell (A i) k=some (f k):=(h.row hi e).cell a
def Wd.load(h:Wd σ has A c){i:ι}(hi:has i){n:Nat}{f:Nat->V}(e:c i=.row n f){off k:Nat}(a:off+k≤n):σ.load (A i) off k=some ((List.range k).map fun j=>f (off+j)):=(h.row hi e).load a
def Wd.KY(h:Wd σ has A c){i:ι}(hi:has i){n:Nat}{f:Nat->V}{o:Nat}(e:c i=.ro o n f):pN σ (A i) o n f:=by have:=h.Ur i hi;rw[e]at this;exact this
def Wd.map(h:Wd σ has A c){i:ι}(hi:has i){es:List (V×V)}(e:c i=.map es):σ.Tq.get (A i)=some (.map es):=by have:=h.Ur i hi;rw[e]at this;exact this
variable [DecidableEq ι]
def cu{a:Type}(f:ι->a)(i:ι)(x:a):ι->a:=fun j=>if j=i then x else f j
def aF{a:Type}{f:ι->a}{i:ι}{x:a}:cu f i x i=x:=Ti rfl
def aA{a:Type}{f:ι->a}{i j:ι}{x:a}(h:j≠i):cu f i x j=f j:=Tg h
def Wd.store(h:Wd σ has A c){i:ι}(hi:has i){n:Nat}{f:Nat->V}(e:c i=.row n f){off:Nat}{vs:List V}(F:off+vs.length≤n)(E:vs.all V.Tr=true):
  ∃σ',σ.store (A i) off vs=some σ'∧Wd σ' has A (cu c i (.row n (UO f off vs)))∧σ'.next=σ.next:=by
 obtain⟨σ',B,G,hn,hg,r,s⟩:=(h.row hi e).store F E;have w:Vv σ':=by obtain⟨m,z,t,I,v,H⟩:=h.Ub;exact h.Ub.fQ (r.Vl h.gw (U2 (h.V2 hi)) v rfl rfl)
 refine⟨σ',B,⟨h.gw.store B,w,h.V2,h.inj,?_,?_⟩,hn⟩
 .intro j y;by_cases d:j=i
  .subst d;rw[aF];exact G
  have k:A j≠A i:=fun e=>d (h.inj j i y hi e)
  rw[aA d];refine(h.Ur j y).Vl ?_;exact r (A j) k fun o p g=>h.cut i j o hi y (U2 d) p g
 intro a b o ha C k v g;simp only[St.row,hg];by_cases d:a=i
 .subst d;obtain⟨q,D,_⟩:=(h.Ur a hi).VM;obtain⟨J,l,x⟩:=s _ D;rw[v]at l;simp only[TC]at l;subst l;have:=h.cut a b q hi C k D Q
  rwa [<- x]at this
 have u:A a≠A i:=fun e=>d (h.inj a i ha hi e)
 rw[r (A a) u fun o p g=>h.cut i a o hi ha (U2 d) p g]at v;exact h.cut a b o ha C k v g
def Wd.add(h:Wd σ has A c){i0:ι}(hs:¬has i0){b:Nat}{x:cA}(L:jS σ b x)(n:∀o,σ.Tq.get b=some o->o.TG=0)(g:∀i,has i->A i≠b)(m:b≠dE):Wd σ (fun i=>has i∨i=i0) (cu A i0 b) (cu c i0 x):=by
 have hn:∀i,has i->i≠i0:=fun i a e=>hs (e▸a)
 refine⟨h.gw,h.Ub,?_,?_,?_,?_⟩
 .rintro i (ha|rfl)
  .rw[aA (hn i ha)];exact h.V2 ha
  rw[aF];exact m
 .rintro i j (ha|rfl) (d|rfl) e
  .rw[aA (hn i ha),aA (hn j d)]at e;exact h.inj i j ha d e
  .rw[aA (hn i ha),aF]at e;exact(g i ha e).elim
  .rw[aA (hn j d),aF]at e;exact(g j d e.symm).elim
  rfl
 .rintro i (ha|rfl)
  .rw[aA (hn i ha),aA (hn i ha)];exact h.Ur i ha
  rw[aF,aF];exact L
 rintro i j o (ha|rfl) d l f hg
 .rw[aA (hn i ha)]at f;rcases d with d|rfl
  .rw[aA (hn j d)];exact h.cut i j o ha d l f hg
  rw[aF];intro k;obtain⟨q,p,r⟩:=L.VM;have:=h.gw.TG _ _ _ k p r;rw[n q p]at this;exact hg this.symm
 rw[aF]at f;exact absurd (n o f) hg
def Wd.EY(h:Wd σ has A c){i0:ι}(hs:¬has i0){b n:Nat}{f:Nat->V}(L:To σ b n f)(a:∀i,has i->A i≠b):Wd σ (fun i=>has i∨i=i0) (cu A i0 b) (cu c i0 (.row n f)):=by refine h.add hs (x:=.row n f) L.row (fun o e=>?_) a (U2 (h.Ub.gR L));obtain⟨m,z,t,j,d,g⟩:=L;rw[d,TC]at e;subst e;rfl
def Wd.cells(h:Wd σ has A c){i0:ι}(hs:¬has i0)(vs:List V):Wd (σ.ag vs) (fun i=>has i∨i=i0) (cu A i0 σ.next) (cu c i0 (.row vs.length (Tn vs))):=
 (h.new _ rfl).EY hs (To.cg σ vs) fun i hi=>aaQ (h.lt hi)
def Wd.alloc(h:Wd σ has A c){i0:ι}(hs:¬has i0){z:List V}{n:Nat}(a:z≠[]∨n=0):Wd (σ.new (.acM n z .nil)) (fun i=>has i∨i=i0) (cu A i0 σ.next) (cu c i0 (.row n fun i=>z.getD (i%z.length) .undef)):=
 (h.new _ rfl).EY hs (To.fx σ z n a) fun i hi=>aaQ (h.lt hi)
def Wd.DW(h:Wd σ has A c){i0:ι}(hs:¬has i0):Wd (σ.new (.map [])) (fun i=>has i∨i=i0) (cu A i0 σ.next) (cu c i0 (.map [])):=by
 have a:(σ.new (.map [])).Tq.get σ.next=some (.map []):=by simp only[St.new,T.aJ,TT]
 refine(h.new _ rfl).add hs (x:=.map []) a (fun o b=>?_) (fun i hi=>aaQ (h.lt hi)) (U2 (aaQ (h.Ub.lt h.gw)));rw[a,TC]at b;subst b;rfl
def Wd.mE(h:Wd σ has A c){i:ι}(hi:has i){es es':List (V×V)}(e:c i=.map es):Wd { σ with Tq:=σ.Tq.set (A i) (.map es') } has A (cu c i (.map es')):=by
 have hg:=h.map hi e;refine⟨h.gw.set hg rfl rfl,?_,h.V2,h.inj,?_,?_⟩
 .refine h.Ub.fQ ?_;simp only[T.aJ];rw[Tg (U2 (h.V2 hi))]
 .intro j m;by_cases d:j=i
  .subst d;rw[aF];show T.get (T.set _ _ _) _=_;rw[T.aJ,Ti rfl]
  have f:A j≠A i:=fun e=>d (h.inj j i m hi e)
  rw[aA d];refine(h.Ur j m).Vl ?_;simp only[T.aJ];rw[Tg f]
 intro a b o ha n f l g;by_cases d:a=i
 .subst d;simp only[T.aJ,TT,TC]at l;subst l;exact absurd rfl g
 have k:A a≠A i:=fun e=>d (h.inj a i ha hi e)
 simp only[T.aJ]at l;rw[Tg k]at l;exact h.cut a b o ha n f l g
def Wd.append(h:Wd σ has A c){i:ι}(hi:has i){n:Nat}{f:Nat->V}(e:c i=.row n f){esz bytes k xl:Nat}{vs:List V}(ah:n=xl*esz)(N:(xl+k)*bytes≤aq)(h2:xl+k≤aq)(hf:vs.all V.Tr=true):
  ∃σ',dc σ esz bytes k vs (some (A i,0)) xl=some (.acL σ.next 0 (xl+k) esz,σ')∧σ'.next=σ.next+1∧
   Wd σ' has (cu A i σ.next) (cu c i (.row (n+vs.length) fun j=>if j<n then f j else Tn vs (j-n))):=by
 obtain⟨v0,σ',ha⟩:=lM (h.row hi e) (esz:=esz) (bytes:=bytes) (k:=k) (xl:=xl) (vs:=vs) Q N h2 hf;have hw:=h.gw.dc ha;obtain⟨g,m,z,t,TE,hg,Ur,hv,hn,F,D⟩:=kF ha;have J:=h.row hi e;have u:=J.load (off:=0) (k:=xl*esz) Q;have I:σ.load (A i) 0 (xl*esz)=some TE:=by simp only[St.load,hg,Ur]
 rw[I,TC]at u;have ag:TE.length=xl*esz:=by rw[u];simp
 have r:∀j,has j->A j≠σ.next:=fun j a=>by have:=h.lt a;omega
 have R:∀j,has j->j≠i->σ'.Tq.get (A j)=σ.Tq.get (A j):=by
  intro j y l;have N:A j≠A i:=fun e=>l (h.inj j i y hi e)
  have O:¬(g≠0∧A j∈σ.row g):=fun⟨k1,k2⟩=>h.cut i j _ hi y (U2 l) hg k1 k2
  rw[D,Tg (r j y),Tg (fun k=>O ⟨k.1,YG k.2⟩),Tg N,Tg O]
 have S:σ'.Tq.get dE=σ.Tq.get dE:=by
  obtain⟨mw,zw,tw,af,Z,ac⟩:=h.Ub;have N:dE≠A i:=U2 (h.V2 hi);have ad:=h.Ub.lt h.gw;have O:¬(g≠0∧dE∈σ.row g):=fun⟨k1,k2⟩=>k1 (h.gw.TG g _ _ k2 Z rfl).symm
  rw[D,Tg Q,Tg (fun k=>O ⟨k.1,YG k.2⟩),Tg N,Tg O]
 subst hv;have p:σ'.Tq.get σ.next=some (.cells false (if g=0 then σ.next else g) (TE++vs).length [] (ofList (TE++vs))):=by rw[D,Ti rfl]
 obtain⟨G,W⟩:=acH ((if g=0 then σ.next else g));rw[<- W]at F p;have L:∀U,U≠G->σ'.row U=σ.row U:=by intro U l;simp only[St.row,F,T.aJ];rw[Tg l]
 have K:σ'.row G=σ.next ::(if g=0 then [A i]else(σ.row g).take 8):=by simp only[St.row,F,T.aJ,TT,Xc]
 have H:∀j,has j->j≠i->A j∉σ'.row G:=by
  intro j y l B;rw[K]at B;rcases U8.1 B with x|B
  .exact r j y x
  by_cases c0:g=0
  .rw[Ti c0]at B;have:A j=A i:=by simpa using B
   exact l (h.inj j i y hi this)
  rw[Tg c0]at B;exact h.cut i j _ hi y (U2 l) hg c0 (X9 B)
 refine⟨σ',ha,hn,⟨hw,h.Ub.fQ S,?_,?_,?_,?_⟩⟩
 .intro a s;by_cases v:a=i
  .rw[v,aF];have:=h.Ub.lt h.gw;omega
  rw[aA v];exact h.V2 s
 .intro a b s w x;by_cases v:a=i
  .by_cases C:b=i
   .rw[v,C]
   rw[v,aF,aA C]at x;exact(r b w x.symm).elim
  by_cases C:b=i
  .rw[C,aF,aA v]at x;exact(r a s x).elim
  rw[aA v,aA C]at x;exact h.inj a b s w x
 .intro j y;by_cases d:j=i
  .subst d;rw[aF,aF];refine⟨_,_,_,_,?_,p,fun q hq=>?_⟩
   .rw[UN];omega
   rw[cT];have Y:q<(TE++vs).length:=by rw[UN];omega
   rw[UQ Y,TC];show _=if q<n then f q else Tn vs (q-n)
   by_cases cq:q<n
   .rw[Ti cq,List.getElem_append_left Q];have hx:TE[q]?=some (f q):=by rw[u,X0,YC Q];simp
    rw[UQ Q,TC]at hx;exact hx
   rw[Tg cq,List.getElem_append_right Q];unfold Tn;rw[U7,UQ Q,Xc];congr 1;omega
  rw[aA d,aA d];exact(h.Ur j y).Vl (R j y d)
 intro a b o s w l M E;by_cases v:a=i
 .subst v;rw[aF,p,TC]at M;subst M;rw[aA (U2 l)];exact H b w (U2 l)
 rw[aA v,R a s v]at M;have X:o.TG≠G:=by
  intro x;have P:=(h.gw.mem _ _ M E).1;by_cases c0:g=0
  .rw[Ti c0]at W;have:=(h.gw.mem _ _ M E).2;omega
  rw[Tg c0]at W;rw[x,W]at P;exact h.cut i a _ hi s (U2 v) hg c0 P
 rw[L _ X];by_cases C:b=i
 .subst C;rw[aF];intro B;have:=h.gw.lt _ _ B;omega
 rw[aA C];exact h.cut a b o s w l M E
end
section
variable {ι κ:Type} {has0:ι -> Prop} {A0:ι -> Nat} {c0:ι -> cA} {hasK:κ -> Prop} {AK:κ -> Nat} {cK:κ -> cA}
def uz{ι:Type}(σ:St)(has:ι->Prop)(A:ι->Nat)(a:Nat):Prop:=a=dE∨∃i,has i∧(a=A i∨∃o q,σ.Tq.get (A i)=some o∧o.TG≠0∧a∈σ.row o.TG∧σ.Tq.get a=some q∧q.Ty=true)
def Wd.left(h:Wd σ (Sum.elim has0 hasK) (Sum.elim A0 AK) (Sum.elim c0 cK)):Wd σ has0 A0 c0:=
 h.sub Sum.inl (fun _ h=>h) (fun _ _ _ _ e=>ZQ e) (fun _ _=>rfl) fun _ _=>.inl rfl
def Wd.right(h:Wd σ (Sum.elim has0 hasK) (Sum.elim A0 AK) (Sum.elim c0 cK)):Wd σ hasK AK cK:=
 h.sub Sum.inr (fun _ h=>h) (fun _ _ _ _ e=>Sum.inr.inj e) (fun _ _=>rfl) fun _ _=>.inl rfl
def Wd.Ew(h:Wd σ has0 A0 c0){a:Nat}(ha:uz σ has0 A0 a):a<σ.next:=by
 obtain rfl|⟨i,hi,rfl|⟨o,q,h1,h2,h3,h4,h5⟩⟩:=ha
 .exact h.Ub.lt h.gw
 .exact h.lt hi
 exact h.gw.UL h4
def Wd.Xv(h:Wd σ has0 A0 c0):Fy (uz σ has0 A0) σ:=by
 intro a g o f ha l hg d b w k c e;rcases k with rfl|⟨i,hi,k⟩
 .obtain⟨m,z,t,y,v,x⟩:=h.Ub;rw[v]at c;simp only[TC]at c;subst c;exact hg e.symm
 rcases k with rfl|⟨p,q,n,r,s,j,u⟩
 .exact f <| .inr ⟨i,hi,.inr ⟨w,o,c,Q,by rw[e];exact d,ha,l⟩⟩
 rw[c]at j;simp only[TC]at j;subst j;have:=h.gw.TG _ _ _ s c u;exact f <| .inr ⟨i,hi,.inr ⟨p,o,n,r,by rw[<- this,e];exact d,ha,l⟩⟩
def Wd.Vl(h:Wd σ has0 A0 c0):Wd (σ.Vl (uz σ has0 A0)) has0 A0 c0 where
 gw:=NO h.gw _
 Ub:=h.Ub.fQ ((σ.eQ _ _).1 (.inl rfl))
 V2:=h.V2
 inj:=h.inj
 Ur i hi:=(h.Ur i hi).Vl ((σ.eQ _ _).1 (.inr ⟨i,hi,.inl rfl⟩))
 cut i j o hi hj hne ho hg:=by rw[((σ.eQ _ _).1 (.inr ⟨i,hi,.inl rfl⟩))]at ho;exact h.cut i j o hi hj hne ho hg
def Wd.abR(h:Wd σ (Sum.elim has0 hasK) (Sum.elim A0 AK) (Sum.elim c0 cK)){k:κ}(a:hasK k):¬uz σ has0 A0 (AK k):=by
 rintro(e|⟨i,hi,e|⟨o,q,b,c,d,f,g⟩⟩)
 .exact h.V2 (i:=.inr k) a e
 .have:=h.inj (.inr k) (.inl i) a hi e;cases this
 exact h.cut (.inl i) (.inr k) o hi a Y b c d
def Wd.OW{Γ Γ':T AF}{M:List fK}{g:FuncId}{xs:List V}{P:V->(ι->Prop)->(ι->Nat)->(ι->cA)->Prop}(ad:∀g x,Γ.get g=some x->Γ'.get g=some x)(hM:∀m∈M,Γ.get m.g=none)(h:Wd σ (Sum.elim has0 hasK) (Sum.elim A0 AK) (Sum.elim c0 cK))(K:∀σ,Wd σ has0 A0 c0->au Γ [] g xs σ fun v σ'=>∃c A' D,Wd σ' c A' D∧P v c A' D):
  au Γ' M g xs σ fun v σ'=>∃c A' D,Wd σ' (Sum.elim c hasK) (Sum.elim A' AK) (Sum.elim D cK)∧P v c A' D∧σ.next≤σ'.next∧(∀a,a<σ.next->¬uz σ has0 A0 a->σ'.Tq.get a=σ.Tq.get a)∧(∀a,uz σ' c A' a->uz σ has0 A0 a∨σ.next≤a):=by
 have O:=h.left;have Z:=au.frame ad hM (fun a=>O.Ew) h.gw.VS O.Xv ((K _ O.Vl).gw O.Vl.gw);obtain⟨v,σ',⟨s',⟨⟨c,A',D,L,hP⟩,av⟩,b⟩,J⟩:=Z;have u:GW σ':=by obtain⟨f0,hf⟩:=J;have hb:=K σ O;obtain⟨v3,ax,⟨_,h3⟩,ar⟩:=hb.gw h.gw;obtain⟨f3,af⟩:=ar.aci (Γ':=Γ') (M:=M) ad hM;have e:=(hf (max f0 f3) Q).symm.trans (af (max f0 f3) Q);simp only[TC,TU]at e;rw[e.2];exact h3
 have p:∀a o,s'.Tq.get a=some o->σ'.Tq.get a=some o:=fun a o=>b.get
 have w:∀i,c i->jS σ' (A' i) (D i):=by
  intro i hi;have:=L.Ur i hi;cases E:D i with
  |row n f=>
   rw[E]at this;obtain⟨g,m,z,t,C,B,E⟩:=this;exact⟨g,m,z,t,C,p _ _ B,E⟩
  |ro k n f=>
   rw[E]at this;obtain⟨m,z,t,C,B,E⟩:=this;exact⟨m,z,t,C,p _ _ B,E⟩
  |map es=>rw[E]at this;exact p _ _ this
 have ac:Vv σ':=by obtain⟨m,z,t,C,B,E⟩:=L.Ub;exact⟨m,z,t,C,p _ _ B,E⟩
 have al:σ.next≤σ'.next:=by rw[<- b.next];exact b.le
 have Ur:∀a,a<σ.next->¬uz σ has0 A0 a->σ'.Tq.get a=σ.Tq.get a:=fun a ha hn=>(b.Xq a ha hn).2
 have H:∀a,uz σ' c A' a->uz σ has0 A0 a∨σ.next≤a:=by
  rintro a (rfl|⟨i,hi,ap⟩)
  .exact .inl (.inl rfl)
  obtain⟨oi,A,am⟩:=(L.Ur i hi).VM;rcases ap with rfl|⟨o,q,h1,h2,h3,h4,h5⟩
  .exact b.is A
  rw[p _ _ A]at h1;simp only[TC]at h1;subst h1;rcases Vm a σ.next with d|d
  .by_cases d2:uz σ has0 A0 a
   .exact .inl d2
   obtain⟨k1,k2⟩:=b.Xq a d d2;rw[h4]at k2;exact(b.VX a _ q d d2 k2.symm h5 h2 (by simpa only[St.row,b.TX]using h3) _ _ A rfl).elim
  exact .inr d
 have F:∀k,hasK k->σ'.Tq.get (AK k)=σ.Tq.get (AK k):=fun k F=>Ur _ (h.lt (i:=.inr k) F) (h.abR F)
 have G:∀k,hasK k->¬uz σ' c A' (AK k):=by
  intro k F B;rcases H _ B with e|e
  .exact h.abR F e
  have:=h.lt (i:=.inr k) F;have e':σ.next≤AK k:=e;have t':AK k<σ.next:=this;omega
 have r:∀k,hasK k->jS σ' (AK k) (cK k):=fun k S=>(h.Ur (.inr k) S).Vl (F k S)
 refine⟨v,σ',⟨c,A',D,⟨u,ac,?_,?_,?_,?_⟩,hP,al,Ur,H⟩,J⟩
 .rintro(i|k) hi
  .exact L.V2 hi
  exact h.V2 (i:=.inr k) hi
 .rintro(i|k) (j|l) hi y e
  .exact Uj _ (L.inj i j hi y e)
  .exact(G l y (.inr ⟨i,hi,.inl e.symm⟩)).elim
  .exact(G k hi (.inr ⟨j,y,.inl e⟩)).elim
  exact h.inj (.inr k) (.inr l) hi y e
 .rintro(i|k) hi
  .exact w i hi
  exact r k hi
 rintro(i|k) (j|l) o hi y W B hg
 .obtain⟨oi,A,am⟩:=(L.Ur i hi).VM;have s:σ'.Tq.get (A' i)=some o:=B;rw[p _ _ A,TC]at s;subst s;have:=L.cut i j _ hi y (fun e=>W (Uj _ e)) A hg;show A' j∉σ'.row oi.TG
  simpa only[St.row,b.TX]using this
 .intro C;obtain⟨q,I,U⟩:=(r l y).VM;exact G l y (.inr ⟨i,hi,.inr ⟨o,q,B,hg,C,I,U⟩⟩)
 ·
  intro C;obtain⟨q,I,U⟩:=(w j y).VM;have N:=u.TG _ _ _ C I U;have s:σ'.Tq.get (AK k)=some o:=B;obtain⟨q2,Y,ah⟩:=(r k hi).VM;rw[s,TC]at Y;subst Y;have ag:=(u.mem _ _ s hg).1;exact G k hi (.inr ⟨j,y,.inr ⟨q,o,I,Q,by rw[N];exact ag,s,ah⟩⟩)
 have s:σ'.Tq.get (AK k)=some o:=B;have X:=s;rw[F k hi]at X;have R:=h.cut (.inr k) (.inr l) o hi y W X hg;intro C;obtain⟨q,I,U⟩:=(r l y).VM;have ao:AK l∈σ'.row o.TG:=C;have N:=u.TG _ _ _ ao I U;rw[F l y]at I;have:=(h.gw.mem _ _ I Q).1;rw[N]at this;exact R this
def Wd.call{Γ Γ':T AF}{M:List fK}{g:FuncId}{xs:List V}{P:V->(ι->Prop)->(ι->Nat)->(ι->cA)->Prop}(i:∀g x,Γ.get g=some x->Γ'.get g=some x)(l:∀m∈M,Γ.get m.g=none)(h:Wd σ (Sum.elim has0 hasK) (Sum.elim A0 AK) (Sum.elim c0 cK))(f:∀σ,Wd σ has0 A0 c0->au Γ [] g xs σ fun v σ'=>∃d A' e,Wd σ' d A' e∧P v d A' e):
  au Γ' M g xs σ fun v σ'=>∃d A' e,Wd σ' (Sum.elim d hasK) (Sum.elim A' AK) (Sum.elim e cK)∧P v d A' e:=
 (Wd.OW i l h f).mono fun _ _ ⟨a,b,c,j,k,_⟩=>⟨a,b,c,j,k⟩
end
def jl{A:Tu->Nat}{H:aa}(h:Wd σ H.has A fun s=>.row (H.size s) (H.cell A s)):aw σ A H:=⟨h.gw,h.Ub,h.inj,h.Ur,h.cut⟩
def lu{A:Tu->Nat}{H:aa}(h:aw σ A H):Wd σ H.has A fun s=>.row (H.size s) (H.cell A s):=⟨h.gw,h.Ub,fun hi=>U2 (h.Ub.qt (h.row _ hi)),h.inj,h.row,h.cut⟩
end
end
end Go.Proofs.YtlgmpheammbacaaGreatDoor
