import Derived.Test.YtlgmpheammbacaaGreatDoorPyp
set_option linter.all false
set_option maxRecDepth 1000000
set_option maxHeartbeats 8000000
attribute [local irreducible] AM.T.get AM.T.set
namespace Go.Proofs.YtlgmpheammbacaaGreatDoor
open AM Go
noncomputable section
section
variable {σ σ' s:St} {A:Tu -> Nat} {H:aa} {L:List Hd} {n a:Nat} {d:Bool}
section
variable {κ:Type} {hasK:κ -> Prop} {AK:κ -> Nat} {cK:κ -> cA}
def FP(g:T3 H)(hn:n<18446744073709551616)(ha:a<18446744073709551616){r:aa×Nat×Nat}(j:r=dg H n a d)(h:HC σ A r.1 hasK AK cK):
  au G0 [] 93 [.acK (A .heap) 0,.u r.2.1,.i r.2.2] σ fun v s=>
   (∃q k z vs,v=jx r.2.2 r.2.1 (r.1.Tl*H.Tp) (.slice q k z)∧(r.2.2=0->k=aE n a∧Ls s 1 (aE n a) vs (.slice q (aE n a) z)∧vs.all V.Tr=true))∧
   HC s A r.1 hasK AK cK∧T5 σ s (Vu r.1 A hasK AK) (Vu r.1 A hasK AK):=by
 obtain⟨f,c⟩:=g.alloc hn ha d;rw[<- j]at f c;clear j;cases f with
 |Xx _=>
  refine(BB h c (p:=0) (e:=1) Q).mono ?_;rintro v s ⟨rfl,b,k⟩;exact⟨⟨none,0,0,[],rfl,fun h=>nomatch h⟩,b,k⟩
 |Yj _ _=>
  refine(BB h c (p:=0) (e:=3) Q).mono ?_;rintro v s ⟨rfl,b,k⟩;exact⟨⟨none,0,0,[],rfl,fun h=>nomatch h⟩,b,k⟩
 |Yi _ _=>
  refine(BB h c (p:=0) (e:=2) Q).mono ?_;rintro v s ⟨rfl,b,k⟩;exact⟨⟨none,0,0,[],rfl,fun h=>nomatch h⟩,b,k⟩
 | @ok H' p _ _ hG=>
  have l:=(hG.Ty _ _).2 (.inr ⟨rfl,rfl⟩);refine(MO h c l).mono ?_;rintro v s ⟨⟨q,rfl,hs⟩,b,k⟩;have e:H'.Tp=H.Tp:=by unfold aa.Tp;rw[hG.Th]
  refine⟨⟨q,_,1,iO H' p (aE n a),?_,fun _=>⟨rfl,hs,Cu ..⟩⟩,b,k⟩;show jx _ _ (H'.Tl*H'.Tp) _=_;rw[e]
end
def PF(σ s:St)(H:aa)(n a:Nat)(r:aa×Nat×Nat)(v:V)(L:List Hd)(b:V)(L':List Hd):Prop:=
 jV r.1 L'∧r.1.Tj=H.Tj∧r.1.TB=H.TB∧r.1.Th=H.Th∧
  ((r.2.2=0∧(∃q m z,L'=L++[Hd.mk r.2.1 (aE n a) q m z])∧Nl σ s 3 L'.length (fl j6 L') b)∨(r.2.2≠0∧L'=L∧b=v∧r.1=H))
def JR.bk{v y:V}(b:jV H L)(g:T3 H)(hn:n<18446744073709551616)(ha:a<18446744073709551616){r:aa×Nat×Nat}(f:r=dg H n a d)(h:JR σ s H.Tj H.TB H.Th H.Tl v L (aai r (aE n a)) y):
  ∃L' i,y=.tuple [Vn r.1.Tj r.1.TB r.1.Th r.1.Tl i,.bool true]∧PF σ s H n a r v L i L':=by
 obtain⟨c,j⟩:=g.alloc hn ha d;rw[<- f]at c j;clear f;cases c with
 |Xx _=>exact⟨L,v,h,b,rfl,rfl,rfl,.inr ⟨by show(1:Nat)≠0;omega,rfl,rfl,rfl⟩⟩
 |Yj _ _=>exact⟨L,v,h,b,rfl,rfl,rfl,.inr ⟨by show(3:Nat)≠0;omega,rfl,rfl,rfl⟩⟩
 |Yi _ _=>exact⟨L,v,h,b,rfl,rfl,rfl,.inr ⟨by show(2:Nat)≠0;omega,rfl,rfl,rfl⟩⟩
 | @ok H' p _ _ hG=>
  obtain⟨u,q,m,e,hy,N⟩:=h;refine⟨_,u,?_,jA.bk b g hG (kC hn ha) (Hd.mk p (aE n a) q m e) rfl,hG.Tj,hG.TB,hG.Th,.inl ⟨rfl,⟨q,m,e,rfl⟩,N⟩⟩;show y=.tuple [Vn H'.Tj H'.TB H'.Th H'.Tl u,.bool true];rw[hG.Tj,hG.TB,hG.Th];exact hy
def KR{v x f:V}{P B q k z vs:_}(w:GW σ)(g:T3 H)(l:VF σ L v)(m:jV H L)(hn:n<18446744073709551616){r:aa×Nat×Nat}(p:r=dg H n 1 d)(A:f=.slice q k z)(i:r.2.2=0->k=aE n 1∧Ls σ 1 (aE n 1) vs (.slice q (aE n 1) z)∧vs.all V.Tr=true):
  au G0 [] 92 [Vn H.Tj H.TB H.Th H.Tl v,pJ (1:Nat) P n B d x,jx r.2.2 r.2.1 (r.1.Tl*H.Tp) f] σ fun y s=>
   (∃L' t,y=.tuple [Vn r.1.Tj r.1.TB r.1.Th r.1.Tl t,.bool true]∧PF σ s H n 1 r v L t L')∧TP σ s:=by
 subst A;refine(K2 (L:=L) (o:=aai r (aE n 1)) w l.Tr fun s C j=>?_).mono fun y s ⟨h,e⟩=>⟨JR.bk m g hn Q p h,e⟩
 subst p;exact Df C g (l.ext j) m hn Q Q fun u=>by obtain⟨a,b,c⟩:=i u;exact⟨a,b.ext j,c⟩
def Kb{v x f:V}{P q k z vs:_}(w:GW σ)(g:T3 H)(l:VF σ L v)(m:jV H L)(hn:n<18446744073709551616)(ha:a<18446744073709551616){r:aa×Nat×Nat}(p:r=dg H n a d)(A:f=.slice q k z)(i:r.2.2=0->k=aE n a∧Ls σ 1 (aE n a) vs (.slice q (aE n a) z)∧vs.all V.Tr=true):
  au G0 [] 92 [Vn H.Tj H.TB H.Th H.Tl v,pJ (3:Nat) P a n d x,jx r.2.2 r.2.1 (r.1.Tl*H.Tp) f] σ fun y s=>
   (∃L' t,y=.tuple [Vn r.1.Tj r.1.TB r.1.Th r.1.Tl t,.bool true]∧PF σ s H n a r v L t L')∧TP σ s:=by
 subst A;refine(KB (L:=L) (o:=aai r (aE n a)) w l.Tr fun s B j=>?_).mono fun y s ⟨h,e⟩=>⟨JR.bk m g hn ha p h,e⟩
 subst p;exact Df B g (l.ext j) m hn ha Q fun u=>by obtain⟨a,b,c⟩:=i u;exact⟨a,b.ext j,c⟩
end
section
variable {σ σ' s:St} {A:Tu -> Nat} {H H':aa} {fl pl fc:Nat -> List Nat} {hole:Nat -> Prop} {L:List Hd}
def _root_.AM.aa.UC(H:aa):aa:= { H with
  Tl:=H.Tl-1
  U1:=fun k j=>yc ((H.Tl-1)*2^H.Th) k (H.nw k) (H.U1 k) j }
def pr(H:aa)(b:0<H.Tl):H.UC.np+2^H.Th=H.np:=by
 show(H.Tl-1)*2^H.Th+2^H.Th=H.Tl*2^H.Th;obtain⟨r,a⟩:∃r,H.Tl=r+1:=⟨H.Tl-1,Q⟩
 rw[a,Zq,UW,WH]
def Oa(ok:H.OK)(a:0<H.Tl):H.UC.OK:=
 ⟨ok.Wc,ok.VI,ok.Yw,ok.Xo,ok.X7,ok.XT,ok.fU,V4 (Nat.sub_le _ _) ok.We,ok.XB,ok.Yv,fun k j=>by
  show yc _ k (H.nw k) (H.U1 k) j<_;unfold yc;exact Gw (fun i=>by split;exact ok.XG k i;omega) j,fun _=>ok.T0 Q,fun _=>ok.aU Q⟩
def Tv.UC(h:Tv H fl pl fc (fun _=>False))(A:0<H.Tl)(ht: ∀x,H.UC.np≤x->x<H.np->(H.Tf x).kind≠ 0∧(H.Tf x).kind≠ 4):Tv H.UC fl pl fc (fun _=>False):=by
  have I:=pr H A;have z:=aK H.Th;have F:H.UC.Tj=H.Tj:=rfl;have C: ∀p,H.UC.UD p=H.UD p:=fun p=>lh F fun i _=>rfl
  exact {
    ok:=Oa h.ok A
    pg:=by intro x hx hn;obtain⟨k,n,q⟩:=h.pg x Q (fun e=>e);exact⟨k,n,q.eC rfl fun y hy=>⟨rfl,rfl,fun e=>e⟩⟩
    Uy:=by
      intro k g x;rw[h.Uy k g x];constructor
      · rintro⟨a,b,d⟩;refine⟨?_,fun e=>e,d⟩
        refine aax fun c=>?_
        exact(ht x Q a).1 d.1
      · rintro⟨a,b,d⟩;exact⟨Q,fun e=>e,d⟩
    VC:=h.VC
    Ve:=fun k g=>FL.VW (h.Ve k g) rfl rfl fun x hx _ _=>rfl
    bits:=by
      intro k g i hi;have l:k<H.Th:=g;have v:(H.Tl-1)*2^H.Th=H.UC.np:=rfl;have j:i<64*(((H.Tl-1)*2^H.Th/2^(k+1)+63)/64):=hi;have e:H.UC.Vq k i=(decide (i<(H.Tl-1)*2^H.Th/2^(k+1)) && (decide (i<64*H.nw k) && H.Vq k i)):=by rw[mJ,mJ];exact Dg j
      rw[e,v];have M:=aK k;have s:=aK (k+1);have G:H.UC.np/2^(k+1)≤H.np/2^(k+1):=Nat.div_le_div_right Q;have t:i<64*H.nw k:=by unfold aa.nw aa.gm;rw[v]at j;omega
      have f:=h.bits k l i t;by_cases c:i<H.UC.np/2^(k+1)
      · rw[UR c,UR t,WL,WL];exact f
      · obtain⟨m,w⟩:=DU H.UC (k:=k+1) l;have J:H.UC.np/2^(k+1)=m:=by rw[w,Yd _ s]
        have u:2*i*2^k=2^(k+1)*i:=by rw[XO,UF 2 i,YZ,UF,UF 2]
        have D:(2*i+1)*2^k=2^(k+1)*i+2^k:=by rw[UW,u,WH]
        have E:H.UC.np≤2^(k+1)*i:=by rw[w];exact Xu _ Q
        have no: ∀x,H.UC.np≤x->x ∉ fl k:=fun x hx r=>by obtain⟨a,_,d,_⟩:=(h.Uy k Q _).1 r;exact(ht x hx a).1 d
        have B:2*i*2^k ∉ fl k:=no _ (by rw[u];exact E);have K:(2*i+1)*2^k ∉ fl k:=no _ (by rw[D];omega);rw[UK c,Zk,UK B,UK K];exact⟨rfl,fun e=>B e.1⟩
    sl:=by intro x hx _ g;obtain⟨c,q⟩:=h.sl x Q (fun e=>e) g;exact⟨c,q.eC rfl (UI.refl _) (fun _ _=>rfl)⟩
    U0:=by
      intro c o x;rw[h.U0 c o x];constructor
      · rintro⟨a,b,d,e⟩;refine⟨?_,fun e=>e,d,e⟩
        refine aax fun L=>?_
        exact(ht x Q a).2 d
      · rintro⟨a,b,d⟩;exact⟨Q,fun e=>e,d⟩
    VE:=h.VE
    Vy:=fun c o=>(h.Vy c o).congr rfl fun x hx=>⟨rfl,rfl⟩ }
def _root_.AM.aa.UM(H:aa):Nat:=H.np-2^H.Th
def _root_.AM.aa.ed(H:aa):Bool:=decide (0<H.Tl) && decide ((H.Tf H.UM).kind=0) && decide ((H.Tf H.UM).Th=(H.Th:Int))
def _root_.AM.aa.fe(H:aa):aa:=(H.b9 H.Th (H.UD (H.Tk H.UM)) (H.UD (H.Tk H.UM+8))).run H.UM H.Th 2
def _root_.AM.aa.dH(H:aa):aa:=H.fe.UC
def ic(H:aa)(a:0<H.Tl):H.UM+2^H.Th=H.np:=by have:=pr H a;unfold aa.UM;omega
def uP(H:aa)(a:0<H.Tl):H.UM%2^H.Th=0:=by have b:=pr H a;have c:=ic H a;have:H.UM=H.UC.np:=Q;rw[this];exact Xl _ _
theorem Ic(G:aa)(p k:Nat)(a:Int):(G.run p k a).lock=G.lock:=rfl
def HO(G:aa)(p k:Nat)(a:Int):(G.run p k a).cJ G:=⟨rfl,rfl,rfl,rfl⟩
theorem zH(G:aa)(p k:Nat)(a:Int)(x:Nat):(G.run p k a).Tf x=if p≤x∧x<p+2^k then(if x=p then cI a k else cI (a+1) k)else G.Tf x:=rfl
theorem KO(G:aa)(p k:Nat)(a:Int):(G.run p k a).mem=G.mem:=rfl
theorem Ei(a b:Int):(cI a b).kind=a:=rfl
def Tv.fe(h:Tv H fl pl fc (fun _=>False))(m:H.ed=true):
  H.Zt H.Th (H.Tk H.UM) (H.UD (H.Tk H.UM)) (H.UD (H.Tk H.UM+8))∧(∃j,Tv H.fe j pl fc (fun _=>False))∧H.fe.cJ H∧H.fe.lock=H.lock∧(∀x,x<H.UM->H.fe.Tf x=H.Tf x)∧(∀x,H.UM≤x->x<H.np->(H.fe.Tf x).kind≠0∧(H.fe.Tf x).kind≠4)∧
   (∀x,x∉fl H.Th->∀i,i<4096->H.fe.mem (4096*x+i)=H.mem (4096*x+i)):=by
 unfold aa.ed at m;simp only[Vs,Xg]at m;obtain⟨⟨t,n⟩,f⟩:=m;have ht:=ic H t;have l:=uP H t;have s:=aK H.Th;have o:H.UM<H.np:=Q;have r:H.UM∈fl H.Th:=(h.Uy H.Th (Tx _) _).2 ⟨o,fun e=>e,n,f⟩;obtain⟨l1,u,d⟩:=ZE r;have c:=h.Ve H.Th (Tx _);rw[d]at c;have nd:=h.VC H.Th (Tx _);rw[d]at nd;have hs:=c.YU h.ok.Wc nd (fun q A=>iq h.ok ((h.Uy H.Th (Tx _) q).1 (by rw[d];exact A)).1 Q);have b:=c.2;rw[UY.append]at b;have v:H.UD (H.Tk H.UM)=Uz H u 0:=b.2.1;have w:H.UD (H.Tk H.UM+8)=VD H 0 l1:=b.2.2.1;have g:H.aM H.UM H.Th=H:=Ti rfl;have hu:=h.qX (Tx H.Th) d;rw[g]at hu;have sm:(H.b9 H.Th (Uz H u 0) (VD H 0 l1)).cJ H:=im _ _ _ _;have a:=hu.fill (p:=H.UM) (k:=H.Th) (by rw[sm.Th];exact Tx _) l (fun x hx=>.inr hx);rw[<- v, <- w]at hs a sm;refine⟨hs,⟨_,a.Ga fun x _=>⟨fun e=>(e.1.elim (fun e=>e) fun y=>e.2 y),fun e=>e.elim⟩⟩,?_,?_,?_,?_,?_⟩
 .exact(HO _ _ _ _).trans sm
 .unfold aa.fe;rw[Ic,mQ]
 .intro x hx;unfold aa.fe;rw[zH,Tg Q,kj]
 .intro x z B;unfold aa.fe;rw[zH,Ti ⟨z,Q⟩];split <;> rw[Ei] <;> exact⟨by decide,by decide⟩
 intro x hx i hi;have:=qT h (Tx H.Th) d hx hi;rw[g, <- v, <- w]at this;unfold aa.fe;rw[KO];exact this
def Pf(b:aw σ A H)(ok:H.OK)(h:H.Tl=0):au G0 [] 229 [.acK (A .TO) 0] σ fun r σ'=>r=.tuple [.i (IntKind.i64.wrap (0-((2^H.Th:Nat):Int))),.bool false]∧σ'=σ:=by
 refine ai g229 rfl ?_;have m:=ok.VI;have c:=b.cell (s:=.TO) trivial (i:=2) (Q:2<6);rw[show H.cell A .TO 2=.i H.Th from rfl]at c;have d:=b.cell (s:=.TO) trivial (i:=3) (Q:3<6);rw[show H.cell A .TO 3=.acK (A .TY) 0 from rfl]at d;have e:=b.cell (s:=.TO) trivial (i:=4) (Q:4<6);rw[show H.cell A .TO 4=.acK (A .map) 0 from rfl]at e;obtain⟨v,l,⟨hv,hs⟩,f⟩:=zb b ok;rw[h]at hv;subst hv hs;simp only[go_sem,c,d,e];refine ab f ?_;have g:(0:Int)≤(H.Th:Int):=Q;have j:jc .i64 ((0:Nat):Int) (H.Th:Int)=0:=by have:=oU (a:=0) (n:=H.Th) Q Q;rw[this];simp
 have k:=ja (n:=H.Th) Q;have c1:¬((0:Int)<0):=Q;simp only[go_sem,c,d,e,g,c1,aT,j,k]
def F9(g:aw σ A H)(h:Tv H fl pl fc (fun _=>False))(x:H.ed=false):au G0 [] 175 [.acK (A .TO) 0] σ fun r s=>r=.i 9∧aH σ s:=by
 have ok:=h.ok;refine ai g175 rfl ?_;rcases Wi H.Tl with o|D
 .obtain⟨v,t,⟨hv,hs⟩,d⟩:=Pf g ok o;subst hv hs;simp only[go_sem];refine ab d ?_;simp only[go_sem];exact aH.refl _
 obtain⟨v,t,⟨hv,hs⟩,d⟩:=KK g ok D;subst hv hs;have ht:=ic H D;have N:=aK H.Th;obtain⟨v,f,⟨hv,K⟩,j⟩:=nD g ok (p:=H.UM) Q;subst hv;have M:=g.cell (s:=.TO) trivial (i:=4) (Q:4<6);rw[show H.cell A .TO 4=.acK (A .map) 0 from rfl]at M;obtain⟨pg,l⟩:=acH (H.Tf H.UM);rw[<- l]at j;have S:GW f:=by obtain⟨U,T,⟨_,R⟩,E⟩:=(nD g ok (p:=H.UM) Q).gw g.gw;obtain⟨I,y⟩:=j;obtain⟨J,B⟩:=E;have e:=(y (max I J) Q).symm.trans (B (max I J) Q);simp only[TC,TU]at e;rw[e.2];exact R
 have O:=g.Ui K S;obtain⟨z,o⟩:=acH ([V.i 0,.i 0,.i 0,.i 0,.i 0,.i 0,.i 0,.u 0,.u 0,.u 0,.u 0]);have q:z.length=11:=by rw[o];rfl
 have c:pg.cells.length=11:=rfl;have m:=aQ (σ:=f) (z:=z) (vs:=pg.cells) (n:=11) (by rw[c];exact Tx _) rfl;have L:=To.Ts f 11 z pg.cells c;have P:=O.Ts (n:=11) (z:=z) (vs:=pg.cells) (by rw[c];omega) rfl;have G:=L.cell (i:=0) Q;have l1:=L.cell (i:=1) Q;rw[show Tn pg.cells 0=.i pg.kind from rfl]at G;rw[show Tn pg.cells 1=.i pg.Th from rfl]at l1;have b2:=P.cell (s:=.TO) trivial (i:=2) (Q:2<6);rw[show H.cell A .TO 2=.i H.Th from rfl]at b2;have F:(H.np-2^H.Th:Nat)=H.UM:=rfl;rw[F]at d;have k:aH t (f.Ts 11 z pg.cells):=K.trans (aH.Ts _ _ _ _);have C:¬(pg.kind=0∧pg.Th=(H.Th:Int)):=by rintro⟨a,b⟩;unfold aa.ed at x;rw[<- l,UR D,UR a,UR b]at x;cases x
 simp only[go_sem];refine ab d ?_;simp only[go_sem,M];refine ab j ?_;by_cases w:pg.kind=0
 .have c1:¬pg.Th=(H.Th:Int):=fun e=>C ⟨w,e⟩
  simp only[go_sem,<- o,q,aj,c,m,G,l1,b2,w,c1,TV,Uq,Ug];exact k
 simp only[go_sem,<- o,q,aj,c,m,G,l1,b2,w,TV,Uq,Ug];exact k
def Np(l:aw σ A H)(h:Tv H fl pl fc (fun _=>False))(hf:H.ed=true):au G0 [] 175 [.acK (A .TO) 0] σ fun r s=>r=.i 0∧aw s A H.fe:=by
 have ok:=h.ok;obtain⟨Y,⟨ao,hI⟩,sm,_,_,_,_⟩:=h.fe hf;refine ai g175 rfl ?_;have d:=hf;unfold aa.ed at d;simp only[Vs,Xg]at d;obtain⟨⟨S,o⟩,c⟩:=d;obtain⟨v,ag,⟨hv,hs⟩,t⟩:=KK l ok S;subst hv hs;have ht:=ic H S;have am:=aK H.Th;obtain⟨v,a,⟨hv,g2⟩,f⟩:=nD l ok (p:=H.UM) Q;subst hv;have h0:=l.cell (s:=.TO) trivial (i:=4) (Q:4<6);rw[show H.cell A .TO 4=.acK (A .map) 0 from rfl]at h0;obtain⟨pg,q⟩:=acH (H.Tf H.UM);rw[<- q]at f;have w2:GW a:=by obtain⟨v',s',⟨_,hh⟩,T⟩:=(nD l ok (p:=H.UM) Q).gw l.gw;obtain⟨f0,N⟩:=f;obtain⟨f1,O⟩:=T;have e:=(N (max f0 f1) Q).symm.trans (O (max f0 f1) Q);simp only[TC,TU]at e;rw[e.2];exact hh
 have R2:=l.Ui g2 w2;obtain⟨z,hz⟩:=acH ([V.i 0,.i 0,.i 0,.i 0,.i 0,.i 0,.i 0,.u 0,.u 0,.u 0,.u 0]);have ac:z.length=11:=by rw[hz];rfl
 have b:pg.cells.length=11:=rfl;have x:=aQ (σ:=a) (z:=z) (vs:=pg.cells) (n:=11) (by rw[b];exact Tx _) rfl;have L:=To.Ts a 11 z pg.cells b;have g:=R2.Ts (n:=11) (z:=z) (vs:=pg.cells) (by rw[b];omega) rfl;have y:=L.cell (i:=0) Q;have l1:=L.cell (i:=1) Q;rw[show Tn pg.cells 0=.i pg.kind from rfl]at y;rw[show Tn pg.cells 1=.i pg.Th from rfl]at l1;have b2:=g.cell (s:=.TO) trivial (i:=2) (Q:2<6);rw[show H.cell A .TO 2=.i H.Th from rfl]at b2;have Z:(H.np-2^H.Th:Nat)=H.UM:=rfl;rw[Z]at t;have P:aH ag (a.Ts 11 z pg.cells):=g2.trans (aH.Ts _ _ _ _);rw[<- q]at o c;have ho:=ok.VI;obtain⟨τ,ad⟩:=acH (a.Ts 11 z pg.cells);rw[<- ad]at x L g y l1 b2 P;obtain⟨v,ap,⟨hv,hs⟩,U⟩:=pw g ok (p:=H.UM) Q;subst hv hs;obtain⟨v,ah,⟨j,hv⟩,W⟩:=xq g ok (Tx H.Th) Y;subst hv;have C:=g.cell (s:=.TO) trivial (i:=5) (Q:5<6);rw[show H.cell A .TO 5=.acL (A .US) 0 (H.Th+1) 1 from rfl]at C;have D:=g.cell (s:=.US) trivial (i:=H.Th) (Q:H.Th<H.Th+1);rw[show H.cell A .US H.Th=.acK (A (.UZ H.Th)) 0 from rfl]at D;obtain⟨G,F⟩:=acH (H.b9 H.Th (H.UD (H.Tk H.UM)) (H.UD (H.Tk H.UM+8)));have B:G.cJ H:=by rw[F];exact im _ _ _ _
 have R:H.UD (H.Tk H.UM)<18446744073709551616:=AY ok _;have af:G.OK:=by rw[F];exact pP ok R
 have m:H.fe=G.run H.UM H.Th 2:=by rw[F];rfl
 rw[<- F]at j;have E:=B.Th;obtain⟨v,al,⟨K,hv⟩,X⟩:=Dy j af (p:=H.UM) (k:=H.Th) (kind:=2) (by rw[E];exact Tx _) (.inr rfl) (uP H S) (by rw[B.np];omega);subst hv;have J:=j.cell (s:=.TO) trivial (i:=4) (Q:4<6);rw[show G.cell A .TO 4=.acK (A .map) 0 from rfl]at J;have I:=j.cell (s:=.TO) trivial (i:=2) (Q:2<6);rw[show G.cell A .TO 2=.i G.Th from rfl,E]at I;have q5:=j.cell (s:=.TO) trivial (i:=5) (Q:5<6);rw[show G.cell A .TO 5=.acL (A .US) 0 (G.Th+1) 1 from rfl,E]at q5;have ql:=j.cell (s:=.US) trivial (i:=H.Th) (Q:H.Th<G.Th+1);rw[show G.cell A .US H.Th=.acK (A (.UZ H.Th)) 0 from rfl]at ql;have r4:=K.cell (s:=.TO) trivial (i:=4) (Q:4<6);rw[show(G.run H.UM H.Th 2).cell A .TO 4=.acK (A .map) 0 from rfl]at r4;have r2:=K.cell (s:=.TO) trivial (i:=2) (Q:2<6);rw[show(G.run H.UM H.Th 2).cell A .TO 2=.i G.Th from rfl,E]at r2;have M:(0:Int)≤(H.Th:Int)∧(H.Th:Int)<((H.Th+1:Nat):Int):=Q;have w:V5 G0 [] 224 [.acK (A .map) 0,.i H.UM,.i H.Th,.i 2] ah (.i 0) al:=X;simp only[go_sem];refine ab t ?_;simp only[go_sem,h0];refine ab f ?_;simp only[go_sem,<- hz,ac,aj,b,x,y,l1,b2,o,c,C,D,M,Us,TZ,Um,TV,Uq,Ug];refine ab U ?_;simp only[go_sem,y,l1,b2,C,D,I,J,q5,ql,M,Us,TZ,Um];refine ab W ?_;simp only[go_sem,y,l1,b2,C,D,I,J,q5,ql,M,Us,TZ,Um,TV,Uq,Ug];refine ab w ?_;simp only[go_sem,I,J,r2,r4];rw[m];exact K
structure Jr (s:St) (A:Tu -> Nat) (H:aa) (A':Tu -> Nat) (size':Tu -> Nat) (cell':Tu -> Nat -> V):Prop where
 Wx:dW s H.has A' size' cell'
 UH:∀ t,(∀ k,t≠.Uf k) -> A' t=A t
 T6:∀ t,t≠.map -> (∀ k,t≠.Uf k) -> (∀ k,t≠.set k) -> size' t=H.size t∧cell' t=H.cell A t
 acA:size' .map=3
 acx:cell' .map=UO (H.cell A .map) 1 [.slice (some (A .aU,0)) H.UC.np 11]
 aa6:∀ k,k<H.Th -> KP H.has A' size' cell' k (H.UC.nw k) (H.UC.U1 k)∧cell' (.set k) 0=.int .i64 (H.UC.gm k)
def Ji(p:aw σ A H)(ok:H.OK)(G:0<H.Tl):au G0 [] 176 [.acK (A .map) 0,.i 1] σ fun r s=>r=.i 0∧∃A' g f,Jr s A H A' g f:=by
 refine ai g176 rfl ?_;have F:=ok.VI;have j:=aK H.Th;have Z:=iM ok;have hl:=pr H G;have c1:=p.cell (s:=.map) trivial (i:=1) (Q:1<3);have y:H.dZ A=.acL (A .aU) 0 H.np 11:=by unfold aa.dZ;rw[Ti (ok.aU G)]
 rw[show H.cell A .map 1=H.dZ A from rfl,y]at c1;have D:=p.cell (s:=.map) trivial (i:=0) (Q:0<3);rw[show H.cell A .map 0=.i H.Th from rfl]at D;obtain⟨v,s1,⟨hv,hs⟩,l⟩:=FM F D;subst hv hs;have n2:((2^H.Th:Nat):Int)≠0:=Q;have O:IntKind.i64.wrap (((H.np:Nat):Int).tdiv ((2^H.Th:Nat):Int))=(H.Tl:Int):=by rw[oW Q];congr 1;unfold aa.np;exact WG _ j
 have E:¬((1:Int)<0):=by decide
 have M:¬((H.Tl:Int)<1):=Q;have P:IntKind.i64.wrap (1*((2^H.Th:Nat):Int))=((2^H.Th:Nat):Int):=by rw[Int.one_mul];exact bF Q
 have R:IntKind.i64.wrap ((H.np:Int)-((2^H.Th:Nat):Int))=((H.UC.np:Nat):Int):=by rw[bV Q Q];congr 1;omega
 have S:fE 11 (.acL (A .aU) 0 H.np 11) none (some (.i ((H.UC.np:Nat):Int)))=some (.acL (A .aU) 0 H.UC.np 11):=by rw[pt Q Q,TZ]
 have q:(V.acL (A .aU) 0 H.UC.np 11).cells=[.acL (A .aU) 0 H.UC.np 11]:=rfl;obtain⟨s2,B,C,X⟩:=(Q0 p).store (s:=.map) trivial (off:=1) (vs:=[.acL (A .aU) 0 H.UC.np 11]) (Q:1+1≤3) rfl;have I:=C.gE (s:=.map) trivial (i:=1) (Q:1<3);rw[an]at I;rw[show UO (H.cell A .map) 1 [.acL (A .aU) 0 H.UC.np 11] 1=.acL (A .aU) 0 H.UC.np 11 from rfl]at I;have x:=BW (Th:=H.Th) (N:=H.UC.np) (b:=some (A .aU,0)) (e:=11) (nwo:=H.nw) (w:=H.U1) (pv:=H.gd A) C (show H.has .map from trivial) (show 3=3 from rfl)
  (by rw[an];rfl) (by rw[an];rfl)
  (by
   unfold aa.gd;by_cases c:0<H.Th
   .rw[Ti c];exact .inr rfl
   rw[Tg c];exact .inl ⟨Q,rfl⟩) F Q
  (fun u=>⟨u,rfl,fun k h=>by rw[ae Y];rfl⟩)
  (fun k h=>⟨h,h,rfl,by rw[ae Y];rfl,rfl,by rw[ae Y];rfl⟩)
  ok.XG
 obtain⟨v,s3,⟨⟨J,z3,L,K,o,d,m⟩,hv⟩,z⟩:=x;subst hv;simp only[go_sem,E,c1];refine ab l ?_;simp only[go_sem,E,c1,bc,n2,TV,Ug,O,M];refine ab l ?_;simp only[go_sem,c1,P,R,S,Xd,ZO,q,B,TH,TK];refine ab z ?_;simp only[go_sem];have n:=d .map Y Y;refine⟨J,z3,L,K,o,fun t T U W=>?_,n.1,by rw[n.2,an],fun k h=>?_⟩
 .obtain⟨a,b⟩:=d t (fun k _=>U k) (fun k _=>W k);exact⟨a,by rw[b,ae T]⟩
 obtain⟨a,b⟩:=m k h;exact⟨a,b⟩
def Fa{A':Tu->Nat}{c:Tu->Nat}{a:Tu->Nat->V}(h:Jr σ A H A' c a)(ok:H.OK)(f:0<H.Tl):au G0 [] 177 [.acK (A .TY) 0,.i 1] σ fun r s=>r=.i 0∧aw s A' H.UC:=by
 refine ai g177 rfl ?_;have R:=h.Wx;have E:=ok.Xo;have W:=ok.We;have n:A' .TY=A .TY:=h.UH .TY Y;have B:A' .T0=A .T0:=h.UH .T0 Y;obtain⟨y,D⟩:=h.T6 .TY Y Y Y;obtain⟨zP,cP⟩:=h.T6 .T0 Y Y Y;have w:H.has .T0:=ok.T0 f;have e:H.eH A=.acL (A .T0) 0 H.Tl 1:=by unfold aa.eH;rw[Ti (ok.T0 f)]
 have C:=R.gE (s:=.TY) trivial (i:=4) (by rw[y];show 4<5;omega);rw[D,n,show H.cell A .TY 4=H.eH A from rfl,e]at C;have G:¬((1:Int)<0):=by decide
 have I:¬((H.Tl:Int)<1):=Q;have J:IntKind.i64.wrap ((H.Tl:Int)-1)=((H.Tl-1:Nat):Int):=bV (b:=1) Q Q;have K:fE 1 (.acL (A .T0) 0 H.Tl 1) (some (.i ((H.Tl-1:Nat):Int))) none=some (.acL (A .T0) (H.Tl-1) 1 1):=by rw[kz Q Q,TZ,Um,Vk];congr 2;omega
 have L:fE 1 (.acL (A .T0) 0 H.Tl 1) none (some (.i ((H.Tl-1:Nat):Int)))=some (.acL (A .T0) 0 (H.Tl-1) 1):=by rw[pt Q Q,TZ]
 obtain⟨s1,g,z,_⟩:=R.store (s:=.T0) w (off:=H.Tl-1) (vs:=[.acJ]) (by rw[zP];show H.Tl-1+1≤H.Tl;omega) rfl;rw[B]at g;have M:AB σ [.acJ] (.acL (A .T0) (H.Tl-1) 1 1)=some (.tuple [],s1):=by unfold AB;simp only;rw[Tg Q,show bL [V.acJ] 1=[.acJ]from rfl,g]
 have d:=z.gE (s:=.TY) trivial (i:=4) (by rw[y];show 4<5;omega);rw[ae Y,D,n,show H.cell A .TY 4=H.eH A from rfl,e]at d;obtain⟨s2,j,F,_⟩:=z.store (s:=.TY) trivial (off:=4) (vs:=[.acL (A .T0) 0 (H.Tl-1) 1]) (by rw[y];show 4+1≤5;omega) rfl;rw[n]at j;have v:(V.acL (A .T0) 0 (H.Tl-1) 1).cells=[.acL (A .T0) 0 (H.Tl-1) 1]:=rfl;simp only[go_sem,G,I,C,J,K,L,M,d,Xd,ZO,v,j,TH,TK];refine F.abN ?_ ?_ ?_
 .intro t ht;cases t with
  |UE i=>exact YY (show i<H.Tl-1 from ht) (Nat.sub_le _ _)
  |_=>exact ht
 .intro t ht;have sm:∀t,t≠.map->(∀k,t≠.Uf k)->(∀k,t≠.set k)->H.UC.size t≤H.size t->H.UC.size t≤c t:=fun t o p q N=>by rw[(h.T6 t o p q).1];exact N
  have U:=pr H f;cases t with
  |map=>rw[h.acA];exact Tx 3
  |set k=>rw[(h.aa6 k ht).1.s2];exact Tx 2
  |Uf k=>rw[(h.aa6 k ht).1.sw];exact Tx _
  |T0=>exact sm _ Y Y Y (Nat.sub_le _ _)
  |aU=>exact sm _ Y Y Y (by show H.UC.np*11≤H.np*11;have:=aK H.Th;omega)
  |_=>exact sm _ Y Y Y (Tx _)
 intro t ht i hi;have cm:∀t,t≠.map->(∀k,t≠.Uf k)->(∀k,t≠.set k)->a t=H.cell A t:=fun t o p q=>(h.T6 t o p q).2
 cases t with
 |map=>
  have S:i<3:=hi;rw[ae Y,ae Y,h.acx];have l:=h.UH .aU Y;have m:=h.UH .UJ Y;have x:H.UC.dZ A'=.acL (A .aU) 0 H.UC.np 11:=by unfold aa.dZ;rw[Ti (show H.UC.YO=true from ok.aU f),l]
  have X:H.UC.gd A'=H.gd A:=by unfold aa.gd;rw[m];rfl
  show _=Tn [.i H.Th,H.UC.dZ A',H.UC.gd A'] i;rw[x,X];rcases(by omega:i=0∨i=1∨i=2)with rfl|rfl|rfl <;> rfl
 |set k=>
  have P:i<2:=hi;rw[ae Y,ae Y];obtain⟨sf,Z⟩:=h.aa6 k ht;rcases(by omega:i=0∨i=1)with rfl|rfl
  .rw[Z];rfl
  rw[sf.c1];rfl
 |Uf k=>
  rw[ae Y,ae Y,(h.aa6 k ht).1.cw];rfl
 |T0=>
  have O:i<H.Tl-1:=hi;rw[ae Y,an];unfold UO;rw[Tg Q,cm .T0 Y Y Y];show V.acL (A (.UE i)) 0 H.Tp 1=.acL (A' (.UE i)) 0 H.UC.Tp 1;rw[h.UH (.UE i) Y];rfl
 |TY=>
  have T:i<5:=hi;rw[an,ae Y,cm .TY Y Y Y];have x:H.UC.eH A'=.acL (A .T0) 0 (H.Tl-1) 1:=by unfold aa.eH;rw[Ti (show H.UC.Yk=true from ok.T0 f),B];rfl
  show _=Tn [.u H.Tj,.i H.TB,.i H.Th,.u H.UC.Tp,H.UC.eH A'] i;rw[x];rcases(by omega:i=0∨i=1∨i=2∨i=3∨i=4)with rfl|rfl|rfl|rfl|rfl <;> rfl
 |heap=>
  rw[ae Y,ae Y,cm _ Y Y Y];show _=Tn [.int .i32 H.lock,.int .u32 0,.u H.Tj,.i H.TB,.i H.Th,.acK (A' .Ud) 0,.acK (A' .Ua) 0] i;rw[h.UH .Ud Y,h.UH .Ua Y];rfl
 |Ud=>
  rw[ae Y,ae Y,cm _ Y Y Y];show _=Tn [.acK (A' .TY) 0,.acK (A' .map) 0,.acK (A' .TO) 0] i;rw[h.UH .TY Y,h.UH .map Y,h.UH .TO Y];rfl
 |UE r=>
  rw[ae Y,ae Y,cm _ Y Y Y];rfl
 |aU=>
  rw[ae Y,ae Y,cm _ Y Y Y];rfl
 |UJ=>
  rw[ae Y,ae Y,cm _ Y Y Y];show _=V.acK (A' (.set i)) 0;rw[h.UH (.set i) Y];rfl
 |TO=>
  rw[ae Y,ae Y,cm _ Y Y Y];show _=Tn [.u H.Tj,.i H.TB,.i H.Th,.acK (A' .TY) 0,.acK (A' .map) 0,.acL (A' .US) 0 (H.Th+1) 1] i;rw[h.UH .TY Y,h.UH .map Y,h.UH .US Y];rfl
 |US=>
  rw[ae Y,ae Y,cm _ Y Y Y];show _=V.acK (A' (.UZ i)) 0;rw[h.UH (.UZ i) Y];rfl
 |UZ k=>
  rw[ae Y,ae Y,cm _ Y Y Y];show _=Tn [.acK (A' .TY) 0,.u (H.head k)] i;rw[h.UH .TY Y];rfl
 |Ua=>
  rw[ae Y,ae Y,cm _ Y Y Y];show _=if i=0 then V.acK (A' .Ud) 0 else .i (H.part (i-1))
  rw[h.UH .Ud Y];rfl
def iA(a:H.ed=true):0<H.Tl:=by unfold aa.ed at a;simp only[Vs,Xg]at a;exact a.1.1
theorem Fp(G:aa):G.UC.Th=G.Th:=rfl
theorem Io(G:aa):G.UC.Tj=G.Tj:=rfl
theorem EK(G:aa):G.UC.TB=G.TB:=rfl
theorem Ho(G:aa):G.UC.lock=G.lock:=rfl
theorem Ix(G:aa):G.UC.Tf=G.Tf:=rfl
theorem Hp(G:aa):G.UC.Tl=G.Tl-1:=rfl
def Tv.dH(h:Tv H fl pl fc (fun _=>False))(e:H.ed=true):(∃a,Tv H.dH a pl fc (fun _=>False))∧H.dH.Th=H.Th∧H.dH.Tj=H.Tj∧H.dH.TB=H.TB∧H.dH.lock=H.lock∧H.dH.Tl+1=H.Tl∧
  H.dH.np=H.UM∧(∀x,x<H.UM->H.dH.Tf x=H.Tf x):=by
 obtain⟨_,⟨a,i⟩,sm,k,pg,l,_⟩:=h.fe e;have f:=iA e;have c:0<H.fe.Tl:=by rw[sm.Tl];exact f
 have b:=sm.np;have j:=pr H.fe c;have ht:=ic H f;rw[sm.Th,b]at j;have d:H.fe.UC.np=H.UM:=Q;unfold aa.dH;refine⟨⟨a,i.UC c fun x m g=>l x Q (by rw[<- b];exact g)⟩,?_,?_,?_,?_,?_,d,?_⟩
 .rw[Fp];exact sm.Th
 .rw[Io];exact sm.Tj
 .rw[EK];exact sm.TB
 .rw[Ho];exact k
 .rw[Hp,sm.Tl];omega
 rw[Ix];exact pg
def fB:Nat->aa->aa×Nat
 | 0,H=>(H,0)
 |n+1,H=>if H.ed=true then((fB n H.dH).1,(fB n H.dH).2+1)else(H,0)
def nT(H:aa):aa×Nat:=fB H.Tl H
structure Mc (H H':aa):Prop where
 UB:rZ H'
 V0:V9 H -> V9 H'
 Th:H'.Th=H.Th
 Tj:H'.Tj=H.Tj
 TB:H'.TB=H.TB
 lock:H'.lock=H.lock
def qi:∀(n:Nat) {H:aa},rZ H->Mc H (fB n H).1∧(fB n H).2≤n∧(fB n H).1.Tl+(fB n H).2=H.Tl:=by
 intro n;induction n with
 |zero=>intro H q;exact⟨⟨q,id,rfl,rfl,rfl,rfl⟩,Tx _,rfl⟩
 |succ n u=>
  intro H e;unfold fB;by_cases c:H.ed=true
  .rw[Ti c];obtain⟨fl,pl,fc,p⟩:=e;obtain⟨⟨a,b⟩,i,j,k,l,v,m,o⟩:=p.dH c;obtain⟨t,r,h⟩:=u ⟨a,pl,fc,b⟩;have s:=iA c;have ht:=ic H s;have g:=aK H.Th;refine⟨⟨t.UB,fun d=>t.V0 fun x hx f=>?_,t.Th.trans i,t.Tj.trans j,t.TB.trans k,t.lock.trans l⟩,by simp only;omega,by simp only;omega⟩;rw[m]at hx;rw[o x hx]at f⊢;exact d x Q f
  rw[Tg c];exact⟨⟨e,id,rfl,rfl,rfl,rfl⟩,VK _,rfl⟩
def Ou(W:aw σ A H)(V:rZ H):au G0 [] 128 [.acK (A .Ud) 0] σ fun r s=>r=.i (nT H).2∧∃A',aw s A' (nT H).1∧A' .heap=A .heap:=by
 refine ai g128 rfl ?_;simp only[go_sem];obtain⟨_,_,_,f⟩:=V;have I:H.Tl≤64:=V4 f.ok.We f.ok.Xo;refine bW (fun(n:Nat) (fr:AM.Fr) (s:St)=>fr.defers=[]∧fr.tmps.get 0=some (.acK (A .Ud) 0)∧∃k:Nat,fr.tmps.get 3=some (.i k)∧∃H' A',aw s A' H'∧rZ H'∧A' .Ud=A .Ud∧A' .heap=A .heap∧H'.Tl=n∧k+n≤64∧
  (nT H).1=(fB n H').1∧(nT H).2=(fB n H').2+k) ?_ H.Tl ?_
 .rintro n ⟨tm,ds⟩ s ⟨hd,g,k,h,H',A',R,⟨fl,pl,fc,o⟩,hp,t,hn,hk,e1,e2⟩;simp only at hd g h;subst hd;have u:=R.cell (s:=.Ud) trivial (i:=2) (Q:2<3);rw[show H'.cell A' .Ud 2=.acK (A' .TO) 0 from rfl,hp]at u;by_cases c:H'.ed=true
  .obtain⟨m,rfl⟩:∃m,n=m+1:=⟨n-1,by have:=iA c;omega⟩
   obtain⟨v,L,⟨hv,E⟩,d⟩:=Np R o c;subst hv;obtain⟨_,⟨T,p⟩,sm,_⟩:=o.fe c;have q:0<H'.fe.Tl:=by rw[sm.Tl];exact iA c
   obtain⟨v,s2,⟨hv,Z,z2,d2,j⟩,C⟩:=Ji E p.ok q;subst hv;obtain⟨v,s3,⟨hv,N⟩,D⟩:=Fa j p.ok q;subst hv;have K:=E.cell (s:=.Ud) trivial (i:=1) (Q:1<3);rw[show H'.fe.cell A' .Ud 1=.acK (A' .map) 0 from rfl,hp]at K;have M:=j.T6 .Ud Y Y Y;have J:=j.Wx.gE (s:=.Ud) trivial (i:=0) (by rw[M.1];show 0<3;omega);rw[M.2,j.UH .Ud Y,hp,show H'.fe.cell A' .Ud 0=.acK (A' .TY) 0 from rfl]at J;have P:IntKind.i64.wrap ((k:Int)+1)=((k+1:Nat):Int):=bj (a:=k) (b:=1) Q;obtain⟨⟨w,x⟩,_,_,_,_,e5,_,_⟩:=o.dH c;have l:(fB (m+1) H').1=(fB m H'.dH).1:=by rw[fB,Ti c]
   have S:(fB (m+1) H').2=(fB m H'.dH).2+1:=by rw[fB,Ti c]
   simp only[go_sem,g,h,u];refine ab d ?_;simp only[go_sem,g,h,K];refine ab C ?_;simp only[go_sem,g,h,J];refine ab D ?_;simp only[go_sem,g,h,P];exact⟨m,Q,k+1,rfl,_,_,N,⟨w,pl,fc,x⟩,(j.UH .Ud Y).trans hp,(j.UH .heap Y).trans t,by show H'.dH.Tl=m;omega,Q,by rw[e1,l];rfl,by rw[e2,S];show _=(fB m H'.dH).2+(k+1);omega⟩
  have F:H'.ed=false:=by cases hx:H'.ed;rfl;exact(c hx).elim
  obtain⟨v,L,⟨hv,U⟩,d⟩:=F9 R o F;subst hv;have X:GW L:=by obtain⟨v',s',⟨_,t⟩,B⟩:=(F9 R o F).gw R.gw;obtain⟨G,y⟩:=d;obtain⟨l,z⟩:=B;have e:=(y (max G l) Q).symm.trans (z (max G l) Q);simp only[TC,TU]at e;rw[e.2];exact t
  have l:fB n H'=(H',0):=by
   cases n with
   |zero=>rfl
   |succ n=>rw[fB,Tg c]
  have O:¬((9:Int)=0):=by decide
  simp only[go_sem,g,h,u];refine ab d ?_;simp only[go_sem,g,h,O];rw[e1,e2,l];exact⟨Y,A',R.Ui U X,t⟩
 simp only[go_sem];exact⟨0,rfl,H,A,W,⟨_,_,_,f⟩,rfl,rfl,rfl,Q,rfl,rfl⟩
def dK(H:aa):aa×Nat:=((nT (H.aC 1)).1.aC 0,(nT (H.aC 1)).2)
def T3.aaq(g:T3 H):T3 (dK H).1∧(dK H).1.Tp=H.Tp∧(dK H).2≤64∧(dK H).1.Tj=H.Tj∧(dK H).1.TB=H.TB∧(dK H).1.Th=H.Th:=by obtain⟨fl,pl,fc,b⟩:=g.UB;have a:=b.aC 1;obtain⟨t,c,_⟩:=qi (H.aC 1).Tl ⟨fl,pl,fc,a⟩;have d:(H.aC 1).Tl≤64:=V4 a.ok.We a.ok.Xo;refine⟨T3.wq t.UB (t.V0 g.V0),?_,by unfold dK nT;simp only;omega,t.Tj,t.TB,t.Th⟩;show 4096*2^(nT (H.aC 1)).1.Th=4096*2^H.Th;have:(nT (H.aC 1)).1.Th=H.Th:=t.Th;rw[this]
def Pn(o:aw σ A H)(g:T3 H):au G0 [] 74 [.acK (A .heap) 0] σ fun r s=>r=.i (dK H).2∧∃A',aw s A' (dK H).1∧A' .heap=A .heap:=by obtain⟨fl,pl,fc,n⟩:=g.UB;have h:=n.aC 1;refine ai g74 rfl ?_;obtain⟨v,p,⟨e,hv⟩,c⟩:=kL o g.lock;subst hv;obtain⟨v,s2,⟨hv,k,l,j⟩,d⟩:=Ou e ⟨fl,pl,fc,h⟩;subst hv;obtain⟨t,_,_⟩:=qi (H.aC 1).Tl ⟨fl,pl,fc,h⟩;have b:(nT (H.aC 1)).1.lock=1:=t.lock;obtain⟨v,q,⟨m,hv⟩,a⟩:=fg l b;subst hv;rw[j]at a;have f:=e.cell (s:=.heap) trivial (i:=5) (Q:5<7);rw[show(H.aC 1).cell A .heap 5=.acK (A .Ud) 0 from rfl]at f;simp only[go_sem];refine ab c ?_;simp only[go_sem,f];refine ab d ?_;simp only[go_sem,b7];refine⟨.inr fi,?_⟩;refine ab a ?_;simp only[go_sem];exact⟨rfl,k,m,j⟩
def Gh(c:0<H.Tl):H.UM=(H.Tl-1)*2^H.Th:=by
 have d:=ic H c;have b:H.np=H.Tl*2^H.Th:=rfl;obtain⟨r,a⟩:∃r,H.Tl=r+1:=⟨H.Tl-1,Q⟩
 rw[a]at b⊢;rw[Zq];have e:(r+1)*2^H.Th=r*2^H.Th+2^H.Th:=WS _ _;omega
def qB(a:0<H.Tl){y:Nat}:y/2^H.Th=H.Tl-1↔H.UM≤y∧y<H.np:=by have d:=ic H a;have b:=Gh a;have c:0<2^H.Th:=Yg _;rw[Nat.div_eq_iff c];rw[UF]at b;rw[UF];omega
def Tv.CB(h:Tv H fl pl fc (fun _=>False))(a:H.ed=true):∀y,H.UM≤y->y<H.np->eW H y:=by
 intro y j l;have b:=iA a;unfold aa.ed at a;simp only[Vs,Xg]at a;obtain⟨⟨_,m⟩,n⟩:=a;have o:0<2^H.Th:=Yg _;have ht:H.UM<H.np:=by have:=ic H b;omega
 obtain⟨k,i,g⟩:=h.pg H.UM ht (fun h=>h);have e:=(g.all H.UM rfl).2.1;have f:k=H.Th:=by rw[n]at e;omega
 subst f;have c:=(g.all H.UM rfl).2.2;rw[Ti (uP H b),m]at c;have d:=(g.all y (((qB b).2 ⟨j,l⟩).trans ((qB b).2 ⟨Tx _,ht⟩).symm)).2.2;rw[<- c]at d;unfold eW;split at d <;> omega
def Tv.Cz(h:Tv H fl pl fc (fun _=>False))(z:V9 H)(d:0<H.Tl):H.ed=true↔∀a s,aV H a s->a+s≤H.Tk H.UM:=by
 have ht:=ic H d;have C:0<2^H.Th:=Yg _;constructor
 .intro r a s o;obtain⟨E,F,G⟩:=h.b8 o;refine Wq fun q=>?_
  have m:∀y,H.UM≤y->y<H.np->a+s≤H.Tk y∨H.Tk y+4096≤a:=fun y x n=>(h.rE z n).1 (h.CB r y x n) a s o
  unfold aa.Tk at m q;have D:=m (max (H.UM) ((a-H.Tj)/4096)) Q Q;omega
 intro i;have b:fV H H.Th (H.Tl-1):=by
  refine⟨by rw[abB d];exact Tx _,fun y hy=>?_⟩;obtain⟨x,n⟩:=(qB d).1 hy;refine(h.rE z n).2 fun a s o=>.inl ?_
  have:=i a s o;unfold aa.Tk at this⊢;omega
 have:∃y,y/2^H.Th=H.Tl-1∧¬∃j:Nat,(H.Tf y).Th=(j:Int)∧j<H.Th:=by
  refine Wq fun hn=>?_
  exact h.acm H.Th _ (Tx _) b fun y hy=>Wq fun q=>hn ⟨y,hy,q⟩
 obtain⟨y,hy,t⟩:=this;have w:=sq b.1 hy;obtain⟨j,p,g⟩:=h.pg y w (fun h=>h);have A:j=H.Th:=by
  have:=g.le;rcases Vm j H.Th with c|c
  .exact(t ⟨j,g.Th,c⟩).elim
  omega
 subst A;have k:p=0:=by have v:=(g.all y rfl).2.2;rcases b.2 y hy with f|f <;> rcases g.Xy with e|e|⟨e,_⟩ <;> first|exact e|(split at v <;> omega)
 subst k;have u:H.UM/2^H.Th=H.Tl-1:=(qB d).2 ⟨Tx _,Q⟩;obtain⟨_,B,l⟩:=g.all H.UM (u.trans hy.symm);rw[Ti (uP H d)]at l;unfold aa.ed;simp[d,l,B]
def Tv.Cc(h:Tv H fl pl fc (fun _=>False))(f:H.ed=true){a s:Nat}:aV H.dH a s↔aV H a s:=by
 obtain⟨_,_,i,_,_,_,d,g⟩:=h.dH f;have j:=iA f;have ht:=ic H j;have k:0<2^H.Th:=Yg _;have b:∀x,x<H.UM->(cW H.dH x a s↔cW H x a s):=fun x hx=>by unfold cW aa.Tk;rw[g x hx,i]
 constructor
 .rintro⟨x,hx,e⟩;rw[d]at hx;exact⟨x,Q,(b x hx).1 e⟩
 rintro⟨x,hx,e⟩;rcases Vm x H.UM with c|c
 .exact⟨x,by rw[d];exact c,(b x c).2 e⟩
 exact(cW.Vf (h.CB f x c hx) e).elim
theorem Jc(G:aa):G.UC.mem=G.mem:=rfl
theorem tT(G:aa)(l:Int):(G.aC l).mem=G.mem:=rfl
theorem mT(G:aa)(l:Int):(G.aC l).Tj=G.Tj:=rfl
theorem mG(G:aa)(l:Int):(G.aC l).Tl=G.Tl:=rfl
theorem tF(G:aa)(l:Int):(G.aC l).Tp=G.Tp:=rfl
def Tv.AE(h:Tv H fl pl fc (fun _=>False))(f:H.ed=true):Zl H H.dH:=by intro a s k i hi;obtain⟨x,hx,c⟩:=k;obtain⟨y,j,e,g,hy,b,_⟩:=h.fa hx c hi;rw[e];obtain⟨_,_,_,_,_,_,d⟩:=h.fe f;unfold aa.dH;rw[Jc];refine d y (fun d=>b (.inl ?_)) j g;exact((h.Uy _ (Tx _) y).1 d).2.2.1
structure KZ (H H':aa) (k:Nat):Prop where
 Ty:∀ a s,aV H' a s↔aV H a s
 bytes:Zl H H'
 Tl:H'.Tl+k=H.Tl
 all:∀ a s,aV H a s -> a+s≤H.Tj+H'.Tl*H.Tp
 Uv:0<H'.Tl -> ¬ ∀ a s,aV H a s -> a+s≤H.Tj+(H'.Tl-1)*H.Tp
def HF(a:0<H.Tl):H.Tk H.UM=H.Tj+(H.Tl-1)*H.Tp:=by unfold aa.Tk;rw[Gh a];show _=H.Tj+(H.Tl-1)*(4096*2^H.Th);rw[aby]
def EO(h:Tv H fl pl fc (fun _=>False))(b:H.ed=true):H.dH.Tp=H.Tp∧H.dH.Tj=H.Tj∧H.dH.Tl+1=H.Tl:=by obtain⟨_,c,a,_,_,d,_⟩:=h.dH b;refine⟨?_,a,d⟩;show 4096*2^H.dH.Th=4096*2^H.Th;rw[c]
def K9:∀(n:Nat) {H:aa},rZ H->V9 H->n=H.Tl->KZ H (fB n H).1 (fB n H).2:=by
 intro n;induction n with
 |zero=>
  intro H g m hn;obtain⟨fl,pl,fc,h⟩:=g;refine⟨fun _ _=>Iff.rfl,fun _ _ _ _ _=>rfl,rfl,fun a s b=>?_,fun j=>?_⟩
  .obtain⟨x,hx,_⟩:=b;have:H.np=H.Tl*2^H.Th:=rfl;rw[<- hn,aaS]at this;omega
  have:(fB 0 H).1=H:=rfl;rw[this]at j;omega
 |succ n w=>
  intro H g m hn;have k:=g;obtain⟨fl,pl,fc,h⟩:=g;have q:0<H.Tl:=Q;by_cases c:H.ed=true
  .have e:fB (n+1) H=((fB n H.dH).1,(fB n H.dH).2+1):=by show(if H.ed=true then _ else _)=_;rw[Ti c]
   have u:(fB 1 H).1=H.dH:=by show(if H.ed=true then(_,_)else(_,_):aa×Nat).1=_;rw[Ti c];rfl
   have o:=(qi 1 k).1;rw[u]at o;obtain⟨r,p,y⟩:=EO h c;have t:=w o.UB (o.V0 m) Q;rw[e];have d:∀{a s},aV H.dH a s↔aV H a s:=fun {a s}=>h.Cc c
   refine⟨fun a s=>(t.Ty a s).trans d,fun a s b i hi=>?_,by have:=t.Tl;show(fB n H.dH).1.Tl+((fB n H.dH).2+1)=H.Tl;omega,fun a s b=>?_,fun j l=>?_⟩
   .have f:=t.bytes a s (d.2 b) i hi;rw[p]at f;exact f.trans (h.AE c a s b i hi)
   .have:=t.all a s (d.2 b);rw[r,p]at this;exact this
   refine t.Uv j fun a s b=>?_
   rw[r,p];exact l a s (d.1 b)
  have e:fB (n+1) H=(H,0):=by show(if H.ed=true then _ else _)=_;rw[Tg c]
  rw[e];refine⟨fun _ _=>Iff.rfl,fun _ _ _ _ _=>rfl,rfl,fun a s b=>?_,fun _ l=>c ?_⟩
  .have f:=(h.b8 b).2.1;have v:4096*H.np=H.Tl*H.Tp:=by show 4096*(H.Tl*2^H.Th)=H.Tl*(4096*2^H.Th);rw[aby]
   rw[v]at f;exact f
  refine(h.Cz m q).2 fun a s b=>?_
  rw[HF q];exact l a s b
def T3.uS(g:T3 H):KZ H (dK H).1 (dK H).2:=by
 obtain⟨fl,pl,fc,h⟩:=g.UB;have t:=K9 (H:=H.aC 1) H.Tl ⟨fl,pl,fc,h.aC 1⟩ g.V0 rfl;unfold dK nT;rw[mG];generalize fB H.Tl (H.aC 1)=r at t⊢;obtain⟨G,k⟩:=r;simp only at t⊢;have e:=t.all;have f:=t.Uv;refine⟨fun a s=>iU.trans ((t.Ty a s).trans iU),fun a s b i hi=>?_,t.Tl,fun a s b=>?_,fun c d=>f c fun a s b=>?_⟩
 .rw[tT];have:=t.bytes a s (iU.2 b) i hi;rw[mT,tT]at this;exact this
 .rw[mG];have:=e a s (iU.2 b);rw[mT,tF]at this;exact this
 rw[mT,tF];have:=d a s (iU.1 b);rw[mG]at this;exact this
def jV.YQ(b:jV H L)(g:T3 H):Low (L.map Hd.U3):=by obtain⟨fl,pl,fc,hi⟩:=g.UB;rintro⟨a,w⟩ hx;obtain⟨c,d,_⟩:=hi.b8 ((b.Ty a w).1 hx);have e:=hi.ok.XT;have f:=Xu H.Tp hi.ok.We;have h:=tn H;show a+w≤_;omega
def Jm(g:T3 H)(f:jV H L){n:Nat}(v:n≤H.Tl)(o:∀i,i<n->vy H.Tj H.Th (H.Tl-1-i) L)(q:n<H.Tl->¬vy H.Tj H.Th (H.Tl-1-n) L):n=(dK H).2:=by
 obtain⟨fl,pl,fc,hi⟩:=g.UB;obtain⟨A,_,B,j,u⟩:=g.uS;have d:H.Tp=4096*2^H.Th:=rfl;rcases Nat.lt_trichotomy n (dK H).2 with c|c|c
 .exfalso;refine q Q fun x hx=>?_
  have b:=(f.Ty x.p x.s).1 (Xs hx);have:=j _ _ b;have y:=UG H.Tp (Q:(dK H).1.Tl≤H.Tl-1-n);refine Bool.eq_false_iff.2 fun h=>?_
  obtain⟨_,k⟩:=jJ.1 h;simp only at k;rw[<- d]at k;omega
 .exact c
 exfalso;refine u Q fun a w b=>Wq fun h=>?_
 obtain⟨x,hx,e⟩:=V3.1 ((f.Ty a w).2 b);have l:x.p=a:=Uj Prod.fst e;have m:x.s=w:=Uj Prod.snd e;have t:=o _ c x hx;have r:=j _ _ b;have z:=hi.b8 b;refine Bool.eq_false_iff.1 t (jJ.2 ?_);simp only;rw[<- d,l,m,(Q:H.Tl-1-(dK H).2=(dK H).1.Tl-1)];have:(dK H).1.Tl*H.Tp=((dK H).1.Tl-1)*H.Tp+H.Tp:=by rw[<- WS,Nat.succ_eq_add_one,abB Q]
 omega
def jV.aaq(b:jV H L)(g:T3 H):jV (dK H).1 L:=⟨fun a s=>(b.Ty a s).trans (g.uS.Ty a s).symm,b.nd⟩
def Jp{v:V}(w:GW σ)(g:T3 H)(e:VF σ L v)(a:jV H L):
  au G0 [] 130 [Vn H.Tj H.TB H.Th H.Tl v] σ fun y s=>y=.i (dK H).2∧aH σ s:=by
 obtain⟨fl,pl,fc,hi⟩:=id g.UB;have Ue:=a.Ue g;refine(Mn w (A9 hi.ok) hi.ok.We e Q (a.YQ g)).mono ?_;rintro y s ⟨⟨n,rfl,b,c,d⟩,gr⟩;rw[Jm g a b c d];exact⟨rfl,gr⟩
abbrev ZX(H:aa)(m:Nat->Nat):aa:={ H with mem:=m }
def pz.Uf{H':aa}{x w:Nat}(b:H'.Tj=H.Tj):∀{f:List Nat},(∀q∈f,H'.UD (H.Tk x+q*w)=H.UD (H.Tk x+q*w))->pz H x w f->pz H' x w f
 | [],_,_=>trivial
 |q ::r,hf,h=>by
  have ha:H'.Tk x=H.Tk x:=by unfold aa.Tk;rw[b]
  refine⟨?_,pz.Uf b (fun c a=>hf c (VO _ a)) h.2⟩;rw[ha,hf q (VY ..)];exact h.1
def Tv.ZX(h:Tv H fl pl fc (fun _=>False)){m:Nat->Nat}(n:∀i,m i<256)(j:∀x i,x<H.np->(H.Tf x).kind=0->i<4096->m (4096*x+i)=H.mem (4096*x+i))(l:∀x q c i:Nat,x<H.np->(H.Tf x).kind=4->(H.Tf x).TQ=(c:Int)->q<256/2^c->(H.Tf x).Uc q=0->i<8->m (4096*x+(q*(16*2^c)+i))=H.mem (4096*x+(q*(16*2^c)+i))):Tv (ZX H m) fl pl fc (fun _=>False) where
 ok:={ h.ok with XB:=n }
 pg x hx hh:=by obtain⟨k,d,g⟩:=h.pg x hx hh;exact⟨k,d,g.le,g.Xy,g.all⟩
 Uy:=h.Uy
 VC:=h.VC
 Ve k hk:=(h.Ve k hk).VW (H':=Go.Proofs.YtlgmpheammbacaaGreatDoor.ZX H m) rfl rfl fun x hx i hi=>by obtain⟨a,_,b,_⟩:=(h.Uy k hk x).1 hx;exact j x i a b hi
 bits:=h.bits
 sl x hx hh hk:=by
  obtain⟨c,s⟩:=h.sl x hx hh hk;refine⟨c,s.c8,s.TQ,s.Uf,s.lt,s.nd,s.Uc,s.Ty,s.first,pz.Uf (H:=H) (H':=Go.Proofs.YtlgmpheammbacaaGreatDoor.ZX H m) rfl (fun q f=>?_) s.ZC⟩;refine lh (H:=H) (H':=Go.Proofs.YtlgmpheammbacaaGreatDoor.ZX H m) rfl fun i hi=>?_
  have e:H.Tk x+q*(16*2^c)-H.Tj+i=4096*x+(q*(16*2^c)+i):=by unfold aa.Tk;omega
  rw[e];exact l x q c i hx hk s.TQ (s.lt q f) (by rw[s.Uc q (s.lt q f),Ti f]) hi
 U0:=h.U0
 VE:=h.VE
 Vy c hc:=h.Vy c hc
def Tv.OS(h:Tv H fl pl fc (fun _=>False)){P w x i:Nat}(y:aV H P w)(hi:i<4096)(r:P-H.Tj≤4096*x+i)(o:4096*x+i<P-H.Tj+w):
  ((H.Tf x).kind=2∨(H.Tf x).kind=3)∨(H.Tf x).kind=4∧∃c q:Nat,(H.Tf x).TQ=(c:Int)∧(H.Tf x).Uc q=1∧q*(16*2^c)≤i∧i<q*(16*2^c)+16*2^c:=by
 obtain⟨a,f,⟨A,k,C,rfl,rfl⟩|⟨s,c,q,v,z,l,rfl,rfl⟩⟩:=y
 .left;obtain⟨d,t,g⟩:=h.pg a f (fun h=>h);have e:d=k:=by have:=g.Th;omega
  subst e;obtain⟨rfl,u⟩:=g.Xi A;have p:=aK d;obtain⟨w,hw⟩:=acH (2^d);obtain⟨b,l⟩:∃b,a=2^d*b:=⟨a/2^d,by have:=XJ a (2^d);omega⟩
  have m:H.Tk a-H.Tj=4096*a:=by unfold aa.Tk;omega
  rw[m]at r o;have n:x/2^d=a/2^d:=by rw[l,Yd _ p];rw[<- hw]at l p o⊢;have:x=w*b+(x-a):=Q;rw[this,aab p,aaJ Q];rfl
  exact g.kinds n
 right;obtain⟨j,sl⟩:=h.sl a f (fun h=>h) s;have e:j=c:=by have:=sl.TQ;omega
 subst e;have B:=ey sl.c8 z;have m:H.Tk a+q*(16*2^j)-H.Tj=4096*a+q*(16*2^j):=by unfold aa.Tk;omega
 rw[m]at r o;have n:x=a:=Q;subst n;exact⟨s,j,q,v,l,Q,Q⟩
def Tv.wr(h:Tv H fl pl fc (fun _=>False)){P w a n:Nat}{vs:Nat->Nat}(d:aV H P w)(s:P≤a)(t:a+n≤P+w)(hv:∀i,i<n->vs i<256):Tv (H.wr (a-H.Tj) n vs) fl pl fc (fun _=>False):=by
 obtain⟨u,_,_⟩:=h.b8 d;refine h.ZX (m:=fun i=>if a-H.Tj≤i∧i<a-H.Tj+n then vs (i-(a-H.Tj))else H.mem i) (fun i=>?_) (fun x i hx j hi=>Tg fun c=>?_) fun x q c i hx j v p g hi=>Tg fun r=>?_
 .show(if _ then _ else _)<256;split
  .exact hv _ Q
  exact h.ok.XB i
 .rcases h.OS d (x:=x) hi Q Q with(k|k)|⟨k,_⟩ <;> omega
 obtain⟨b,sl⟩:=h.sl x hx (fun h=>h) j;have e:b=c:=by have:=sl.TQ;omega
 subst e;have y:=ey sl.c8 p;have hw:=(w8 sl.c8).2.1;rcases h.OS d (x:=x) (i:=q*(16*2^b)+i) Q Q Q with(k|k)|⟨k,c2,q2,e1,e2,e3,e4⟩
 .omega
 .omega
 have e:c2=b:=Q;subst e;have o:q2≠q:=fun e=>by rw[e]at e2;omega
 obtain⟨w,f⟩:=acH (16*2^c2);rw[<- f]at e3 e4 hw;rcases Vm q q2 with l|l
 .have:=UG w l;rw[WS]at this;omega
 have:=UG w (Q:q2+1≤q);rw[WS]at this;omega
def T3.wr(hg:T3 H){P w a n:Nat}{vs:Nat->Nat}(d:aV H P w)(b:P≤a)(c:a+n≤P+w)(hv:∀i,i<n->vs i<256):T3 (H.wr (a-H.Tj) n vs):=by obtain⟨fl,pl,fc,h⟩:=hg.UB;exact⟨⟨fl,pl,fc,h.wr d b c hv⟩,hg.V0,hg.lock⟩
end
section
variable {H H':aa} {S S':AS}
def Be{m:Nat}:∀{l:List (Nat×Nat)},(∀x∈l,x.2≤m)->dC l≤l.length*m
 | [],_=>by simp[dC]
 |a ::l,h=>by
  have b:=h a (VY ..);have c:=Be (l:=l) fun x hx=>h x (VO _ hx)
  have d:dC (a ::l)=a.2+dC l:=by simp[dC]
  have e:(a ::l).length*m=l.length*m+m:=by rw[TH,WS]
  omega
def Kp(l k:List (Nat×Nat)):dC (l++k)=dC l+dC k:=by simp[dC]
structure XI (C:List (Nat × Nat)) (tk us:Nat) (Q:List (Nat × Nat)):Prop where
 pc:∀ x∈Q,1≤x.2∧∃ c∈C,c.1≤x.1∧x.1+x.2≤c.1+c.2∧(C.getLast?=some c -> x.1+x.2≤c.1+tk)
 hu:us≤dC C.dropLast+tk
 ht:∀ t,C.getLast?=some t -> tk≤t.2
 no:C=[] -> tk=0
def Lr{C:List (Nat×Nat)}{t:Nat×Nat}(h:C.getLast?=some t):C=C.dropLast++[t]:=by obtain⟨a,rfl⟩:=List.getLast?_eq_some_iff.1 h;simp
def XI.held{C Q:List (Nat×Nat)}{tk us:Nat}(h:XI C tk us Q):us≤dC C:=by
 cases b:C.getLast? with
 |none=>
  have hn:=abm.1 b;have a:=h.hu;have c:=h.no hn;rw[hn]at a⊢;simp[dC]at a⊢;omega
 |some t=>
  have a:=h.hu;have c:=h.ht t b;rw[Lr b,Kp];have:dC [t]=t.2:=by simp[dC]
  omega
def XI.nil:XI [] 0 0 []:=⟨fun _ h=>(Xa h).elim,Y,fun _ h=>by simp at h,fun _=>rfl⟩
structure Gm where
 L:List Hd
 O:List Nat
 P:List Hd
 K:List Nat
def se(H:aa)(p n:Nat):List Nat:=(List.range n).map fun i=>H.mem (p-H.Tj+i)
def Gu{p n:Nat}(a:H'.Tj=H.Tj)(h:∀i,i<n->H'.mem (p-H.Tj+i)=H.mem (p-H.Tj+i)):se H' p n=se H p n:=by
 unfold se;refine ZH fun i hi=>?_
 rw[a];exact h i (Ws.1 hi)
abbrev DT:=Option (Nat×Nat)->Nat->Nat->List Nat->Prop
abbrev apa(x y:Nat×Nat):Prop:=x.1+x.2≤y.1∨y.1+y.2≤x.1
structure eP (D:DT) (H:aa) (S:AS) (g:Gm) (E:List Nat) (N:Nat):Prop where
 Uk:T3 H
 Vo:∀ b,b∈S.Tm -> aV H b.1 b.2
 TD:S.TD≤H.Tp
 pos:0<S.TD
 nil:S.Vz=false -> S.Tm=[]
 Ww:S.Wv=false -> S.cE=[]
 ms:xZ S
 bk:jV H g.L
 Vd:XI S.Tm S.Tz S.TI (g.P.map Hd.U3)
 XS:(g.P.map Hd.U3).Pairwise apa
 XC:∀ m∈S.ms,g.K.getD m.n 0≤g.P.length∧XI (S.Tm.take m.Tm) m.Tz m.TI ((g.P.take (g.K.getD m.n 0)).map Hd.U3)
 mono:S.ms.Pairwise fun a b=>g.K.getD a.n 0≤g.K.getD b.n 0
 kl:g.K.length=S.TW
 kn:∀ k∈g.K,k<N+1
 TJ:∀ a w,aV H a w -> a∈S.Tm.map (·.1)∨a∈g.O∨a∈E
 ol:∀ a,a∈g.O∨a∈E -> ∃ w,aV H a w
 nd:(S.Tm.map (·.1)++(g.O++E)).Nodup
 Ue:S.TW≤N∧g.O.length≤N∧g.P.length≤N∧S.ms.length≤N
 bytes:∀ x∈g.P,x.n≤x.s∧(0<x.n -> D x.q x.n x.e (se H x.p x.n))
section
variable {D:DT} {g:Gm} {E:List Nat} {N:Nat}
def eP.range(h:eP D H S g E N):∀b∈S.Tm,H.Tj≤b.1∧b.1+b.2≤9223372036854775808∧16≤b.2∧b.2≤4194304:=by obtain⟨fl,pl,fc,i⟩:=h.Uk.UB;intro b a;have c:=i.b8 (h.Vo b a);have d:=mS i.ok;have e:=ka i.ok;omega
def eP.ndc(h:eP D H S g E N):(S.Tm.map (·.1)).Nodup:=(WN.1 h.nd).1
def eP.EP(h:eP D H S g E N):S.Tm.length≤4194304:=by
 obtain⟨fl,pl,fc,i⟩:=h.Uk.UB;have c:=ka i.ok;have:=oM (4096*H.np) H.Tj _ h.ndc fun x hx=>by obtain⟨b,a,rfl⟩:=V3.1 hx;have:=i.b8 (h.Vo b a);omega
 rw[Wz]at this;omega
def eP.sum(h:eP D H S g E N):dC S.Tm≤17592186044416:=by
 have a:=Be (m:=4194304) fun x hx=>(h.range x hx).2.2.2
 have b:S.Tm.length*4194304≤4194304*4194304:=UG _ h.EP;omega
def eP.held(h:eP D H S g E N):S.TI≤dC S.Tm:=h.Vd.held
def eP.tk(h:eP D H S g E N):S.Tz≤4194304:=by
 cases a:S.Tm.getLast? with
 |none=>have:=h.Vd.no (abm.1 a);omega
 |some t=>have:=h.Vd.ht t a;have:=h.range t (Zp a);omega
def eP.ar(h:eP D H S g E N):jv H S:=
 ⟨h.Vo,h.ndc,by have:=h.tk;omega,by have:=h.held;have:=h.sum;omega,h.TD,h.nil,h.Ww⟩
def eP.ok(h:eP D H S g E N):S.OK:=h.ar.ok h.Uk
def eP.ZU(h:eP D H S g E N){x:Hd}(hx:x∈g.P):1≤x.s∧∃c∈S.Tm,c.1≤x.p∧x.p+x.s≤c.1+c.2:=by obtain⟨a,c,b,d,e,_⟩:=h.Vd.pc x.U3 (Xs hx);exact⟨a,c,b,d,e⟩
theorem eP.J3(h:eP D H S g E N)(hb:H'.Tj=H.Tj){C:List (Nat×Nat)}{tk us:Nat}{Q:List (Nat×Nat)}(f:XI C tk us Q)(hc:∀c∈C,c∈S.Tm)(hm:∀c∈C, ∀i,i<c.2->H'.mem (c.1-H.Tj+i)=H.mem (c.1-H.Tj+i)):
  ∀x:Hd,x.U3∈Q->∀n,n≤x.s->se H' x.p n=se H x.p n:=by
 intro x hx n hn;obtain⟨h1,c,h2,h3,h4,_⟩:=f.pc _ hx;have h3':c.1≤x.p:=h3;have h4':x.p+x.s≤c.1+c.2:=h4;have hr:=(h.range c (hc c h2)).1;refine Gu hb fun i hi=>?_
 have:=hm c h2 (x.p-c.1+i) acG
 rwa [(acG:c.1-H.Tj+(x.p-c.1+i)=x.p-H.Tj+i)]at this
structure kx (H H':aa) (E:List Nat):Prop where
 Tj:H'.Tj=H.Tj
 Th:H'.Th=H.Th
 TB:H'.TB=H.TB
 Ty:∀ a w,a∈E -> aV H a w -> aV H' a w
 mem:∀ a w,a∈E -> aV H a w -> ∀ i,i<w -> H'.mem (a-H.Tj+i)=H.mem (a-H.Tj+i)
def kx.refl:kx H H E:=⟨rfl,rfl,rfl,fun _ _ _ h=>h,fun _ _ _ _ _ _=>rfl⟩
def kx.Tp(h:kx H H' E):H'.Tp=H.Tp:=by unfold aa.Tp;rw[h.Th]
def eP.nb(h:eP D H S g E N):eP D H S g E (N+1):=
 { h with kn:=fun k e=>by have:=h.kn k e;omega,Ue:=by obtain⟨a,b,c,d⟩:=h.Ue;omega }
def eP.acj(h:eP D H S g E N){n a p:Nat}(ha:0<a)(hn:1≤n)(L:S.Wj n a=some p)(d:S'={ S with Tz:=p+n-(S.Tm.getLast?.getD (0,0)).1,TI:=(S.TI+n)%18446744073709551616 }):
  eP D H S' { g with P:=g.P++[⟨p,n,none,0,0⟩] } E (N+1):=by
 obtain⟨t,ht,K,O,v⟩:=AS.IV ha L;obtain⟨fl,pl,fc,i⟩:=h.Uk.UB;have f:=Zp ht;have T:=h.range t f;have hu:=h.held;have R:=h.sum;have A:S'.TI=S.TI+n:=by rw[d];show(S.TI+n)%_=_;omega
 have z:S'.Tz=p+n-t.1:=by rw[d];show p+n-(S.Tm.getLast?.getD (0,0)).1=_;rw[ht];rfl
 have b:S'.Tm=S.Tm:=by rw[d]
 have j:S'.ms=S.ms:=by rw[d]
 have o:S'.TW=S.TW:=by rw[d]
 have l:∀x∈g.P.map Hd.U3,x.1+x.2≤p∨p+n≤x.1:=by
  intro x hx;obtain⟨F,c,s,G,I,u⟩:=h.Vd.pc x hx;by_cases e:c=t
  .subst e;have:=u ht;omega
  have w:c.1≠t.1:=fun C=>e (Prod.ext C (by
   have B:=i.gX (h.Vo c s);rw[C,i.gX (h.Vo t f)]at B;exact(XP B).symm))
  rcases i.Xv (h.Vo c s) (h.Vo t f) w with q|q <;> omega
 refine { Uk:=h.Uk,Vo:=by rw[b];exact h.Vo,TD:=by rw[d];exact h.TD,pos:=by rw[d];exact h.pos,nil:=by rw[d];exact h.nil,Ww:=by rw[d];exact h.Ww,ms:=?_,bk:=h.bk,Vd:=?_,XS:=?_,XC:=?_,mono:=by rw[j];exact h.mono,kl:=by rw[o];exact h.kl,kn:=fun k M=>by have:=h.kn k M;omega,TJ:=by rw[b];exact h.TJ,ol:=h.ol,nd:=by rw[b];exact h.nd,Ue:=?_,bytes:=?_ }
 .rw[d];exact⟨h.ms.Yz,h.ms.lt,h.ms.le,h.ms.nil,h.ms.Zf⟩
 .rw[b,A,z,WA];refine⟨fun x hx=>?_,?_,fun Z r=>?_,fun e=>?_⟩
  .rcases VJ.1 hx with hx|hx
   .obtain⟨F,c,s,G,I,u⟩:=h.Vd.pc x hx;refine⟨F,c,s,G,I,fun e=>?_⟩;have:=u e;rw[ht]at e;cases e;omega
   obtain rfl:=VP.1 hx;refine⟨hn,t,f,by show t.1≤p;omega,v,fun _=>by show p+n≤t.1+_;omega⟩
  .have:=h.Vd.hu;omega
  .rw[ht]at r;cases r;omega
  rw[e]at ht;simp at ht
 .rw[WA,Xt];refine⟨h.XS,Z7 _ _,fun x hx y hy=>?_⟩;obtain rfl:=VP.1 hy;exact l x hx
 .rw[j,b];intro m Q;obtain⟨J,U⟩:=h.XC m Q;refine⟨by rw[UN];exact V4 J (abt _ _),?_⟩;rw[ab4 J];exact U
 .rw[o,j,UN];obtain⟨V,W,X,Y⟩:=h.Ue;simp only[TH,TK];omega
 intro x hx;rcases VJ.1 hx with hx|hx
 .exact h.bytes x hx
 obtain rfl:=VP.1 hx;exact⟨VK _,fun h=>absurd h (XK 0)⟩
def jA.acb{d:Bool}{p w:Nat}(b:jA H H' d p w):kx H H' E:=
 ⟨b.Tj,b.Th,b.TB,fun a w _ c=>(b.Ty a w).2 (.inl c),fun a w _ c=>b.bytes a w c⟩
def jA.rN(g:T3 H){d:Bool}{p w a u:Nat}(h:T3 H')(b:jA H H' d p w)(c:aV H a u):a≠p:=by obtain⟨fl,pl,fc,i⟩:=g.UB;obtain⟨f,k,e,j⟩:=h.UB;have l:=i.b8 c;have m:=j.b8 ((b.Ty p w).2 (.inr ⟨rfl,rfl⟩));have n:=b.new a u c;omega
def eP.acB(h:eP D H S g E N){n p w:Nat}{d:Bool}{L':List Hd}(hn:1≤n)(f:T3 H')(q:jA H H' d p w)(G:jV H' L')(hw:n≤w)(o:S'={ S with Vz:=true,Tm:=S.Tm++[(p,w)],Tz:=n,TI:=(S.TI+n)%18446744073709551616 }):
  eP D H' S' { g with L:=L',P:=g.P++[⟨p,n,none,0,0⟩] } E (N+1):=by
 obtain⟨X,ah,W,M⟩:=f.UB;have U:aV H' p w:=(q.Ty p w).2 (.inr ⟨rfl,rfl⟩);have af:=M.b8 U;have ad:=mS M.ok;have ac:=ka M.ok;have hu:=h.held;have ag:=h.sum;have j:S'.Tm=S.Tm++[(p,w)]:=by rw[o]
 have K:S'.TI=S.TI+n:=by rw[o];show(S.TI+n)%_=_;omega
 have J:S'.Tz=n:=by rw[o]
 have t:S'.ms=S.ms:=by rw[o]
 have B:S'.TW=S.TW:=by rw[o]
 have l:(S.Tm++[(p,w)]).getLast?=some (p,w):=List.getLast?_concat ..;have A:∀{a u},aV H a u->aV H' a u:=fun s=>(q.Ty _ _).2 (.inl s)
 have v:∀{a u},aV H a u->a≠p:=fun s=>q.rN h.Uk f s
 have C:p∉S.Tm.map (·.1)++(g.O++E):=by
  intro i;rcases VJ.1 i with i|i
  .obtain⟨b,r,e⟩:=V3.1 i;exact v (h.Vo b r) e
  obtain⟨u,hu⟩:=h.ol p (VJ.1 i);exact v hu rfl
 refine { Uk:=f,Vo:=?_,TD:=by rw[o];unfold aa.Tp;rw[q.Th];exact h.TD,pos:=by rw[o];exact h.pos,nil:=(by rw[o];intro e;cases e),Ww:=by rw[o];exact h.Ww,ms:=?_,bk:=G,Vd:=?_,XS:=?_,XC:=?_,mono:=by rw[t];exact h.mono,kl:=by rw[B];exact h.kl,kn:=fun k Z=>by have:=h.kn k Z;omega,TJ:=?_,ol:=fun a ha=>let ⟨w,hw⟩:=h.ol a ha;⟨w,A hw⟩,nd:=?_,Ue:=?_,bytes:=?_ }
 .rw[j];intro b r;rcases VJ.1 r with r|r
  .exact A (h.Vo b r)
  obtain rfl:=VP.1 r;exact U
 .rw[o];exact⟨h.ms.Yz,h.ms.lt,fun m i=>by have:=h.ms.le m i;show m.Tm≤(S.Tm++[(p,w)]).length;rw[UN];omega,h.ms.nil,h.ms.Zf⟩
 .rw[j,K,J,WA];refine⟨fun x hx=>?_,?_,fun t' F=>?_,fun e=>?_⟩
  .rcases VJ.1 hx with hx|hx
   .obtain⟨Q,c,z,R,T,Y⟩:=h.Vd.pc x hx;refine⟨Q,c,Zo _ z,R,T,fun e=>?_⟩;rw[l]at e;cases e;exact(v (h.Vo _ z) rfl).elim
   obtain rfl:=VP.1 hx;refine⟨hn,(p,w),aaB _ (VP.2 rfl),Tx _,by show p+n≤p+w;omega,fun _=>Tx _⟩
  .rw[List.dropLast_concat];omega
  .rw[l]at F;cases F;exact hw
  simp at e
 .rw[WA,Xt];refine⟨h.XS,Z7 _ _,fun x hx y hy=>?_⟩;obtain rfl:=VP.1 hy;obtain⟨Q,c,z,R,T,Y⟩:=h.Vd.pc x hx;have:=q.new _ _ (h.Vo c z);have h8:=h.range c z;show x.1+x.2≤p∨p+n≤x.1;omega
 .rw[t,j];intro m i;obtain⟨V,k2⟩:=h.XC m i;refine⟨by rw[UN];exact V4 V (abt _ _),?_⟩;rw[ab4 V,ab4 (h.ms.le m i)];exact k2
 .rw[j];intro a u s;rcases(q.Ty a u).1 s with s|⟨rfl,_⟩
  .rcases h.TJ a u s with e|e
   .exact .inl (by rw[WA];exact Zo _ e)
   exact .inr e
  exact .inl (by rw[WA];exact aaB _ (VP.2 rfl))
 .rw[j,WA,Xj];refine WN.2 ⟨h.ndc,?_,?_⟩
  .refine WO.2 ⟨fun i=>C (aaB _ i),(WN.1 h.nd).2.1⟩
  intro x hx y hy;rcases U8.1 hy with rfl|hy
  .rintro rfl;exact C (Zo _ hx)
  exact(WN.1 h.nd).2.2 x hx y hy
 .rw[B,t,UN];obtain⟨f1,f2,f3,f4⟩:=h.Ue;simp only[TH,TK];omega
 intro x hx;rcases VJ.1 hx with hx|hx
 .obtain⟨b1,b2⟩:=h.bytes x hx;refine⟨b1,fun hn=>?_⟩;rw[h.J3 q.Tj h.Vd (fun _ I=>I) (fun c I=>q.bytes _ _ (h.Vo c I)) x (Xs hx) _ b1];exact b2 hn
 obtain rfl:=VP.1 hx;exact⟨VK _,fun h=>absurd h (XK 0)⟩
def eP.V1(h:eP D H S g E N){p w:Nat}{d:Bool}{L':List Hd}(f:T3 H')(i:jA H H' d p w)(o:jV H' L'):
  eP D H' S { g with L:=L',O:=g.O++[p] } E (N+1):=by
 have l:∀{a u},aV H a u->aV H' a u:=fun j=>(i.Ty _ _).2 (.inl j)
 have n:∀{a u},aV H a u->a≠p:=fun j=>i.rN h.Uk f j
 have s:p∉S.Tm.map (·.1)++(g.O++E):=by
  intro m;rcases VJ.1 m with m|m
  .obtain⟨b,q,e⟩:=V3.1 m;exact n (h.Vo b q) e
  obtain⟨u,hu⟩:=h.ol p (VJ.1 m);exact n hu rfl
 refine { h with Uk:=f,Vo:=fun b q=>l (h.Vo b q),TD:=by unfold aa.Tp;rw[i.Th];exact h.TD,bk:=o,kn:=fun k v=>by have:=h.kn k v;omega,TJ:=?_,ol:=?_,nd:=?_,Ue:=?_,bytes:=?_ }
 .intro a u j;rcases(i.Ty a u).1 j with j|⟨rfl,_⟩
  .rcases h.TJ a u j with e|e|e
   .exact .inl e
   .exact .inr (.inl (Zo _ e))
   exact .inr (.inr e)
  exact .inr (.inl (aaB _ (VP.2 rfl)))
 .rintro a (ha|ha)
  .rcases VJ.1 ha with ha|ha
   .obtain⟨u,hu⟩:=h.ol a (.inl ha);exact⟨u,l hu⟩
   obtain rfl:=VP.1 ha;exact⟨w,(i.Ty _ _).2 (.inr ⟨rfl,rfl⟩)⟩
  obtain⟨u,hu⟩:=h.ol a (.inr ha);exact⟨u,l hu⟩
 .have t:(S.Tm.map (·.1)++(g.O++[p]++E)).Perm (p ::(S.Tm.map (·.1)++(g.O++E))):=by rw[Xj,List.singleton_append];refine(List.Perm.append_left _ aaF).trans aaF
  exact t.nodup_iff.2 (WO.2 ⟨s,h.nd⟩)
 .rw[UN];obtain⟨y,z,A,B⟩:=h.Ue;simp only[TH,TK];omega
 intro x hx;obtain⟨b1,b2⟩:=h.bytes x hx;refine⟨b1,fun hn=>?_⟩;rw[h.J3 i.Tj h.Vd (fun _ r=>r) (fun c r=>i.bytes _ _ (h.Vo c r)) x (Xs hx) _ b1];exact b2 hn
def eP.mark(h:eP D H S g E N):eP D H (gU S) { g with K:=g.K++[g.P.length] } E (N+1):=by
 have c:∀m∈S.ms,(g.K++[g.P.length]).getD m.n 0=g.K.getD m.n 0:=by intro m d;have:=h.ms.lt m d;rw[U7,U7,Wh (by rw[h.kl];exact this)]
 have f:(g.K++[g.P.length]).getD S.TW 0=g.P.length:=by rw[U7,WM (by rw[h.kl];exact Tx _),h.kl,Yf];rfl
 have l:jt H (gU S):=jt.mark ⟨h.ok,h.ms,h.TD⟩;refine { Uk:=h.Uk,Vo:=h.Vo,TD:=h.TD,pos:=h.pos,nil:=h.nil,Ww:=fun e=>(nomatch e),ms:=l.ms,bk:=h.bk,Vd:=h.Vd,XS:=h.XS,XC:=?_,mono:=?_,kl:=by rw[UN,h.kl];rfl,kn:=?_,TJ:=h.TJ,ol:=h.ol,nd:=h.nd,Ue:=?_,bytes:=h.bytes }
 .intro m d;rcases VJ.1 d with d|d
  .rw[c m d];exact h.XC m d
  obtain rfl:=VP.1 d;show(g.K++[g.P.length]).getD S.TW 0≤_∧_;rw[f];refine⟨Tx _,?_⟩;show XI (S.Tm.take S.Tm.length) S.Tz S.TI ((g.P.take g.P.length).map Hd.U3);rw[ZI,ZI];exact h.Vd
 .refine Xt.2 ⟨h.mono.imp_of_mem fun ha j i=>by rw[c _ ha,c _ j];exact i,Z7 _ _,fun a ha b j=>?_⟩;obtain rfl:=VP.1 j;show _≤(g.K++[g.P.length]).getD S.TW 0;rw[c a ha,f];exact(h.XC a ha).1
 .intro k c;rcases VJ.1 c with c|c
  .have:=h.kn k c;omega
  obtain rfl:=VP.1 c;have:=h.Ue;omega
 obtain⟨o,p,q,r⟩:=h.Ue;refine⟨by show S.TW+1≤_;omega,by show g.O.length≤_;omega,by show g.P.length≤_;omega,?_⟩;show(S.ms++[_]).length≤_;rw[UN];simp only[TH,TK];omega
def jV.Gi{L:List Hd}(h:jV H L){G:List (Nat×Nat)}(l:∀a s,aV H' a s↔aV H a s∧a∉G.map (·.1)):jV H' (L.filter (gS G)):=by
 have c:∀x:Hd,gS G x=true↔x.p∉G.map (·.1):=by
  intro x;unfold gS;rw[aav,List.any_eq_false];constructor
  .intro i d;obtain⟨b,g,e⟩:=V3.1 d;exact i b g (UR e)
  intro i b g e;exact i (V3.2 ⟨b,g,abP e⟩)
 refine⟨fun a s=>?_,h.nd.sublist ((List.filter_sublist).map _)⟩;rw[l, <- h.Ty];constructor
 .intro d;obtain⟨x,hx,e⟩:=V3.1 d;obtain⟨j,k⟩:=aaC.1 hx;have f:x.p=a:=Uj Prod.fst e;exact⟨V3.2 ⟨x,j,e⟩,f▸(c x).1 k⟩
 rintro⟨d,hn⟩;obtain⟨x,hx,e⟩:=V3.1 d;have f:x.p=a:=Uj Prod.fst e;exact V3.2 ⟨x,aaC.2 ⟨hx,(c x).2 (f▸hn)⟩,e⟩
def eP.fT(h:eP D H S g E N){c k:Nat}(U:H'=cz H (eV S c))(r:S'.Tm=S.Tm.take c)(C:S'.TD=S.TD)(M:S'.Vz=S.Vz)(R:S'.Wv=false->S'.cE=[])(F:S'.TW=S.TW)(T:xZ S')(Z:S'.ms.length≤S.ms.length)(I:XI S'.Tm S'.Tz S'.TI ((g.P.take k).map Hd.U3))(W:∀m∈S'.ms,g.K.getD m.n 0≤(g.P.take k).length∧XI (S'.Tm.take m.Tm) m.Tz m.TI (((g.P.take k).take (g.K.getD m.n 0)).map Hd.U3))(X:S'.ms.Pairwise fun a b=>g.K.getD a.n 0≤g.K.getD b.n 0):
  eP D H' S' { g with L:=g.L.filter (gS (S.Tm.drop c)),P:=g.P.take k } E (N+1)∧kx H H' E:=by
 obtain⟨B,t,u,v⟩:=fh (eV S c) h.Uk;rw[<- U]at B t u v;have f:∀b,b∈eV S c↔b∈(S.Tm.drop c).map (·.1):=fun b=>by unfold eV;rw[List.mem_reverse]
 have l:(S.Tm.take c).map (·.1)++((S.Tm.drop c).map (·.1)++(g.O++E))=S.Tm.map (·.1)++(g.O++E):=by rw[<- Xj, <- WA,YI]
 have j:=h.nd;rw[<- l]at j;have A:=(WN.1 (WN.1 j).2.1).2.2;have z:=(WN.1 j).2.2;have d:∀{a w},a∈g.O∨a∈E->aV H a w->aV H' a w:=fun {a w} ha p=>(u a w).2 ⟨p,fun q=>A a ((f a).1 q) a (VJ.2 ha) rfl⟩
 have o:∀b∈S.Tm.take c,aV H' b.1 b.2:=fun b G=>(u _ _).2 ⟨h.Vo b (X9 G),fun q=>z b.1 (Xs G) b.1 (Zo _ ((f _).1 q)) rfl⟩
 have i:kx H H' E:=⟨t.Tj,t.Th,t.TB,fun a w ha p=>d (.inr ha) p,fun a w ha p=>v a w (d (.inr ha) p)⟩
 refine⟨{ Uk:=B,Vo:=by rw[r];exact o,TD:=by rw[C,i.Tp];exact h.TD,pos:=by rw[C];exact h.pos,nil:=fun e=>by rw[r,h.nil (M▸e)];simp,Ww:=R,ms:=T,bk:=?_,Vd:=I,XS:=?_,XC:=W,mono:=X,kl:=by rw[F];exact h.kl,kn:=fun k V=>by have:=h.kn k V;omega,TJ:=?_,ol:=?_,nd:=?_,Ue:=?_,bytes:=?_ },i⟩
 .exact h.bk.Gi fun a s=>by rw[u,f]
 .exact h.XS.sublist ((List.take_sublist _ _).map _)
 .intro a w p;obtain⟨l1,Y⟩:=(u a w).1 p;rcases h.TJ a w l1 with e|e
  .left;rw[r];rw[<- YI c S.Tm,WA]at e;rcases VJ.1 e with e|e
   .exact e
   exact(Y ((f a).2 e)).elim
  exact .inr e
 .intro a ha;obtain⟨w,hw⟩:=h.ol a ha;exact⟨w,d ha hw⟩
 .rw[r];refine j.sublist (List.Sublist.append_left (List.sublist_append_right _ _) _)
 .obtain⟨q1,q2,q3,q4⟩:=h.Ue;refine⟨by rw[F];omega,by show g.O.length≤_;omega,?_,Q⟩;show(g.P.take k).length≤_;rw[Va];omega
 intro x hx;obtain⟨b1,b2⟩:=h.bytes x (X9 hx);refine⟨b1,fun hn=>?_⟩;rw[h.J3 t.Tj I (fun _ y=>X9 (r▸y)) (fun J y=>v _ _ (o J (r▸y))) x (Xs hx) _ b1];exact b2 hn
def eP.aan(h:eP D H S g E N):eP D (cz H (eV S 0)) (gL S) { g with L:=g.L.filter (gS S.Tm),P:=[] } E (N+1)∧kx H (cz H (eV S 0)) E:=by have a:jt H (gL S):=jt.aan ⟨h.ok,h.ms,h.TD⟩;exact h.fT (S':=gL S) (c:=0) (k:=0) rfl (by rw[VU];rfl) rfl rfl (fun _=>rfl) rfl a.ms (VK _) XI.nil (fun m b=>(Xa b).elim) List.Pairwise.nil
def eP.Zg(h:eP D H S g E N){pre r:List Mk}{m:Mk}(d:S.ms=pre++m ::r):
  eP D (cz H (eV S m.Tm)) (j9 S pre.length m) { g with L:=g.L.filter (gS (S.Tm.drop m.Tm)),P:=g.P.take (g.K.getD m.n 0) } E (N+1)∧kx H (cz H (eV S m.Tm)) E:=by
 have l:jt H (j9 S pre.length m):=jt.Zg ⟨h.ok,h.ms,h.TD⟩ d;have p:m∈S.ms:=by rw[d];simp
 have i:S.ms.take pre.length=pre:=by rw[d,List.take_left'];rfl
 obtain⟨w,u⟩:=h.XC m p;have f:=h.ms.Yz;have a:=h.mono;rw[d]at f a;have q:=(Xt.1 f).2.2;have o:=(Xt.1 a).2.2;refine h.fT (S':=j9 S pre.length m) (c:=m.Tm) (k:=g.K.getD m.n 0) rfl rfl rfl rfl ?_ rfl l.ms ?_ u ?_ ?_
 .intro e;have:=h.Ww e;unfold AS.cE at this⊢;rw[d]at this;simp at this
 .show(S.ms.take pre.length).length≤_;rw[Va];omega
 .intro j b;have b:j∈S.ms.take pre.length:=b;rw[i]at b;obtain⟨v,t⟩:=h.XC j (by rw[d];exact Zo _ b);have c1:=(q j b m (VY ..)).2;have s:=o j b m (VY ..);refine⟨by rw[Va];omega,?_⟩;show XI ((S.Tm.take m.Tm).take j.Tm) _ _ _;rw[Z8,Z8,Xb c1,Xb s];exact t
 show(S.ms.take pre.length).Pairwise _;rw[i];exact(Xt.1 a).1
def eP.yR(h:eP D H S g E N){i:Nat}(hi:i<g.O.length):
  eP D (jR H g.O[i]) S { g with L:=g.L.filter (gS [(g.O[i],0)]),O:=g.O.eraseIdx i } E (N+1)∧kx H (jR H g.O[i]) E:=by
 obtain⟨z,l,m,o⟩:=fh [g.O[i]] h.Uk;have C:cz H [g.O[i]]=jR H g.O[i]:=rfl;rw[C]at z l m o;have c:(g.O[i] ::g.O.eraseIdx i).Perm g.O:=by rw[List.eraseIdx_eq_take_drop_succ];refine aaF.symm.trans ?_;rw[List.getElem_cons_drop,YI]
 have y:(g.O[i] ::(S.Tm.map (·.1)++(g.O.eraseIdx i++E))).Perm (S.Tm.map (·.1)++(g.O++E)):=
  aaF.symm.trans (List.Perm.append_left _ (by rw[<- abg];exact List.Perm.append_right _ c))
 have u:=y.nodup_iff.2 h.nd;obtain⟨r,t⟩:=WO.1 u;have v:∀{a},a∈S.Tm.map (·.1)∨a∈g.O.eraseIdx i∨a∈E->a∉[g.O[i]]:=fun {a} ha G=>by obtain rfl:=VP.1 G;exact r (by simpa using ha)
 have j:∀{a w},(a∈S.Tm.map (·.1)∨a∈g.O.eraseIdx i∨a∈E)->aV H a w->aV (jR H g.O[i]) a w:=fun ha j=>(m _ _).2 ⟨j,v ha⟩
 have n:∀b∈S.Tm,aV (jR H g.O[i]) b.1 b.2:=fun b A=>j (.inl (Xs A)) (h.Vo b A)
 have d:kx H (jR H g.O[i]) E:=⟨l.Tj,l.Th,l.TB,fun a w ha f=>j (.inr (.inr ha)) f,fun a w ha f=>o a w (j (.inr (.inr ha)) f)⟩
 refine⟨{ h with Uk:=z,Vo:=n,TD:=by rw[d.Tp];exact h.TD,bk:=?_,kn:=fun k F=>by have:=h.kn k F;omega,TJ:=?_,ol:=?_,nd:=t,Ue:=?_,bytes:=?_ },d⟩
 .exact h.bk.Gi fun a s=>by rw[m];simp
 .intro a w q;obtain⟨l1,I⟩:=(m a w).1 q;rcases h.TJ a w l1 with e|e|e
  .exact .inl e
  .rcases U8.1 (c.mem_iff.2 e)with e|e
   .exact(I (VP.2 e)).elim
   exact .inr (.inl e)
  exact .inr (.inr e)
 .intro a ha;obtain⟨w,hw⟩:=h.ol a (ha.imp (fun e=>c.mem_iff.1 (VO _ e)) id);exact⟨w,j (.inr ha) hw⟩
 .obtain⟨J,K,M,R⟩:=h.Ue;refine⟨Q,?_,by show g.P.length≤_;omega,Q⟩;show(g.O.eraseIdx i).length≤_;have:=List.length_eraseIdx_le g.O i;omega
 intro x hx;obtain⟨b1,b2⟩:=h.bytes x hx;refine⟨b1,fun hn=>?_⟩;rw[h.J3 l.Tj h.Vd (fun _ n=>n) (fun B p=>o _ _ (n B p)) x (Xs hx) _ b1];exact b2 hn
def eP.aaq(h:eP D H S g E N):eP D (dK H).1 S g E (N+1)∧kx H (dK H).1 E:=by
 have t:=h.Uk.uS;obtain⟨p,n,j,s,m⟩:T3 (dK H).1∧(dK H).1.Tp=H.Tp∧(dK H).1.Tj=H.Tj∧(dK H).1.Th=H.Th∧(dK H).1.TB=H.TB:=by obtain⟨a,b,_,c,d,e⟩:=h.Uk.aaq;exact⟨a,b,c,e,d⟩
 have f:kx H (dK H).1 E:=⟨j,s,m,fun a w _ i=>(t.Ty a w).2 i,fun a w _ i=>t.bytes a w i⟩
 refine⟨{ h with Uk:=p,Vo:=fun b j=>(t.Ty _ _).2 (h.Vo b j),TD:=by rw[n];exact h.TD,bk:=h.bk.aaq h.Uk,kn:=fun k r=>by have:=h.kn k r;omega,TJ:=fun a w i=>h.TJ a w ((t.Ty a w).1 i),ol:=fun a ha=>let ⟨w,hw⟩:=h.ol a ha;⟨w,(t.Ty a w).2 hw⟩,Ue:=by obtain⟨a,b,c,d⟩:=h.Ue;omega,bytes:=?_ },f⟩;intro x hx;obtain⟨b1,b2⟩:=h.bytes x hx;refine⟨b1,fun hn=>?_⟩;rw[h.J3 j h.Vd (fun _ q=>q) (fun o l=>t.bytes _ _ (h.Vo o l)) x (Xs hx) _ b1];exact b2 hn
def eP.YB(h:eP D H S g E N){i k e:Nat}{q:Option (Nat×Nat)}{vs:Nat->Nat}(hi:i<g.P.length)(B:k≤(g.P[i]).s)(hv:∀j,j<k->vs j<256)(hD:0<k->D q k e ((List.range k).map vs)):
  eP D (H.wr ((g.P[i]).p-H.Tj) k vs) S { g with P:=g.P.set i ⟨(g.P[i]).p,(g.P[i]).s,q,k,e⟩ } E (N+1)∧kx H (H.wr ((g.P[i]).p-H.Tj) k vs) E:=by
 obtain⟨fl,pl,fc,V⟩:=h.Uk.UB;obtain⟨x,hx⟩:=acH (g.P[i]);rw[<- hx]at B⊢;have K:x∈g.P:=by rw[hx];exact Wm hi
 obtain⟨af,c,A,G,ac⟩:=h.ZU K;have ad:=h.range c A;have f:T3 (H.wr (x.p-H.Tj) k vs):=h.Uk.wr (h.Vo c A) G Q hv;have b:(g.P.set i ⟨x.p,x.s,q,k,e⟩).map Hd.U3=g.P.map Hd.U3:=by
  rw[List.map_set];refine Z3 Y fun j Z h2=>?_
  rw[List.getElem_set];by_cases c:i=j
  .subst c;rw[Ti rfl,YX, <- hx];rfl
  rw[Tg c]
 have r:∀t,((g.P.set i ⟨x.p,x.s,q,k,e⟩).take t).map Hd.U3=(g.P.take t).map Hd.U3:=fun t=>by rw[List.map_take,b,List.map_take]
 have w:∀a u,aV H a u->a≠c.1->∀j,j<u->(H.wr (x.p-H.Tj) k vs).mem (a-H.Tj+j)=H.mem (a-H.Tj+j):=by intro a u v J j U;have Z:=V.Xv v (h.Vo c A) J;have h2:=V.b8 v;show(if x.p-H.Tj≤a-H.Tj+j∧a-H.Tj+j<x.p-H.Tj+k then _ else _)=_;rw[Tg Q]
 have l:kx H (H.wr (x.p-H.Tj) k vs) E:=⟨rfl,rfl,rfl,fun _ _ _ v=>v,fun a u ha v=>w a u v fun e=>by
  have I:=(WN.1 h.nd).2.2;exact I c.1 (Xs A) a (aaB _ ha) e.symm⟩
 refine⟨{ Uk:=f,Vo:=h.Vo,TD:=h.TD,pos:=h.pos,nil:=h.nil,Ww:=h.Ww,ms:=h.ms,bk:=⟨h.bk.Ty,h.bk.nd⟩,Vd:=by rw[b];exact h.Vd,XS:=by rw[b];exact h.XS,XC:=fun m hm=>by rw[r,ZG];exact h.XC m hm,mono:=h.mono,kl:=h.kl,kn:=fun k B=>by have:=h.kn k B;omega,TJ:=h.TJ,ol:=h.ol,nd:=h.nd,Ue:=by obtain⟨q1,q2,q3,q4⟩:=h.Ue;exact⟨Q,by show g.O.length≤_;omega,by show(g.P.set i _).length≤_;rw[ZG];omega,Q⟩,bytes:=?_ },l⟩;intro y hy;obtain⟨j,U,rfl⟩:=Zn hy;have o:j<g.P.length:=by simpa using U
 rw[List.getElem_set];by_cases d:i=j
 .rw[Ti d];refine⟨B,fun X=>?_⟩;have:se (H.wr (x.p-H.Tj) k vs) x.p k=(List.range k).map vs:=by
   unfold se;refine ZH fun t ht=>?_
   have:=Ws.1 ht;show(if x.p-H.Tj≤x.p-H.Tj+t∧x.p-H.Tj+t<x.p-H.Tj+k then vs (x.p-H.Tj+t-(x.p-H.Tj))else _)=_;rw[Ti Q,(Q:x.p-H.Tj+t-(x.p-H.Tj)=t)]
  show D q k e (se _ x.p k);rw[this];exact hD X
 rw[Tg d];have z:g.P[j]∈g.P:=Wm o;obtain⟨b1,b2⟩:=h.bytes _ z;refine⟨b1,fun hn=>?_⟩;obtain⟨ag,W,F,M,R⟩:=h.ZU z;have T:=h.range W F;have C:apa x.U3 (g.P[j]).U3∨apa (g.P[j]).U3 x.U3:=by
  have hd:=aaE.1 h.XS;rcases aaN d with c|c
  .have:=hd i j (by simpa using hi) (by simpa using o) c;simp only[YX, <- hx]at this;exact .inl this
  have:=hd j i (by simpa using o) (by simpa using hi) c;simp only[YX, <- hx]at this;exact .inr this
 have L:x.p+x.s≤(g.P[j]).p∨(g.P[j]).p+(g.P[j]).s≤x.p:=by
  rcases C with e|e
  .exact e
  exact e.symm
 have:se (H.wr (x.p-H.Tj) k vs) (g.P[j]).p (g.P[j]).n=se H (g.P[j]).p (g.P[j]).n:=Gu rfl fun t ht=>by show(if x.p-H.Tj≤(g.P[j]).p-H.Tj+t∧(g.P[j]).p-H.Tj+t<x.p-H.Tj+k then _ else _)=_;rw[Tg Q]
 rw[this];exact b2 hn
end
def Hz{n a j:Nat}(c:4≤j)(d:n≤2^j)(e:a≤2^j):aE n a≤2^j:=by have b:(2:Nat)^4≤2^j:=Vb Q c;unfold aE kf;rw[Tg Q];exact Vb Q (rP (x:=max (max n a) 16-1) j Q)
def my{n a:Nat}(hn:n<18446744073709551616)(ha:a<18446744073709551616):a≤aE n a:=by
 unfold aE kf;rw[Tg Q];have:max (max n a) 16-1<2^UP (max (max n a) 16-1):=by unfold UP;rw[Tg Q];exact Nat.lt_log2_self
 omega
def Mo(H:aa):H.Tp=2^(12+H.Th):=by unfold aa.Tp;rw[X3]
def mC{n a:Nat}(hn:n<18446744073709551616)(ha:a<18446744073709551616):H.Tp<aE n a↔H.Tp<n∨H.Tp<a:=by
 constructor
 .intro h;refine Wq fun d=>?_
  have b:n≤H.Tp:=Q;have c:a≤H.Tp:=Q;rw[Mo]at h b c;have:=Hz (j:=12+H.Th) Q b c;omega
 have b:=o5 hn ha;have c:=my hn ha;omega
def zg{a:Nat}(h:cQ a=true):0<a:=by obtain⟨j,rfl⟩:=tg h;exact Ye Q
inductive x9 (H:aa) (S:AS) (n a:Nat) (d:Bool) (r:aa × Nat × Nat):aa × AS × Nat × Nat -> Prop
 |Xx:cQ a=false -> x9 H S n a d r (H,S,0,1)
 |big:cQ a=true -> H.Tp<aE n a -> x9 H S n a d r (H,S,0,3)
 |Uv {p:Nat}:cQ a=true -> ¬ H.Tp<aE n a -> S.Wj n a=some p -> x9 H S n a d r (H, { S with Tz:=p+n-(S.Tm.getLast?.getD (0,0)).1,TI:=(S.TI+n)%18446744073709551616 },p,0)
 |none:cQ a=true -> ¬ H.Tp<aE n a -> S.Wj n a=.none -> r.2.2≠0 -> r.1=H -> r.2.1=0 -> x9 H S n a d r (H,S,0,r.2.2)
 |new:cQ a=true -> ¬ H.Tp<aE n a -> S.Wj n a=.none -> r.2.2=0 -> T3 r.1 -> jA H r.1 d r.2.1 (aE (max n S.TD) a) -> n≤aE (max n S.TD) a →
   x9 H S n a d r (r.1, { S with Vz:=true,Tm:=S.Tm++[(r.2.1,aE (max n S.TD) a)],Tz:=n,TI:=(S.TI+n)%18446744073709551616 },r.2.1,0)
def rn(h:T3 H)(C:S.TD≤H.Tp){n a:Nat}(hn:n<18446744073709551616)(ha:a<18446744073709551616)(d:Bool):
  x9 H S (max n 1) a d (dg H (max (max n 1) S.TD) a d) (dX H S n a d):=by
 obtain⟨fl,pl,fc,i⟩:=h.UB;have I:=ke i.ok;have w:=mC (H:=H) (n:=max n 1) (a:=a) Q ha;unfold dX;by_cases c:cQ a=false
 .rw[Ti c];exact .Xx c
 rw[Tg c];have j:cQ a=true:=by simpa using c
 by_cases k:H.Tp<max n 1∨H.Tp<a
 .rw[Ti k];exact .big j (w.2 k)
 rw[Tg k];have l:¬H.Tp<aE (max n 1) a:=fun e=>k (w.1 e)
 cases q:S.Wj (max n 1) a with
 |some p=>exact .Uv j l q
 |none=>
  have hx:max (max n 1) S.TD<18446744073709551616:=Q;obtain⟨hi,hg⟩:=h.alloc hx ha d;have A:∀b:AS×Nat×Nat, ∀G p e,(G,p,e)=dg H (max (max n 1) S.TD) a d->e≠0->x9 H S (max n 1) a d (G,p,e) (G,S,0,e):=by
   intro b G p e o f;rw[<- o]at hi;cases hi with
   |Xx m=>exact absurd m c
   |Yj _ m=>exact absurd ((mC hx ha).1 m) Q
   |Yi=>exact .none j l q (by show(2:Nat)≠0;omega) rfl rfl
   |ok=>exact absurd rfl f
  have B:∀G p,(G,p,0)=dg H (max (max n 1) S.TD) a d->x9 H S (max n 1) a d (G,p,0) (G, { S with Vz:=true,Tm:=S.Tm++[(p,(G.eL p).getD 0)],Tz:=max n 1,TI:=(S.TI+max n 1)%18446744073709551616 },p,0):=by
   intro G p o;rw[<- o]at hi hg;cases hi with
   |ok x F v=>
    obtain⟨z,E,y,D⟩:=hg.UB;have t:aV G p (aE (max (max n 1) S.TD) a):=(v.Ty _ _).2 (.inr ⟨rfl,rfl⟩);have u:=D.gX t;rw[u];have s:max n 1≤aE (max (max n 1) S.TD) a:=by have:=o5 (n:=max (max n 1) S.TD) hx ha;omega
    exact .new (r:=(G,p,0)) j l q rfl hg v s
  have g:dg H (max (max n 1) S.TD) a d=((H.held.df (max (max n 1) S.TD) a d).1.aC 0,(H.held.df (max (max n 1) S.TD) a d).2.1,(H.held.df (max (max n 1) S.TD) a d).2.2):=rfl;by_cases f:(H.held.df (max (max n 1) S.TD) a d).2.2=0
  .simp only[f,TT];rw[f]at g;have:=B _ _ g.symm;rw[g];exact this
  simp only[Tg f];have:=A (S,0,0) _ _ _ g.symm f;rw[g];exact this
end
section
attribute [local go_sem] bJ bO bM bP bI bo bj bV bD bK VG Wa VU WZ dx dv cH bg cU bq bG cX cZ br bH cY cB UR UK aj az aD TH TK TZ bm bF aW aO aI bz aX bt aY dM aR bU dN aZ bc aT bA
section
variable {σ σ' s:St}
abbrev V7(kd wh mo:Int)(n al:Nat)(dn:Bool)(da:V):List V:=[.i kd,.i wh,.i mo,.u n,.u al,.bool dn,da]
abbrev zG:List V:=[.ptr none,.ptr none,.u 0,.acJ,.u 0,.u 0,.acJ,.i 0,.u 0,.i 0,.i 0,.i 0,.acJ,.acJ,.acJ,.acJ]
structure Box (σ s:St) (G O:List V):Prop where
 w:GW s
 e:TP σ s
 n:s.next=σ.next+3
 a:To s σ.next 16 (Tn G)
 b:To s (σ.next+1) 7 (Tn O)
 c:To s (σ.next+2) 16 (Tn zG)
def I7(w:GW σ){G O:List V}(e:G.length=16)(f:O.length=7):Box σ (((σ.ag G).ag O).new (.acM 16 zG .nil)) G O:=by have d:GW (σ.ag G):=w.new _ rfl;have a:GW ((σ.ag G).ag O):=d.new _ rfl;have b:=To.cg σ G;have c:=To.cg (σ.ag G) O;rw[e]at b;rw[f]at c;refine⟨a.new _ rfl,(Gr.g).ext,rfl,(b.ext d (Gr.g).ext).ext a (Gr.g).ext,c.ext a (Gr.g).ext,?_⟩;exact To.zero a zG Y
section
variable {κ:Type} {hasK:κ -> Prop} {AK:κ -> Nat} {cK:κ -> cA} {A:Tu -> Nat} {H:aa} {B:AI -> Nat} {S:AS} {L:List Hd}
def E5{hp ar c tk us md n al:Nat}{cs mk hv ot pc mks da:V}{wh mo:Int}{dn:Bool}(h:Uo σ A H B S hasK AK cK)(g:T3 H)(K:VF σ L hv)(hb:jV H L)(j:hp=A .heap)(U:[cs].all V.Tr=true)(W:[mk].all V.Tr=true)(Z:[ot].all V.Tr=true)(f4:[pc].all V.Tr=true)(f5:[mks].all V.Tr=true)(f6:da.cells=[da]):
  au G0 [] 84 [.agg (U4 hp ar c cs tk us mk md H.Tj H.TB H.Th H.Tl hv ot pc mks),.agg (V7 8 wh mo n al dn da)] σ fun y s=>
   y=.tuple [.agg (U4 hp ar c cs tk us mk md H.Tj H.TB H.Th (dK H).1.Tl hv ot pc mks),.bool true]∧
   ∃A',A' .heap=A .heap∧Uo s A' (dK H).1 B S hasK AK cK∧T5 σ s (VB H A S B hasK AK) (VB (dK H).1 A' S B hasK AK):=by
 refine ai g84 rfl ?_;have w:=h.gw;obtain⟨s1,t⟩:=acH (((σ.ag (U4 hp ar c cs tk us mk md H.Tj H.TB H.Th H.Tl hv ot pc mks)).ag (V7 8 wh mo n al dn da)).new (.acM 16 zG .nil));have X:Box σ s1 (U4 hp ar c cs tk us mk md H.Tj H.TB H.Th H.Tl hv ot pc mks) (V7 8 wh mo n al dn da):=by rw[t];exact I7 w rfl rfl
 obtain⟨u,G,n1,z,T,Lc⟩:=X;have c1:cs.cells=[cs]:=cV (by simpa using U);have c2:mk.cells=[mk]:=cV (by simpa using W);have c3:ot.cells=[ot]:=cV (by simpa using Z);have c4:pc.cells=[pc]:=cV (by simpa using f4);have c5:mks.cells=[mks]:=cV (by simpa using f5);have c0:hv.cells=[hv]:=cV (by simpa using K.Tr);have hk:=g.uS.Tl;simp (disch:=omega) only[go_sem,<- t,c0,c1,c2,c3,c4,c5,f6,z.bC rfl,z.bN rfl,T.bC rfl];refine((Jp u g (K.ext G) hb).gw u).mono ?_;rintro _ s2 ⟨⟨rfl,p⟩,w2⟩;have m:=z.ext u p.ext;have ad:=T.ext u p.ext;have D:=Lc.ext u p.ext;obtain⟨s3,M,C,w3,O⟩:=m.H7 rfl w2 (off:=11) (vs:=[.i (dK H).1.Tl]) Y rfl;have d:To s3 σ.next 16 (Tn (U4 hp ar c cs tk us mk md H.Tj H.TB H.Th (dK H).1.Tl hv ot pc mks)):=C;have o:=D.put O Q;have x:∀i,σ.next≤i->¬VB H A S B hasK AK i:=fun i hi=>Wd.eh h hi
 have h3:Uo s3 A H B S hasK AK cK:=Wd.wI (Wd.ext h (G.trans p.ext) w2) O w3 (x _ (Tx _));have er:((H.Tl:Nat):Int)-((dK H).2:Nat)=((dK H).1.Tl:Nat):=Q;have ac:H.Tl≤64:=by obtain⟨_,_,_,hi⟩:=g.UB;exact V4 hi.ok.We hi.ok.Xo
 have I:IntKind.i64.wrap (((H.Tl:Nat):Int)-((dK H).2:Nat))=((dK H).1.Tl:Nat):=by rw[er];exact bF Q
 simp (disch:=omega) only[go_sem,m.bC rfl,I,M,d.bC rfl,d.bN rfl,j];refine((HC.gQ (H':=(dK H).1) (P:=fun v A'=>v=.i (dK H).2∧A' .heap=A .heap) h3.hc fun s R=>(Pn R g).mono fun v s' ⟨a,A',b,c⟩=>⟨A',b,a,c⟩).gw w3).mono ?_;rintro _ s4 ⟨⟨A',h4,⟨rfl,hA⟩,kp⟩,w4⟩;have J:Uo s4 A' (dK H).1 B S hasK AK cK:=h4.X4 hA;have e:=kp.ah;have f:=e.Yl d (x _ (Tx _));have E:=e.Yl o (x _ Q);have nc:=e.nm o (x _ Q);have q:=il (hp:=A .heap) (ar:=ar) (c:=c) (tk:=tk) (us:=us) (md:=md) (b:=H.Tj) (l:=H.TB) (k:=H.Th) (r:=(dK H).1.Tl) U W K.Tr Z f4 f5;rw[j]at d f;obtain⟨s5,N,F,w5,p5⟩:=E.store w4 (off:=0) (vs:=U4 (A .heap) ar c cs tk us mk md H.Tj H.TB H.Th (dK H).1.Tl hv ot pc mks) Y q;have k5:s5.load (σ.next+2) 0 16=some (U4 (A .heap) ar c cs tk us mk md H.Tj H.TB H.Th (dK H).1.Tl hv ot pc mks):=by rw[F.load (off:=0) (k:=16) Q];rfl
 simp (disch:=omega) only[go_sem,d.bC rfl,d.bN rfl,f.bC rfl,f.bN rfl,N,k5];exact⟨by rw[j],A',hA,Wd.wI J p5 w5 nc,(((T5.ext (G.trans p.ext) w).put O (Tx _) w).trans e).put p5 Q w⟩
end
end
section
variable {σ σ' s:St}
structure Lo (s:St) (W:Nat -> Prop) (id n:Nat) (l:List V):Prop where
 UH:To s id n (Tn l)
 len:l.length=n
 nm:¬ W id
section
variable {W W':Nat -> Prop} {id n:Nat} {l:List V}
def Lo.cl(h:Lo s W id n l){j:Nat}(a:j<n):s.cell id j=l[j]?:=h.UH.bC h.len a
def Lo.ld(h:Lo s W id n l){j k:Nat}(a:j+k≤n):s.load id j k=some ((l.drop j).take k):=h.UH.bN h.len a
def Lo.T9(h:Lo σ W id n l)(k:T5 σ s W W'):Lo s W' id n l:=⟨k.Yl h.UH h.nm,h.len,k.nm h.UH h.nm⟩
def Lo.ext(h:Lo σ W id n l)(e:TP σ s)(w:GW σ):Lo s W id n l:=⟨h.UH.ext w e,h.len,h.nm⟩
def Lo.put{i:Nat}(h:Lo σ W id n l)(p:VL i σ s)(a:id≠i):Lo s W id n l:=⟨h.UH.put p a,h.len,h.nm⟩
def Lo.set{off:Nat}{vs:List V}(h:Lo s W id n l)(w:GW s)(f:off+vs.length≤n)(e:vs.all V.Tr=true):
  ∃s',s.store id off vs=some s'∧Lo s' W id n (l.take off++vs++l.drop (off+vs.length))∧GW s'∧VL id s s':=by
 obtain⟨s',a,b,c,d⟩:=h.UH.H7 h.len w f e;refine⟨s',a,⟨b,?_,h.nm⟩,c,d⟩;have:=h.len;simp only[UN,Va,Z5];omega
end
def NL(p:Nat):List V:=[.u p]
theorem B5(p:Nat):(NL p).length=1:=rfl
def Qs(p:Nat):List V:=[.i p]
theorem Lv(p:Nat):(Qs p).length=1:=rfl
def Ae{a:Type}{enc:a->List V}(l k:List a):fl enc (l++k)=fl enc l++fl enc k:=by unfold fl;rw[Yo]
def pU{a:Type}{enc:a->List V}(x:a):fl enc [x]=enc x:=by simp[fl]
section
variable {κ:Type} {hasK:κ -> Prop} {AK:κ -> Nat} {cK:κ -> cA} {A:Tu -> Nat} {H:aa} {B:AI -> Nat} {S:AS} {m:ML -> Li} {D:DT} {g:Gm} {E:List Nat} {N:Nat} {v:V}
structure VT (A:Tu -> Nat) (B:AI -> Nat) (H:aa) (S:AS) (m:ML -> Li) (g:Gm) (cs mk hv ot pc mks:V):Prop where
 ch:LM m .ch 2 S.Tm.length (fl gK S.Tm) cs
 ma:LM m .ma 4 S.ms.length (fl Dr S.ms) mk
 hd:LM m .hd 3 g.L.length (fl j6 g.L) hv
 ot:LM m .ot 1 g.O.length (fl NL g.O) ot
 pc:LM m .pc 3 g.P.length (fl j6 g.P) pc
 ks:LM m .mk 1 g.K.length (fl Qs g.K) mks
abbrev Uw(A:Tu->Nat)(B:AI->Nat)(H:aa)(S:AS)(cs mk hv ot pc mks:V):List V:=U4 (A .heap) (B .TA) S.TD cs S.Tz S.TI mk S.TW H.Tj H.TB H.Th H.Tl hv ot pc mks
structure jw (σ:St) (A:Tu -> Nat) (H:aa) (B:AI -> Nat) (S:AS) (m:ML -> Li) (hasK:κ -> Prop) (AK:κ -> Nat) (cK:κ -> cA) (D:DT) (g:Gm) (E:List Nat) (N:Nat) (v:V):Prop where
 w:TS σ A H B S m hasK AK cK
 ok:eP D H S g E N
 v:∃ cs mk hv ot pc mks,v=.agg (Uw A B H S cs mk hv ot pc mks)∧VT A B H S m g cs mk hv ot pc mks
def VH(σ s:St)(A:Tu->Nat)(H:aa)(B:AI->Nat)(S:AS)(m:ML->Li)(hasK:κ->Prop)(AK:κ->Nat)(cK:κ->cA)(D:DT)(g:Gm)(E:List Nat)(N:Nat)(y:V)(P:aa->AS->Gm->Prop):Prop:=
 ∃a b H' S' d c e,y=.tuple [e,.bool true]∧jw s a H' b S' d hasK AK cK D c E (N+1) e∧a .heap=A .heap∧b .TA=B .TA∧S'.TD=S.TD∧kx H H' E∧T5 σ s (UA H A S B m hasK AK) (UA H' a S' b d hasK AK)∧P H' S' c
def TS.eX{id:Nat}(h:TS σ A H B S m hasK AK cK)(p:VL id σ s)(w:GW s)(hn:¬UA H A S B m hasK AK id):TS s A H B S m hasK AK cK:=Wd.wI h p w hn
section
variable {cs mk hv ot pc mks x:V} {l:Li}
def VT.Ky(h:VT A B H S m g cs mk hv ot pc mks){L':List Hd}(y:LM (cu m .hd l) .hd 3 L'.length (fl j6 L') x):VT A B H S (cu m .hd l) { g with L:=L' } cs mk x ot pc mks:=
 ⟨h.ch.TN nofun,h.ma.TN nofun,y,h.ot.TN nofun,h.pc.TN nofun,h.ks.TN nofun⟩
def VT.QI(h:VT A B H S m g cs mk hv ot pc mks){L':List Nat}(y:LM (cu m .ot l) .ot 1 L'.length (fl NL L') x):VT A B H S (cu m .ot l) { g with O:=L' } cs mk hv x pc mks:=
 ⟨h.ch.TN nofun,h.ma.TN nofun,h.hd.TN nofun,y,h.pc.TN nofun,h.ks.TN nofun⟩
def VT.Pg(h:VT A B H S m g cs mk hv ot pc mks){L':List Hd}(y:LM (cu m .pc l) .pc 3 L'.length (fl j6 L') x):VT A B H S (cu m .pc l) { g with P:=L' } cs mk hv ot x mks:=
 ⟨h.ch.TN nofun,h.ma.TN nofun,h.hd.TN nofun,h.ot.TN nofun,y,h.ks.TN nofun⟩
def VT.Sk(h:VT A B H S m g cs mk hv ot pc mks){L':List Nat}(y:LM (cu m .mk l) .mk 1 L'.length (fl Qs L') x):VT A B H S (cu m .mk l) { g with K:=L' } cs mk hv ot pc x:=
 ⟨h.ch.TN nofun,h.ma.TN nofun,h.hd.TN nofun,h.ot.TN nofun,h.pc.TN nofun,y⟩
def VT.Te(h:VT A B H S m g cs mk hv ot pc mks){S':AS}(a:S'.Tm=S.Tm)(y:LM (cu m .ma l) .ma 4 S'.ms.length (fl Dr S'.ms) x):VT A B H S' (cu m .ma l) g cs x hv ot pc mks:=
 ⟨by rw[a];exact h.ch.TN nofun,y,h.hd.TN nofun,h.ot.TN nofun,h.pc.TN nofun,h.ks.TN nofun⟩
def VT.RL(h:VT A B H S m g cs mk hv ot pc mks){S':AS}(a:S'.ms=S.ms)(y:LM (cu m .ch l) .ch 2 S'.Tm.length (fl gK S'.Tm) x):VT A B H S' (cu m .ch l) g x mk hv ot pc mks:=
 ⟨y,by rw[a];exact h.ma.TN nofun,h.hd.TN nofun,h.ot.TN nofun,h.pc.TN nofun,h.ks.TN nofun⟩
def VT.re(h:VT A B H S m g cs mk hv ot pc mks){A':Tu->Nat}{B':AI->Nat}{H':aa}{S':AS}(a:S'.Tm=S.Tm)(b:S'.ms=S.ms):VT A' B' H' S' m g cs mk hv ot pc mks:=
 ⟨by rw[a];exact h.ch,by rw[b];exact h.ma,h.hd,h.ot,h.pc,h.ks⟩
end
def VT.Tr{cs mk hv ot pc mks:V}(h:VT A B H S m g cs mk hv ot pc mks)(A':Tu->Nat)(B':AI->Nat)(H':aa)(S':AS):(Uw A' B' H' S' cs mk hv ot pc mks).all V.Tr=true:=
 il h.ch.Tr h.ma.Tr h.hd.Tr h.ot.Tr h.pc.Tr h.ks.Tr
def VT.cells{cs mk hv ot pc mks:V}(h:VT A B H S m g cs mk hv ot pc mks):cs.cells=[cs]∧mk.cells=[mk]∧hv.cells=[hv]∧ot.cells=[ot]∧pc.cells=[pc]∧mks.cells=[mks]:=
 ⟨cV (by simpa using h.ch.Tr),cV (by simpa using h.ma.Tr),cV (by simpa using h.hd.Tr),cV (by simpa using h.ot.Tr),cV (by simpa using h.pc.Tr),cV (by simpa using h.ks.Tr)⟩
def LM.aa7{a:Type}{enc:a->List V}{i:ML}{z:Nat}{l:List a}{x:a}{v:V}(h:LM m i z (l.length+1) (fl enc l++enc x) v):LM m i z (l++[x]).length (fl enc (l++[x])) v:=by rw[UN,Ae,pU];exact h
def LM.eV{c:Type}{enc:c->List V}{z:Nat}(d:∀a,(enc a).length=z){i:ML}{l:List c}{q:Option (Nat×Nat)}{e k:Nat}(h:LM m i z l.length (fl enc l) (.slice q l.length e))(b:k≤l.length):LM m i z (l.take k).length (fl enc (l.take k)) (.slice q k e):=by
 have:=h.cut b;rw[zW d]at this
 rwa [Va,Xb b]
def lF{G O:List V}(h:TS σ A H B S m hasK AK cK)(g:G.length=16)(i:O.length=7){d:St}(f:d=((σ.ag G).ag O).new (.acM 16 zG .nil)):
  GW d∧TP σ d∧d.next=σ.next+3∧Lo d (UA H A S B m hasK AK) σ.next 16 G∧Lo d (UA H A S B m hasK AK) (σ.next+1) 7 O∧Lo d (UA H A S B m hasK AK) (σ.next+2) 16 zG:=by
 have X:=I7 h.gw g i;rw[<- f]at X;exact⟨X.w,X.e,X.n,⟨X.a,g,Wd.eh h (Tx _)⟩,⟨X.b,i,Wd.eh h Q⟩,⟨X.c,rfl,Wd.eh h Q⟩⟩
def DZ(G:jw σ A H B S m hasK AK cK D g E N v){wh mo:Int}{n al:Nat}{dn:Bool}{da:V}(c:da.cells=[da]):
  au G0 [] 84 [v,.agg (V7 8 wh mo n al dn da)] σ fun y s=>VH σ s A H B S m hasK AK cK D g E N y fun H' S' i=>S'=S∧i.P=g.P:=by
 obtain⟨h,ok,cs,mk,hv,ot,pc,mks,rfl,a⟩:=G;refine(E5 h ok.Uk (a.hd.ls h) ok.bk rfl a.ch.Tr a.ma.Tr a.ot.Tr a.pc.Tr a.ks.Tr c).mono ?_;rintro y s ⟨rfl,f,e,j,k⟩;obtain⟨d,b⟩:=ok.aaq;exact⟨f,B,(dK H).1,S,m,g,_,rfl,⟨j,d,cs,mk,hv,ot,pc,mks,by rw[Uw,e,b.Tj,b.TB,b.Th],⟨a.ch,a.ma,a.hd,a.ot,a.pc,a.ks⟩⟩,e,rfl,rfl,b,k,rfl,rfl⟩
end
end
end
section
variable {σ σ':St} {A:Tu -> Nat} {B:AI -> Nat} {H H':aa} {S S':AS}
def Mz{H:aa}{c:Nat}(h:c≤H.Tp):jv H (ie c):=⟨(fun b a=>nomatch (show b∈[]from a)),List.nodup_nil,VK _,abF _,h,(fun _=>rfl),(fun _=>rfl)⟩
def wR{b l o:Nat}(h:dV b l o):T3 (di b l o):=⟨⟨_,_,_,GU h⟩,(fun x hx=>absurd hx (by rw[show(di b l o).np=0*2^o from rfl,aaS];exact abz x)),rfl⟩
def sK:dV ((65536:Nat):Int) ((2:Nat):Int) ((1:Nat):Int):=by decide
def MY:(dX (di 65536 2 1) (ie 100) 1 1 false).2.2=(65536,0):=by kernel_rfl
def HS:(dX (di 65536 2 1) (ie 100) 1 1 false).2.1.Tm=[(65536,128)]:=by kernel_rfl
def NU:(dX (di 65536 2 1) (ie 100) 1 1 false).2.1.TI=1:=by kernel_rfl
def NI:(dX (di 65536 2 1) (ie 100) 1 1 false).2.1.Wk=false:=by kernel_rfl
def qJ(w:GW σ)(hw:Vv σ):au G0 [] 15 [] σ fun v s=>v=.bool true∧Vv s:=by
 refine ai g15 rfl ?_;obtain⟨v,Z,⟨_,m⟩,L⟩:=mL (b:=((65536:Nat):Int)) (l:=((2:Nat):Int)) (o:=((1:Nat):Int)) Q Q w hw;obtain⟨A,rfl,R1⟩:=m sK;have D:aw Z A (di 65536 2 1):=R1;have F:=wR sK;have Y:=wE sK;obtain⟨v,s2,hA,M⟩:=uM D Y (c:=100) Q;rw[Tg Q,Tg (by decide)]at hA;obtain⟨b,rfl,R2⟩:=hA;have ao:jv (di 65536 2 1) (ie 100):=Mz (by decide);obtain⟨v,s3,⟨A3,B3,j,ac,J,g⟩,N⟩:=Dx R2 F (ao.ok F) (n:=1) (a:=1) Q Q false;obtain⟨G,d⟩:=ao.alloc F (n:=1) (a:=1) Q Q false;have c1:=HS;have u1:=NU;have T:=NI;have C:=MY;obtain⟨X,hX⟩:=acH (dX (di 65536 2 1) (ie 100) 1 1 false);rw[<- hX]at j g G d c1 u1 T C;obtain⟨H1,E,p1,e1⟩:=X;simp only at j g G d c1 u1 T C;simp only[TU]at C;obtain⟨rfl,rfl⟩:=C;subst g;have hB:b=B3 .TA:=J.symm;have hS:=d.ok G;obtain⟨v,s4,⟨lb,R,H,_,L4,W4⟩,t⟩:=Hx (i0:=(.inr .T1:Tu ⊕ AI)) j hS (AR.c2 j) (fun h=>Wd.row j (i:=(Sum.inr AI.Tm:Tu ⊕ AI)) h rfl) (by
  show ¬(E.T1.isSome=true);unfold AS.T1;rw[T];simp)
 have e:E.Tm≠[]:=by rw[c1];simp
 have y:v=.acL lb 0 1 2:=by rw[R];unfold eO;rw[Tg e,c1];rfl
 have k:AR s4 A3 H1 B3 E:=Wd.Ui j H W4.gw;have U:=(L4 e).cell (i:=0) (by rw[c1];decide);have W:=(L4 e).cell (i:=1) (by rw[c1];decide);rw[c1]at U W;rw[show fy [(65536,128)] 0=.u 65536 from rfl]at U;rw[show fy [(65536,128)] 1=.u 128 from rfl]at W;obtain⟨v5,s5,⟨z,O⟩,f⟩:=Aw k;rw[O]at f;rw[u1]at z;obtain⟨v6,s6,⟨S,I⟩,x⟩:=BM k hS;have B:v6=.u 128:=by rw[S,c1];rfl
 subst y z B;have p:V5 G0 [] 16 [.agg [.u 65536,.i 2,.i 1]] σ _ Z:=L;rw[<- hB]at t f x;have q:V5 G0 [] 17 [.acK (A .heap) 0,.u 100] Z _ s2:=M;have r:V5 G0 [] 18 [.acK b 0,.u 1,.u 1,.bool false] s2 (.tuple [.u 65536,.i 0]) s3:=N;have hd:((1:Nat):Int)=1:=rfl;have K:(0:Int)≤0∧(0:Int)<1:=by decide
 have P:(0:Int).toNat=0:=rfl;have f1:bZ [V.u 0,.i 0,.i 0] [(0,1,V.u 65536),(1,1,V.i 2),(2,1,V.i 1)]=some [V.u 65536,.i 2,.i 1]:=rfl;simp only[go_sem,TV,Uq,Ug,kE,aG,f1];refine ab p ?_;simp only[go_sem,TV,Uq,Ug,kE];refine ab q ?_;simp only[go_sem,TV,Uq,Ug,kE];refine ab r ?_;simp only[go_sem,TV,Uq,Ug,kE];refine ab t ?_;simp only[go_sem,TV,Uq,Ug,kE,U,W,hd,K,P,Us];refine ab f ?_;simp only[go_sem,hd,TV,Uq,Ug,kE];refine ab x ?_;simp only[go_sem,hd,TV,Uq,Ug,kE];exact(k.Ub).fQ (I.TE _ (k.Ub.lt k.gw))
structure LJ (g:FuncId) (xs:Nat -> Nat -> List V) (H:aa) (S:AS) (H':aa) (S':AS) (P:V -> Prop):Prop where
 run:∀ {κ:Type} {hasK:κ -> Prop} {AK:κ -> Nat} {cK:κ -> cA} {σ:St} {A:Tu -> Nat} {B:AI -> Nat},Uo σ A H B S hasK AK cK →
  au G0 [] g (xs (A .heap) (B .TA)) σ fun r s=>P r∧∃ A' B',Uo s A' H' B' S' hasK AK cK∧A' .heap=A .heap∧B' .TA=B .TA
end
end
end Go.Proofs.YtlgmpheammbacaaGreatDoor
