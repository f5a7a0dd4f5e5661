import Derived.Test.YtlgmpheammbacaaGreatDoorPyj
set_option linter.all false
set_option maxRecDepth 1000000
attribute [local irreducible] AM.T.get AM.T.set
namespace Go.Proofs.YtlgmpheammbacaaGreatDoor
open AM Go
noncomputable section
section
variable {σ:St} {A:Tu -> Nat} {H H':aa} {fl pl fc:Nat -> List Nat} {hole hole':Nat -> Prop}
def Tv.Ga(h:Tv H fl pl fc hole)(e:∀x,x<H.np->(hole x↔hole' x)):Tv H fl pl fc hole' where
 ok:=h.ok
 pg x hx hn:=by obtain⟨k,g,q⟩:=h.pg x hx (fun c=>hn ((e x hx).1 c));refine⟨k,g,q.eC rfl fun y hy=>⟨rfl,rfl,fun f=>(q.all y hy).1 ((e y (nR q.le hx hy)).2 f)⟩⟩
 Uy k hk x:=by
  rw[h.Uy k hk x];constructor
  .rintro⟨a,b,d⟩;exact⟨a,fun f=>b ((e x a).2 f),d⟩
  rintro⟨a,b,d⟩;exact⟨a,fun f=>b ((e x a).1 f),d⟩
 VC:=h.VC
 Ve:=h.Ve
 bits:=h.bits
 sl x hx hn:=h.sl x hx (fun c=>hn ((e x hx).1 c))
 U0 c hc x:=by
  rw[h.U0 c hc x];constructor
  .rintro⟨a,b,d⟩;exact⟨a,fun f=>b ((e x a).2 f),d⟩
  rintro⟨a,b,d⟩;exact⟨a,fun f=>b ((e x a).1 f),d⟩
 VE:=h.VE
 Vy:=h.Vy
def tn(H:aa):H.Tp*H.Tl=4096*H.np:=by have:=od H;unfold aa.Ut at this;omega
def Dg{N k nwo i:Nat}{w:Nat->Nat}(hi:i<64*((N/2^(k+1)+63)/64)):(yc N k nwo w (i/64)).testBit (i%64)=(decide (i<N/2^(k+1)) && (decide (i<64*nwo) && (w (i/64)).testBit (i%64))):=by
 have hw:(if i/64<nwo then w (i/64)else 0).testBit (i%64)=(decide (i<64*nwo) && (w (i/64)).testBit (i%64)):=by
  by_cases c:i/64<nwo
  .rw[Ti c,UR (Q:i<64*nwo),WL]
  rw[Tg c,UK (Q:¬i<64*nwo),Zk,Nat.zero_testBit]
 unfold yc xi;generalize N/2^(k+1)=n at hi⊢;by_cases c:n%64≠0∧i/64=(n+63)/64-1
 .rw[Ti c,Nat.testBit_mod_two_pow,hw];have:(i%64<n%64)↔i<n:=Q;rw[Zw.2 this]
 rw[Tg c,hw];have:i<n:=Q;rw[UR this,WL]
def Tv.Vi(h:Tv H fl pl fc (fun _=>False))(z:H.Tl<H.TB):Tv H.Vi fl pl fc (fun x=>H.np≤x):=by
  have p:=ry H;have F:=aK H.Th;have f: ∀x,x<H.np->H.Vi.Tf x=H.Tf x:=fun x hx=>Ti hx
  have l: ∀x,x<H.np->∀i,i<4096->H.Vi.mem (4096*x+i)=H.mem (4096*x+i):=fun x hx i hi=>Ti (by rw[tn];omega)
  exact {
    ok:=AO h.ok z
    pg:=by intro x hx hn;have g:x<H.np:=Q;obtain⟨k,v,q⟩:=h.pg x g (fun e=>e);refine⟨k,v,q.eC rfl fun y hy=>?_⟩;have C:=nR q.le g hy;rw[f y C];exact⟨rfl,rfl,Q⟩
    Uy:=by
      intro k j x;rw[h.Uy k j x,p];constructor
      · rintro⟨a,b,d⟩;rw[f x a];exact⟨Q,Q,d⟩
      · rintro⟨a,b,d⟩;have hx:x<H.np:=Q
        rw[f x hx]at d;exact⟨hx,fun e=>e,d⟩
    VC:=h.VC
    Ve:=fun k j=>FL.VW (h.Ve k j) rfl rfl fun x hx=>l x ((h.Uy k j x).1 hx).1
    bits:=by
      intro k j i hi;have n:k<H.Th:=j;have J:(H.Tl+1)*2^H.Th=H.np+2^H.Th:=p;have w:i<64*(((H.Tl+1)*2^H.Th/2^(k+1)+63)/64):=hi;have e:H.Vi.Vq k i=(decide (i<(H.Tl+1)*2^H.Th/2^(k+1)) && (decide (i<64*H.nw k) && H.Vq k i)):=by rw[mJ,mJ];exact Dg w
      rw[e,J];have L:=aK k;obtain⟨m,A⟩:=DU H (k:=k+1) n;have t:=aK (k+1);have B:H.gm k=m:=by unfold aa.gm;rw[A,Yd _ t]
      have E:2*i*2^k=2^(k+1)*i:=by rw[XO,UF 2 i,YZ,UF,UF 2]
      have I:(2*i+1)*2^k=2^(k+1)*i+2^k:=by rw[UW,E,WH]
      by_cases c:i<m
      · have c1:i<(H.np+2^H.Th)/2^(k+1):=by
          refine(ab8 t).2 ?_;have:2^(k+1)*(i+1)≤2^(k+1)*m:=Xu _ c;rw[<- A,UF]at this;exact V4 this (abt _ _)
        have r:i<64*H.nw k:=by unfold aa.nw;rw[B];omega
        rw[UR c1,UR r,WL,WL];exact h.bits k n i r
      · have K:H.np≤2^(k+1)*i:=by rw[A];exact Xu _ Q
        have D:2*i*2^k ∉ fl k:=fun o=>by have:=((h.Uy k Q _).1 o).1;rw[E]at this;omega
        have G:(2*i+1)*2^k ∉ fl k:=fun o=>by have:=((h.Uy k Q _).1 o).1;rw[I]at this;omega
        rw[UK D,UK G];refine⟨?_,fun e=>D e.1⟩;by_cases r:i<64*H.nw k
        · have:=(h.bits k n i r).1;rw[UK D,UK G]at this;rw[this];simp
        · rw[UK r];simp
    sl:=by intro x hx hn j;have g:x<H.np:=Q;rw[f x g]at j;obtain⟨c,s⟩:=h.sl x g (fun e=>e) j;exact⟨c,s.eC rfl (by rw[f x g];exact UI.refl _) (l x g)⟩
    U0:=by
      intro c u x;rw[h.U0 c u x,p];constructor
      · rintro⟨a,b,d⟩;rw[f x a];exact⟨Q,Q,d⟩
      · rintro⟨a,b,d⟩;have hx:x<H.np:=Q
        rw[f x hx]at d;exact⟨hx,fun e=>e,d⟩
    VE:=h.VE
    Vy:=fun c u=>(h.Vy c u).congr rfl fun x hx=>by
      rw[f x ((h.U0 c u x).1 hx).1];exact⟨rfl,rfl⟩ }
def _root_.AM.aa.WD(H:aa):aa:=H.Vi.enter H.np H.Th
def Ma(H:aa)(p k:Nat)(a b:Int):(H.run p k a).run p k b=H.run p k b:=by
 have e:((H.run p k a).run p k b).Tf=(H.run p k b).Tf:=by
  funext x
  rw[rl,rl,rl];by_cases c:p≤x∧x<p+2^k
  .rw[Ti c,Ti c]
  rw[Tg c,Tg c,Tg c]
 show { H with Tf:=((H.run p k a).run p k b).Tf }={ H with Tf:=(H.run p k b).Tf };rw[e]
def H9(H:aa)(p k:Nat)(a:Int):(H.run p k a).enter p k=H.enter p k:=by show(((H.run p k a).run p k 0).eS k (H.Tk p))=(H.run p k 0).eS k (H.Tk p);rw[Ma]
structure uB (H H':aa):Prop where
 Tj:H'.Tj=H.Tj
 Th:H'.Th=H.Th
 TB:H'.TB=H.TB
 Tl:H'.Tl=H.Tl+1
 part:H'.part=H.part
 lock:H'.lock=H.lock
 held:∀ x,x<H.np -> ¬ eW H x -> H'.Tf x=H.Tf x∧∀ i,i<4096 -> H'.mem (4096*x+i)=H.mem (4096*x+i)
 Vf:∀ x,x<H.np -> eW H x -> eW H' x
 new:∀ x,H.np≤x -> x<H.np+2^H.Th -> eW H' x
def uB.np(h:uB H H'):H'.np=H.np+2^H.Th:=by unfold aa.np;rw[h.Tl,h.Th,UW,WH]
def uB.Tk(h:uB H H')(x:Nat):H'.Tk x=H.Tk x:=by unfold aa.Tk;rw[h.Tj]
def Tv.WD(h:Tv H fl pl fc (fun _=>False))(n:H.Tl<H.TB):
  Tv H.WD (fun j=>if j=H.Th then H.np ::fl H.Th else fl j) pl fc (fun _=>False)∧uB H H.WD:=by
 have r:=h.Vi n;have g:=ry H;have s:=aK H.Th;have al:H.np%2^H.Th=0:=by unfold aa.np;exact Xl _ _
 have ht:H.Vi.aM H.np H.Th=H.Vi:=by unfold aa.aM;exact Ti rfl
 have o:∀x,x/2^H.Th=H.np/2^H.Th->H.np≤x:=fun x hx=>((dB al).1 hx).1
 have q:=r.Bx (p:=H.np) (k:=H.Th) (Tx _) al (by rw[g];exact Tx _) o (fun e=>absurd e (XK _));have c:=r.mr (p:=H.np) (k:=H.Th) (Tx _) al o;have l:=iz H.Vi (p:=H.np) (k:=H.Th) al;rw[ht]at q c l;have sm:=c.T6;refine⟨?_,⟨sm.Tj,sm.Th,sm.TB,sm.Tl,c.part,c.lock,fun x hx f=>?_,fun x hx f=>?_,fun x t u=>?_⟩⟩
 .refine q.Ga fun x hx=>?_
  rw[sm.np,g]at hx;rw[dB al];constructor
  .rintro⟨a,b⟩;exact(b ⟨a,hx⟩).elim
  intro e;exact e.elim
 .have m:H.Vi.Tf x=H.Tf x:=Ti hx;obtain⟨a,b⟩:=c.held x Q Q (by unfold eW at f⊢;rw[m];exact f);exact⟨a.trans m,fun i hi=>(b i hi).trans (Ti (by rw[tn];omega))⟩
 .have m:H.Vi.Tf x=H.Tf x:=Ti hx;exact c.Vf x Q Q (by unfold eW at f⊢;rw[m];exact f)
 unfold eW;have e:=l x;rw[Ti ((dB al).2 ⟨t,u⟩)]at e;show((H.Vi.enter H.np H.Th).Tf x).kind=0∨((H.Vi.enter H.np H.Th).Tf x).kind=1;rw[e];by_cases d:x=H.np
 .rw[Ti d];exact .inl rfl
 rw[Tg d];exact .inr rfl
def _root_.AM.aa.fst(H:aa):Nat->Nat->Option Nat
 |_,0=>none
 |k,n+1=>if H.head k≠0 then some k else fst H (k+1) n
def oF{H:aa}:∀{n k:Nat},H.fst k n=none->∀j,k≤j->j<k+n->H.head j=0
 | 0,k,h,j,h1,h2=>Q
 |n+1,k,h,j,h1,h2=>by
  rw[aa.fst]at h;by_cases c:H.head k≠0
  .rw[Ti c]at h;cases h
  rw[Tg c]at h;by_cases e:j=k
  .subst e;simpa using c
  exact oF h j Q Q
def xB{H:aa}:∀{n k j:Nat},H.fst k n=some j->k≤j∧j<k+n∧H.head j≠0∧∀i,k≤i->i<j->H.head i=0
 | 0,k,j,h=>by cases h
 |n+1,k,j,h=>by
  rw[aa.fst]at h;by_cases c:H.head k≠0
  .rw[Ti c,TC]at h;subst h;exact⟨Tx _,Q,c,fun i l f=>Q⟩
  rw[Tg c]at h;obtain⟨a,b,d,e⟩:=xB h;refine⟨Q,Q,d,fun i l f=>?_⟩;by_cases g:i=k
  .subst g;simpa using c
  exact e i Q f
def _root_.AM.aa.gF(H:aa)(k:Nat):Option (aa×Nat):=
 (H.fst k (H.Th+1-k)).map fun j=>(H.XY k j ((H.head j-H.Tj)/4096) (H.UD (H.head j)),(H.head j-H.Tj)/4096)
structure vj (H H':aa) (k p:Nat):Prop where
 T6:H'.cJ H
 part:H'.part=H.part
 lock:H'.lock=H.lock
 al:p%2^k=0
 le:p+2^k≤H.np
 was:∀ x,x / 2^k=p / 2^k -> eW H x
 is:∀ x,x / 2^k=p / 2^k -> H'.Tf x=if x=p then cI 2 k else cI (2+1) k
 held:∀ x,x<H.np -> ¬ eW H x -> H'.Tf x=H.Tf x∧∀ i,i<4096 -> H'.mem (4096*x+i)=H.mem (4096*x+i)
 Vf:∀ x,x<H.np -> eW H x -> ¬ x / 2^k=p / 2^k -> eW H' x
def Tv.gF(h:Tv H fl pl fc (fun _=>False)){k:Nat}(C:k≤H.Th){p:Nat}(ht:H.gF k=some (H',p)):(∃i,Tv H' i pl fc (fun _=>False))∧vj H H' k p:=by
 unfold aa.gF at ht;cases b:H.fst k (H.Th+1-k)with
 |none=>rw[b]at ht;cases ht
 |some j=>
  rw[b]at ht;simp only[Xd,TC,TU]at ht;obtain⟨l,A,s,B⟩:=xB b;have a:=h.Ve j Q;cases g:fl j with
  |nil=>rw[g]at a;exact(s a.1).elim
  |cons q r=>
   rw[g]at a;have m:H.head j=H.Tk q:=a.1;have u:(H.head j-H.Tj)/4096=q:=by rw[m];unfold aa.Tk;omega
   obtain⟨v,f,n,D,o,w,y,E,z⟩:=h.XY l Q g;have hw:H.UD (H.head j)=Uz H r 0:=by rw[m];exact z.next
   rw[u,hw]at ht;obtain⟨rfl,rfl⟩:=ht;have t:2^k≤2^j:=Vb Q l;have d:q%2^k=0:=Yc (WE (XN 2 l) (WQ n));have sub:∀x,x/2^k=q/2^k->x/2^j=q/2^j:=fun x hx=>by rw[dB d]at hx;rw[dB n];omega
   refine⟨v,f.T6,f.part,f.lock,d,Q,fun x hx=>o x (sub x hx),y,fun x hx b=>?_,fun x hx b hn=>?_⟩
   .exact f.held x hx (fun e=>b (o x e)) b
   by_cases c:x/2^j=q/2^j
   .exact w x c hn
   exact f.Vf x hx c b
def FG(l:aw σ A H)(h:Tv H fl pl fc (fun _=>False)){k:Nat}(w:k≤H.Th):
  au G0 [] 248 [.acK (A .TO) 0,.i k] σ fun r s=>(H.gF k=none∧s=σ∧r=.tuple [.u 0,.i 2])∨∃H' p,H.gF k=some (H',p)∧aw s A H'∧r=.tuple [.u (H.Tk p),.i 0]:=by
 cases e:H.fst k (H.Th+1-k)with
 |none=>
  refine(Me l h.ok w fun j d n=>oF e j d Q).mono ?_;rintro v s ⟨a,b⟩;refine .inl ⟨?_,b,a⟩;unfold aa.gF;rw[e];rfl
 |some j=>
  obtain⟨d,n,o,t⟩:=xB e;have c:=h.Ve j Q;cases f:fl j with
  |nil=>rw[f]at c;exact(o c.1).elim
  |cons q r=>
   rw[f]at c;have g:H.head j=H.Tk q:=c.1;have x:(H.head j-H.Tj)/4096=q:=by rw[g];unfold aa.Tk;omega
   obtain⟨C,D,y,z,E,F,G,B,m⟩:=h.XY d Q f;have hw:H.UD (H.head j)=Uz H r 0:=by rw[g];exact m.next
   refine(Pd l h.ok (k:=k) (j:=j) (p:=q) (nx:=Uz H r 0) d Q t g z y m B).mono ?_;rintro v s ⟨a,b⟩;refine .inr ⟨_,_,?_,a,b⟩;unfold aa.gF;rw[e];simp only[Xd,x,hw]
def _root_.AM.aa.dU(H:aa)(k:Nat)(a:Bool):aa×Option Nat:=
 match H.gF k with
 |some x=>(x.1,some x.2)
 |none=>if a=true∨H.Tl=H.TB then(H,none)else match H.WD.gF k with
  |some x=>(x.1,some x.2)
  |none=>(H.WD,none)
def xL(A A':Tu->Nat):Prop:=∀t,(∀i,t≠.UE i)->t≠.T0->(∀k,t≠.Uf k)->t≠.aU->A' t=A t
def xL.refl(A:Tu->Nat):xL A A:=fun _ _ _ _ _=>rfl
def FH(w:aw σ A H)(h:Tv H fl pl fc (fun _=>False)){k:Nat}(hk:k≤H.Th)(d:Bool):
  au G0 [] 205 [.acK (A .Ud) 0,.i k,.bool d] σ fun r s=>(∃A',xL A A'∧aw s A' (H.dU k d).1)∧
   match (H.dU k d).2 with
   |some p=>∃g,r=.tuple [.u (H.Tk p),.bool g,.i 0]
   |none=>r=.tuple [.u 0,.bool false,.i 2]:=by
 obtain⟨v,s1,ht,T⟩:=FG w h hk;rcases ht with⟨X,rfl,rfl⟩|⟨H',p,X,L,rfl⟩
 .unfold aa.dU;rw[X];simp only;by_cases c:d=true∨H.Tl=H.TB
  .rw[Ti c];obtain⟨v,s2,⟨rfl,rfl⟩,U⟩:=HH w h.ok c;refine(NZ (P:=fun s=>s=s2) w (e:=2) (x:=0) (by decide) ⟨_,_,⟨rfl,rfl⟩,T⟩ ⟨_,_,⟨rfl,rfl⟩,U⟩).mono ?_;rintro v s ⟨rfl,rfl⟩;exact⟨⟨A,xL.refl A,w⟩,rfl⟩
  rw[Tg c];have hd:d=false:=by cases d;rfl;exact(c (.inl rfl)).elim
  subst hd;have n:H.Tl<H.TB:=by have:=h.ok.We;omega
  obtain⟨hf,D⟩:=h.WD n;have O:k≤H.WD.Th:=by rw[D.Th];exact hk
  have B:∃x,H.WD.gF k=some x:=by
   cases hx:H.WD.gF k with
   |some x=>exact⟨x,rfl⟩
   |none=>
    unfold aa.gF at hx;rw[aaT]at hx;have:=oF hx H.Th Q (by rw[D.Th];omega);have l:=hf.Ve H.Th (by rw[D.Th];exact Tx _);rw[Ti rfl]at l;have h1:H.WD.head H.Th=H.WD.Tk H.np:=l.1;rw[this]at h1;exact absurd h1.symm (kW (by rw[D.Tj];exact h.ok.Wc) _)
  obtain⟨⟨H2,p⟩,hx⟩:=B;rw[hx];simp only;have hP:=Nf (k:=.i k) (d:=.bool false) (a:=(H.Tk p:Nat)) (x:=(H.Ut:Nat)) (m:=A .map) (P:=fun s=>∃A',xL A A'∧aw s A' H2) w ⟨_,_,⟨rfl,rfl⟩,T⟩ ?_
  .refine hP.mono ?_;rintro v s ⟨a,rfl⟩;exact⟨a,⟨_,rfl⟩⟩
  refine(Lp w h.ok n).mono ?_;rintro v s ⟨⟨Z,L,j⟩,rfl⟩;refine⟨⟨?_,?_⟩,rfl⟩
  .have:=L.gE (s:=.Ud) (.inl trivial) (i:=1) (Q:1<3);rw[j .Ud Y Y]at this;rw[this,show cC H Z .Ud 1=.acK (Z .map) 0 from rfl,j .map Y Y]
  have hg:=Qc h.ok n L;rw[j .map Y Y]at hg;refine hg.mono ?_;rintro v s2 ⟨⟨M,R2,N⟩,rfl⟩;have W:xL A M:=fun t a b c d=>(N t c d).trans (j t (a _) b)
  have J:=W .Ud Y Y Y Y;have o:=W .TO Y Y Y Y;have c1:s2.cell (A .Ud) 2=some (.acK (A .TO) 0):=by have:=jG R2;rw[J,o]at this;exact this
  refine⟨c1,?_⟩;have R:=h.Vi n;have S:=ry H;have I:=ti (p:=H.np) (k:=H.Th) (kind:=2) R.ok;have al:H.np%2^H.Th=0:=by unfold aa.np;exact Xl _ _
  have ac:=aK H.Th;have F:(H.Vi.run H.np H.Th 2).np=H.np+2^H.Th:=S;have f:(H.Vi.run H.np H.Th 2).np-2^(H.Vi.run H.np H.Th 2).Th=H.np:=by rw[F];show H.np+2^H.Th-2^H.Th=H.np;omega
  have y:=rJ (H:=H.Vi) (kind:=2) al (x:=H.np) rfl;rw[Ti al]at y;have z:(H.Vi.run H.np H.Th 2).lH (H.Vi.run H.np H.Th 2).Th:=by
   have l:FL (H.Vi.run H.np H.Th 2) H.Th (fl H.Th):=FL.aU (R.Ve H.Th (Tx _));refine l.Ba fun q hq=>iq I ?_ Q
   have:=((R.Uy H.Th (Tx _) q).1 hq).1;exact this
  have E:=PY R2 I (Q:0<H.Tl+1) (by rw[f];exact y.2) (by rw[f];exact y.1) z;rw[f,o]at E;refine E.mono ?_;rintro v s3 ⟨R3,rfl⟩;have C:aw s3 M H.WD:=by have e:(H.Vi.run H.np H.Th 2).enter H.np (H.Vi.run H.np H.Th 2).Th=H.WD:=H9 H.Vi H.np H.Th 2;rw[<- e];exact R3
  refine⟨?_,?_⟩
  .have:=jG C;rw[J,o]at this;exact this
  obtain⟨v,s4,V,G⟩:=FG C hf O;rw[o]at G;rcases V with⟨K,_,_⟩|⟨H3,p3,K,R4,hv⟩
  .rw[hx]at K;cases K
  rw[hx,TC,TU]at K;obtain⟨rfl,rfl⟩:=K;rw[D.Tk]at hv;exact⟨v,s4,⟨⟨M,W,R4⟩,hv⟩,G⟩
 unfold aa.dU;rw[X];simp only;refine(Qn (P:=fun s=>aw s A H') w (e:=0) (by decide) ⟨_,_,⟨L,rfl⟩,T⟩).mono ?_;rintro v s ⟨a,rfl⟩;exact⟨⟨A,xL.refl A,a⟩,⟨_,rfl⟩⟩
def _root_.AM.aa.wK(H:aa)(p c f:Nat):Int:=if H.UD (H.Tk p+f*(16*2^c))=0 then -1 else(((H.UD (H.Tk p+f*(16*2^c))-H.Tk p)/(16*2^c):Nat):Int)
def _root_.AM.aa.fR(H:aa)(c:Nat)(a:Bool):aa×Option (Nat×Nat):=
 if 0≤H.part c then(H.Tz (H.part c).toNat c (H.Tf (H.part c).toNat).first.toNat (H.wK (H.part c).toNat c (H.Tf (H.part c).toNat).first.toNat),some ((H.part c).toNat,(H.Tf (H.part c).toNat).first.toNat))
 else match (H.dU 0 a).2 with
  |some p=>(((H.dU 0 a).1.born p c).Tz p c 0 1,some (p,0))
  |none=>((H.dU 0 a).1,none)
def Tv.wK(h:Tv H fl pl fc hole){p c f:Nat}{r:List Nat}(a:c<8)(hp:p∈pl c)(j:fc p=f ::r):H.wK p c f=Ux r (-1):=by
 obtain⟨d,e,g,i,k⟩:=(h.U0 c a p).1 hp;have s:=h.Ua d e g i;rw[j]at s;have hs:=s.ZC.1;have hw:=(w8 a).2.1;unfold aa.wK;cases r with
 |nil=>rw[Ti hs];rfl
 |cons q r=>
  have b:H.UD (H.Tk p+f*(16*2^c))=H.Tk p+q*(16*2^c):=hs;have ha:=kW h.ok.Wc p;rw[b,Tg Q,Z9,WG _ Q];rfl
def Tv.oP(h:Tv H fl pl fc (fun _=>False)){c:Nat}(k:c<8)(hp:0≤H.part c):∃(p f:Nat) (r:List Nat),H.part c=(p:Int)∧p∈pl c∧fc p=f ::r∧(H.Tf p).first=(f:Int)∧p<H.np∧(H.Tf p).kind=4∧(H.Tf p).TQ=(c:Int):=by
 have a:=h.Vy c k;cases b:pl c with
 |nil=>rw[b]at a;have e:H.part c=-1:=a.1;omega
 |cons p l=>
  rw[b]at a;have e:H.part c=(p:Int):=a.1;have m:p∈pl c:=by rw[b];simp
  obtain⟨g,n,i,j,o⟩:=(h.U0 c k p).1 m;cases d:fc p with
  |nil=>exact(o d).elim
  |cons f r=>
   have s:=h.Ua g n i j;rw[d]at s;exact⟨p,f,r,e,by rw[<- b];exact m,d,s.first,g,i,j⟩
def Tv.uO(h:Tv H fl pl fc hole){c:Nat}(d:c<8)(hp:¬0≤H.part c):H.part c=-1∧pl c=[]:=by
 have a:=h.Vy c d;cases b:pl c with
 |nil=>rw[b]at a;exact⟨a.1,rfl⟩
 |cons p l=>rw[b]at a;have e:H.part c=(p:Int):=a.1;omega
inductive eR (H:aa) (k:Nat) (deny:Bool):aa -> Option Nat -> Prop where
 |TE {H':aa} {p:Nat}:H.gF k=some (H',p) -> vj H H' k p -> eR H k deny H' (some p)
 |Yu {H':aa} {p:Nat}:H.gF k=none -> deny=false -> H.Tl<H.TB -> uB H H.WD -> vj H.WD H' k p -> eR H k deny H' (some p)
 |none:H.gF k=Option.none -> (deny=true∨H.Tl=H.TB) -> eR H k deny H Option.none
def Tv.dU(h:Tv H fl pl fc (fun _=>False)){k:Nat}(m:k≤H.Th)(d:Bool):eR H k d (H.dU k d).1 (H.dU k d).2∧∃f,Tv (H.dU k d).1 f pl fc (fun _=>False):=by
 unfold aa.dU;cases ht:H.gF k with
 |some x=>
  obtain⟨H',p⟩:=x;obtain⟨g,i⟩:=h.gF m ht;exact⟨.TE ht i,g⟩
 |none=>
  simp only;by_cases c:d=true∨H.Tl=H.TB
  .rw[Ti c];exact⟨.none ht c,fl,h⟩
  rw[Tg c];have hd:d=false:=by cases d;rfl;exact(c (.inl rfl)).elim
  have e:H.Tl<H.TB:=by have:=h.ok.We;omega
  obtain⟨l,a⟩:=h.WD e;cases hx:H.WD.gF k with
  |none=>
   unfold aa.gF at hx;rw[aaT]at hx;have:=oF hx H.Th Q (by rw[a.Th];omega);have b:=l.Ve H.Th (by rw[a.Th];exact Tx _);rw[Ti rfl]at b;have j:H.WD.head H.Th=H.WD.Tk H.np:=b.1;rw[this]at j;exact absurd j.symm (kW (by rw[a.Tj];exact h.ok.Wc) _)
  |some x=>
   obtain⟨H',p⟩:=x;obtain⟨g,i⟩:=l.gF (by rw[a.Th];exact m) hx;exact⟨.Yu ht hd e a i,g⟩
def eR.Tj{k:Nat}{d:Bool}{H':aa}{o:Option Nat}(h:eR H k d H' o):H'.Tj=H.Tj∧H'.Th=H.Th∧H'.TB=H.TB∧H'.part=H.part∧H'.lock=H.lock∧∀p,o=some p->p+2^k≤H'.np:=by
 cases h with
 |TE _ t=>exact⟨t.T6.Tj,t.T6.Th,t.T6.TB,t.part,t.lock,fun p e=>by cases e;rw[t.T6.np];exact t.le⟩
 |Yu _ _ _ g t=>exact⟨t.T6.Tj.trans g.Tj,t.T6.Th.trans g.Th,t.T6.TB.trans g.TB,t.part.trans g.part,t.lock.trans g.lock,fun p e=>by cases e;rw[t.T6.np];exact t.le⟩
 |none _ _=>exact⟨rfl,rfl,rfl,rfl,rfl,fun p e=>by cases e⟩
def eR.is{k p:Nat}{d:Bool}{H':aa}(h:eR H k d H' (some p)):p%2^k=0∧∀x,x/2^k=p/2^k->H'.Tf x=if x=p then cI 2 k else cI (2+1) k:=by
 cases h with
 |TE _ t=>exact⟨t.al,t.is⟩
 |Yu _ _ _ g t=>exact⟨t.al,t.is⟩
def eR.KV{p:Nat}{d:Bool}{H':aa}(h:eR H 0 d H' (some p))(hi:Tv H' fl pl fc (fun _=>False)):p<H'.np∧kc H' (fun _=>False) p 0 2:=by
 have i:=h.Tj.2.2.2.2.2 p rfl;have b:p<H'.np:=by have:(2:Nat)^0=1:=rfl;omega
 obtain⟨k,c,g⟩:=hi.pg p b (fun e=>e);have e:=h.is.2 p rfl;rw[Ti rfl]at e;have f:k=0:=by have a:=g.Th;rw[e]at a;have j:(0:Int)=(k:Int):=a;omega
 subst f;obtain⟨rfl,_⟩:=g.Xi (by rw[e];rfl);exact⟨b,g⟩
def JU(w:aw σ A H)(h:Tv H fl pl fc (fun _=>False)){c:Nat}(e:c<8)(d:Bool):
  au G0 [] 203 [.acK (A .Ua) 0,.i c,.bool d] σ fun r s=>(∃A',xL A A'∧aw s A' (H.fR c d).1)∧
   match (H.fR c d).2 with
   |some x=>∃g,r=.tuple [.u (H.Tk x.1+x.2*(16*2^c):Nat),.bool g,.i 0]
   |none=>r=.tuple [.u 0,.bool false,.i 2]:=by
 unfold aa.fR;by_cases y:0≤H.part c
 .rw[Ti y];obtain⟨p,f,r,o,n,I,S,_⟩:=h.oP e y;have N:(H.part c).toNat=p:=Q;have O:(H.Tf p).first.toNat=f:=Q;rw[N,O,h.wK e n I];refine(NW w h.ok o (h.zK e n I)).mono ?_;rintro v s ⟨a,rfl⟩;exact⟨⟨A,xL.refl A,a⟩,⟨_,rfl⟩⟩
 rw[Tg y];obtain⟨o,T⟩:=h.uO e y;obtain⟨B,P,z⟩:=h.dU (VK _) d;have b:=FH w h (VK H.Th) d;cases J:(H.dU 0 d).2 with
 |none=>
  rw[J]at b;simp only at b⊢;have l:au G0 [] 205 [.acK (A .Ud) 0,.i 0,.bool d] σ fun r s=>(∃A',xL A A'∧aw s A' (H.dU 0 d).1)∧r=.tuple [.u (0:Nat),.bool false,.i 2]:=b
  exact Je (x:=0) w h.ok e o (by decide) l
 |some p=>
  rw[J]at b B;simp only at b⊢;obtain⟨v,s,⟨⟨A',L,M⟩,g,rfl⟩,U⟩:=b;have G:=B.Tj;obtain⟨q,R⟩:=B.KV z;have F:(H.dU 0 d).1.Tk p=H.Tk p:=by unfold aa.Tk;rw[G.1]
  have k:=z.born q e R T;obtain⟨K,W,V,X⟩:=k;have Z:=(w8 e).2.2.2.1;have E:p∈(fun j=>if j=c then [p]else pl j) c:=by simp
  have C:(fun x=>if x=p then List.range' 0 (256/2^c)else fc x) p=0 ::List.range' 1 (256/2^c-1):=by
   simp only[TT];obtain⟨m,n⟩:∃m,256/2^c=m+1:=⟨256/2^c-1,Q⟩
   rw[n,Ya];rfl
  have t:=K.zK e E C;have D:Ux (List.range' 1 (256/2^c-1)) (-1)=1:=by
   obtain⟨m,n⟩:∃m,256/2^c=m+2:=⟨256/2^c-2,Q⟩
   rw[n,(Q:m+2-1=m+1),Ya];rfl
  rw[D]at t;refine(JN (A':=A') (H':=(H.dU 0 d).1) (f:=0) (nf:=1) w e o (L .Ua Y Y Y Y) z.ok q (by rw[G.2.2.2.1];exact o) (g:=g) ⟨_,s,⟨M,by rw[F]⟩,U⟩ t K.ok (V.Tk p)).mono ?_;rintro v s ⟨a,rfl⟩;exact⟨⟨A',L,a⟩,⟨_,by rw[F]⟩⟩
def _root_.AM.aa.lG(H:aa)(p c q:Nat):aa:=if(H.Tf p).Ty=1 then(H.gN p c q).iV (H.gN p c q).Th p 0 else H.V1 p c q
def J4(n:aw σ A H)(h:Tv H fl pl fc (fun _=>False)){p c q:Nat}(hp:p<H.np)(j:(H.Tf p).kind=4)(a:(H.Tf p).TQ=(c:Int))(l:q<256/2^c)(g:(H.Tf p).Uc q=1):
  au G0 [] 173 [.acK (A .Ua) 0,.u (H.Tk p+q*(16*2^c):Nat)] σ fun r s=>aw s A (H.lG p c q)∧r=.i 0:=by
 refine Nb n h.ok (h.Pa hp (fun e=>e) j a l g) (fun b s R=>?_) (fun b s R=>?_)
 .obtain⟨⟨o,m⟩,t,v,d,f⟩:=h.gN hp (fun e=>e) j a l g b;unfold aa.lG;rw[Ti b];refine Ge R ?_;have:=Jd (p:=p) (k:=0) R m (by rw[f.np];exact hp) (by rw[d];rfl) (by rw[d];rfl);rw[f.Tk]at this;exact this
 unfold aa.lG;rw[Tg b];exact⟨R,rfl⟩
end
section
structure dV (b l o:Int):Prop where
 o0:0≤o
 o8:o≤8
 l1:1≤l
 l64:l≤64
 aU:l*2^o.toNat≤1024
 b0:b≠0
 al:b%(4096*2^o.toNat)=0
 Uv:4096*2^o.toNat*l+b≤9223372036854775808
instance (b l o:Int):Decidable (dV b l o) :=
 decidable_of_iff (0≤o∧o≤8∧1≤l∧l≤64∧l*2^o.toNat≤1024∧b≠0∧b%(4096*2^o.toNat)=0∧4096*2^o.toNat*l+b≤9223372036854775808)
  ⟨fun⟨a,b,c,d,e,f,g,h⟩=>⟨a,b,c,d,e,f,g,h⟩,fun h=>⟨h.o0,h.o8,h.l1,h.l64,h.aU,h.b0,h.al,h.Uv⟩⟩
theorem fC{a b c:V}:[a,b,c].length=3:=rfl
variable {σ:St}
def Uu(b l o:Int):V:=.agg [.u b,.i l,.i o]
def m7(σ:St)(b l o:Int):To (σ.ag [.u b,.i l,.i o]) σ.next 3 (Tn [.u b,.i l,.i o]):=To.cg σ _
def QO{b l o:Int}(O:0≤b)(S:b<18446744073709551616)(hw:GW σ):
  au G0 [] 161 [Uu b l o] σ fun v σ'=>v=.bool (decide (dV b l o))∧σ'=σ.ag [.u b,.i l,.i o]:=by
 refine ai g161 rfl ?_;have B:=m7 σ b l o;generalize hs:σ.ag [.u b,.i l,.i o]=q at B;have j:q.cell σ.next 0=some (.u b):=B.cell (i:=0) Q;have d:q.cell σ.next 1=some (.i l):=B.cell (i:=1) Q;have e:q.cell σ.next 2=some (.i o):=B.cell (i:=2) Q;by_cases g:o<0
 .have hn:¬dV b l o:=fun h=>by have:=h.o0;omega
  simp only[go_sem,Uu,aj,fC,hs,j,d,e,g,hn]
 by_cases c1:8<o
 .have hn:¬dV b l o:=fun h=>by have:=h.o8;omega
  simp only[go_sem,Uu,aj,fC,hs,j,d,e,g,c1,hn]
 by_cases p:l<1
 .have hn:¬dV b l o:=fun h=>by have:=h.l1;omega
  simp only[go_sem,Uu,aj,fC,hs,j,d,e,g,c1,p,hn]
 by_cases r:64<l
 .have hn:¬dV b l o:=fun h=>by have:=h.l64;omega
  simp only[go_sem,Uu,aj,fC,hs,j,d,e,g,c1,p,r,hn]
 obtain⟨k,rfl⟩:∃k:Nat,o=(k:Int):=⟨o.toNat,Q⟩
 obtain⟨m,rfl⟩:∃m:Nat,l=(m:Int):=⟨l.toNat,Q⟩
 obtain⟨n,rfl⟩:∃n:Nat,b=(n:Int):=⟨b.toNat,Q⟩
 have H:2^k≤256:=by
  have:(2:Nat)^k≤2^8:=Vb Q Q
  simpa using this
 have I:0<2^k:=Ye Q;have P:m*2^k≤64*256:=Nat.mul_le_mul Q H;have t:jc .i64 (m:Int) (k:Int)=((m*2^k:Nat):Int):=oU Q Q;have w:jc .u64 (4096:Int) (k:Int)=((4096*2^k:Nat):Int):=gP (a:=4096) Q Q;have f:(0:Int)≤(k:Int):=Q;have x:((m*2^k:Nat):Int)=(m:Int)*2^k:=by simp
 have y:((4096*2^k:Nat):Int)=4096*2^k:=by simp
 have z:((4096*2^k*m:Nat):Int)=4096*2^k*(m:Int):=by simp
 have c:dV n m k↔m*2^k≤1024∧n≠0∧n%(4096*2^k)=0∧4096*2^k*m+n≤9223372036854775808:=by
  constructor
  .intro h;have d:=h.aU;have e:=h.al;have E:=h.Uv;have N:=h.b0;simp only[TZ]at d e E;rw[<- x]at d;rw[<- y]at e;rw[<- z]at E;exact⟨Q,Q,Q,Q⟩
  rintro⟨d,e,E,N⟩;refine⟨Q,Q,Q,Q,?_,Q,?_,?_⟩ <;> simp only[TZ]
  .rw[<- x];omega
  .rw[<- y];omega
  rw[<- z];omega
 by_cases s:(1024:Int)<((m*2^k:Nat):Int)
 .have hn:¬dV n m k:=fun h=>by have:=(c.1 h).1;omega
  simp only[go_sem,Uu,aj,fC,hs,j,d,e,g,c1,p,r,aT,f,t,w,s,hn]
 have F:((4096*2^k:Nat):Int)≠0:=Q;by_cases A:(n:Int)=0
 .have hn:¬dV n m k:=fun h=>by have:=(c.1 h).2.1;omega
  have hd:decide ((n:Int)≠0)=false:=by simp[A]
  simp only[go_sem,Uu,aj,fC,hs,j,d,e,g,c1,p,r,aT,f,t,w,s,hd,hn]
 have D:(n:Int).tmod ((4096*2^k:Nat):Int)=((n%(4096*2^k):Nat):Int):=aW _ _;by_cases C:((n%(4096*2^k):Nat):Int)=0
 .by_cases G:(n:Int)≤9223372036854775808
  .have J:IntKind.u64.wrap (m:Int)=(m:Int):=bm Q;have R:4096*2^k*m≤4096*256*64:=Nat.mul_le_mul (Xu _ H) Q;have K:IntKind.u64.wrap (((4096*2^k:Nat):Int)*(m:Int))=((4096*2^k*m:Nat):Int):=gV Q;have L:IntKind.u64.wrap (9223372036854775808-(n:Int))=((9223372036854775808-n:Nat):Int):=bK (a:=9223372036854775808) Q Q;have M:decide (((4096*2^k*m:Nat):Int)≤((9223372036854775808-n:Nat):Int))=decide (dV n m k):=by
    rw[Zw,c];constructor
    .intro h;exact⟨Q,Q,Q,Q⟩
    rintro⟨_,_,_,h⟩;omega
   simp only[go_sem,Uu,aj,fC,hs,j,d,e,g,c1,p,r,aT,f,t,w,s,A,aZ,F,D,C,G,J,K,L,M,TV,Ug,Uq]
  have hn:¬dV n m k:=fun h=>by have:=(c.1 h).2.2.2;omega
  simp only[go_sem,Uu,aj,fC,hs,j,d,e,g,c1,p,r,aT,f,t,w,s,A,aZ,F,D,C,G,TV,Ug,Uq,hn]
 have hn:¬dV n m k:=fun h=>by have:=(c.1 h).2.2.1;omega
 simp only[go_sem,Uu,aj,fC,hs,j,d,e,g,c1,p,r,aT,f,t,w,s,A,aZ,F,D,C,TV,Ug,Uq,hn]
end
section
variable {σ σ':St} {A:Tu -> Nat} {has:Tu -> Prop} {size:Tu -> Nat} {cell:Tu -> Nat -> V} {H:aa}
def dW.add(h:dW σ has A size cell){s0:Tu}(hs:¬has s0){b n:Nat}{f:Nat->V}(L:To σ b n f)(i:∀t,has t->A t≠b):
  dW σ (fun t=>has t∨t=s0) (TN A s0 b) (TN size s0 n) (TN cell s0 f):=by
 have hn:∀s,has s->s≠s0:=fun s a e=>hs (e▸a)
 obtain⟨m,z,t,q,l,p⟩:=L;refine⟨h.gw,h.Ub,?_,?_,?_⟩
 .rintro a c (ha|rfl) (g|rfl) e
  .rw[ae (hn a ha),ae (hn c g)]at e;exact h.inj a c ha g e
  .rw[ae (hn a ha),an]at e;exact(i a ha e).elim
  .rw[ae (hn c g),an]at e;exact(i c g e.symm).elim
  rfl
 .rintro a (ha|rfl)
  .rw[ae (hn a ha),ae (hn a ha),ae (hn a ha)];exact h.row a ha
  rw[an,an,an];exact⟨0,m,z,t,q,l,p⟩
 rintro a c o (ha|rfl) g j d hg
 .rw[ae (hn a ha)]at d;rcases g with g|rfl
  .rw[ae (hn c g)];exact h.cut a c o ha g j d hg
  rw[an];intro k;have:=h.gw.TG _ _ _ k l rfl;exact hg this.symm
 rw[an,l]at d;simp only[TC]at d;subst d;exact absurd rfl hg
def dW.none(w:GW σ)(hw:Vv σ)(A:Tu->Nat)(size:Tu->Nat)(cell:Tu->Nat->V):dW σ (fun _=>False) A size cell:=
 ⟨w,hw,fun _ _ h=>h.elim,fun _ h=>h.elim,fun _ _ _ h=>h.elim⟩
theorem Rs{a b c d e:V}:[a,b,c,d,e].length=5:=rfl
def nY{id:Nat}{b l o:Int}(h:To σ id 3 (Tn [.u b,.i l,.i o])):σ.load id 0 3=some [.u b,.i l,.i o]:=by rw[h.load Q];rfl
def KL{b l o:Int}(n:0≤b)(y:b<18446744073709551616)(hw:GW σ):
  au G0 [] 117 [Uu b l o] σ fun v σ'=>aH σ σ'∧GW σ'∧(dV b l o->∃s,v=.tuple [.acK s 0,.i 0]∧σ.next≤s∧To σ' s 5 (Tn [.u b,.i l,.i o,.u (jc .u64 4096 o),.acJ]))∧(¬dV b l o->v=.tuple [.ptr none,.i 1]):=by
 refine ai g117 rfl ?_;have q:=m7 σ b l o;have c:GW (σ.ag [.u b,.i l,.i o]):=hw.new _ rfl;have g:aH σ (σ.ag [.u b,.i l,.i o]):=aH.new σ _;generalize hs:σ.ag [.u b,.i l,.i o]=m at q c g;have r:=nY q;obtain⟨v,a,⟨rfl,f⟩,z⟩:=QO (l:=l) (o:=o) n y c;have j:To a σ.next 3 (Tn [.u b,.i l,.i o]):=by rw[f];exact q.Ui c (aH.new m _)
 have e:aH σ a:=g.trans (by rw[f];exact aH.new m _);have k:GW a:=by rw[f];exact c.new _ rfl
 have d:=nY j;have w:a.cell σ.next 2=some (.i o):=j.cell (i:=2) Q;simp only[go_sem,Uu,aj,fC,hs,r];refine ab z ?_;by_cases t:dV b l o
 .have p:0≤o:=t.o0;have x:bZ [V.u 0,.i 0,.i 0,.u 0,.acJ] [(0,3,.agg [.u b,.i l,.i o]),(3,1,.u (jc .u64 4096 o))] =
   some [V.u b,.i l,.i o,.u (jc .u64 4096 o),.acJ]:=rfl
  simp only[go_sem,Uu,aj,fC,Rs,hs,d,w,t,aT,p,aG,x];exact⟨e.trans (aH.new a _),k.new _ rfl,fun _=>⟨_,rfl,e.next,To.cg a _⟩,fun h=>(h trivial).elim⟩
 simp only[go_sem,Uu,aj,fC,hs,d,w,t];exact⟨e,k,fun h=>h.elim,fun _=>trivial⟩
def ID(gw:GW σ):au G0 [] 162 [.i 0] σ fun v σ'=>v=.acK (σ.next+1) 0∧aH σ σ'∧GW σ'∧σ'.next=σ.next+2∧To σ' σ.next 0 (fun _=>.u 0)∧To σ' (σ.next+1) 2 (Tn [.i 0,.acL σ.next 0 0 1]):=by
 refine ai g162 rfl ?_;obtain⟨v,k,j,g⟩:=QM (σ:=σ) (n:=0) gw acG (Q:=fun v σ'=>v=.acK (σ.next+1) 0∧aH σ σ'∧GW σ'∧σ'.next=σ.next+2∧To σ' σ.next 0 (fun _=>.u 0)∧To σ' (σ.next+1) 2 (Tn [.i 0,.acL σ.next 0 0 1]))
  (fun s l e a b c d f=>by subst e;exact⟨rfl,b,a,c,d,f⟩)
 obtain⟨rfl,h⟩:=j;simp only[go_sem];refine ab g ?_;simp only[go_sem];exact h
def Ev{s:Option (Nat×Nat)}{x:Int}(gw:GW σ):au G0 [] 211 [.ptr s,.u x] σ fun v σ'=>v=.acK σ.next 0∧aH σ σ'∧GW σ'∧σ'.next=σ.next+1∧To σ' σ.next 2 (Tn [.ptr s,.u x]):=by refine ai g211 rfl ?_;have hg:aH σ (σ.ag [.ptr s,.u x]):=aH.new σ _;have hw:GW (σ.ag [.ptr s,.u x]):=gw.new _ rfl;have a:bZ [V.ptr none,.u 0] [(0,1,.ptr s),(1,1,.u x)]=some [V.ptr s,.u x]:=rfl;have b:[V.ptr s,.u x].length=2:=rfl;simp only[go_sem,aG,a,aj,b];exact⟨hg,hw,rfl,To.cg σ _⟩
def dT(A:Tu->Nat)(s0:Tu)(i:Nat):V:=if i=0 then .acJ else .acL (A s0) 0 i 1
def dW.push(h:dW σ has A size cell){s0:Tu}{i tt:Nat}{x:V}(q:i=0->¬has s0)(r:i≠0->has s0∧size s0=i)(hi:i<1000)(hx:[x].all V.Tr=true)(ht:σ.load tt 0 1=some [x]):
  ∃σ',dj σ 1 8 (dT A s0 i) (.acL tt 0 1 1)=some (.acL σ.next 0 (i+1) 1,σ')∧σ'.next=σ.next+1∧
   dW σ' (fun t=>has t∨t=s0) (TN A s0 σ.next) (TN size s0 (i+1)) (TN cell s0 fun j=>if j<i then cell s0 j else x):=by
 by_cases c:i=0
 .subst c;have R:=h.new (s0:=s0) (q rfl) (n:=1) (z:=[]) (t:=ofList [x]) (f:=Tn [x]) (fun j g=>by
   have:=cT [x] j;rw[show [x].length=1 from rfl]at this;rw[this,(Q:j=0)];rfl)
  refine⟨_,?_,rfl,R.congr (fun _ h=>h) (fun _ _=>rfl) (fun _ _=>Tx _) fun t d j g=>?_⟩
  .unfold dj dT;rw[Ti rfl];simp only[Um,ht];unfold dc;rw[Tg Y,Tg Q,Ti ⟨by unfold aq;omega,by unfold aq;omega,hx⟩];simp only[TT];rfl
  by_cases a:t=s0
  .subst a;rw[an]at g;rw[an,an,Tg Q,(Q:j=0)];rfl
  rw[ae a,ae a]
 obtain⟨hs,s⟩:=r c;obtain⟨u,o,b⟩:=lM (h.row s0 hs) (esz:=1) (bytes:=8) (k:=1) (xl:=i) (vs:=[x]) Q (by unfold aq;omega) (by unfold aq;omega) hx;obtain⟨m,l,p⟩:=h.append (s0:=s0) hs Q b;refine⟨o,?_,l,p.congr ?_ (fun _ _=>rfl) ?_ ?_⟩
 .unfold dj dT;rw[Tg c];simp only[Um,ht]
  simpa [m]using b
 .rintro t (h|rfl)
  .exact h
  exact hs
 .intro t d;by_cases a:t=s0
  .subst a;rw[an,an];show i+1≤i*1+1;omega
  rw[ae a,ae a];exact Tx _
 intro t d j g;by_cases a:t=s0
 .subst a;rw[an]at g;rw[an,an,Um];by_cases e:j<i
  .rw[Ti e,Ti e]
  rw[Tg e,Tg e,(Q:j-i=0)];rfl
 rw[ae a,ae a]
theorem js{a:Type}{f:Tu->a}{s t:Tu}{x:a}:TN f s x t=if t=s then x else f t:=rfl
def kV(i:Nat)(t:Tu):Prop:=t=.map∨(t=.UJ∧0<i)∨∃j,j<i∧(t=.set j∨t=.Uf j)
structure Qx (k i:Nat) (A:Tu -> Nat) (size:Tu -> Nat) (cell:Tu -> Nat -> V):Prop where
 sm:size .map=3
 cm:∀ j,j<3 -> cell .map j=Tn [.int .i64 k,.slice none 0 0,dT A .UJ i] j
 sp:0<i -> size .UJ=i
 cp:∀ j,j<i -> cell .UJ j=.ptr (some (A (.set j),0))
 ss:∀ j,j<i -> size (.set j)=2
 cs:∀ j,j<i -> ∀ m,m<2 -> cell (.set j) m=Tn [.int .i64 0,.slice (some (A (.Uf j),0)) 0 1] m
 sw:∀ j,j<i -> size (.Uf j)=0
def Lz{k:Nat}(hk:k≤8)(h:dW σ has A size cell)(p:∀i t,kV i t->¬has t):
  au G0 [] 118 [.i k] σ fun v s=>∃A' l d,v=.acK (A' .map) 0∧dW s (fun t=>has t∨kV k t) A' l d∧(∀t,has t->A' t=A t∧l t=size t∧d t=cell t)∧Qx k k A' l d:=by
 refine ai g118 rfl ?_;have x1:kS false (.i (k:Int)) [.i 8]=some (.i k):=by simp only[kS,TT,U5,Ul];rw[Tg Q]
 have x2:kS true (.i 0) [.i (k:Int)]=some (.i k):=by
  simp only[kS,TT];by_cases h:(k:Int) > 0
  .rw[Ti h]
  rw[Tg h];congr 2;omega
 have e0:bZ [V.i 0,.acJ,.acJ] [(0,1,.i (k:Int))]=some [V.i k,.acJ,.acJ]:=rfl;have D:¬has .map:=p 0 .map (.inl rfl);obtain⟨m,hm⟩:=acH (σ.next);obtain⟨L,J⟩:∃s,s=σ.ag [.i k,.acJ,.acJ]:=⟨_,rfl⟩;have R1:=h.new (s0:=.map) D (n:=3) (z:=[]) (t:=ofList [.i k,.acJ,.acJ]) (f:=Tn [.i k,.acJ,.acJ]) (fun i hi=>by
  have:=cT [V.i k,.acJ,.acJ] i;rw[show [V.i k,.acJ,.acJ].length=3 from rfl]at this;rw[this];rcases(by omega:i=0∨i=1∨i=2)with rfl|rfl|rfl <;> rfl)
 have H:dW L (fun t=>has t∨t=.map) (TN A .map m) (TN size .map 3) (TN cell .map (Tn [.i k,.acJ,.acJ])):=by rw[J,hm];exact R1
 have c0:L.cell m 0=some (.i k):=by have:=H.gE (s:=.map) (.inr rfl) (i:=0) (by rw[an];omega);rw[an,an]at this;exact this
 simp only[go_sem,kh,x1,x2,aG,e0,aj,fC,<- hm,<- J,c0];refine bW (fun(n:Nat) (fr:AM.Fr) (s:St)=>fr.defers=[]∧fr.tmps.get 3=some (.acK m 0)∧fr.tmps.get 12=some (.i k)∧
  ∃i:Nat,fr.tmps.get 13=some (.i i)∧i+n=k∧∃A' l d,dW s (fun t=>has t∨kV i t) A' l d∧(∀t,has t->A' t=A t∧l t=size t∧d t=cell t)∧Qx k i A' l d∧A' .map=m) ?_ k ?_
 .rintro n ⟨tm,ds⟩ s ⟨hd,S,y,i,B,hi,A',l,d,R,Ur,M,r⟩;simp only at hd S y B;subst hd;by_cases ad:i<k
  .have d1:(i:Int)<(k:Int):=Q;have C:has Tu.map∨kV i .map:=.inr (.inl rfl);have N:s.cell m 2=some (dT A' .UJ i):=by have:=R.gE (s:=.map) C (i:=2) (by rw[M.sm];omega);rw[r,M.cm 2 Q]at this;exact this
   have nW:¬(has (.Uf i)∨kV i (.Uf i)):=by
    rintro(h|h|⟨h,_⟩|⟨j,o,h|h⟩)
    .exact p (i+1) (.Uf i) (.inr (.inr ⟨i,Q,.inr rfl⟩)) h
    .cases h
    .cases h
    .cases h
    cases h;omega
   have nS:¬((has (.set i)∨kV i (.set i))∨Tu.set i=.Uf i):=by
    rintro((h|h|⟨h,_⟩|⟨j,o,h|h⟩)|h)
    .exact p (i+1) (.set i) (.inr (.inr ⟨i,Q,.inl rfl⟩)) h
    .cases h
    .cases h
    .cases h;omega
    .cases h
    cases h
   obtain⟨v,F,⟨rfl,T,w1,O,Lw,Ls⟩,hr⟩:=ID R.gw;have Ra:=(R.Ui T w1).add (s0:=.Uf i) nW Lw (fun t ht=>by have:=R.UL ht;omega);have Rb:=Ra.add (s0:=.set i) nS Ls (fun t ht=>by
    rcases ht with ht|rfl
    .have:=R.UL ht;by_cases e:t=.Uf i
     .subst e;rw[an];omega
     rw[ae e];omega
    rw[an];omega)
   have e1:bZ (bL [V.ptr none] 1) [(0,1,.acK (s.next+1) 0)]=some [V.acK (s.next+1) 0]:=rfl;obtain⟨s2,w⟩:=acH (F.ag [.acK (s.next+1) 0]);have g2:aH F s2:=by rw[w];exact aH.new F _
   have w2:GW s2:=by rw[w];exact w1.new _ rfl
   have Rc:=Rb.Ui g2 w2;have ht:s2.load F.next 0 1=some [.acK (s.next+1) 0]:=by rw[w,(oh F [.acK (s.next+1) 0]).load (off:=0) (k:=1) Y];rfl
   have X:TN (TN A' (.Uf i) s.next) (.set i) (s.next+1) .UJ=A' .UJ:=by rw[ae Y,ae Y]
   have I:dT (TN (TN A' (.Uf i) s.next) (.set i) (s.next+1)) .UJ i=dT A' .UJ i:=by unfold dT;rw[X]
   obtain⟨s3,ha,P,Rd⟩:=Rc.push (s0:=.UJ) (i:=i) (tt:=F.next) (x:=.acK (s.next+1) 0) (fun e=>by
    rintro((h|h)|h)
    .rcases h with h|h|⟨h,h2⟩|⟨j,o,h|h⟩
     .exact p 1 .UJ (.inr (.inl ⟨rfl,Q⟩)) h
     .cases h
     .omega
     .cases h
     cases h
    .cases h
    cases h) (fun e=>⟨.inl (.inl (.inr (.inr (.inl ⟨rfl,Q⟩)))),by rw[ae Y,ae Y];exact M.sp Q⟩) Q rfl ht
   rw[I]at ha;obtain⟨s4,K,Re,G⟩:=Rd.store (s:=.map) (.inl (.inl (.inl (.inr (.inl rfl))))) (off:=2) (vs:=[.acL s2.next 0 (i+1) 1]) (by rw[ae Y,ae Y,ae Y,M.sm];simp) rfl;rw[ae Y,ae Y,ae Y,r]at K;have u:∀(τ:St),aH s τ->τ.cell m 2=some (dT A' .UJ i):=by
    intro τ g;unfold St.cell at N⊢;have W:m<s.next:=by have:=R.UL C;rw[r]at this;exact this
    rw[g.TE m W];exact N
   have d3:=u F T;have d4:=u s2 (T.trans g2);have ac:dT A' .UJ i=dT A' .UJ i:=rfl;have Z:(V.acL s2.next 0 (i+1) 1).cells=[.acL s2.next 0 (i+1) 1]:=rfl;have U:[V.acL s2.next 0 (i+1) 1].length=1:=rfl;have e9:IntKind.i64.wrap ((i:Int)+1)=((i+1:Nat):Int):=bj (a:=i) (b:=1) Q;simp only[go_sem,S,y,B,d1,N];refine ab hr ?_;simp only[go_sem,S,y,B,d1,N,d3,d4,aG,e1,<- w,ha,Z,U,K,e9];refine⟨n-1,Q,i+1,rfl,Q,_,_,_,Re.congr ?_ (fun _ _=>rfl) (fun _ _=>Tx _) (fun _ _ _ _=>rfl),?_,?_,?_⟩
   .rintro t (h|rfl|⟨rfl,h⟩|⟨j,o,h⟩)
    .exact .inl (.inl (.inl (.inl h)))
    .exact .inl (.inl (.inl (.inr (.inl rfl))))
    .exact .inr rfl
    by_cases e:j=i
    .subst e;rcases h with rfl|rfl
     .exact .inl (.inr rfl)
     exact .inl (.inl (.inr rfl))
    exact .inl (.inl (.inl (.inr (.inr (.inr ⟨j,Q,h⟩)))))
   .intro t ht;have O:t≠.UJ:=fun e=>p 1 .UJ (.inr (.inl ⟨rfl,Q⟩)) (e▸ht)
    have n2:t≠.set i:=fun e=>p (i+1) (.set i) (.inr (.inr ⟨i,Q,.inl rfl⟩)) (e▸ht)
    have P:t≠.Uf i:=fun e=>p (i+1) (.Uf i) (.inr (.inr ⟨i,Q,.inr rfl⟩)) (e▸ht)
    have G:t≠.map:=fun e=>D (e▸ht)
    obtain⟨a,b,c⟩:=Ur t ht;refine⟨?_,?_,?_⟩
    .rw[ae O,ae n2,ae P];exact a
    .rw[ae O,ae n2,ae P];exact b
    rw[ae G,ae O,ae n2,ae P];exact c
   .have af:∀j,j<i->Tu.set j≠.set i:=fun j o e=>by cases e;omega
    have ah:∀j,j<i->Tu.Uf j≠.Uf i:=fun j o e=>by cases e;omega
    refine⟨?_,?_,?_,?_,?_,?_,?_⟩
    .rw[ae Y,ae Y,ae Y];exact M.sm
    .intro j o;rw[an];unfold UO;have E:dT (TN (TN (TN A' (.Uf i) s.next) (.set i) (s.next+1)) .UJ s2.next) .UJ (i+1)=.acL s2.next 0 (i+1) 1:=by unfold dT;rw[Tg Q,an]
     rw[E];rcases(by omega:j=0∨j=1∨j=2)with rfl|rfl|rfl
     .rw[Tg Y,ae Y,ae Y,ae Y];exact M.cm 0 Q
     .rw[Tg Y,ae Y,ae Y,ae Y];exact M.cm 1 Q
     rw[Ti Y];rfl
    .intro _;rw[an]
    .intro j o;by_cases e:j=i
     .subst e;simp[js]
     have:=M.cp j Q;simp[js,e,(Q:j<i),this]
    .intro j o;by_cases e:j=i
     .subst e;simp[js]
     have:=M.ss j Q;simp[js,e,this]
    .intro j o q hq;by_cases e:j=i
     .subst e;simp[js]
     have:=M.cs j Q q hq;simp[js,e,this]
    intro j o;by_cases e:j=i
    .subst e;simp[js]
    have:=M.sw j Q;simp[js,e,this]
   rw[ae Y,ae Y,ae Y];exact r
  have c1:¬((i:Int)<(k:Int)):=Q;have e:i=k:=Q;subst e;simp only[go_sem,S,y,B,c1];exact⟨A',l,d,by rw[r],R,Ur,M⟩
 simp only[go_sem];refine⟨0,rfl,Q,_,_,_,H.congr ?_ (fun _ _=>rfl) (fun _ _=>Tx _) (fun _ _ _ _=>rfl),?_,?_,an⟩
 .rintro t (h|rfl|⟨_,h⟩|⟨j,o,h⟩)
  .exact .inl h
  .exact .inr rfl
  .omega
  omega
 .intro t ht;have G:t≠.map:=fun e=>D (e▸ht)
  exact⟨ae G,ae G,ae G⟩
 refine⟨an,fun j o=>?_,fun h=>Q,fun j o=>Q,fun j o=>Q,fun j o=>Q,fun j o=>Q⟩;rw[an];unfold dT;rw[Ti rfl]
def kG(i:Nat)(t:Tu):Prop:=t=.TO∨(t=.US∧0<i)∨∃j,j<i∧t=.UZ j
structure Ms (b l:Int) (k:Nat) (ps pm:Option (Nat × Nat)) (i:Nat) (A:Tu -> Nat) (size:Tu -> Nat) (cell:Tu -> Nat -> V):Prop where
 sb:size .TO=6
 cb:∀ j,j<6 -> cell .TO j=Tn [.int .u64 b,.int .i64 l,.int .i64 k,.ptr ps,.ptr pm,dT A .US i] j
 sl:0<i -> size .US=i
 cl:∀ j,j<i -> cell .US j=.ptr (some (A (.UZ j),0))
 ss:∀ j,j<i -> size (.UZ j)=2
 cs:∀ j,j<i -> ∀ m,m<2 -> cell (.UZ j) m=Tn [.ptr ps,.int .u64 0] m
def C0{b l:Int}{k hd:Nat}{ps pm:Option (Nat×Nat)}(hk:k≤8)(h:dW σ has A size cell)(hh:has .heap)(ac:A .heap=hd)(hs:size .heap=k+1)(hc:cell .heap=fun _=>.u 0)(B:∀i t,kG i t->¬has t):
  au G0 [] 163 [Uu b l k,.ptr ps,.ptr pm,.acL hd 0 (k+1) 1] σ fun v s=>∃A' o d,v=.tuple [.acK (A' .TO) 0,.i 0]∧dW s (fun t=>has t∨kG (k+1) t) A' o d∧(∀t,has t->A' t=A t∧o t=size t∧d t=cell t)∧Ms b l k ps pm (k+1) A' o d:=by
 refine ai g163 rfl ?_;obtain⟨G,K⟩:∃s,s=σ.ag [.u b,.i l,.i k]:=⟨_,rfl⟩;have hl:=m7 σ b l k;have gw:=h.gw;have w1:GW (σ.ag [.u b,.i l,.i k]):=gw.new _ rfl;have g1:aH σ G:=by rw[K];exact aH.new _ _
 rw[<- K]at hl w1;have ah:=nY hl;have c2:G.cell σ.next 2=some (.i k):=hl.cell (i:=2) Q;have Z:IntKind.i64.wrap ((k:Int)+1)=((k+1:Nat):Int):=bj (a:=k) (b:=1) Q;have d1:decide (((k+1:Nat):Int)≠((k+1:Nat):Int))=false:=by simp
 have e0:bZ [V.u 0,.i 0,.i 0,.ptr none,.ptr none,.acJ] [(0,3,.agg [.u b,.i l,.i k]),(3,1,.ptr ps),(4,1,.ptr pm)] =
  some [V.u b,.i l,.i k,.ptr ps,.ptr pm,.acJ]:=rfl
 have l6:[V.u b,.i l,.i k,.ptr ps,.ptr pm,.acJ].length=6:=rfl;obtain⟨m,hm⟩:=acH (G.next);obtain⟨ap,p⟩:∃s,s=G.ag [V.u b,.i l,.i k,.ptr ps,.ptr pm,.acJ]:=⟨_,rfl⟩;have I:¬has .TO:=B 0 .TO (.inl rfl);have R1:=(h.Ui g1 w1).new (s0:=.TO) I (n:=6) (z:=[]) (t:=ofList [V.u b,.i l,.i k,.ptr ps,.ptr pm,.acJ]) (f:=Tn [V.u b,.i l,.i k,.ptr ps,.ptr pm,.acJ]) (fun i hi=>by
  have:=cT [V.u b,.i l,.i k,.ptr ps,.ptr pm,.acJ] i;rw[l6]at this;rw[this];rcases(by omega:i=0∨i=1∨i=2∨i=3∨i=4∨i=5)with rfl|rfl|rfl|rfl|rfl|rfl <;> rfl)
 have R2:dW ap (fun t=>has t∨t=.TO) (TN A .TO m) (TN size .TO 6) (TN cell .TO (Tn [V.u b,.i l,.i k,.ptr ps,.ptr pm,.acJ])):=by rw[p,hm];exact R1
 simp only[go_sem,Uu,aj,fC,<- K,ah,c2,Z,d1,aG,e0,l6,<- hm,<- p];refine bW (fun(n:Nat) (fr:AM.Fr) (s:St)=>fr.defers=[]∧fr.tmps.get 1=some (.ptr ps)∧fr.tmps.get 10=some (.acK m 0)∧fr.tmps.get 24=some (.acL hd 0 (k+1) 1)∧fr.tmps.get 25=some (.i (k+1:Nat))∧
  ∃i:Nat,fr.tmps.get 26=some (.i i)∧i+n=k+1∧∃A' o d,dW s (fun t=>has t∨kG i t) A' o d∧(∀t,has t->A' t=A t∧o t=size t∧d t=cell t)∧Ms b l k ps pm i A' o d∧A' .TO=m) ?_ (k+1) ?_
 .rintro n ⟨tm,ds⟩ s ⟨S,t1,C,D,E,i,F,hi,A',o,d,R,Ur,M,w⟩;simp only at S t1 C D E F;subst S;by_cases ad:i<k+1
  .have c1:(i:Int)<((k+1:Nat):Int):=Q;have O:(0:Int)≤(i:Int):=Q;have H:has Tu.TO∨kG i .TO:=.inr (.inl rfl);have ch:s.cell hd i=some (.u 0):=by obtain⟨a1,a2,a3⟩:=Ur .heap hh;have:=R.gE (s:=.heap) (.inl hh) (i:=i) (by rw[a2,hs];exact ad);rw[a1,a3,hc,ac]at this;exact this
   have W:s.cell m 5=some (dT A' .US i):=by have:=R.gE (s:=.TO) H (i:=5) (by rw[M.sb];omega);rw[w,M.cb 5 Q]at this;exact this
   have nL:¬(has (.UZ i)∨kG i (.UZ i)):=by
    rintro(h|h|⟨h,_⟩|⟨j,r,h⟩)
    .exact B (i+1) (.UZ i) (.inr (.inr ⟨i,Q,rfl⟩)) h
    .cases h
    .cases h
    cases h;omega
   obtain⟨v,L,⟨rfl,g2,w2,X,Ll⟩,hr⟩:=Ev (s:=ps) (x:=0) R.gw;have Ra:=(R.Ui g2 w2).add (s0:=.UZ i) nL Ll (fun t ht=>by have:=R.UL ht;omega);have Z:bZ (bL [V.ptr none] 1) [(0,1,.acK s.next 0)]=some [V.acK s.next 0]:=rfl;obtain⟨s2,p⟩:=acH (L.ag [.acK s.next 0]);have g3:aH L s2:=by rw[p];exact aH.new L _
   have w3:GW s2:=by rw[p];exact w2.new _ rfl
   have Rc:=Ra.Ui g3 w3;have ht:s2.load L.next 0 1=some [.acK s.next 0]:=by rw[p,(oh L [.acK s.next 0]).load (off:=0) (k:=1) Y];rfl
   have am:TN A' (.UZ i) s.next .US=A' .US:=ae Y;have T:dT (TN A' (.UZ i) s.next) .US i=dT A' .US i:=by unfold dT;rw[am]
   obtain⟨s3,ha,n3,Rd⟩:=Rc.push (s0:=.US) (i:=i) (tt:=L.next) (x:=.acK s.next 0) (fun e=>by
    rintro(h|h)
    .rcases h with h|h|⟨h,h2⟩|⟨j,r,h⟩
     .exact B 1 .US (.inr (.inl ⟨rfl,Q⟩)) h
     .cases h
     .omega
     cases h
    cases h) (fun e=>⟨.inl (.inr (.inr (.inl ⟨rfl,Q⟩))),by rw[ae Y];exact M.sl Q⟩) Q rfl ht
   rw[T]at ha;obtain⟨s4,U,Re,N⟩:=Rd.store (s:=.TO) (.inl (.inl (.inr (.inl rfl)))) (off:=5) (vs:=[.acL s2.next 0 (i+1) 1]) (by rw[ae Y,ae Y,M.sb];simp) rfl;rw[ae Y,ae Y,w]at U;have y:∀(τ:St),aH s τ->τ.cell m 5=some (dT A' .US i):=by
    intro τ g;unfold St.cell at W⊢;have al:m<s.next:=by have:=R.UL H;rw[w]at this;exact this
    rw[g.TE m al];exact W
   have d3:=y L g2;have d4:=y s2 (g2.trans g3);have ao:(V.acL s2.next 0 (i+1) 1).cells=[.acL s2.next 0 (i+1) 1]:=rfl;have af:[V.acL s2.next 0 (i+1) 1].length=1:=rfl;have e9:IntKind.i64.wrap ((i:Int)+1)=((i+1:Nat):Int):=bj (a:=i) (b:=1) Q;simp only[go_sem,t1,C,D,E,F,c1,O,Us,TZ,Um,Vk,ch,W];refine ab hr ?_;simp only[go_sem,t1,C,D,E,F,c1,O,W,d3,d4,aG,Z,<- p,ha,ao,af,U,e9];refine⟨n-1,Q,i+1,rfl,Q,_,_,_,Re.congr ?_ (fun _ _=>rfl) (fun _ _=>Tx _) (fun _ _ _ _=>rfl),?_,?_,?_⟩
   .rintro t (h|rfl|⟨rfl,h⟩|⟨j,r,rfl⟩)
    .exact .inl (.inl (.inl h))
    .exact .inl (.inl (.inr (.inl rfl)))
    .exact .inr rfl
    by_cases e:j=i
    .subst e;exact .inl (.inr rfl)
    exact .inl (.inl (.inr (.inr (.inr ⟨j,Q,rfl⟩))))
   .intro t ht;have n1:t≠.US:=fun e=>B 1 .US (.inr (.inl ⟨rfl,Q⟩)) (e▸ht)
    have X:t≠.UZ i:=fun e=>B (i+1) (.UZ i) (.inr (.inr ⟨i,Q,rfl⟩)) (e▸ht)
    have N:t≠.TO:=fun e=>I (e▸ht)
    obtain⟨a,b,c⟩:=Ur t ht;refine⟨?_,?_,?_⟩
    .rw[ae n1,ae X];exact a
    .rw[ae n1,ae X];exact b
    rw[ae N,ae n1,ae X];exact c
   .refine⟨?_,?_,?_,?_,?_,?_⟩
    .rw[ae Y,ae Y];exact M.sb
    .intro j r;rw[an];unfold UO;have J:dT (TN (TN A' (.UZ i) s.next) .US s2.next) .US (i+1)=.acL s2.next 0 (i+1) 1:=by unfold dT;rw[Tg Q,an]
     rw[J];have P:=M.cb j r;rcases(by omega:j=0∨j=1∨j=2∨j=3∨j=4∨j=5)with rfl|rfl|rfl|rfl|rfl|rfl
     .rw[Tg Y,ae Y,ae Y];exact P
     .rw[Tg Y,ae Y,ae Y];exact P
     .rw[Tg Y,ae Y,ae Y];exact P
     .rw[Tg Y,ae Y,ae Y];exact P
     .rw[Tg Y,ae Y,ae Y];exact P
     rw[Ti Y];rfl
    .intro _;rw[an]
    .intro j r;by_cases e:j=i
     .subst e;simp[js]
     have:=M.cl j Q;simp[js,e,(Q:j<i),this]
    .intro j r;by_cases e:j=i
     .subst e;simp[js]
     have:=M.ss j Q;simp[js,e,this]
    intro j r q hq;by_cases e:j=i
    .subst e;simp[js]
    have:=M.cs j Q q hq;simp[js,e,this]
   rw[ae Y,ae Y];exact w
  have c1:¬((i:Int)<((k+1:Nat):Int)):=Q;have e:i=k+1:=Q;subst e;simp only[go_sem,C,D,E,F,c1];exact⟨A',o,d,by rw[w],R,Ur,M⟩
 simp only[go_sem];refine⟨0,rfl,Q,_,_,_,R2.congr ?_ (fun _ _=>rfl) (fun _ _=>Tx _) (fun _ _ _ _=>rfl),?_,?_,an⟩
 .rintro t (h|rfl|⟨_,h⟩|⟨j,r,h⟩)
  .exact .inl h
  .exact .inr rfl
  .omega
  omega
 .intro t ht;have N:t≠.TO:=fun e=>I (e▸ht)
  exact⟨ae N,ae N,ae N⟩
 refine⟨an,fun j r=>?_,fun h=>Q,fun j r=>Q,fun j r=>Q,fun j r=>Q⟩;rw[an];unfold dT;rw[Ti rfl]
def E9{b l:Int}{k:Nat}{ps pm:Option (Nat×Nat)}(U:k≤8)(h:dW σ has A size cell)(K:¬has .heap)(F:∀i t,kG i t->¬has t):
  au G0 [] 119 [Uu b l k,.ptr ps,.ptr pm] σ fun v s=>∃A' g d,v=.acK (A' .TO) 0∧dW s (fun t=>has t∨kG (k+1) t) A' g d∧(∀t,has t->A' t=A t∧g t=size t∧d t=cell t)∧Ms b l k ps pm (k+1) A' g d:=by
 refine ai g119 rfl ?_;obtain⟨o,r⟩:∃s,s=σ.ag [.u b,.i l,.i k]:=⟨_,rfl⟩;have gw:=h.gw;have C:=m7 σ b l k;have G:GW (σ.ag [.u b,.i l,.i k]):=gw.new _ rfl;have R:aH σ o:=by rw[r];exact aH.new _ _
 rw[<- r]at C G;have B:=nY C;have J:o.cell σ.next 2=some (.i k):=C.cell (i:=2) acG;have P:IntKind.i64.wrap ((k:Int)+1)=((k+1:Nat):Int):=bj (a:=k) (b:=1) acG;have Z:kS true (.i 0) [.i ((k+1:Nat):Int)]=some (.i ((k+1:Nat):Int)):=by simp only[kS,TT];rw[Ti acG]
 have X:(0:Int)≤((k+1:Nat):Int)∧((k+1:Nat):Int)≤((k+1:Nat):Int)∧(k+1)*8≤aq∧((k+1:Nat):Int)<9223372036854775808:=by unfold aq;omega
 obtain⟨hd,y⟩:∃m,m=o.next:=⟨_,rfl⟩;obtain⟨x,w⟩:∃s,s=o.new (.acM (k+1) [.u 0] .nil):=⟨_,rfl⟩;have L:=(h.Ui R G).new (s0:=.heap) K (n:=k+1) (z:=[.u 0]) (t:=.nil) (f:=fun _=>.u 0) (fun i hi=>by
  unfold Vw;rw[Ti hi,T.Xm];simp[XM])
 have D:dW x (fun t=>has t∨t=.heap) (TN A .heap hd) (TN size .heap (k+1)) (TN cell .heap fun _=>.u 0):=by rw[w,y];exact L
 have S:aH o x:=by rw[w];exact aH.new _ _
 have p:=nY (C.Ui G S);obtain⟨v,H,⟨I,Y,O,rfl,N,Ur,M⟩,W⟩:=C0 (b:=b) (l:=l) (ps:=ps) (pm:=pm) (hd:=hd) U D (.inr rfl) an an an (fun i t ht=>by
  rintro(h|rfl)
  .exact F i t ht h
  rcases ht with h|⟨h,_⟩|⟨j,_,h⟩ <;> cases h)
 have q:∀{Q:V->St->Prop},Q (.tuple [.acK (I .TO) 0,.i 0]) H->au G0 [] 163 [.agg [.u b,.i l,.i k],.ptr ps,.ptr pm,.acL hd 0 (k+1) 1] x Q:=fun h=>ab W h
 simp only[go_sem,Uu,aj,fC,<- r,B,p,J,P,kh,Z,X,Us,TZ,Um,<- y,<- w];refine q ?_;simp only[go_sem,B,p,J];have E:∀t,has t->t≠.heap:=fun t ht e=>K (e▸ht)
 refine⟨I,Y,O,rfl,N.congr ?_ (fun _ _=>rfl) (fun _ _=>Tx _) (fun _ _ _ _=>rfl),fun t ht=>?_,M⟩
 .rintro t (h|h)
  .exact .inl (.inl h)
  exact .inr h
 obtain⟨a,b,c⟩:=Ur t (.inl ht);rw[ae (E t ht)]at a b c;exact⟨a,b,c⟩
def HV{p:Option (Nat×Nat)}(h:dW σ has A size cell)(w:¬has .Ua):
  au G0 [] 59 [.ptr p] σ fun v s=>∃a,v=.acK a 0∧dW s (fun t=>has t∨t=.Ua) (TN A .Ua a) (TN size .Ua 9) (TN cell .Ua fun i=>if i=0 then .ptr p else .i (-1)):=by
 refine ai g59 rfl ?_;have D:bZ [V.ptr none,.i 0,.i 0,.i 0,.i 0,.i 0,.i 0,.i 0,.i 0] [(0,1,.ptr p)]=some [V.ptr p,.i 0,.i 0,.i 0,.i 0,.i 0,.i 0,.i 0,.i 0]:=rfl;obtain⟨L,u⟩:=acH ([V.ptr p,.i 0,.i 0,.i 0,.i 0,.i 0,.i 0,.i 0,.i 0]);have m:L.length=9:=by rw[u];rfl
 rw[<- u]at D;obtain⟨a,ha⟩:=acH (σ.next);obtain⟨B,k⟩:∃s,s=σ.ag L:=⟨_,rfl⟩;have o:=h.new (s0:=.Ua) w (n:=9) (z:=[]) (t:=ofList L) (f:=Tn L) (fun i hi=>by
  have:=cT L i;rw[m]at this;rw[this];simp[Tn,m,hi])
 have q:dW B (fun t=>has t∨t=.Ua) (TN A .Ua a) (TN size .Ua 9) (TN cell .Ua (Tn L)):=by rw[k,ha];unfold St.ag;rw[m];exact o
 simp only[go_sem,aG,D,aj,m,<- ha,<- k];refine bW (fun(n:Nat) (fr:AM.Fr) (s:St)=>fr.defers=[]∧fr.tmps.get 3=some (.acK a 0)∧∃i:Nat,fr.tmps.get 8=some (.i i)∧i+n=8∧
  dW s (fun t=>has t∨t=.Ua) (TN A .Ua a) (TN size .Ua 9) (TN cell .Ua fun j=>if j=0 then .ptr p else if j≤i then .i (-1)else .i 0)) ?_ 8 ?_
 .rintro n ⟨I,ds⟩ s ⟨hd,x,i,y,hi,R⟩;simp only at hd x y;subst hd;by_cases c:i<8
  .have r:(i:Int)<8:=Q;have E:(0:Int)≤(i:Int)∧(i:Int)<((8:Nat):Int):=Q;obtain⟨H,l,o,G⟩:=R.store (s:=.Ua) (.inr rfl) (off:=1+i) (vs:=[.i (-1)]) (by rw[an];simp;omega) rfl;rw[an]at l;have F:IntKind.i64.wrap ((i:Int)+1)=((i+1:Nat):Int):=bj (a:=i) (b:=1) Q;simp only[go_sem,x,y,r,E,Us,TZ,Um,az,TH,TK,l,F];refine⟨n-1,Q,i+1,rfl,Q,o.congr (fun _ h=>h) (fun _ _=>rfl) (fun _ _=>Tx _) fun t ht j g=>?_⟩;by_cases d:t=.Ua
   .subst d;rw[an]at g;rw[an,an,an];unfold UO;show(if 1+i≤j∧j<1+i+1 then [V.i (-1)].getD (j-(1+i)) V.undef else if j=0 then V.ptr p else if j≤i then .i (-1)else .i 0)=if j=0 then V.ptr p else if j≤i+1 then .i (-1)else .i 0
    by_cases e:j=0
    .subst e;rw[Tg Q,Ti rfl,Ti rfl]
    rw[Tg e,Tg e];by_cases c1:j=1+i
    .subst c1;rw[Ti Q,Ti Q,Yf];rfl
    rw[Tg Q];by_cases C:j≤i
    .rw[Ti C,Ti Q]
    rw[Tg C,Tg Q]
   rw[ae d,ae d,ae d]
  have r:¬((i:Int)<8):=Q;simp only[go_sem,x,y,r];refine⟨a,rfl,R.congr (fun _ h=>h) (fun _ _=>rfl) (fun _ _=>Tx _) fun t ht j g=>?_⟩;by_cases d:t=.Ua
  .subst d;rw[an]at g;rw[an,an];by_cases e:j=0
   .rw[Ti e,Ti e]
   rw[Tg e,Tg e,Ti Q]
  rw[ae d,ae d]
 simp only[go_sem];refine⟨0,rfl,rfl,q.congr (fun _ h=>h) (fun _ _=>rfl) (fun _ _=>Tx _) fun t ht j g=>?_⟩;by_cases d:t=.Ua
 .subst d;rw[an]at g;rw[an,an,u];rcases(by omega:j=0∨j=1∨j=2∨j=3∨j=4∨j=5∨j=6∨j=7∨j=8)with rfl|rfl|rfl|rfl|rfl|rfl|rfl|rfl|rfl <;> rfl
 rw[ae d,ae d]
def di(b l o:Nat):aa:=⟨b,l,o,0,0,fun _=>0,fun _=>bX,fun _ _=>0,fun _=>0,fun _=>-1,false,false⟩
def wE{b l o:Nat}(h:dV b l o):(di b l o).OK:=by
 have i:=h.o8;have j:=h.l1;have k:=h.l64;have e:=h.aU;have m:=h.b0;have f:=h.al;have g:=h.Uv;simp only[TZ]at e f g;have a:((l*2^o:Nat):Int)=(l:Int)*2^o:=by simp
 have c:((4096*2^o:Nat):Int)=4096*2^o:=by simp
 have d:((4096*2^o*l:Nat):Int)=4096*2^o*(l:Int):=by simp
 rw[<- a]at e;rw[<- c]at f;rw[<- d]at g;refine⟨?_,?_,?_,?_,?_,?_,?_,VK _,fun _=>?_,fun _=>?_,fun _ _=>?_,fun h=>absurd h (XK _),fun h=>absurd h (XK _)⟩
 .show 0<b;omega
 .show o≤8;omega
 .show 1≤l;omega
 .show l≤64;omega
 .show l*2^o≤1024;omega
 .show b+4096*2^o*l≤9223372036854775808;omega
 .show b%(4096*2^o)=0;omega
 .show 0<256;omega
 .show 0<18446744073709551616;omega
 show 0<18446744073709551616;omega
def GU{b l o:Nat}(h:dV b l o):Tv (di b l o) (fun _=>[]) (fun _=>[]) (fun _=>[]) (fun _=>False) where
 ok:=wE h
 pg x hx:=by have:(di b l o).np=0:=(by show 0*_=0;omega);omega
 Uy k hk p:=by
  have:(di b l o).np=0:=by show 0*_=0;omega
  rw[this];simp
 VC k hk:=by simp
 Ve k hk:=⟨rfl,trivial⟩
 bits k hk i hi:=by
  have a:(di b l o).np=0:=by show 0*_=0;omega
  have:(di b l o).nw k=0:=by unfold aa.nw aa.gm;rw[a];simp
  omega
 sl x hx:=by have:(di b l o).np=0:=(by show 0*_=0;omega);omega
 U0 c hc x:=by
  have:(di b l o).np=0:=by show 0*_=0;omega
  rw[this];simp
 VE c hc:=by simp
 Vy c hc:=⟨rfl,trivial⟩
def Cx{b l o:Int}(X:0≤b)(hb:b<18446744073709551616)(h:dW σ (fun t=>t=.aU) A size cell):
  au G0 [] 58 [Uu b l o] σ fun v s=>(¬dV b l o->v=.tuple [.ptr none,.i 1]∧aH σ s)∧(dV b l o->∃A' d a,v=.tuple [.acK (A' .Ud) 0,.i 0]∧A' .aU=A .aU∧
   dW s (fun t=>t=.aU∨t=.Ud∨t=.TY∨kV o.toNat t∨kG (o.toNat+1) t) A' d a∧d .aU=size .aU∧a .aU=cell .aU∧
   d .Ud=3∧(∀i,i<3->a .Ud i=Tn [.acK (A' .TY) 0,.acK (A' .map) 0,.acK (A' .TO) 0] i)∧
   d .TY=5∧(∀i,i<5->a .TY i=Tn [.u b,.i l,.i o,.u (jc .u64 4096 o),.acJ] i)∧
   Qx o.toNat o.toNat A' d a∧Ms b l o.toNat (some (A' .TY,0)) (some (A' .map,0)) (o.toNat+1) A' d a):=by
 refine ai g58 rfl ?_;obtain⟨q,hq⟩:=acH (σ.next);obtain⟨G,F⟩:∃s,s=σ.ag [.u b,.i l,.i o]:=⟨_,rfl⟩;have R1:=h.new (s0:=.T0) Y (n:=3) (z:=[]) (t:=ofList [.u b,.i l,.i o]) (f:=Tn [.u b,.i l,.i o]) (fun i hi=>by
  have:=cT [V.u b,.i l,.i o] i;rw[fC]at this;rw[this];rcases(by omega:i=0∨i=1∨i=2)with rfl|rfl|rfl <;> rfl)
 have y:dW G (fun t=>t=.aU∨t=.T0) (TN A .T0 q) (TN size .T0 3) (TN cell .T0 (Tn [.u b,.i l,.i o])):=by rw[F,hq];exact R1
 have rd:∀{U:St} {hs:Tu->Prop} {B:Tu->Nat} {sz:Tu->Nat} {cl:Tu->Nat->V},dW U hs B sz cl->hs .T0->B .T0=q->sz .T0=3->cl .T0=Tn [.u b,.i l,.i o] →
   U.load q 0 3=some [.u b,.i l,.i o]∧U.cell q 2=some (.i o):=by
  intro U hs B sz cl R a1 a2 S a4;have hr:=R.row .T0 a1;rw[a2,S,a4]at hr;exact⟨by rw[hr.load Q];rfl,hr.cell Q⟩
 obtain⟨K,ar⟩:=rd y (.inr rfl) an an an;obtain⟨v,al,⟨g2,w2,m1,m2⟩,ad⟩:=KL (l:=l) (o:=o) X hb y.gw;have N:V5 G0 [] 117 [.agg [.u b,.i l,.i o]] G v al:=ad;simp only[go_sem,Uu,aj,fC,<- F,<- hq,K];refine ab N ?_;by_cases H:dV b l o
 .obtain⟨s,rfl,ax,Ls⟩:=m1 H;obtain⟨k,rfl⟩:∃k:Nat,o=(k:Int):=⟨o.toNat,by have:=H.o0;omega⟩
  have hk:k≤8:=by have:=H.o8;omega
  simp only[TZ];have R2:=(y.Ui g2 w2).add (s0:=.TY) Y Ls (fun t ht=>by have:=y.UL ht;omega);obtain⟨ap,Z⟩:=rd R2 (.inl (.inr rfl)) (by rw[ae Y,an]) (by rw[ae Y,an]) (by rw[ae Y,an]);obtain⟨v,ao,⟨x,s3,c3,rfl,R3,g,M⟩,af⟩:=Lz hk R2 (fun i t ht=>by
   rintro((rfl|rfl)|rfl) <;> rcases ht with h|⟨h,_⟩|⟨j,_,h|h⟩ <;> cases h)
  obtain⟨S,b3,d3⟩:=g .T0 (.inl (.inr rfl));rw[ae Y,an]at S b3 d3;obtain⟨L,av⟩:=rd R3 (.inl (.inl (.inr rfl))) S b3 d3;obtain⟨aS,bS,dS⟩:=g .TY (.inr rfl);rw[an]at aS bS dS;obtain⟨v,C,⟨w,s4,c4,rfl,R4,p,B⟩,ah⟩:=E9 (b:=b) (l:=l) (ps:=some (s,0)) (pm:=some (x .map,0)) hk R3 (by
   rintro(((h|h)|h)|h|⟨h,_⟩|⟨j,_,h|h⟩) <;> cases h) (fun i t ht=>by
   rcases ht with rfl|⟨rfl,_⟩|⟨j,_,rfl⟩ <;> (rintro(((h|h)|h)|h|⟨h,_⟩|⟨j,_,h|h⟩) <;> cases h))
  have O:V5 G0 [] 119 [.agg [.u b,.i l,.i k],.acK s 0,.ptr (some (x .map,0))] ao (.acK (w .TO) 0) C:=ah;have e:∀t,kV k t->w t=x t∧s4 t=s3 t∧c4 t=c3 t:=fun t ht=>p t (.inr ht)
  obtain⟨am,_,_⟩:=e .map (.inl rfl);obtain⟨D,I,J⟩:=p .TY (.inl (.inr rfl));rw[aS]at D;rw[bS]at I;rw[dS]at J;have ac:∀t,t=Tu.Ud->¬(((((t=.aU∨t=.T0)∨t=.TY)∨kV k t)∨kG (k+1) t)):=by rintro t rfl;rintro((((h|h)|h)|h|⟨h,_⟩|⟨j,_,h|h⟩)|h|⟨h,_⟩|⟨j,_,h⟩) <;> cases h
  have e1:bZ [V.ptr none,.ptr none,.ptr none] [(0,1,.acK s 0),(1,1,.acK (x .map) 0),(2,1,.acK (w .TO) 0)]=some [V.acK s 0,.ptr (some (x .map,0)),.acK (w .TO) 0]:=rfl;have e2:bZ [V.ptr none,.ptr none,.ptr none] [(0,3,.agg [V.acK s 0,.ptr (some (x .map,0)),.acK (w .TO) 0])]=some [V.acK s 0,.ptr (some (x .map,0)),.acK (w .TO) 0]:=rfl;have R5:=R4.new (s0:=.Ud) (ac .Ud rfl) (n:=3) (z:=[]) (t:=ofList [V.acK s 0,.ptr (some (x .map,0)),.acK (w .TO) 0]) (f:=Tn [V.acK s 0,.ptr (some (x .map,0)),.acK (w .TO) 0]) (fun i hi=>by
   have:=cT [V.acK s 0,.ptr (some (x .map,0)),.acK (w .TO) 0] i;rw[fC]at this;rw[this];rcases(by omega:i=0∨i=1∨i=2)with rfl|rfl|rfl <;> rfl)
  simp only[go_sem,TV,Uq,Z];refine ab af ?_;simp only[go_sem,L];refine ab O ?_;simp only[go_sem,aG,e1,e2,aj,fC];refine⟨fun hn=>(hn H).elim,fun _=>⟨_,_,_,by rw[an],?_,R5.congr ?_ (fun _ _=>rfl) (fun _ _=>Tx _) (fun _ _ _ _=>rfl),?_,?_,an,?_,?_,?_,?_,?_⟩⟩
  .rw[ae Y,(p .aU (.inl (.inl (.inl rfl)))).1,(g .aU (.inl (.inl rfl))).1,ae Y,ae Y]
  .rintro t (h|h|h|h|h)
   .exact .inl (.inl (.inl (.inl (.inl h))))
   .exact .inr h
   .exact .inl (.inl (.inl (.inr h)))
   .exact .inl (.inl (.inr h))
   exact .inl (.inr h)
  .rw[ae Y,(p .aU (.inl (.inl (.inl rfl)))).2.1,(g .aU (.inl (.inl rfl))).2.1,ae Y,ae Y]
  .rw[ae Y,(p .aU (.inl (.inl (.inl rfl)))).2.2,(g .aU (.inl (.inl rfl))).2.2,ae Y,ae Y]
  .intro i hi;rw[an,ae Y,ae Y,ae Y,D,am]
  .rw[ae Y,I]
  .intro i hi;rw[ae Y,J]
  .have W:TN w .Ud C.next .UJ=w .UJ:=ae Y;refine⟨?_,fun j r=>?_,fun T=>?_,fun j r=>?_,fun j r=>?_,fun j r m E=>?_,fun j r=>?_⟩
   .rw[ae Y,(e .map (.inl rfl)).2.1];exact M.sm
   .rw[ae Y,(e .map (.inl rfl)).2.2];have:dT (TN w .Ud C.next) .UJ k=dT x .UJ k:=by
     unfold dT;by_cases c:k=0
     .rw[Ti c,Ti c]
     rw[Tg c,Tg c,W,(e .UJ (.inr (.inl ⟨rfl,Q⟩))).1]
    rw[this];exact M.cm j r
   .rw[ae Y,(e .UJ (.inr (.inl ⟨rfl,T⟩))).2.1];exact M.sp T
   .rw[ae Y,ae Y,(e .UJ (.inr (.inl ⟨rfl,Q⟩))).2.2,(e (.set j) (.inr (.inr ⟨j,r,.inl rfl⟩))).1];exact M.cp j r
   .rw[ae Y,(e (.set j) (.inr (.inr ⟨j,r,.inl rfl⟩))).2.1];exact M.ss j r
   .rw[ae Y,ae Y,(e (.set j) (.inr (.inr ⟨j,r,.inl rfl⟩))).2.2,(e (.Uf j) (.inr (.inr ⟨j,r,.inr rfl⟩))).1];exact M.cs j r m E
   rw[ae Y,(e (.Uf j) (.inr (.inr ⟨j,r,.inr rfl⟩))).2.1];exact M.sw j r
  have P:dT (TN w .Ud C.next) .US (k+1)=dT w .US (k+1):=by unfold dT;rw[ae Y]
  rw[ae Y,ae Y,D,am];refine⟨?_,fun j r=>?_,fun T=>?_,fun j r=>?_,fun j r=>?_,fun j r m E=>?_⟩
  .rw[ae Y];exact B.sb
  .rw[ae Y,P];exact B.cb j r
  .rw[ae Y];exact B.sl T
  .rw[ae Y,ae Y];exact B.cl j r
  .rw[ae Y];exact B.ss j r
  rw[ae Y];exact B.cs j r m E
 obtain rfl:=m2 H;have d1:(1:Int)≠0:=by decide
 simp only[go_sem,d1,TV,Ug];have g1:aH σ G:=by rw[F];exact aH.new _ _
 exact⟨fun _=>g1.trans g2,fun h=>(H h).elim⟩
def mL{b l o:Int}(L:0≤b)(hb:b<18446744073709551616)(w:GW σ)(hw:Vv σ):
  au G0 [] 16 [Uu b l o] σ fun v s=>(¬dV b l o->v=.tuple [.ptr none,.i 1]∧aH σ s)∧(dV b l o->∃A,v=.tuple [.acK (A .heap) 0,.i 0]∧aw s A (di b.toNat l.toNat o.toNat)):=by
 refine ai g16 rfl ?_;obtain⟨q,hq⟩:=acH (σ.next);obtain⟨D,C⟩:∃s,s=σ.ag [.u b,.i l,.i o]:=⟨_,rfl⟩;have R0:=dW.none w hw (fun _=>0) (fun _=>0) (fun _ _=>V.undef);have R1:=R0.new (s0:=.aU) (fun h=>h) (n:=3) (z:=[]) (t:=ofList [.u b,.i l,.i o]) (f:=Tn [.u b,.i l,.i o]) (fun i hi=>by
  have:=cT [V.u b,.i l,.i o] i;rw[fC]at this;rw[this];rcases(by omega:i=0∨i=1∨i=2)with rfl|rfl|rfl <;> rfl)
 have F:dW D (fun t=>t=.aU) (TN (fun _=>0) .aU q) (TN (fun _=>0) .aU 3) (TN (fun _ _=>V.undef) .aU (Tn [.u b,.i l,.i o])):=by rw[C,hq];exact R1.congr (fun _ h=>.inr h) (fun _ _=>rfl) (fun _ _=>Tx _) (fun _ _ _ _=>rfl)
 have X:∀{τ:St} {hs:Tu->Prop} {B:Tu->Nat} {sz:Tu->Nat} {cl:Tu->Nat->V},dW τ hs B sz cl->hs .aU->B .aU=q->sz .aU=3->cl .aU=Tn [.u b,.i l,.i o] →
   τ.load q 0 3=some [.u b,.i l,.i o]:=by
  intro τ hs B sz cl R a1 a2 a3 a4;have hr:=R.row .aU a1;rw[a2,a3,a4]at hr;rw[hr.load Q];rfl
 have G:=X F rfl an an an;obtain⟨v,ac,⟨m1,m2⟩,S⟩:=Cx (l:=l) (o:=o) L hb F;have I:V5 G0 [] 58 [.agg [.u b,.i l,.i o]] D v ac:=S;simp only[go_sem,Uu,aj,fC,<- C,<- hq,G];refine ab I ?_;by_cases y:dV b l o
 .obtain⟨d,s2,c2,rfl,K,J,sp,cp,W,pc,Z,sc,M,B⟩:=m2 y;rw[an]at K sp cp;have x:=X J (.inl rfl) K sp cp;obtain⟨k,rfl⟩:∃k:Nat,o=(k:Int):=⟨o.toNat,by have:=y.o0;omega⟩
  obtain⟨n,rfl⟩:∃n:Nat,b=(n:Int):=⟨b.toNat,Q⟩
  obtain⟨m,rfl⟩:∃m:Nat,l=(m:Int):=⟨l.toNat,by have:=y.l1;omega⟩
  simp only[TZ]at J M B⊢;have hk:k≤8:=by have:=y.o8;omega
  have P:¬((Tu.Ua)=.aU∨(Tu.Ua)=.Ud∨(Tu.Ua)=.TY∨kV k .Ua∨kG (k+1) .Ua):=by rintro(h|h|h|(h|⟨h,_⟩|⟨j,_,h|h⟩)|h|⟨h,_⟩|⟨j,_,h⟩) <;> cases h
  obtain⟨v,E,⟨a,rfl,R3⟩,T⟩:=HV (p:=some (d .Ud,0)) J P;have H:=X R3 (.inl (.inl rfl)) (by rw[ae Y];exact K) (by rw[ae Y];exact sp) (by rw[ae Y];exact cp);have e1:bZ [V.int .i32 0,.int .u32 0,.u 0,.i 0,.i 0,.ptr none,.ptr none] [(2,3,.agg [V.u n,.i m,.i k]),(5,1,.acK (d .Ud) 0),(6,1,.acK a 0)] =
   some [V.int .i32 0,.int .u32 0,.u n,.i m,.i k,.acK (d .Ud) 0,.acK a 0]:=rfl
  have l7:[V.int .i32 0,.int .u32 0,.u n,.i m,.i k,.acK (d .Ud) 0,.acK a 0].length=7:=rfl;have O:¬((Tu.heap=.aU∨Tu.heap=.Ud∨Tu.heap=.TY∨kV k .heap∨kG (k+1) .heap)∨Tu.heap=.Ua):=by rintro((h|h|h|(h|⟨h,_⟩|⟨j,_,h|h⟩)|h|⟨h,_⟩|⟨j,_,h⟩)|h) <;> cases h
  have R4:=R3.new (s0:=.heap) O (n:=7) (z:=[]) (t:=ofList [V.int .i32 0,.int .u32 0,.u n,.i m,.i k,.acK (d .Ud) 0,.acK a 0]) (f:=Tn [V.int .i32 0,.int .u32 0,.u n,.i m,.i k,.acK (d .Ud) 0,.acK a 0]) (fun i hi=>by
   have:=cT [V.int .i32 0,.int .u32 0,.u n,.i m,.i k,.acK (d .Ud) 0,.acK a 0] i;rw[l7]at this;rw[this];rcases(by omega:i=0∨i=1∨i=2∨i=3∨i=4∨i=5∨i=6)with rfl|rfl|rfl|rfl|rfl|rfl|rfl <;> rfl)
  simp only[go_sem,TV,Uq,x];refine ab T ?_;simp only[go_sem,x,H,aG,e1,aj,l7];refine⟨fun hn=>(hn y).elim,fun _=>⟨TN (TN d .Ua a) .heap E.next,by rw[an],?_⟩⟩;have U:jc .u64 4096 (k:Int)=((4096*2^k:Nat):Int):=by have hp:2^k≤2^8:=Vb Q hk;exact gP (a:=4096) Q Q
  have g:∀j,(di n m k).gm j=0∧(di n m k).nw j=0:=by
   intro j;have h0:(di n m k).np=0:=by show 0*_=0;omega
   have h1:(di n m k).gm j=0:=by unfold aa.gm;rw[h0];simp
   exact⟨h1,by unfold aa.nw;rw[h1]⟩
  refine R4.abN (fun t ht=>?_) (fun t ht=>?_) (fun t ht i hi=>?_)
  .cases t with
   |heap=>exact .inr rfl
   |Ua=>exact .inl (.inr rfl)
   |Ud=>exact .inl (.inl (.inr (.inl rfl)))
   |TY=>exact .inl (.inl (.inr (.inr (.inl rfl))))
   |map=>exact .inl (.inl (.inr (.inr (.inr (.inl (.inl rfl))))))
   |UJ=>exact .inl (.inl (.inr (.inr (.inr (.inl (.inr (.inl ⟨rfl,ht⟩)))))))
   |set j=>exact .inl (.inl (.inr (.inr (.inr (.inl (.inr (.inr ⟨j,ht,.inl rfl⟩)))))))
   |Uf j=>exact .inl (.inl (.inr (.inr (.inr (.inl (.inr (.inr ⟨j,ht,.inr rfl⟩)))))))
   |TO=>exact .inl (.inl (.inr (.inr (.inr (.inr (.inl rfl))))))
   |US=>exact .inl (.inl (.inr (.inr (.inr (.inr (.inr (.inl ⟨rfl,Q⟩)))))))
   |UZ j=>exact .inl (.inl (.inr (.inr (.inr (.inr (.inr (.inr ⟨j,Nat.lt_succ_of_le ht,rfl⟩)))))))
   |T0=>cases ht
   |aU=>cases ht
   |UE r=>exact absurd ht (abz r)
  .cases t with
   |heap=>rw[an];exact Tx _
   |Ua=>rw[ae Y,an];exact Tx _
   |Ud=>rw[ae Y,ae Y,W];exact Tx _
   |TY=>rw[ae Y,ae Y,Z];exact Tx _
   |map=>rw[ae Y,ae Y,M.sm];exact Tx _
   |UJ=>rw[ae Y,ae Y,M.sp ht];exact Tx _
   |set j=>rw[ae Y,ae Y,M.ss j ht];exact Tx _
   |Uf j=>rw[ae Y,ae Y,M.sw j ht];show(di n m k).nw j≤0;rw[(g j).2];exact Tx _
   |TO=>rw[ae Y,ae Y,B.sb];exact Tx _
   |US=>rw[ae Y,ae Y,B.sl Q];exact Tx _
   |UZ j=>rw[ae Y,ae Y,B.ss j (Nat.lt_succ_of_le ht)];exact Tx _
   |T0=>cases ht
   |aU=>cases ht
   |UE r=>exact absurd ht (abz r)
  cases t with
  |heap=>
   rw[an];simp only[aa.cell];rw[ae (show Tu.Ud≠.heap by simp),ae (show Tu.Ud≠.Ua by simp),ae (show Tu.Ua≠.heap by simp),an];rfl
  |Ua=>
   rw[ae Y,an];simp only[aa.cell];rw[ae (show Tu.Ud≠.heap by simp),ae (show Tu.Ud≠.Ua by simp)];rfl
  |Ud=>
   rw[ae Y,ae Y,pc i hi];simp only[aa.cell];rw[ae Y,ae Y,ae Y,ae Y,ae Y,ae Y]
  |TY=>
   rw[ae Y,ae Y,sc i hi,U];rfl
  |map=>
   rw[ae Y,ae Y,M.cm i hi];have e:dT d .UJ k=(di n m k).gd (TN (TN d .Ua a) .heap E.next):=by
    unfold dT aa.gd;show _=if 0<k then V.acL (TN (TN d .Ua a) .heap E.next .UJ) 0 k 1 else .acJ
    rw[ae Y,ae Y];by_cases c:k=0
    .rw[Ti c,Tg Q]
    rw[Tg c,Ti Q]
   rw[e];rfl
  |UJ=>
   rw[ae Y,ae Y,M.cp i hi];simp only[aa.cell];rw[ae Y,ae Y]
  |set j=>
   rw[ae Y,ae Y,M.cs j ht i hi];simp only[aa.cell,(g j).1,(g j).2];rw[ae Y,ae Y];rfl
  |Uf j=>
   have N:i<(di n m k).nw j:=hi;rw[(g j).2]at N;omega
  |TO=>
   rw[ae Y,ae Y,B.cb i hi];simp only[aa.cell];rw[ae Y,ae Y,ae Y,ae Y,ae Y,ae Y];unfold dT;rw[Tg Q];rfl
  |US=>
   rw[ae Y,ae Y,B.cl i hi];simp only[aa.cell];rw[ae Y,ae Y]
  |UZ j=>
   rw[ae Y,ae Y,B.cs j (Nat.lt_succ_of_le ht) i hi];simp only[aa.cell];rw[ae Y,ae Y];rfl
  |T0=>cases ht
  |aU=>cases ht
  |UE r=>exact absurd ht (abz r)
 obtain⟨rfl,g2⟩:=m1 y;have d1:(1:Int)≠0:=by decide
 have g1:aH σ D:=by rw[C];exact aH.new _ _
 simp only[go_sem,d1,TV,Ug];exact⟨fun _=>g1.trans g2,fun h=>(y h).elim⟩
def NO(gw:GW σ)(TJ:Nat->Prop):GW (σ.Vl TJ) where
 pos:=gw.pos
 VS a ha:=by
  by_cases h:TJ a
  .rw[(σ.eQ TJ a).1 h];exact gw.VS a ha
  exact(σ.eQ TJ a).2 h
 zero:=gw.zero
 lt:=gw.lt
 TG g a o h1 h2 h3:=by
  by_cases h:TJ a
  .rw[(σ.eQ TJ a).1 h]at h2;exact gw.TG g a o h1 h2 h3
  rw[(σ.eQ TJ a).2 h]at h2;cases h2
 mem a o h1 h2:=by
  by_cases h:TJ a
  .rw[(σ.eQ TJ a).1 h]at h1;exact gw.mem a o h1 h2
  rw[(σ.eQ TJ a).2 h]at h1;cases h1
def Qu(hR:aw σ A H)(ok:H.OK){p c q y:Nat}(hp:p<H.np)(F:(H.Tf p).kind=4)(P:(H.Tf p).TQ=(c:Int))(hc:c<8)(hy:y<4096)(G:q=y/(16*2^c))(D:∀j,(H.Tf p).bw j<18446744073709551616):
  au G0 [] 132 [.acK (A .heap) 0,.u (H.Tk p+y:Nat)] σ fun r σ'=>
   r=.tuple [.agg [.u (H.Tk p+q*(16*2^c):Nat),.u (16*2^c:Nat)],.bool (decide ((H.Tf p).Uc q=1))]∧aH σ σ':=by
 have hq:q<256/2^c:=by obtain⟨w1,w2,w3,w4,w5⟩:=w8 hc;rw[G];refine ZK ?_;rw[w1];exact hy
 refine ai g132 rfl ?_;obtain⟨w,C⟩:=acH (16*2^c);obtain⟨n,U⟩:=acH (256/2^c);have ac:=w8 hc;rw[<- C, <- U]at ac;rw[<- C];rw[<- C]at G;rw[<- U]at hq;obtain⟨w1,w2,w3,w4,w5⟩:=ac;have ao:q*w+w≤4096:=by have h:(q+1)*w≤n*w:=UG _ hq;rw[UW,UF n,w1]at h;omega
 have aU:=iM ok;have aM:H.Tk p+4096<18446744073709551616:=by have:=eU ok (p:=p+1) hp;unfold aa.Tk at *;omega
 have aP:=fU ok;obtain⟨o,ho⟩:=acH (q*w);rw[<- ho]at ao⊢;obtain⟨a,t⟩:=acH (H.Tk p+o);obtain⟨L,M⟩:=acH (H.Tk p+y);rw[<- t, <- M];have aB:w∣H.Tk p:=by have d:w∣4096:=⟨n,w1.symm⟩;refine WE d (WQ ?_);unfold aa.Tk;omega
 have af:L/w=a/w:=by obtain⟨m,hm⟩:=aB;rw[t,M,hm,ho,aab Q,UF q, <- Nat.mul_add,Yd _ Q,G]
 have N:a/w*w=a:=by refine abq ?_;rw[t];refine ZL ?_ ⟨q,by rw[ho,UF]⟩;have d:w∣4096:=⟨n,w1.symm⟩;refine WE d (WQ ?_);unfold aa.Tk;omega
 have X:a%4096=o:=by rw[t];unfold aa.Tk;omega
 have g1:=aH.new σ (.acM 2 [.u 0,.u 0] .nil);have g:=hR.new (.acM 2 [.u 0,.u 0] .nil) rfl;have L1:=To.fx σ [.u 0,.u 0] 2 (.inl Y);obtain⟨lx,ah⟩:=acH (σ.next);have O:=iZ g;have h5:=iS g;have W:=ig g;have R:=Aa H;have c1:¬((L:Int)<(H.Tj:Int)):=by unfold aa.Tk at *;omega
 have c2:¬((H.Ut:Int)≤(L:Int)):=by rw[R];unfold aa.Tk at *;omega
 simp only[go_sem,TH,TK,O,c1,h5,W];rw[<- ah]at L1⊢;have N1:∀s,H.has s->A s≠lx:=fun s hs=>by have:=hR.lt hs;omega
 generalize σ.new (.acM 2 _ .nil)=bb at g1 g L1 O h5 W⊢;obtain⟨v,bd,⟨I,hs⟩,ap⟩:=gG g;subst I hs;refine ab ap ?_;obtain⟨v,be,⟨I,hs⟩,ar⟩:=tC g ok;subst I hs;simp only[go_sem];refine ab ar ?_;have e1:IntKind.u64.wrap ((L:Int)-(H.Tj:Int))=((4096*p+y:Nat):Int):=by unfold aa.Tk at *;rw[cd] <;> omega
 have d2:(4096:Int)≠0:=by decide
 have e2:IntKind.u64.wrap (((4096*p+y:Nat):Int).tdiv 4096)=(p:Int):=by rw[show(4096:Int)=((4096:Nat):Int)from rfl,jQ,cd] <;> omega
 have e3:IntKind.i64.wrap (p:Int)=(p:Int):=bF Q;obtain⟨v,bi,⟨I,hs⟩,av⟩:=ju g;subst I hs;simp only[go_sem,c2,O,e1,d2,bc,TV,Ug,e2,e3,h5];refine ab av ?_;simp only[go_sem];obtain⟨v,e,⟨I,g5,R5⟩,ax⟩:=g.dF (nD g ok hp);subst I;refine ab ax ?_;have L5:=L1.Ui g.gw g5;obtain⟨x,hx⟩:=acH (H.Tf p);rw[<- hx];have hz:bX.cells=[V.i 0,.i 0,.i 0,.i 0,.i 0,.i 0,.i 0,.u 0,.u 0,.u 0,.u 0]:=rfl;have Z:=aQ (σ:=e) (z:=bX.cells) (vs:=x.cells) (n:=11) (by simp[bB.aL]) rfl;have g6:=aH.Ts e 11 bX.cells x.cells;have K:=R5.Ts (n:=11) (z:=bX.cells) (vs:=x.cells) (by simp[bB.aL]) rfl;have J:=To.Ts e 11 bX.cells x.cells rfl;have l:=L5.Ui R5.gw g6;rw[hz]at Z K J l g6;have k0:=J.cell (i:=0) Q;rw[show Tn x.cells 0=.i 4 by rw[<- F, <- hx];rfl]at k0;have k2:=J.cell (i:=2) Q;rw[show Tn x.cells 2=.i c by rw[<- P, <- hx];rfl]at k2;have c3:(0:Int)≤(c:Int):=Q;have e4:jc .u64 16 (c:Int)=(w:Int):=by rw[C];exact gP (a:=16) (n:=c) Q Q
 have cw:(w:Int)≠0:=Q;have e5:IntKind.u64.wrap ((L:Int).tdiv (w:Int))=((a/w:Nat):Int):=by rw[iw Q,af]
 have e6:IntKind.u64.wrap (((a/w:Nat):Int)*(w:Int))=(a:Int):=by rw[gV (by rw[N];omega),N]
 have e7:bZ [V.u 0,.u 0] [(0,1,.u (a:Int)),(1,1,.u (w:Int))]=some [V.u a,.u w]:=rfl;obtain⟨ly,al⟩:=acH (e.next);have E:=aQ (σ:=e.Ts 11 bX.cells x.cells) (z:=[.u 0,.u 0]) (vs:=[.u a,.u w]) (n:=2) Y rfl;rw[hz]at E;simp only[go_sem,TH,TK,aj,bB.aL,Z,k0,k2,aT,c3,e4,bc,cw,TV,Ug,e5,e6,aG,e7,E];rw[<- al]at J k0 k2⊢;have aS:lx≠ly:=by have:=L5.lt R5.gw;omega
 generalize e.Ts 11 _ _=f at K J l g6 k0 k2⊢;have g7:=aH.Ts f 2 [.u 0,.u 0] [.u a,.u w];have R7:=K.Ts (n:=2) (z:=[.u 0,.u 0]) (vs:=[.u a,.u w]) Y rfl;have L7:=To.Ts f 2 [.u 0,.u 0] [.u a,.u w] rfl;have Lx:=l.Ui K.gw g7;have Ly:=J.Ui K.gw g7;obtain⟨lz,am⟩:=acH (f.next);rw[<- am]at L7⊢;have aJ:lx≠lz:=by have:=l.lt K.gw;omega
 have ag:aH σ f:=(g1.trans g5).trans g6;have B:=ag.trans g7;generalize f.Ts 2 _ _=aC at R7 L7 Lx Ly g7 B⊢;have z0:=L7.cell (i:=0) Q;rw[show Tn [V.u a,.u w] 0=.u a from rfl]at z0;have zl:=L7.load (off:=0) (k:=2) Q;rw[show((List.range 2).map fun j=>Tn [V.u a,V.u w] (0+j))=[V.u a,V.u w]from rfl]at zl;have e8:(a:Int).tmod 4096=(o:Int):=by rw[show(4096:Int)=((4096:Nat):Int)from rfl,aW,X]
 have e9:IntKind.u64.wrap ((o:Int).tdiv (w:Int))=(q:Int):=by rw[iw Q,ho,WG _ Q]
 have c5:(64:Int)≠0:=by decide
 have f2:IntKind.u64.wrap ((q:Int).tdiv 64)=((q/64:Nat):Int):=iw (b:=64) Q;have f3:((q:Int).tmod 64)=((q%64:Nat):Int):=aW q 64;have hj:q/64<4:=Q;have hm:q%64<64:=Wt _ Q;obtain⟨j,S⟩:=acH (q/64);obtain⟨m,T⟩:=acH (q%64);rw[<- S]at hj f2;rw[<- T]at hm f3;have c6:(0:Int)≤(j:Int)∧(j:Int)<((4:Nat):Int):=Q;have h1:aC.cell ly (7+j)=some (.u (x.bw j)):=by rw[Ly.cell Q, <- rQ x hj];rcases(by omega:j=0∨j=1∨j=2∨j=3)with h|h|h|h <;> rw[h] <;> rfl
 have c7:(0:Int)≤(m:Int):=Q;have f4:nE .u64 ((x.bw j:Nat):Int) (m:Int)=((x.bw j/2^m:Nat):Int):=gM rfl Q;have f5:=rq (w:=x.bw j) (n:=m) (by rw[hx];exact D j);have f6:(decide (((x.bw j/2^m%2:Nat):Int)=1))=decide (x.Uc q=1):=by
  have:x.Uc q=x.bw j/2^m%2:=by simp[bB.Uc, <- S, <- T]
  rw[this];exact Zw.mpr Q
 obtain⟨ad,ay,L8,ba,P8⟩:=Lx.store R7.gw (off:=0) (vs:=[.u a,.u w]) Y rfl;have h8:ad.cell ly (7+j)=some (.u (x.bw j)):=by rw[(Ly.put P8 Q).cell Q, <- rQ x hj];rcases(by omega:j=0∨j=1∨j=2∨j=3)with h|h|h|h <;> rw[h] <;> rfl
 have g8:aH σ ad:=⟨by rw[P8.next];exact B.next,P8.TX.trans B.TX,fun b O=>(P8.TE b Q).trans (B.TE b O)⟩
 have hl:=L8.load (off:=0) (k:=2) Q;rw[show((List.range 2).map fun j=>UO (fun i=>[V.u 0,V.u 0].getD (i% [V.u 0,V.u 0].length) .undef) 0 [V.u a,V.u w] (0+j))=[V.u a,V.u w]from rfl]at hl;simp only[go_sem,TH,TK,aj,z0,zl,d2,aZ,bc,cw,TV,Ug,e8,e9,c5,f2,f3,c6,Us,TZ,Um,h1,c7,bA,f4,f5,f6,ay,h8,hl];exact g8
def PW(hR:aw σ A H)(ok:H.OK){p k y:Nat}{kd:Int}(hp:p<H.np)(ah:kd=2∨kd=3)(N:(H.Tf p).kind=kd)(c:(H.Tf p).Th=(k:Int))(F:k≤8)(hy:y<4096):
  au G0 [] 132 [.acK (A .heap) 0,.u (H.Tk p+y:Nat)] σ fun r σ'=>
   r=.tuple [.agg [.u (H.Tk (p/2^k*2^k)),.u (4096*2^k:Nat)],.bool true]∧aH σ σ':=by
 refine ai g132 rfl ?_;have aP:=iM ok;have aJ:H.Tk p+4096<18446744073709551616:=by have:=eU ok (p:=p+1) hp;unfold aa.Tk at *;omega
 obtain⟨o,ho⟩:=acH (0);obtain⟨f,hf⟩:=acH (p/2^k*2^k);have aM:f≤p:=by rw[hf];exact Yr _ _
 obtain⟨a,J⟩:=acH (H.Tk f);obtain⟨a0,ag⟩:=acH (H.Tk p+y);rw[<- hf, <- J, <- ag];have g1:=aH.new σ (.acM 2 [.u 0,.u 0] .nil);have B:=hR.new (.acM 2 [.u 0,.u 0] .nil) rfl;have L1:=To.fx σ [.u 0,.u 0] 2 (.inl Y);obtain⟨lx,al⟩:=acH (σ.next);have K:=iZ B;have h5:=iS B;have af:=ig B;have ac:=Aa H;have c1:¬((a0:Int)<(H.Tj:Int)):=by unfold aa.Tk at *;omega
 have c2:¬((H.Ut:Int)≤(a0:Int)):=by rw[ac];unfold aa.Tk at *;omega
 simp only[go_sem,TH,TK,K,c1,h5,af];rw[<- al]at L1⊢;have N1:∀s,H.has s->A s≠lx:=fun s hs=>by have:=hR.lt hs;omega
 generalize σ.new (.acM 2 _ .nil)=aS at g1 B L1 K h5 af⊢;obtain⟨v,aU,⟨l,hs⟩,ap⟩:=gG B;subst l hs;refine ab ap ?_;obtain⟨v,ba,⟨l,hs⟩,ar⟩:=tC B ok;subst l hs;simp only[go_sem];refine ab ar ?_;have e1:IntKind.u64.wrap ((a0:Int)-(H.Tj:Int))=((4096*p+y:Nat):Int):=by unfold aa.Tk at *;rw[cd] <;> omega
 have d2:(4096:Int)≠0:=by decide
 have e2:IntKind.u64.wrap (((4096*p+y:Nat):Int).tdiv 4096)=(p:Int):=by rw[show(4096:Int)=((4096:Nat):Int)from rfl,jQ,cd] <;> omega
 have e3:IntKind.i64.wrap (p:Int)=(p:Int):=bF Q;obtain⟨v,bb,⟨l,hs⟩,av⟩:=ju B;subst l hs;simp only[go_sem,c2,K,e1,d2,bc,TV,Ug,e2,e3,h5];refine ab av ?_;simp only[go_sem];obtain⟨v,d,⟨l,g5,R5⟩,ax⟩:=B.dF (nD B ok hp);subst l;refine ab ax ?_;have L5:=L1.Ui B.gw g5;obtain⟨x,hx⟩:=acH (H.Tf p);rw[<- hx];have hz:bX.cells=[V.i 0,.i 0,.i 0,.i 0,.i 0,.i 0,.i 0,.u 0,.u 0,.u 0,.u 0]:=rfl;have T:=aQ (σ:=d) (z:=bX.cells) (vs:=x.cells) (n:=11) (by simp[bB.aL]) rfl;have Z:=aH.Ts d 11 bX.cells x.cells;have e:=R5.Ts (n:=11) (z:=bX.cells) (vs:=x.cells) (by simp[bB.aL]) rfl;have C:=To.Ts d 11 bX.cells x.cells rfl;have m:=L5.Ui R5.gw Z;rw[hz]at T e C m Z;have U:=C.cell (i:=0) Q;rw[show Tn x.cells 0=.i kd by rw[<- N, <- hx];rfl]at U;have W:=C.cell (i:=1) Q;rw[show Tn x.cells 1=.i k by rw[<- c, <- hx];rfl]at W;obtain⟨ly,ad⟩:=acH (d.next);have d4:¬(kd=4):=Q;have d5:¬(kd=2)->kd=3:=Q;have E:=iS e;have G:=ig e;rcases ah with rfl|rfl
 .simp only[go_sem,TH,TK,aj,bB.aL,T,U,W,Int.reduceEq,E];rw[<- ad]at C U W⊢;have am:lx≠ly:=by have:=L5.lt R5.gw;omega
  have h:aH σ (d.Ts 11 bX.cells x.cells):=by rw[hz];exact(g1.trans g5).trans Z
  rw[hz]at h;generalize d.Ts 11 _ _=ay at e C m Z U W E G h⊢;obtain⟨v,aB,⟨l,hs⟩,P⟩:=ju e;subst l hs;refine ab P ?_;obtain⟨v,aC,⟨l,I,D⟩,R⟩:=e.dF (Kj e ok (p:=p) (k:=k) hp c F);subst l;simp only[go_sem];refine ab R ?_;have Lx:=m.Ui e.gw I;have Ly:=C.Ui e.gw I;have m1:=Ly.cell (i:=1) Q;rw[show Tn x.cells 1=.i k by rw[<- c, <- hx];rfl]at m1;have L:=iZ D;have O:p/2^k*2^k=f:=hf.symm;have e4:IntKind.u64.wrap (f:Int)=(f:Int):=cd Q Q;have e5:IntKind.u64.wrap ((f:Int)*4096)=((4096*f:Nat):Int):=by rw[cd] <;> omega
  have e6:IntKind.u64.wrap ((H.Tj:Int)+((4096*f:Nat):Int))=(a:Int):=by rw[J];unfold aa.Tk at *;rw[cd] <;> omega
  have c3:(0:Int)≤(k:Int):=Q;have ao:=Bi F;have e7:jc .u64 4096 (k:Int)=((4096*2^k:Nat):Int):=gP (a:=4096) (n:=k) Q Q;obtain⟨w,hw⟩:=acH (4096*2^k);rw[<- hw]at e7⊢;have e8:bZ [V.u 0,.u 0] [(0,1,.u (a:Int)),(1,1,.u (w:Int))]=some [V.u a,.u w]:=rfl;obtain⟨X,S,L9,w9,q⟩:=Lx.store D.gw (off:=0) (vs:=[.u a,.u w]) Y rfl;have g:=h.trans I;have g9:aH σ X:=⟨by rw[q.next];exact g.next,q.TX.trans g.TX,fun b K=>(q.TE b Q).trans (g.TE b K)⟩
  have hl:=L9.load (off:=0) (k:=2) Q;rw[show((List.range 2).map fun j=>UO (fun i=>[V.u 0,V.u 0].getD (i% [V.u 0,V.u 0].length) .undef) 0 [V.u a,V.u w] (0+j))=[V.u a,V.u w]from rfl]at hl;have t:=(Ly.put q Q).cell (i:=1) Q;rw[show Tn x.cells 1=.i k by rw[<- c, <- hx];rfl]at t;have M:=iZ (D.VW w9 N1 q (D.Ub.gR Lx));simp only[go_sem,TH,TK,aj,O,L,e4,e5,e6,m1,aT,c3,e7,aG,e8,S,M,t,hl];exact g9
 simp only[go_sem,TH,TK,aj,bB.aL,T,U,W,Int.reduceEq,E];rw[<- ad]at C U W⊢;have am:lx≠ly:=by have:=L5.lt R5.gw;omega
 have h:aH σ (d.Ts 11 bX.cells x.cells):=by rw[hz];exact(g1.trans g5).trans Z
 rw[hz]at h;generalize d.Ts 11 _ _=ay at e C m Z U W E G h⊢;obtain⟨v,aB,⟨l,hs⟩,P⟩:=ju e;subst l hs;refine ab P ?_;obtain⟨v,aC,⟨l,I,D⟩,R⟩:=e.dF (Kj e ok (p:=p) (k:=k) hp c F);subst l;simp only[go_sem];refine ab R ?_;have Lx:=m.Ui e.gw I;have Ly:=C.Ui e.gw I;have m1:=Ly.cell (i:=1) Q;rw[show Tn x.cells 1=.i k by rw[<- c, <- hx];rfl]at m1;have L:=iZ D;have O:p/2^k*2^k=f:=hf.symm;have e4:IntKind.u64.wrap (f:Int)=(f:Int):=cd Q Q;have e5:IntKind.u64.wrap ((f:Int)*4096)=((4096*f:Nat):Int):=by rw[cd] <;> omega
 have e6:IntKind.u64.wrap ((H.Tj:Int)+((4096*f:Nat):Int))=(a:Int):=by rw[J];unfold aa.Tk at *;rw[cd] <;> omega
 have c3:(0:Int)≤(k:Int):=Q;have ao:=Bi F;have e7:jc .u64 4096 (k:Int)=((4096*2^k:Nat):Int):=gP (a:=4096) (n:=k) Q Q;obtain⟨w,hw⟩:=acH (4096*2^k);rw[<- hw]at e7⊢;have e8:bZ [V.u 0,.u 0] [(0,1,.u (a:Int)),(1,1,.u (w:Int))]=some [V.u a,.u w]:=rfl;obtain⟨X,S,L9,w9,q⟩:=Lx.store D.gw (off:=0) (vs:=[.u a,.u w]) Y rfl;have g:=h.trans I;have g9:aH σ X:=⟨by rw[q.next];exact g.next,q.TX.trans g.TX,fun b K=>(q.TE b Q).trans (g.TE b K)⟩
 have hl:=L9.load (off:=0) (k:=2) Q;rw[show((List.range 2).map fun j=>UO (fun i=>[V.u 0,V.u 0].getD (i% [V.u 0,V.u 0].length) .undef) 0 [V.u a,V.u w] (0+j))=[V.u a,V.u w]from rfl]at hl;have t:=(Ly.put q Q).cell (i:=1) Q;rw[show Tn x.cells 1=.i k by rw[<- c, <- hx];rfl]at t;have M:=iZ (D.VW w9 N1 q (D.Ub.gR Lx));simp only[go_sem,TH,TK,aj,O,L,e4,e5,e6,m1,aT,c3,e7,aG,e8,S,M,t,hl];exact g9
def Pm(hR:aw σ A H)(ok:H.OK){p y:Nat}{kd:Int}(hp:p<H.np)(I:kd=0∨kd=1)(e:(H.Tf p).kind=kd)(hy:y<4096):
  au G0 [] 132 [.acK (A .heap) 0,.u (H.Tk p+y:Nat)] σ fun r σ'=>r=.tuple [.agg [.u 0,.u 0],.bool false]∧aH σ σ':=by
 refine ai g132 rfl ?_;have ah:=iM ok;have af:H.Tk p+4096<18446744073709551616:=by have:=eU ok (p:=p+1) hp;unfold aa.Tk at *;omega
 obtain⟨o,ho⟩:=acH (0);obtain⟨D,G⟩:=acH (H.Tk p+y);rw[<- G];have X:=aH.new σ (.acM 2 [.u 0,.u 0] .nil);have c:=hR.new (.acM 2 [.u 0,.u 0] .nil) rfl;have B:=To.fx σ [.u 0,.u 0] 2 (.inl Y);obtain⟨lx,K⟩:=acH (σ.next);have l:=iZ c;have F:=iS c;have q:=ig c;have m:=Aa H;have c1:¬((D:Int)<(H.Tj:Int)):=by unfold aa.Tk at *;omega
 have c2:¬((H.Ut:Int)≤(D:Int)):=by rw[m];unfold aa.Tk at *;omega
 simp only[go_sem,TH,TK,l,c1,F,q];rw[<- K]at B⊢;have N1:∀s,H.has s->A s≠lx:=fun s hs=>by have:=hR.lt hs;omega
 generalize σ.new (.acM 2 _ .nil)=am at X c B l F q⊢;obtain⟨v,ao,⟨g,hs⟩,L⟩:=gG c;subst g hs;refine ab L ?_;obtain⟨v,ap,⟨g,hs⟩,M⟩:=tC c ok;subst g hs;simp only[go_sem];refine ab M ?_;have e1:IntKind.u64.wrap ((D:Int)-(H.Tj:Int))=((4096*p+y:Nat):Int):=by unfold aa.Tk at *;rw[cd] <;> omega
 have d2:(4096:Int)≠0:=by decide
 have e2:IntKind.u64.wrap (((4096*p+y:Nat):Int).tdiv 4096)=(p:Int):=by rw[show(4096:Int)=((4096:Nat):Int)from rfl,jQ,cd] <;> omega
 have e3:IntKind.i64.wrap (p:Int)=(p:Int):=bF Q;obtain⟨v,ar,⟨g,hs⟩,N⟩:=ju c;subst g hs;simp only[go_sem,c2,l,e1,d2,bc,TV,Ug,e2,e3,F];refine ab N ?_;simp only[go_sem];obtain⟨v,a,⟨g,Z,U⟩,O⟩:=c.dF (nD c ok hp);subst g;refine ab O ?_;have L5:=B.Ui c.gw Z;obtain⟨x,hx⟩:=acH (H.Tf p);rw[<- hx];have P:bX.cells=[V.i 0,.i 0,.i 0,.i 0,.i 0,.i 0,.i 0,.u 0,.u 0,.u 0,.u 0]:=rfl;have f:=aQ (σ:=a) (z:=bX.cells) (vs:=x.cells) (n:=11) (by simp[bB.aL]) rfl;have E:=aH.Ts a 11 bX.cells x.cells;have w:=U.Ts (n:=11) (z:=bX.cells) (vs:=x.cells) (by simp[bB.aL]) rfl;have T:=To.Ts a 11 bX.cells x.cells rfl;have h:=L5.Ui U.gw E;rw[P]at f w T h E;have R:=T.cell (i:=0) Q;rw[show Tn x.cells 0=.i kd by rw[<- e, <- hx];rfl]at R;obtain⟨ly,ag⟩:=acH (a.next);have ad:=iS w;have ac:=ig w;have W:bZ [V.u 0,.u 0] []=some [V.u 0,.u 0]:=rfl;have d:aH σ (a.Ts 11 bX.cells x.cells):=by rw[P];exact(X.trans Z).trans E
 rw[P]at d;obtain⟨S,t,L8,al,C⟩:=h.store w.gw (off:=0) (vs:=[.u 0,.u 0]) Y rfl;have J:=L8.load (off:=0) (k:=2) Q;rw[show((List.range 2).map fun j=>UO (fun i=>[V.u 0,V.u 0].getD (i% [V.u 0,V.u 0].length) .undef) 0 [V.u 0,V.u 0] (0+j))=[V.u 0,V.u 0]from rfl]at J;have g8:aH σ S:=⟨by rw[C.next];exact d.next,C.TX.trans d.TX,fun b l=>(C.TE b Q).trans (d.TE b l)⟩
 rcases I with rfl|rfl
 .simp only[go_sem,TH,TK,aj,bB.aL,f,R,Int.reduceEq,aG,W,t,J];exact g8
 simp only[go_sem,TH,TK,aj,bB.aL,f,R,Int.reduceEq,aG,W,t,J];exact g8
def Pu(B:aw σ A H)(ok:H.OK){a:Nat}(ha:a<H.Tj∨H.Ut≤a):
  au G0 [] 132 [.acK (A .heap) 0,.u a] σ fun r σ'=>r=.tuple [.agg [.u 0,.u 0],.bool false]∧aH σ σ':=by
 refine ai g132 rfl ?_;have h:=aH.new σ (.acM 2 [.u 0,.u 0] .nil);have d:=B.new (.acM 2 [.u 0,.u 0] .nil) rfl;have m:=To.fx σ [.u 0,.u 0] 2 (.inl Y);obtain⟨G,g⟩:=acH (σ.next);have f:=iZ d;have o:=iS d;have e:=ig d;have w:bZ [V.u 0,.u 0] []=some [V.u 0,.u 0]:=rfl;obtain⟨t,c,y,C,n⟩:=m.store d.gw (off:=0) (vs:=[.u 0,.u 0]) Y rfl;have l:=y.load (off:=0) (k:=2) Q;rw[show((List.range 2).map fun j=>UO (fun i=>[V.u 0,V.u 0].getD (i% [V.u 0,V.u 0].length) .undef) 0 [V.u 0,V.u 0] (0+j))=[V.u 0,V.u 0]from rfl]at l;have x:aH σ t:=⟨by rw[n.next];exact h.next,n.TX.trans h.TX,fun b f=>(n.TE b Q).trans (h.TE b f)⟩
 by_cases c1:(a:Int)<(H.Tj:Int)
 .simp only[go_sem,TH,TK,f,c1,o,e,aG,w,aj,c,l];exact x
 have z:(H.Ut:Int)≤(a:Int):=Q;simp only[go_sem,TH,TK,f,c1,o,e];rw[<- g]at m⊢;rw[<- g]at c l;generalize σ.new (.acM 2 _ .nil)=D at h d m f o e c⊢;obtain⟨v,E,⟨s,hs⟩,p⟩:=gG d;subst s hs;refine ab p ?_;obtain⟨v,F,⟨s,hs⟩,q⟩:=tC d ok;subst s hs;simp only[go_sem];refine ab q ?_;simp only[go_sem,TH,TK,z,aG,w,aj,c,l];exact x
end
end
end Go.Proofs.YtlgmpheammbacaaGreatDoor
