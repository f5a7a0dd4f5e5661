import Derived.Test.YtlgmpheammbacaaGreatDoorPyh
set_option linter.all false
set_option maxRecDepth 1000000
attribute [local irreducible] AM.T.get AM.T.set
namespace Go.Proofs.YtlgmpheammbacaaGreatDoor
open AM Go
noncomputable section
section
variable {H H':aa}
def mJ(H:aa)(k i:Nat):H.Vq k i=(H.U1 k (i/64)).testBit (i%64):=by unfold aa.Vq;rw[abC]
def He(H:aa)(k i a j:Nat):(H.Xz k i).Vq a j=if a=k∧j=i then !(H.Vq k i)else H.Vq a j:=by
 rw[mJ,mJ,mJ];simp only[aa.Xz];by_cases c:a=k∧j/64=i/64
 .rw[Ti c,abD,aac,c.2,c.1];by_cases d:j=i
  .subst d;rw[Ti ⟨rfl,rfl⟩];simp
  rw[Tg (fun e=>d e.2),UK Q];simp
 rw[Tg c,Tg (fun e=>c ⟨e.1,by rw[e.2]⟩)]
def D7(g:bB)(q:Nat):g.Uc q=if(g.bw (q/64)).testBit (q%64)=true then 1 else 0:=by unfold bB.Uc;rw[abC];have:=abw (g.bw (q/64)/2^(q%64));rcases this with h|h <;> simp[h]
def AL(g:bB)(j v i:Nat)(a:j<4)(hi:i<4):(g.Le j v).bw i=if i=j then v else g.bw i:=by rcases(by omega:i=0∨i=1∨i=2∨i=3)with rfl|rfl|rfl|rfl <;> rcases(by omega:j=0∨j=1∨j=2∨j=3)with rfl|rfl|rfl|rfl <;> simp[bB.bw,bB.Le]
theorem Js(g:bB)(q:Nat)(b:Bool)(i:Nat):(g.TJ q b).bw i=(g.Xh q).bw i:=rfl
def zU(g:bB){q q':Nat}(b:Bool)(f:q<256)(a:q'<256):(g.TJ q b).Uc q'=if q'=q then 1-g.Uc q else g.Uc q':=by
 rw[D7,D7,D7,Js];unfold bB.Xh;rw[AL _ _ _ _ Q Q];by_cases c:q'/64=q/64
 .rw[Ti c,abD,aac,c];by_cases d:q'=q
  .subst d;rw[Ti rfl];cases (g.bw (q'/64)).testBit (q'%64) <;> simp
  rw[Tg d,UK Q];simp
 rw[Tg c,Tg (show ¬q'=q from fun e=>c (by rw[e]))]
def yZ{g:bB}(h:∀j,g.bw j<18446744073709551616){q:Nat}{b:Bool}(f:q<256):∀j,(g.TJ q b).bw j<18446744073709551616:=by
 have a:g.bw (q/64) ^^^2^(q%64)<18446744073709551616:=by refine abE (n:=64) (h _) ?_;exact Y0 Q Q
 intro j;rw[Js];unfold bB.Xh;by_cases d:j<4
 .rw[AL _ _ _ _ Q d];split
  .exact a
  exact h j
 have e:∀x:bB,x.bw j=x.b3:=fun x=>by unfold bB.bw;rw[Tg Q,Tg Q,Tg Q]
 have c:∀x:bB,x.bw 3=x.b3:=fun x=>rfl
 rw[e, <- c,AL _ _ _ _ Q Q];split
 .exact a
 exact h 3
def Ux(l:List Nat)(e:Int):Int:=match l with
 | []=>e
 |q ::_=>q
def Ze(pv:Int):List Nat->Int
 | []=>pv
 |p ::r=>Ze p r
def ir(g:Nat->bB):Int->List Nat->Int->Prop
 |_,[],_=>True
 |pv,p ::r,e=>(g p).next=Ux r e∧(g p).T8=pv∧ir g p r e
def PL(H:aa)(c:Nat)(l:List Nat):Prop:=H.part c=Ux l (-1)∧ir H.Tf (-1) l (-1)
def ir.congr{g a:Nat->bB}:∀{l:List Nat} {pv e:Int},(∀q∈l,(a q).next=(g q).next∧(a q).T8=(g q).T8)->ir g pv l e->ir a pv l e
 | [],_,_,_,_=>trivial
 |p ::r,pv,e,h,k=>by have hp:=h p (VY ..);exact⟨hp.1.trans k.1,hp.2.trans k.2.1,ir.congr (fun q b=>h q (VO _ b)) k.2.2⟩
def E6(l1 l2:List Nat)(e:Int):Ux (l1++l2) e=Ux l1 (Ux l2 e):=by cases l1 <;> rfl
def jH:∀(l:List Nat) (a:Nat) (pv:Int),Ze pv (l++[a])=a
 | [],a,pv=>rfl
 |p ::r,a,pv=>jH r a _
def ir.append{g:Nat->bB}{pv:Int}:∀{l1 l2:List Nat} {e:Int},ir g pv (l1++l2) e↔ir g pv l1 (Ux l2 e)∧ir g (Ze pv l1) l2 e:=by
 intro l1;induction l1 generalizing pv with
 |nil=>intro l2 e;simp[ir,Ze]
 |cons p r f=>
  intro l2 e;simp only[abg,ir,Ze,E6,f];constructor
  .rintro⟨a,b,c,d⟩;exact⟨⟨a,b,c⟩,d⟩
  rintro⟨⟨a,b,c⟩,d⟩;exact⟨a,b,c,d⟩
structure UI (g g':bB):Prop where
 kind:g'.kind=g.kind
 Th:g'.Th=g.Th
 TQ:g'.TQ=g.TQ
 Ty:g'.Ty=g.Ty
 first:g'.first=g.first
 bw:∀ j,g'.bw j=g.bw j
def UI.refl(g:bB):UI g g:=⟨rfl,rfl,rfl,rfl,rfl,fun _=>rfl⟩
def UI.zo(g:bB)(a b:Int):UI g { g with next:=a,T8:=b }:=⟨rfl,rfl,rfl,rfl,rfl,fun _=>rfl⟩
def UI.trans{a b c:bB}(h:UI a b)(k:UI b c):UI a c:=⟨k.kind.trans h.kind,k.Th.trans h.Th,k.TQ.trans h.TQ,k.Ty.trans h.Ty,k.first.trans h.first,fun j=>(k.bw j).trans (h.bw j)⟩
def UI.Uc{g a:bB}(h:UI g a)(q:Nat):a.Uc q=g.Uc q:=by unfold bB.Uc;rw[h.bw]
def o4(H:aa)(p c x:Nat):UI (H.Tf x) ((H.Vh p c).Tf x):=by
 have a:∀x,UI (H.Tf x) ((H.du p c).Tf x):=by
  intro x;simp only[aa.du,aa.aB];by_cases e:x=p
  .rw[Ti e,e];exact UI.zo _ _ _
  rw[Tg e];exact UI.refl _
 show UI (H.Tf x) (((if 0≤H.part c then(H.du p c).aB (H.part c).toNat { (H.du p c).Tf (H.part c).toNat with T8:=p }else H.du p c)).Tf x);by_cases b:0≤H.part c
 .rw[Ti b];simp only[aa.aB];by_cases e:x=(H.part c).toNat
  .rw[Ti e,e];exact(a _).trans ⟨rfl,rfl,rfl,rfl,rfl,fun _=>rfl⟩
  rw[Tg e];exact a x
 rw[Tg b];exact a x
def lA(H:aa)(p c x:Nat):UI (H.Tf x) ((H.dh p c).Tf x):=by
 have b:∀x,UI (H.Tf x) ((H.gq p c).Tf x):=by
  intro x;unfold aa.gq;by_cases a:0≤(H.Tf p).T8
  .rw[Ti a];simp only[aa.aB];by_cases e:x=(H.Tf p).T8.toNat
   .rw[Ti e,e];exact UI.zo _ _ _
   rw[Tg e];exact UI.refl _
  rw[Tg a];exact UI.refl _
 have d:∀x,UI (H.Tf x) ((H.iI p c).Tf x):=by
  intro x;unfold aa.iI;by_cases a:0≤(H.Tf p).next
  .rw[Ti a];simp only[aa.aB];by_cases e:x=(H.Tf p).next.toNat
   .rw[Ti e,e];exact(b _).trans (UI.zo _ _ _)
   rw[Tg e];exact b x
  rw[Tg a];exact b x
 simp only[aa.dh,aa.aB];by_cases e:x=p
 .rw[Ti e,e];exact(d _).trans (UI.zo _ _ _)
 rw[Tg e];exact d x
def PL.ach{c p:Nat}{l:List Nat}(h:PL H c l)(hp:p∉l)(nd:l.Nodup):PL (H.Vh p c) c (p ::l):=by
 obtain⟨g,hs⟩:=h;refine⟨by simp[aa.Vh,aa.dQ,Ux],?_⟩;cases l with
 |nil=>
  have a:H.part c=-1:=g;have e:(H.Vh p c).Tf=(H.du p c).Tf:=by unfold aa.Vh;rw[Tg Q];rfl
  rw[e];refine⟨?_,?_,trivial⟩
  .simp[aa.du,aa.aB,a,Ux]
  simp[aa.du,aa.aB]
 |cons b r=>
  have a:H.part c=(b:Int):=g;have d:b≠p:=fun e=>hp (by simp[e])
  have e:(H.Vh p c).Tf=((H.du p c).aB b { (H.du p c).Tf b with T8:=p }).Tf:=by unfold aa.Vh;rw[Ti Q,a];rfl
  rw[e];have f:=(WO.1 nd).1;refine⟨?_,?_,?_,?_,?_⟩
  .simp[aa.aB,aa.du,U2 d,a,Ux]
  .simp[aa.aB,aa.du,U2 d]
  .simp only[aa.aB,aa.du,TT,d,Ul];exact hs.1
  .simp[aa.aB,aa.du]
  refine ir.congr (fun q i=>?_) hs.2.2;have j:q≠b:=fun e=>f (e▸i)
  have k:q≠p:=fun e=>hp (by rw[<- e];exact VO _ i)
  simp[aa.aB,aa.du,j,k]
def PL.we{c p j:Nat}{l a:List Nat}(h:PL H c l)(g:PL H j a)(n:j≠c)(hp:p∉a)(hd:∀x∈a,x∉l):PL (H.Vh p c) j a:=by
 refine⟨?_,ir.congr (fun q i=>?_) g.2⟩
 .rw[<- g.1];simp[aa.Vh,aa.dQ,n];split <;> rfl
 have k:q≠p:=fun e=>hp (e▸i)
 have f:((H.du p c).Tf q)=H.Tf q:=by simp[aa.du,aa.aB,k]
 show((if 0≤H.part c then(H.du p c).aB (H.part c).toNat { (H.du p c).Tf (H.part c).toNat with T8:=p }else H.du p c).Tf q).next=_∧((if 0≤H.part c then(H.du p c).aB (H.part c).toNat { (H.du p c).Tf (H.part c).toNat with T8:=p }else H.du p c).Tf q).T8=_;by_cases d:0≤H.part c
 .rw[Ti d];have m:q≠(H.part c).toNat:=by
   intro e;cases l with
   |nil=>have:=h.1;simp only[Ux]at this;omega
   |cons b r=>
    have:H.part c=(b:Int):=h.1;exact hd q i (by rw[e,this];simp)
  simp only[aa.aB,Tg m];rw[f];exact⟨rfl,rfl⟩
 rw[Tg d,f];exact⟨rfl,rfl⟩
def PL.JM{c p:Nat}{l1 l2:List Nat}(h:PL H c (l1++p ::l2))(nd:(l1++p ::l2).Nodup):PL (H.dh p c) c (l1++l2):=by
 obtain⟨S,hs⟩:=h;rw[ir.append]at hs;obtain⟨N,s2⟩:=hs;have i:(H.Tf p).next=Ux l2 (-1):=s2.1;have v:(H.Tf p).T8=Ze (-1) l1:=s2.2.1;have E:ir H.Tf p l2 (-1):=s2.2.2;rw[WN]at nd;obtain⟨D,M,w⟩:=nd;have f:=WO.1 M;have A:p∉l1:=fun K=>w p K p Y rfl
 have y:∀x,x≠p->x≠(H.Tf p).T8.toNat∨¬0≤(H.Tf p).T8->x≠(H.Tf p).next.toNat∨¬0≤(H.Tf p).next->(H.dh p c).Tf x=H.Tf x:=by
  intro x L z o;have O:(H.gq p c).Tf x=H.Tf x:=by
   unfold aa.gq;by_cases n:0≤(H.Tf p).T8
   .rw[Ti n];simp only[aa.aB];rw[Tg (z.resolve_right (fun k=>k n))]
   rw[Tg n];rfl
  have R:(H.iI p c).Tf x=H.Tf x:=by
   unfold aa.iI;by_cases n:0≤(H.Tf p).next
   .rw[Ti n];simp only[aa.aB];rw[Tg (o.resolve_right (fun k=>k n)),O]
   rw[Tg n,O]
  simp only[aa.dh,aa.aB];rw[Tg L,R]
 rcases jZ l1 with rfl|⟨C,a,rfl⟩
 .have B:(H.Tf p).T8=-1:=v;have g:¬0≤(H.Tf p).T8:=Q;cases l2 with
  |nil=>
   refine⟨?_,trivial⟩;have d:(H.Tf p).next=-1:=i;simp only[aa.dh,aa.iI,aa.gq,aa.aB];rw[Tg Q,Tg g];simp[aa.dQ,d,Ux]
  |cons b r=>
   have d:(H.Tf p).next=(b:Int):=i;have s:b≠p:=fun e=>f.1 (by simp[e])
   have t:=(WO.1 f.2).1;have e:(H.dh p c).Tf b={ H.Tf b with next:=(H.Tf b).next,T8:=(H.Tf p).T8 }:=by simp only[aa.dh,aa.iI,aa.gq,aa.aB];rw[Tg s,Ti Q,Tg g];simp[aa.dQ,d]
   refine⟨?_,?_,?_,?_⟩
   .simp only[aa.dh,aa.iI,aa.gq,aa.aB];rw[Ti Q,Tg g];simp[aa.dQ,d,Ux]
   .show((H.dh p c).Tf b).next=_;rw[e];exact E.1
   .show((H.dh p c).Tf b).T8=_;rw[e];exact B
   refine ir.congr (fun q m=>?_) E.2.2;have z:q≠b:=fun e=>t (e▸m)
   have o:q≠p:=fun e=>f.1 (by rw[<- e];exact VO _ m)
   rw[y q o (.inr g) (.inl (by rw[d];omega))];exact⟨rfl,rfl⟩
 rw[jH]at v;have g:0≤(H.Tf p).T8:=Q;have l:(H.Tf p).T8.toNat=a:=Q;have G:a∉C:=by rw[WN]at D;intro K;exact D.2.2 a K a Y rfl
 have I:a≠p:=fun e=>A (by simp[e])
 have j:∀x∈l2,a≠x:=fun x hx=>w a Y x (VO _ hx)
 have P:(H.dh p c).Tf a={ H.Tf a with next:=(H.Tf p).next,T8:=(H.Tf a).T8 }:=by
  simp only[aa.dh,aa.iI,aa.gq,aa.aB];rw[Tg I,Ti g];by_cases c1:0≤(H.Tf p).next
  .rw[Ti c1];have:a≠(H.Tf p).next.toNat:=by
    cases l2 with
    |nil=>have h:(H.Tf p).next=-1:=i;omega
    |cons b r=>have h:(H.Tf p).next=(b:Int):=i;have:=j b Y;omega
   simp[this,l]
  rw[Tg c1];simp[l]
 have u:(H.dh p c).part c=H.part c:=by simp only[aa.dh,aa.iI,aa.gq,aa.aB];rw[Ti g];split <;> rfl
 refine⟨?_,?_⟩
 .rw[u,S];cases C <;> rfl
 rw[ir.append]at N;rw[ir.append,ir.append,jH];refine⟨⟨?_,?_,?_,trivial⟩,?_⟩
 .refine ir.congr (fun q m=>?_) N.1;have z:q≠p:=fun e=>A (by rw[<- e];exact Zo _ m)
  have o:q≠a:=fun e=>G (e▸m)
  have F:q≠(H.Tf p).next.toNat∨¬0≤(H.Tf p).next:=by
   cases l2 with
   |nil=>have h:(H.Tf p).next=-1:=i;exact .inr Q
   |cons b r=>have h:(H.Tf p).next=(b:Int):=i;have:=w q (Zo _ m) b Y;exact .inl Q
  rw[y q z (.inl (by rw[l];exact o)) F];exact⟨rfl,rfl⟩
 .show((H.dh p c).Tf a).next=_;rw[P];exact i
 .show((H.dh p c).Tf a).T8=_;rw[P];exact N.2.2.1
 cases l2 with
 |nil=>trivial
 |cons b r=>
  have d:(H.Tf p).next=(b:Int):=i;have s:b≠p:=fun e=>f.1 (by simp[e])
  have t:=(WO.1 f.2).1;have J:b≠a:=U2 (j b Y);have e:(H.dh p c).Tf b={ H.Tf b with next:=(H.Tf b).next,T8:=(H.Tf p).T8 }:=by simp only[aa.dh,aa.iI,aa.gq,aa.aB];rw[Tg s,Ti Q,Ti g];simp[d,l,J]
  refine⟨?_,?_,?_⟩
  .show((H.dh p c).Tf b).next=_;rw[e];exact E.1
  .show((H.dh p c).Tf b).T8=_;rw[e];exact v
  refine ir.congr (fun q m=>?_) E.2.2;have z:q≠b:=fun e=>t (e▸m)
  have o:q≠p:=fun e=>f.1 (by rw[<- e];exact VO _ m)
  have F:q≠a:=U2 (j q (VO _ m));rw[y q o (.inl (by rw[l];exact F)) (.inl (by rw[d];omega))];exact⟨rfl,rfl⟩
def PL.rX{c p j:Nat}{l1 l2 n:List Nat}(h:PL H c (l1++p ::l2))(o:PL H j n)(w:j≠c)(hd:∀x∈n,x∉l1++p ::l2):PL (H.dh p c) j n:=by
 obtain⟨A,hs⟩:=h;rw[ir.append]at hs;obtain⟨B,s2⟩:=hs;have l:(H.Tf p).next=Ux l2 (-1):=s2.1;have g:(H.Tf p).T8=Ze (-1) l1:=s2.2.1;have f:(H.dh p c).part j=H.part j:=by simp only[aa.dh,aa.iI,aa.gq,aa.aB,aa.dQ];split <;> split <;> simp[w]
 refine⟨f.trans o.1,ir.congr (fun q y=>?_) o.2⟩;have i:=hd q y;have t:q≠p:=fun e=>i (by simp[e])
 have u:¬(q=(H.Tf p).T8.toNat∧0≤(H.Tf p).T8):=by
  rintro⟨k,m⟩;rcases jZ l1 with rfl|⟨z,a,rfl⟩
  .have h:(H.Tf p).T8=-1:=g;omega
  rw[jH]at g;exact i (by rw[k,g];simp)
 have v:¬(q=(H.Tf p).next.toNat∧0≤(H.Tf p).next):=by
  rintro⟨k,m⟩;cases l2 with
  |nil=>have h:(H.Tf p).next=-1:=l;omega
  |cons b r=>
   have h:(H.Tf p).next=(b:Int):=l;exact i (by rw[k,h];simp)
 have k:(H.gq p c).Tf q=H.Tf q:=by
  unfold aa.gq;by_cases d:0≤(H.Tf p).T8
  .rw[Ti d];simp only[aa.aB];rw[Tg (fun e=>u ⟨e,d⟩)]
  rw[Tg d];rfl
 have m:(H.iI p c).Tf q=H.Tf q:=by
  unfold aa.iI;by_cases d:0≤(H.Tf p).next
  .rw[Ti d];simp only[aa.aB];rw[Tg (fun e=>v ⟨e,d⟩),k]
  rw[Tg d,k]
 have s:(H.dh p c).Tf q=H.Tf q:=by simp only[aa.dh,aa.aB];rw[Tg t,m]
 rw[s];exact⟨rfl,rfl⟩
end
section
variable {H H':aa}
structure kc (H:aa) (hole:Nat -> Prop) (x k:Nat) (fam:Int):Prop where
 le:k≤H.Th
 Xy:fam=0∨fam=2∨(fam=4∧k=0)
 all:∀ y,y / 2^k=x / 2^k -> ¬ hole y∧(H.Tf y).Th=(k:Int)∧(H.Tf y).kind=if y%2^k=0 then fam else fam+1
def pz(H:aa)(x w:Nat):List Nat->Prop
 | []=>True
 |q ::r=>H.UD (H.Tk x+q*w)=(match r with| []=>0|q' ::_=>H.Tk x+q'*w)∧pz H x w r
structure uD (H:aa) (x c:Nat) (f:List Nat):Prop where
 c8:c<8
 TQ:(H.Tf x).TQ=(c:Int)
 Uf:∀ j,(H.Tf x).bw j<18446744073709551616
 lt:∀ q,q∈f -> q<256 / 2^c
 nd:f.Nodup
 Uc:∀ q,q<256 / 2^c -> (H.Tf x).Uc q=if q∈f then 0 else 1
 Ty:(H.Tf x).Ty+(f.length:Int)=((256 / 2^c:Nat):Int)
 first:(H.Tf x).first=Ux f (-1)
 ZC:pz H x (16*2^c) f
structure Tv (H:aa) (fl pl fc:Nat -> List Nat) (hole:Nat -> Prop):Prop where
 ok:H.OK
 pg:∀ x,x<H.np -> ¬ hole x -> ∃ k fam,kc H hole x k fam
 Uy:∀ k,k≤H.Th -> ∀ p,p∈fl k↔p<H.np∧¬ hole p∧(H.Tf p).kind=0∧(H.Tf p).Th=(k:Int)
 VC:∀ k,k≤H.Th -> (fl k).Nodup
 Ve:∀ k,k≤H.Th -> FL H k (fl k)
 bits:∀ k,k<H.Th -> ∀ i,i<64*H.nw k -> H.Vq k i=xor (decide (2*i*2^k∈fl k)) (decide ((2*i+1)*2^k∈fl k))∧¬ (2*i*2^k∈fl k∧(2*i+1)*2^k∈fl k)
 sl:∀ x,x<H.np -> ¬ hole x -> (H.Tf x).kind=4 -> ∃ c,uD H x c (fc x)
 U0:∀ c,c<8 -> ∀ x,x∈pl c↔x<H.np∧¬ hole x∧(H.Tf x).kind=4∧(H.Tf x).TQ=(c:Int)∧fc x≠[]
 VE:∀ c,c<8 -> (pl c).Nodup
 Vy:∀ c,c<8 -> PL H c (pl c)
variable {fl pl fc:Nat -> List Nat} {hole hole':Nat -> Prop}
def kc.eC{x k:Nat}{a:Int}(h:kc H hole x k a)(b:H'.Th=H.Th)(hp:∀y,y/2^k=x/2^k->(H'.Tf y).Th=(H.Tf y).Th∧(H'.Tf y).kind=(H.Tf y).kind∧¬hole' y):kc H' hole' x k a:=
 ⟨by rw[b];exact h.le,h.Xy,fun y hy=>⟨(hp y hy).2.2,(hp y hy).1.trans (h.all y hy).2.1,(hp y hy).2.1.trans (h.all y hy).2.2⟩⟩
def kc.Th{x k:Nat}{a:Int}(h:kc H hole x k a):(H.Tf x).Th=(k:Int):=(h.all x rfl).2.1
def kc.I8{x k:Nat}{a:Int}(h:kc H hole x k a):¬hole x:=(h.all x rfl).1
def kc.one{x y z k j:Nat}{b a:Int}(h:kc H hole x k b)(g:kc H hole' y j a)(hx:z/2^k=x/2^k)(hy:z/2^j=y/2^j):k=j∧x/2^k=y/2^k:=by have c:=(h.all z hx).2.1;have d:=(g.all z hy).2.1;have e:k=j:=Q;subst e;exact⟨rfl,hx.symm.trans hy⟩
def kc.kinds{x k:Nat}{a:Int}(h:kc H hole x k a){y:Nat}(hy:y/2^k=x/2^k):(H.Tf y).kind=a∨(H.Tf y).kind=a+1:=by
 have:=(h.all y hy).2.2;split at this
 .exact .inl this
 exact .inr this
def kc.zero{x k:Nat}{a:Int}(h:kc H hole x k a)(c:(H.Tf x).kind=0):a=0∧x%2^k=0:=by
 have b:=(h.all x rfl).2.2;rw[c]at b;have d:=h.Xy;split at b
 .rename_i e;exact⟨b.symm,e⟩
 rcases d with rfl|rfl|⟨rfl,_⟩ <;> omega
def kc.Xi{x k:Nat}{a:Int}(h:kc H hole x k a)(c:(H.Tf x).kind=2):a=2∧x%2^k=0:=by
 have b:=(h.all x rfl).2.2;rw[c]at b;have d:=h.Xy;split at b
 .rename_i e;exact⟨b.symm,e⟩
 rcases d with rfl|rfl|⟨rfl,_⟩ <;> omega
def kc.Zy{x k:Nat}{a:Int}(h:kc H hole x k a)(d:(H.Tf x).kind=4):a=4∧k=0:=by
 have b:=(h.all x rfl).2.2;rw[d]at b;have c:=h.Xy;split at b
 .rcases c with rfl|rfl|⟨rfl,rfl⟩
  .omega
  .omega
  exact⟨rfl,rfl⟩
 rcases c with rfl|rfl|⟨rfl,rfl⟩ <;> omega
def pz.congr{x w:Nat}(a:H'.Tj=H.Tj):∀{f:List Nat},(∀q∈f,q*w+8≤4096)->(∀i,i<4096->H'.mem (4096*x+i)=H.mem (4096*x+i))->pz H x w f->pz H' x w f
 | [],_,_,_=>trivial
 |q ::r,hf,hm,h=>by
  have ha:H'.Tk x=H.Tk x:=by unfold aa.Tk;rw[a]
  refine⟨?_,pz.congr a (fun c b=>hf c (VO _ b)) hm h.2⟩;have e:H'.UD (H.Tk x+q*w)=H.UD (H.Tk x+q*w):=by
   refine lh a fun i hi=>?_
   have d:=hf q (VY ..);have:=hm (q*w+i) Q;rw[show H.Tk x+q*w-H.Tj+i=4096*x+(q*w+i) by unfold aa.Tk;omega];exact this
  rw[ha,e];exact h.1
def ey{c q:Nat}(a:c<8)(b:q<256/2^c):q*(16*2^c)+16*2^c≤4096:=by have d:=(w8 a).1;have h:(q+1)*(16*2^c)≤256/2^c*(16*2^c):=UG _ b;rw[UW,UF (256/2^c),d]at h;omega
def uD.Vd{x c:Nat}{f:List Nat}(h:uD H x c f){q:Nat}(a:q∈f):q*(16*2^c)+8≤4096:=by have:=ey h.c8 (h.lt q a);have:=(w8 h.c8).2.1;omega
def uD.eC{x c:Nat}{f:List Nat}(h:uD H x c f)(d:H'.Tj=H.Tj)(a:UI (H.Tf x) (H'.Tf x))(e:∀i,i<4096->H'.mem (4096*x+i)=H.mem (4096*x+i)):uD H' x c f where
 c8:=h.c8
 TQ:=a.TQ.trans h.TQ
 Uf j:=by rw[a.bw];exact h.Uf j
 lt:=h.lt
 nd:=h.nd
 Uc q b:=by rw[a.Uc];exact h.Uc q b
 Ty:=by rw[a.Ty];exact h.Ty
 first:=a.first.trans h.first
 ZC:=pz.congr d (fun q b=>h.Vd b) e h.ZC
def Tv.fS(h:Tv H fl pl fc hole)(e:∀x,hole x↔hole' x):Tv H fl pl fc hole':=by
 have:hole=hole':=funext fun x=>propext (e x)
 exact this▸h
def DU(H:aa){k:Nat}(a:k≤H.Th):2^k∣H.np:=WE (XN 2 a) (aaL ..)
def nR{k x y:Nat}(b:k≤H.Th)(hx:x<H.np)(h:y/2^k=x/2^k):y<H.np:=by obtain⟨m,c⟩:=DU H b;have d:=aK k;rw[c]at hx⊢;have a:x/2^k<m:=ZK hx;rw[<- h]at a;exact(Nat.div_lt_iff_lt_mul d).1 a |> fun t=>by rw[UF];exact t
def dB{k p x:Nat}(al:p%2^k=0):x/2^k=p/2^k↔p≤x∧x<p+2^k:=by
 have f:=aK k;have c:=XJ p (2^k);have d:=XJ x (2^k);have g:=Wt x f;rw[al]at c;constructor
 .intro e;rw[e]at d;omega
 rintro⟨a,b⟩;rw[ZJ]
 .rw[UF];omega
 rw[UW,UF];omega
def Tv.Vf(h:Tv H fl pl fc hole){k p:Nat}(i:k≤H.Th)(hp:p∈fl k):kc H hole p k 0∧p%2^k=0∧p+2^k≤H.np:=by
 obtain⟨a,d,f,l⟩:=(h.Uy k i p).1 hp;obtain⟨j,c,g⟩:=h.pg p a d;have e:j=k:=by have:=g.Th;omega
 subst e;obtain⟨rfl,al⟩:=g.zero f;refine⟨g,al,?_⟩;have b:=aK j;have m:=nR (x:=p) (y:=p+2^j-1) g.le a ((dB al).2 Q);omega
def Tv.eU(h:Tv H fl pl fc hole){p:Nat}(hp:p<H.np):H.Tk p<18446744073709551616:=by have:=Go.Proofs.YtlgmpheammbacaaGreatDoor.eU h.ok (aaM hp);omega
def Tv.abQ(h:Tv H fl pl fc hole){p k:Nat}(g:kc H hole p k 2):Tv H fl pl fc (fun x=>hole x∨x/2^k=p/2^k) where
 ok:=h.ok
 pg x hx hn:=by
  obtain⟨j,f,q⟩:=h.pg x hx (fun c=>hn (.inl c));refine⟨j,f,q.eC rfl fun y hy=>⟨rfl,rfl,?_⟩⟩;rintro(c|c)
  .exact(q.all y hy).1 c
  obtain⟨e,i⟩:=q.one g hy c;subst e;exact hn (.inr i)
 Uy j hj x:=by
  rw[h.Uy j hj x];constructor
  .rintro⟨a,b,c,d⟩;refine⟨a,?_,c,d⟩;rintro(e|e)
   .exact b e
   rcases g.kinds e with k|k <;> omega
  rintro⟨a,b,c,d⟩;exact⟨a,fun e=>b (.inl e),c,d⟩
 VC:=h.VC
 Ve:=h.Ve
 bits:=h.bits
 sl x hx hn:=h.sl x hx (fun c=>hn (.inl c))
 U0 c hc x:=by
  rw[h.U0 c hc x];constructor
  .rintro⟨a,b,d⟩;refine⟨a,?_,d⟩;rintro(e|e)
   .exact b e
   rcases g.kinds e with k|k <;> omega
  rintro⟨a,b,d⟩;exact⟨a,fun e=>b (.inl e),d⟩
 VE:=h.VE
 Vy:=h.Vy
theorem rl(H:aa){p k:Nat}{kind:Int}(x:Nat):(H.run p k kind).Tf x=if p≤x∧x<p+2^k then(if x=p then cI kind k else cI (kind+1) k)else H.Tf x:=rfl
def FL.aU{k:Nat}{l:List Nat}{pg:Nat->bB}(h:FL H k l):FL { H with Tf:=pg } k l:=FL.VW (H:=H) h rfl rfl fun _ _ _ _=>rfl
def jk{H:aa}{p k:Nat}{kind:Int}(al:p%2^k=0)(x:Nat):(H.run p k kind).Tf x=if x/2^k=p/2^k then(if x=p then cI kind k else cI (kind+1) k)else H.Tf x:=by
 rw[rl];by_cases c:x/2^k=p/2^k
 .rw[Ti c,Ti ((dB al).1 c)]
 rw[Tg c,Tg (fun e=>c ((dB al).2 e))]
def rJ{H:aa}{p k:Nat}{kind:Int}(al:p%2^k=0){x:Nat}(hx:x/2^k=p/2^k):((H.run p k kind).Tf x).Th=(k:Int)∧((H.run p k kind).Tf x).kind=if x%2^k=0 then kind else kind+1:=by
 rw[jk al,Ti hx];by_cases c:x=p
 .subst c;rw[Ti rfl,Ti al];exact⟨rfl,rfl⟩
 rw[Tg c,Tg]
 .exact⟨rfl,rfl⟩
 intro e;have b:=XJ p (2^k);have a:=XJ x (2^k);rw[hx]at a;omega
def Tv.fill(h:Tv H fl pl fc hole){p k:Nat}(z:k≤H.Th)(al:p % 2^k=0)(w: ∀x,x/2^k=p/2^k->hole x):Tv (H.run p k 2) fl pl fc (fun x=>hole x∧¬x/2^k=p/2^k):=by
  have g: ∀x, ¬hole x->(H.run p k 2).Tf x=H.Tf x:=fun x hx=>by rw[jk al,Tg (fun e=>hx (w x e))]
  have r: ∀x,x/2^k=p/2^k->((H.run p k 2).Tf x).kind=2∨((H.run p k 2).Tf x).kind=3:=by
    intro x hx;have:=(rJ (H:=H) (kind:=2) al hx).2;split at this
    · exact .inl this
    · exact .inr this
  have t: ∀x, ¬(hole x∧¬x/2^k=p/2^k)->((H.run p k 2).Tf x).kind≠ 2->((H.run p k 2).Tf x).kind≠ 3->¬hole x:=by
    intro x hn u v hx;by_cases c:x/2^k=p/2^k
    · rcases r x c with e|e
      · exact u e
      · exact v e
    · exact hn ⟨hx,c⟩
  exact {
    ok:=ti h.ok
    pg:=by
      intro x hx hn;by_cases c:x/2^k=p/2^k
      · refine⟨k,2,z, .inr (.inl rfl),fun y hy=>⟨fun e=>e.2 (hy.trans c),rJ al (hy.trans c)⟩⟩
      · have f: ¬hole x:=fun e=>hn ⟨e,c⟩
        obtain⟨j,n,q⟩:=h.pg x hx f;refine⟨j,n,q.eC rfl fun y hy=>?_⟩;have m:=(q.all y hy).1;rw[g y m];exact⟨rfl,rfl,fun e=>m e.1⟩
    Uy:=by
      intro j o x;rw[h.Uy j o x];constructor
      · rintro⟨a,b,c,d⟩;rw[g x b];exact⟨a,fun e=>b e.1,c,d⟩
      · rintro⟨a,b,c,d⟩;have f:=t x b Q Q
        rw[g x f]at c d;exact⟨a,f,c,d⟩
    VC:=h.VC
    Ve:=fun j o=>FL.aU (h.Ve j o)
    bits:=h.bits
    sl:=by intro x hx hn l;have f:=t x hn Q Q;rw[g x f]at l;obtain⟨c,s⟩:=h.sl x hx f l;exact⟨c,s.eC rfl (by rw[g x f];exact UI.refl _) fun _ _=>rfl⟩
    U0:=by
      intro c i x;rw[h.U0 c i x];constructor
      · rintro⟨a,b,d⟩;rw[g x b];exact⟨a,fun e=>b e.1,d⟩
      · rintro⟨a,b,d⟩;have f:=t x b Q Q
        rw[g x f]at d;exact⟨a,f,d⟩
    VE:=h.VE
    Vy:=by
      intro c i;refine⟨(h.Vy c i).1,ir.congr (fun q A=>?_) (h.Vy c i).2⟩;have:=((h.U0 c i q).1 A).2.1;rw[g q this];exact⟨rfl,rfl⟩ }
def VV(p k:Nat):Nat:=if p/2^k%2=0 then p+2^k else p-2^k
def mV{p k:Nat}(al:p%2^k=0):p/2^k*2^k=p:=abq (WQ al)
def kX(p k:Nat):p/2^(k+1)=p/2^k/2:=by rw[XO,Nat.div_div_eq_div_mul]
def uX{p k:Nat}(al:p%2^k=0):VV p k=(if p/2^k%2=0 then p/2^k+1 else p/2^k-1)*2^k:=by
 unfold VV;have h:=mV al;split
 .rw[UW,h];omega
 rw[Nat.sub_mul,h];omega
def An{p k i:Nat}(al:p%2^k=0)(hi:i=p/2^(k+1)):(p=2*i*2^k∧VV p k=(2*i+1)*2^k)∨(p=(2*i+1)*2^k∧VV p k=2*i*2^k):=by
 rw[kX]at hi;have h:=mV al;rw[uX al];rcases abw (p/2^k)with e|e
 .refine .inl ⟨?_,?_⟩
  .rw[(Q:2*i=p/2^k),h]
  rw[Ti e,(Q:2*i+1=p/2^k+1)]
 refine .inr ⟨?_,?_⟩
 .rw[(Q:2*i+1=p/2^k),h]
 rw[Tg Q,(Q:2*i=p/2^k-1)]
def F0{p k i:Nat}(hi:i≠p/2^(k+1)):p≠2*i*2^k∧p≠(2*i+1)*2^k:=by
 rw[kX]at hi;have a:=aK k;constructor
 .rintro rfl;rw[WG _ a]at hi;omega
 rintro rfl;rw[WG _ a]at hi;omega
def jU(H:aa)(p k:Nat):(H.aM p k).Tf=H.Tf:=by unfold aa.aM;split <;> rfl
def fO(H:aa)(p k:Nat):(H.aM p k).mem=H.mem:=by unfold aa.aM;split <;> rfl
def gx(H:aa)(p k:Nat):(H.aM p k).head=H.head:=by unfold aa.aM;split <;> rfl
def la(H:aa)(p k:Nat):(H.aM p k).part=H.part:=by unfold aa.aM;split <;> rfl
def oB(H:aa){p k:Nat}(a:k≠H.Th)(j i:Nat):(H.aM p k).Vq j i=if j=k∧i=p/2^(k+1)then !(H.Vq k (p/2^(k+1)))else H.Vq j i:=by unfold aa.aM;rw[Tg a,He]
def tB(H:aa)(k p:Nat):(H.eS k p).Tf=H.Tf:=by unfold aa.eS;split <;> rfl
def DE(H:aa)(k p:Nat):(H.eS k p).U1=H.U1:=by unfold aa.eS;split <;> rfl
def tP(H:aa)(k p:Nat):(H.eS k p).part=H.part:=by unfold aa.eS;split <;> rfl
def kj(H:aa)(k a b:Nat):(H.b9 k a b).Tf=H.Tf:=by unfold aa.b9;split <;> split <;> rfl
def Bj(H:aa)(k a b:Nat):(H.b9 k a b).U1=H.U1:=by unfold aa.b9;split <;> split <;> rfl
def qU(H:aa)(k a b:Nat):(H.b9 k a b).part=H.part:=by unfold aa.b9;split <;> split <;> rfl
def lS{H H':aa}(h:H'.U1=H.U1)(k i:Nat):H'.Vq k i=H.Vq k i:=by unfold aa.Vq;rw[h]
end
section
variable {H H':aa} {fl pl fc:Nat -> List Nat} {hole hole':Nat -> Prop} {σ:St}
def AU{k p x:Nat}(al:p%2^k=0)(a:x%2^k=0)(h:x/2^k=p/2^k):x=p:=by have c:=mV al;have b:=mV a;rw[h]at b;omega
def Tv.pU(h:Tv H fl pl fc hole){j k x:Nat}(e:j≤H.Th)(f:k≤H.Th)(c:x∈fl j)(d:x∈fl k):j=k:=by have a:=((h.Uy j e x).1 c).2.2.2;have b:=((h.Uy k f x).1 d).2.2.2;omega
def DP{p k:Nat}(al:p%2^k=0):VV p k≠p:=by
 have d:=aK k;unfold VV;have a:=mV al;by_cases c:p/2^k%2=0
 .rw[Ti c];omega
 rw[Tg c];have:2^k≤p:=by have b:1*2^k≤p/2^k*2^k:=UG _ (by generalize p/2^k=q at c;omega);omega
 omega
def Tv.Bx(h:Tv H fl pl fc hole){p k:Nat}(C:k≤H.Th)(al:p % 2^k=0)(hp:p+2^k≤H.np)(W: ∀x,x/2^k=p/2^k->hole x)(D:k<H.Th->VV p k ∉ fl k):
    Tv ((H.aM p k).enter p k) (fun j=>if j=k then p ::fl k else fl j) pl fc (fun x=>hole x∧¬x/2^k=p/2^k):=by
  have X:=aK k;have F:hole p:=W p rfl;have r: ∀j,j≤H.Th->p ∉ fl j:=fun j l m=>((h.Uy j l p).1 m).2.1 F
  have sm:((H.aM p k).enter p k).cJ H:=aa.cJ.trans (jF _ _ _) (dt _ _ _);have V:(H.aM p k).Tk p=H.Tk p:=(dt H p k).Tk p;have K: ∀x,((H.aM p k).enter p k).Tf x=if x/2^k=p/2^k then(if x=p then cI 0 k else cI (0+1) k)else H.Tf x:=by intro x;rw[aa.enter,tB,jk al,jU]
  have n: ∀x, ¬hole x->((H.aM p k).enter p k).Tf x=H.Tf x:=fun x hx=>by rw[K,Tg (fun e=>hx (W x e))]
  have u: ∀x,x/2^k=p/2^k->(((H.aM p k).enter p k).Tf x).Th=(k:Int)∧(((H.aM p k).enter p k).Tf x).kind=if x % 2^k=0 then 0 else 1:=by intro x hx;have:=rJ (H:=H) (kind:=0) al hx;rw[jk al,Ti hx]at this;rw[K,Ti hx];exact this
  have R: ∀x,x/2^k=p/2^k->(((H.aM p k).enter p k).Tf x).kind=0∨(((H.aM p k).enter p k).Tf x).kind=1:=by
    intro x hx;have:=(u x hx).2;split at this
    · exact .inl this
    · exact .inr this
  have Y: ∀x, ¬(hole x∧¬x/2^k=p/2^k)->(((H.aM p k).enter p k).Tf x).kind=4->¬hole x:=by
    intro x hn h4 hx;by_cases c:x/2^k=p/2^k
    · rcases R x c with e|e <;> omega
    · exact hn ⟨hx,c⟩
  have U: ∀j,j≤H.Th->FL ((H.aM p k).run p k 0) j (fl j):=fun j l=>FL.VW (H:=H) (h.Ve j l) (dt H p k).Tj (by show(H.aM p k).head j=_;rw[gx]) fun x _ i _=>by show(H.aM p k).mem _=_;rw[fO]
  have v: ∀x,x≠ p->x ∉ fl k->∀i,i<4096->((H.aM p k).enter p k).mem (4096*x+i)=H.mem (4096*x+i):=by
    intro x h1 h2 i hi;have Z:=xo (H:=(H.aM p k).run p k 0) (k:=k) (p:=p) (U k C) x h1 h2 i hi;have e2:(H.aM p k).mem (4096*x+i)=H.mem (4096*x+i):=by rw[fO]
    exact Z.trans e2
  have P: ∀q,q ∈ p ::fl k->H.Tk q<18446744073709551616:=by
    intro q A;rcases U8.1 A with rfl|A
    · exact h.eU Q
    · exact h.eU ((h.Uy k C q).1 A).1
  exact {
    ok:=xt (gj h.ok) (by rw[(dt H p k).np];omega)
    pg:=by
      intro x hx hn;rw[sm.np]at hx;by_cases c:x/2^k=p/2^k
      · exact⟨k,0,by rw[sm.Th];exact C, .inl rfl,fun y hy=>⟨fun e=>e.2 (hy.trans c),u y (hy.trans c)⟩⟩
      · have g: ¬hole x:=fun e=>hn ⟨e,c⟩
        obtain⟨j,M,q⟩:=h.pg x hx g;refine⟨j,M,q.eC sm.Th fun y hy=>?_⟩;have I:=(q.all y hy).1;rw[n y I];exact⟨rfl,rfl,fun e=>I e.1⟩
    Uy:=by
      intro j l x;rw[sm.Th]at l;rw[sm.np];constructor
      · intro m;have TE:x ∈ fl j->x<H.np∧¬(hole x∧¬x/2^k=p/2^k)∧(((H.aM p k).enter p k).Tf x).kind=0∧(((H.aM p k).enter p k).Tf x).Th=(j:Int):=by
          intro m;obtain⟨a,b,c,d⟩:=(h.Uy j l x).1 m;rw[n x b];exact⟨a,fun e=>b e.1,c,d⟩
        by_cases e:j=k
        · subst e;rw[Ti rfl]at m;rcases U8.1 m with rfl|m
          · have:=u x rfl;rw[Ti al]at this;exact⟨Q,fun e=>e.2 rfl,this.2,this.1⟩
          · exact TE m
        · rw[Tg e]at m;exact TE m
      · rintro⟨a,b,c,d⟩;by_cases e:x/2^k=p/2^k
        · have:=u x e;rw[c,d]at this;have L:j=k:=by have:=this.1;omega
          have g:x % 2^k=0:=by
            have:=this.2;split at this
            · assumption
            · omega
          have ex:=AU al g e;subst L ex;rw[Ti rfl];exact VY ..
        · have g: ¬hole x:=fun f=>b ⟨f,e⟩
          rw[n x g]at c d;have m:=(h.Uy j l x).2 ⟨a,g,c,d⟩;by_cases L:j=k
          · subst L;rw[Ti rfl];exact VO _ m
          · rw[Tg L];exact m
    VC:=by
      intro j l;rw[sm.Th]at l;by_cases e:j=k
      · subst e;simp only[TT];exact WO.2 ⟨r j l,h.VC j l⟩
      · simp only[Tg e];exact h.VC j l
    Ve:=by
      intro j l;rw[sm.Th]at l;by_cases e:j=k
      · subst e;simp only[TT];have N:0<((H.aM p j).run p j 0).Tj:=by show 0<(H.aM p j).Tj;rw[(dt H p j).Tj];exact h.ok.Wc
        refine FL.push N (U j l) (r j l) (h.VC j l) fun q A=>?_
        show(H.aM p j).Tk q<_;rw[(dt H p j).Tk];exact P q A
      · simp only[Tg e];refine FL.VW (H:=H) (h.Ve j l) sm.Tj ?_ fun x hx=>?_
        · rw[aa.enter,Ct _ _ _ _ e];show(H.aM p k).head j=_;rw[gx]
        · exact v x (fun ex=>r j l (ex ▸ hx)) (fun m=>e (h.pU l C hx m))
    bits:=by
      intro j l i hi;rw[sm.Th]at l;have O:i<64*H.nw j:=by unfold aa.nw aa.gm at hi⊢;rw[sm.np]at hi;exact hi
      obtain⟨t,J⟩:=h.bits j l i O;have ew:((H.aM p k).enter p k).Vq j i=(H.aM p k).Vq j i:=lS (by rw[aa.enter,DE];rfl) _ _;rw[ew];by_cases T:k=H.Th
      · have et:(H.aM p k).Vq j i=H.Vq j i:=by unfold aa.aM;rw[Ti T]
        simp only[Tg (Q:j≠ k)];rw[et];exact⟨t,J⟩
      · have o:=D Q
        rw[oB H T];by_cases e:j=k
        · subst e;simp only[TT,WK];by_cases B:i=p/2^(j+1)
          · rw[Ti B];have G:=r j C;rcases An al B with⟨a,b⟩|⟨a,b⟩
            · rw[<- a, <- b]at t J⊢;rw[UK G,UK o]at t;have w:=DP al;rw[<- B,t];simp[o,w]
            · rw[<- a, <- b]at t J⊢;rw[UK G,UK o]at t;have w:=DP al;rw[<- B,t];simp[o,w]
          · rw[Tg B];obtain⟨n1,n2⟩:=F0 B;simp only[U8,U2 n1,U2 n2,false_or];exact⟨t,J⟩
        · rw[Tg (fun c=>e c.1)]
          simp only[Tg e];exact⟨t,J⟩
    sl:=by intro x hx hn z;rw[sm.np]at hx;have g:=Y x hn z;rw[n x g]at z;obtain⟨c,s⟩:=h.sl x hx g z;refine⟨c,s.eC sm.Tj (by rw[n x g];exact UI.refl _) (v x (fun e=>g (e ▸ F)) fun m=>?_)⟩;have:=((h.Uy k C x).1 m).2.2.1;omega
    U0:=by
      intro c E x;rw[h.U0 c E x,sm.np];constructor
      · rintro⟨a,b,d⟩;rw[n x b];exact⟨a,fun e=>b e.1,d⟩
      · rintro⟨a,b,d,S⟩;have g:=Y x b d;rw[n x g]at d S;exact⟨a,g,d,S⟩
    VE:=h.VE
    Vy:=by
      intro c E;refine⟨?_,ir.congr (fun q A=>?_) (h.Vy c E).2⟩
      · rw[aa.enter,tP];show(H.aM p k).part c=_;rw[la];exact(h.Vy c E).1
      · have:=((h.U0 c E q).1 A).2.1;rw[n q this];exact⟨rfl,rfl⟩ }
def CN(h:Tv H fl pl fc hole){p k:Nat}(f:k≤H.Th){x:Nat}(d:x≠p)(e:x∉fl k){i:Nat}(hi:i<4096):((H.aM p k).enter p k).mem (4096*x+i)=H.mem (4096*x+i):=by
 have c:FL ((H.aM p k).run p k 0) k (fl k):=FL.VW (H:=H) (h.Ve k f) (dt H p k).Tj (by show(H.aM p k).head k=_;rw[gx]) fun x _ i _=>by show(H.aM p k).mem _=_;rw[fO]
 have a:=xo (H:=(H.aM p k).run p k 0) (k:=k) (p:=p) c x d e i hi;have b:(H.aM p k).mem (4096*x+i)=H.mem (4096*x+i):=by rw[fO]
 exact a.trans b
def iz(H:aa){p k:Nat}(al:p%2^k=0)(x:Nat):((H.aM p k).enter p k).Tf x=if x/2^k=p/2^k then(if x=p then cI 0 k else cI (0+1) k)else H.Tf x:=by rw[aa.enter,tB,jk al,jU]
def sP{l1 l2:List Nat}{p:Nat}(nd:(l1++p ::l2).Nodup):p∉l1∧p∉l2∧(l1++l2).Nodup∧∀x,x∈l1++l2↔x∈l1++p ::l2∧x≠p:=by
 rw[WN]at nd;obtain⟨a,b,c⟩:=nd;obtain⟨b1,b2⟩:=WO.1 b;have d:p∉l1:=fun f=>c p f p Y rfl
 refine⟨d,b1,?_,fun x=>?_⟩
 .rw[WN];exact⟨a,b2,fun x hx y hy=>c x hx y (VO _ hy)⟩
 simp only[VJ,U8];constructor
 .rintro(e|e)
  .exact⟨.inl e,fun k=>d (k▸e)⟩
  exact⟨.inr (.inr e),fun k=>b1 (k▸e)⟩
 rintro⟨e|rfl|e,k⟩
 .exact .inl e
 .exact(k rfl).elim
 exact .inr e
def Tv.qX(h:Tv H fl pl fc hole){p k:Nat}(D:k≤H.Th){l1 l2:List Nat}(t:fl k=l1 ++p ::l2):
    Tv ((H.aM p k).b9 k (Uz H l2 0) (VD H 0 l1)) (fun j=>if j=k then l1 ++l2 else fl j) pl fc (fun x=>hole x∨x/2^k=p/2^k):=by
  have o:p ∈ fl k:=by rw[t];simp
  obtain⟨g,al,hp⟩:=h.Vf D o;have U:=aK k;have nd:=h.VC k D;rw[t]at nd;obtain⟨ad,af,O,u⟩:=sP nd;have M:Uz H l2 0<18446744073709551616:=by
    cases l2 with
    | nil=>simp[Uz]
    | cons b r=>exact h.eU ((h.Uy k D b).1 (by rw[t];simp)).1
  have sm:((H.aM p k).b9 k (Uz H l2 0) (VD H 0 l1)).cJ H:=aa.cJ.trans (im _ _ _ _) (dt _ _ _);have m:((H.aM p k).b9 k (Uz H l2 0) (VD H 0 l1)).Tf=H.Tf:=by rw[kj,jU]
  have G:=(dt H p k).Tj;have S:Uz (H.aM p k) l2 0=Uz H l2 0:=jW G _ _;have W:VD (H.aM p k) 0 l1=VD H 0 l1:=oA G _ _;have fX: ∀j,j≤H.Th->FL (H.aM p k) j (fl j):=fun j l=>FL.VW (H:=H) (h.Ve j l) G (by rw[gx]) fun x _ i _=>by rw[fO]
  have v: ∀x,x ∉ fl k->∀i,i<4096->((H.aM p k).b9 k (Uz H l2 0) (VD H 0 l1)).mem (4096*x+i)=H.mem (4096*x+i):=by intro x hx i hi;have P:=tZ (H:=H.aM p k) (k:=k) (p:=p) (l1:=l1) (l2:=l2) x (by rw[<- t];exact hx) i hi;rw[S,W]at P;rw[P,fO]
  have C: ∀x,x/2^k=p/2^k->(H.Tf x).kind=0->x=p:=by
    intro x hx h0;have:=(g.all x hx).2.2;rw[h0]at this;split at this
    · rename_i n;exact AU al n hx
    · omega
  exact {
    ok:=pP (gj h.ok) M
    pg:=by
      intro x hx hn;rw[sm.np]at hx;obtain⟨j,J,q⟩:=h.pg x hx (fun c=>hn (.inl c));refine⟨j,J,q.eC sm.Th fun y hy=>?_⟩;rw[m];refine⟨rfl,rfl, ?_⟩;rintro(c|c)
      · exact(q.all y hy).1 c
      · obtain⟨e,Y⟩:=q.one g hy c;subst e;exact hn (.inr Y)
    Uy:=by
      intro j l x;rw[sm.Th]at l;rw[sm.np,m];have F: ∀{x},x ∈ fl j->x≠ p∨j≠ k->x<H.np∧¬(hole x∨x/2^k=p/2^k)∧(H.Tf x).kind=0∧(H.Tf x).Th=(j:Int):=by
        intro x n L;obtain⟨a,b,c,d⟩:=(h.Uy j l x).1 n;refine⟨a, ?_,c,d⟩;rintro(f|f)
        · exact b f
        · have N:=C x f c;have ho:=(g.all x f).2.1;rcases L with e|e
          · exact e N
          · exact e Q
      by_cases e:j=k
      · subst e;rw[Ti rfl,u x, <- t];constructor
        · rintro⟨a,b⟩;exact F a (.inl b)
        · rintro⟨a,b,c,d⟩;exact⟨(h.Uy j l x).2 ⟨a,fun f=>b (.inl f),c,d⟩,fun f=>b (.inr (by rw[f]))⟩
      · rw[Tg e];constructor
        · intro a;exact F a (.inr e)
        · rintro⟨a,b,c,d⟩;exact(h.Uy j l x).2 ⟨a,fun f=>b (.inl f),c,d⟩
    VC:=by
      intro j l;rw[sm.Th]at l;by_cases e:j=k
      · subst e;simp only[TT];exact O
      · simp only[Tg e];exact h.VC j l
    Ve:=by
      intro j l;rw[sm.Th]at l;by_cases e:j=k
      · subst e;simp only[TT];have T:=fX j l;rw[t]at T;have:=FL.acD (H:=H.aM p j) (by rw[G];exact h.ok.Wc) T nd fun q V=>by
          rw[(dt H p j).Tk];exact h.eU ((h.Uy j l q).1 (by rw[t];exact V)).1
        rw[S,W]at this;exact this
      · simp only[Tg e];refine FL.VW (H:=H) (h.Ve j l) sm.Tj ?_ fun x hx=>v x fun n=>e (h.pU l D hx n)
        rw[Au e,gx]
    bits:=by
      intro j l i hi;rw[sm.Th]at l;have K:i<64*H.nw j:=by unfold aa.nw aa.gm at hi⊢;rw[sm.np]at hi;exact hi
      obtain⟨z,A⟩:=h.bits j l i K;have ew:((H.aM p k).b9 k (Uz H l2 0) (VD H 0 l1)).Vq j i=(H.aM p k).Vq j i:=lS (Bj ..) _ _;rw[ew];by_cases R:k=H.Th
      · have Z:(H.aM p k).Vq j i=H.Vq j i:=by unfold aa.aM;rw[Ti R]
        simp only[Tg (Q:j≠ k)];rw[Z];exact⟨z,A⟩
      · rw[oB H R];by_cases e:j=k
        · subst e;simp only[TT,WK,u, <- t];by_cases B:i=p/2^(j+1)
          · rw[Ti B];have ac:=DP al;rcases An al B with⟨a,b⟩|⟨a,b⟩
            · rw[<- a, <- b]at z A⊢;have w:VV p j ∉ fl j:=fun n=>A ⟨o,n⟩
              rw[<- B,z];simp[o,w]
            · rw[<- a, <- b]at z A⊢;have w:VV p j ∉ fl j:=fun n=>A ⟨n,o⟩
              rw[<- B,z];simp[o,w]
          · rw[Tg B];obtain⟨n1,n2⟩:=F0 B;simp only[TV,U2 n1,U2 n2,Ug,YJ];exact⟨z,A⟩
        · rw[Tg (fun c=>e c.1)]
          simp only[Tg e];exact⟨z,A⟩
    sl:=by intro x hx hn E;rw[sm.np]at hx;rw[m]at E;obtain⟨c,s⟩:=h.sl x hx (fun f=>hn (.inl f)) E;refine⟨c,s.eC sm.Tj (by rw[m];exact UI.refl _) (v x fun n=>?_)⟩;have:=((h.Uy k D x).1 n).2.2.1;omega
    U0:=by
      intro c I x;rw[h.U0 c I x,sm.np,m];constructor
      · rintro⟨a,b,d,X⟩;refine⟨a, ?_,d,X⟩;rintro(f|f)
        · exact b f
        · rcases g.kinds f with k|k <;> omega
      · rintro⟨a,b,d⟩;exact⟨a,fun f=>b (.inl f),d⟩
    VE:=h.VE
    Vy:=by
      intro c I;refine⟨?_,ir.congr (fun q V=>by rw[m];exact⟨rfl,rfl⟩) (h.Vy c I).2⟩;rw[qU,la];exact(h.Vy c I).1 }
def qT(h:Tv H fl pl fc hole){p k:Nat}(d:k≤H.Th){l1 l2:List Nat}(c:fl k=l1++p ::l2){x:Nat}(hx:x∉fl k){i:Nat}(hi:i<4096):
  ((H.aM p k).b9 k (Uz H l2 0) (VD H 0 l1)).mem (4096*x+i)=H.mem (4096*x+i):=by
 have a:=(dt H p k).Tj;have b:=tZ (H:=H.aM p k) (k:=k) (p:=p) (l1:=l1) (l2:=l2) x (by rw[<- c];exact hx) i hi;rw[jW a,oA a]at b;rw[b,fO]
def BP(H:aa)(p k q j:Nat):(H.enter p k).aM q j=(H.aM q j).enter p k:=by
 have a:(H.enter p k).Th=H.Th:=(jF H p k).Th;unfold aa.aM;rw[a];by_cases e:j=H.Th
 .rw[Ti e,Ti e]
 rw[Tg e,Tg e];unfold aa.enter aa.eS;by_cases c:H.head k=0
 .rw[Ti (show(H.run p k 0).head k=0 from c),Ti (show((H.Xz j (q/2^(j+1))).run p k 0).head k=0 from c)];rfl
 rw[Tg (show ¬(H.run p k 0).head k=0 from c),Tg (show ¬((H.Xz j (q/2^(j+1))).run p k 0).head k=0 from c)];rfl
def wQ(H:aa)(k a b q j:Nat):(H.b9 k a b).aM q j=(H.aM q j).b9 k a b:=by
 have f:(H.b9 k a b).Th=H.Th:=(im H k a b).Th;unfold aa.aM;rw[f];by_cases e:j=H.Th
 .rw[Ti e,Ti e]
 rw[Tg e,Tg e];unfold aa.b9;by_cases c:a=0
 .rw[Ti c,Ti c];by_cases d:b=0
  .rw[Ti d,Ti d];rfl
  rw[Tg d,Tg d];rfl
 rw[Tg c,Tg c];by_cases d:b=0
 .rw[Ti d,Ti d];rfl
 rw[Tg d,Tg d];rfl
def eW(H:aa)(x:Nat):Prop:=(H.Tf x).kind=0∨(H.Tf x).kind=1
structure nI (H H':aa) (hole:Nat -> Prop):Prop where
 T6:H'.cJ H
 part:H'.part=H.part
 lock:H'.lock=H.lock
 held:∀ x,x<H.np -> ¬ hole x -> ¬ eW H x -> H'.Tf x=H.Tf x∧∀ i,i<4096 -> H'.mem (4096*x+i)=H.mem (4096*x+i)
 Vf:∀ x,x<H.np -> ¬ hole x -> eW H x -> eW H' x
def nI.trans{e f g:aa}(h:nI e f hole)(k:nI f g hole):nI e g hole where
 T6:=aa.cJ.trans k.T6 h.T6
 part:=k.part.trans h.part
 lock:=k.lock.trans h.lock
 held x hx hn hf:=by obtain⟨a,b⟩:=h.held x hx hn hf;obtain⟨c,d⟩:=k.held x (by rw[h.T6.np];exact hx) hn (by unfold eW at hf⊢;rw[a];exact hf);exact⟨c.trans a,fun i hi=>(d i hi).trans (b i hi)⟩
 Vf x hx hn hf:=k.Vf x (by rw[h.T6.np];exact hx) hn (h.Vf x hx hn hf)
def nI.refl(H:aa)(hole:Nat->Prop):nI H H hole:=⟨aa.cJ.refl H,rfl,rfl,fun _ _ _ _=>⟨rfl,fun _ _=>rfl⟩,fun _ _ _ h=>h⟩
def nI.aco(h:nI H H' hole)(e:∀x,hole x->hole' x):nI H H' hole':=
 ⟨h.T6,h.part,h.lock,fun x hx hn a=>h.held x hx (fun c=>hn (e x c)) a,fun x hx hn a=>h.Vf x hx (fun c=>hn (e x c)) a⟩
def j7(H:aa)(p k:Nat):(H.aM p k).lock=H.lock:=by unfold aa.aM;split <;> rfl
def oI(H:aa)(k p:Nat):(H.eS k p).lock=H.lock:=by unfold aa.eS;split <;> rfl
def mQ(H:aa)(k a b:Nat):(H.b9 k a b).lock=H.lock:=by unfold aa.b9;split <;> split <;> rfl
def Tv.mr(h:Tv H fl pl fc hole){p k:Nat}(b:k≤H.Th)(al:p%2^k=0)(a:∀x,x/2^k=p/2^k->hole x):nI H ((H.aM p k).enter p k) hole where
 T6:=aa.cJ.trans (jF _ _ _) (dt _ _ _)
 part:=by rw[aa.enter,tP];exact la H p k
 lock:=by rw[aa.enter,oI];exact j7 H p k
 held x hx hn hf:=by refine⟨by rw[iz H al,Tg (fun e=>hn (a x e))],fun i hi=>CN h b (fun e=>hn (by rw[e];exact a p rfl)) (fun c=>?_) hi⟩;exact hf (.inl ((h.Uy k b x).1 c).2.2.1)
 Vf x hx hn hf:=by unfold eW at hf⊢;rw[iz H al,Tg (fun e=>hn (a x e))];exact hf
def Tv.lC(h:Tv H fl pl fc hole){p k:Nat}(a:k≤H.Th){l1 l2:List Nat}(b:fl k=l1++p ::l2):nI H ((H.aM p k).b9 k (Uz H l2 0) (VD H 0 l1)) hole where
 T6:=aa.cJ.trans (im _ _ _ _) (dt _ _ _)
 part:=by rw[qU,la]
 lock:=by rw[mQ,j7]
 held x hx hn hf:=by refine⟨by rw[kj,jU],fun i hi=>qT h a b (fun c=>?_) hi⟩;exact hf (.inl ((h.Uy k a x).1 c).2.2.1)
 Vf x hx hn hf:=by unfold eW at hf⊢;rw[kj,jU];exact hf
def Tv.mH{p j:Nat}(h:Tv H fl pl fc (fun x=>x/2^j=p/2^j))(O:j≤H.Th)(al:p%2^j=0)(hp:p+2^j≤H.np):
  ∀n,n≤j->Tv (H.mH p j n) (fun i=>if j-n≤i∧i<j then(p+2^i) ::fl i else fl i) pl fc (fun x=>x/2^(j-n)=p/2^(j-n))∧nI H (H.mH p j n) (fun x=>x/2^j=p/2^j)∧
   ∀x,x/2^j=p/2^j->¬x/2^(j-n)=p/2^(j-n)->eW (H.mH p j n) x:=by
 intro n;induction n with
 |zero=>
  intro _;refine⟨?_,nI.refl _ _,fun x r I=>(I r).elim⟩;have e:(fun i=>if j-0≤i∧i<j then(p+2^i) ::fl i else fl i)=fl:=by funext i;rw[Tg Q]
  rw[e];exact h
 |succ n M=>
  intro hn;obtain⟨r,F,E⟩:=M Q;obtain⟨i,hi⟩:=acH (j-1-n);have A:j-n=i+1:=Q;have u:j-(n+1)=i:=Q;rw[A]at r E;rw[u];have g:=aK i;have f:p%2^(i+1)=0:=Yc (WE (XN 2 Q) (WQ al));have l:p%2^i=0:=Yc (WE (XN 2 Q) (WQ al));have N:2^(i+1)=2^i+2^i:=by rw[XO];omega
  have a:(p+2^i)%2^i=0:=by rw[Nat.add_mod_right];exact l
  have K:2^(i+1)≤2^j:=Vb Q Q;have J:p/2^i%2=0:=by obtain⟨m,B⟩:=WQ f;rw[B,XO,YZ,Yd _ g];omega
  have o:VV (p+2^i) i=p:=by unfold VV;rw[Nat.add_div_right _ g,Tg Q];omega
  have sub:∀x,x/2^i=(p+2^i)/2^i->x/2^(i+1)=p/2^(i+1):=by intro x hx;have:=(dB a).1 hx;exact(dB f).2 Q
  have y:∀x,x/2^(i+1)=p/2^(i+1)->x/2^j=p/2^j:=by intro x hx;have:=(dB f).1 hx;exact(dB al).2 Q
  have sm:=F.T6;have t:∀m,m≤H.Th->p∉(if i+1≤m∧m<j then(p+2^m) ::fl m else fl m):=by intro m B v;have:=((r.Uy m (by rw[sm.Th];exact B) p).1 v).2.1;exact this rfl
  have b:H.mH p j (n+1)=((H.mH p j n).aM (p+2^i) i).enter (p+2^i) i:=by rw[aa.mH, <- hi,aa.split,BP]
  have q:=Tv.Bx (p:=p+2^i) (k:=i) r (by rw[sm.Th];omega) a (by rw[sm.np];omega) sub (fun L=>by
   rw[o];exact t i Q)
  rw[<- b]at q;refine⟨?_,?_,?_⟩
  .have z:(fun m=>if m=i then(p+2^i) ::(if i+1≤i∧i<j then(p+2^i) ::fl i else fl i)else(if i+1≤m∧m<j then(p+2^m) ::fl m else fl m))=(fun m=>if i≤m∧m<j then(p+2^m) ::fl m else fl m):=by
    funext m
    by_cases c:m=i
    .subst c;rw[Ti rfl,Tg Q,Ti Q]
    rw[Tg c];by_cases d:i+1≤m∧m<j
    .rw[Ti d,Ti Q]
    rw[Tg d,Tg Q]
   have s:(fun w=>if w=i then(p+2^i) ::(fun m=>if i+1≤m∧m<j then(p+2^m) ::fl m else fl m) i else(fun m=>if i+1≤m∧m<j then(p+2^m) ::fl m else fl m) w)=(fun m=>if i≤m∧m<j then(p+2^m) ::fl m else fl m):=z;rw[s]at q;refine q.fS fun x=>?_
   rw[dB f,dB a,dB l];omega
  .have G:=Tv.mr (p:=p+2^i) (k:=i) r (by rw[sm.Th];omega) a sub;rw[<- b]at G;exact F.trans (G.aco y)
  intro x hx C;by_cases c:x/2^(i+1)=p/2^(i+1)
  .have D:x/2^i=(p+2^i)/2^i:=by rw[dB f]at c;rw[dB l]at C;rw[dB a];omega
   unfold eW;rw[b,iz _ a,Ti D];by_cases d:x=p+2^i
   .rw[Ti d];exact .inl rfl
   rw[Tg d];exact .inr rfl
  have:=E x hx c;unfold eW at this⊢;rw[b,iz _ a,Tg (fun e=>c (sub x e))];exact this
def Tv.XY(h:Tv H fl pl fc (fun _=>False)){k j p:Nat}{r:List Nat}(M:k≤j)(l:j≤H.Th)(F:fl j=p ::r):
  (∃u,Tv (H.XY k j p (Uz H r 0)) u pl fc (fun _=>False))∧nI H (H.XY k j p (Uz H r 0)) (fun x=>x/2^j=p/2^j)∧p%2^j=0∧p+2^j≤H.np∧(∀x,x/2^j=p/2^j->eW H x)∧
   (∀x,x/2^j=p/2^j->¬x/2^k=p/2^k->eW (H.XY k j p (Uz H r 0)) x)∧(∀x,x/2^k=p/2^k->(H.XY k j p (Uz H r 0)).Tf x=if x=p then cI 2 k else cI (2+1) k)∧
   (∀m,m<j-k->(((H.b9 j (Uz H r 0) 0).aM p j).mH p j m).lH (j-1-m))∧H.Zt j (H.Tk p) (Uz H r 0) 0:=by
 have z:p∈fl j:=by rw[F];simp
 obtain⟨g,al,N⟩:=h.Vf l z;have n:fl j=[]++p ::r:=F;have y:VD H 0 []=0:=rfl;have hu:=h.qX l n;have D:=h.lC l n;rw[y, <- wQ]at hu D;have C:=hu.fS (hole':=fun x=>x/2^j=p/2^j) (fun x=>by simp);have d:=D.T6;have L:=Tv.mH C (by rw[d.Th];exact l) al (by rw[d.np];exact N);obtain⟨J,K,I⟩:=L (j-k) Q;have t:j-(j-k)=k:=Q;rw[t]at J I;have c:p%2^k=0:=Yc (WE (XN 2 M) (WQ al));have P:2^k≤2^j:=Vb Q M;have sub:∀x,x/2^k=p/2^k->x/2^j=p/2^j:=fun x hx=>by rw[dB c]at hx;rw[dB al];omega
 have E:=K.T6;have i:=J.fill (p:=p) (k:=k) (by rw[E.Th,d.Th];omega) c (fun x hx=>hx);have R:nI H ((H.b9 j (Uz H r 0) 0).aM p j) (fun x=>x/2^j=p/2^j):=D.aco (fun x hx=>hx.elim);have s:=R.trans K;refine⟨⟨_,i.fS (fun x=>⟨fun e=>e.2 e.1,fun e=>e.elim⟩)⟩,?_,al,N,?_,?_,?_,?_,?_⟩
 .refine⟨aa.cJ.trans (wL _ _ _ _) s.T6,s.part,s.lock,fun x hx hn v=>?_,fun x hx hn v=>?_⟩
  .obtain⟨a,b⟩:=s.held x hx hn v;refine⟨?_,b⟩;rw[aa.XY,jk c,Tg (fun e=>hn (sub x e))];exact a
  have:=s.Vf x hx hn v;unfold eW at this⊢;rw[aa.XY,jk c,Tg (fun e=>hn (sub x e))];exact this
 .intro x hx;exact g.kinds hx
 .intro x O G;have:=I x O G;unfold eW at this⊢;rw[aa.XY,jk c,Tg G];exact this
 .intro x hx;rw[aa.XY,jk c,Ti hx]
 .intro m S;obtain⟨f,o,_⟩:=L m Q;have w:=f.Ve (j-1-m) (by rw[o.T6.Th,d.Th];omega);refine w.Ba fun q A=>?_
  have B:=((f.Uy (j-1-m) (by rw[o.T6.Th,d.Th];omega) q).1 A).1;exact iq f.ok B Q
 have:=FL.YU h.ok.Wc (l1:=[]) (by rw[<- n];exact h.Ve j l) (by rw[<- n];exact h.VC j l) (fun q A=>iq h.ok ((h.Uy j l q).1 (by rw[n];exact A)).1 Q);exact this
def _root_.AM.aa.iV:Nat->aa->Nat->Nat->aa
 | 0,H,p,k=>(H.aM p k).enter p k
 |n+1,H,p,k=>if(decide (k=H.Th) ||(H.aM p k).Vq k (p/2^(k+1)))=true then(H.aM p k).enter p k
  else iV n ((H.aM p k).b9 k (H.UD (H.Tk (VV p k))) (H.UD (H.Tk (VV p k)+8))) (p/2^(k+1)*2^(k+1)) (k+1)
def Oj{p k:Nat}(al:p%2^k=0):VV p k/2^(k+1)=p/2^(k+1)∧VV p k%2^k=0:=by have b:=aK k;have a:=uX al;rw[kX,kX,a,WG _ b,Xl];refine⟨?_,rfl⟩;generalize p/2^k=q;split <;> omega
def Cv{p k x:Nat}(al:p%2^k=0):x/2^(k+1)=p/2^(k+1)↔x/2^k=p/2^k∨x/2^k=VV p k/2^k:=by have a:=aK k;rw[kX,kX,uX al,WG _ a];generalize p/2^k=q;generalize x/2^k=y;split <;> omega
def wb(H:aa){p k:Nat}(al:p%2^k=0):H.aM (VV p k) k=H.aM p k:=by unfold aa.aM;rw[(Oj al).1]
def Tv.Jv(h:Tv H fl pl fc hole){p k:Nat}(d:k<H.Th)(al:p%2^k=0)(hp:p<H.np)(e:hole p):(H.aM p k).Vq k (p/2^(k+1))=decide (VV p k∉fl k):=by
 have c:p∉fl k:=fun f=>((h.Uy k Q p).1 f).2.1 e
 obtain⟨g,i⟩:=h.bits k d (p/2^(k+1)) (by have:=Ah hp d;unfold aa.nw;omega);rw[oB H Q,Ti ⟨rfl,rfl⟩,g];rcases An al rfl with⟨a,b⟩|⟨a,b⟩
 .rw[<- a, <- b,UK c];simp
 rw[<- a, <- b,UK c];simp
def Tv.iV:∀(n:Nat) {H:aa} {fl:Nat->List Nat} {p k:Nat},H.Th≤k+n->k≤H.Th->p%2^k=0->p+2^k≤H.np->Tv H fl pl fc (fun x=>x/2^k=p/2^k) →
  (∃m,Tv (H.iV n p k) m pl fc (fun _=>False))∧nI H (H.iV n p k) (fun x=>x/2^k=p/2^k)∧∀x,x/2^k=p/2^k->eW (H.iV n p k) x:=by
 have Tj:∀{H:aa} {fl:Nat->List Nat} {p k:Nat},k≤H.Th->p%2^k=0->p+2^k≤H.np->Tv H fl pl fc (fun x=>x/2^k=p/2^k)->(k<H.Th->VV p k∉fl k) →
   (∃m,Tv ((H.aM p k).enter p k) m pl fc (fun _=>False))∧nI H ((H.aM p k).enter p k) (fun x=>x/2^k=p/2^k)∧∀x,x/2^k=p/2^k->eW ((H.aM p k).enter p k) x:=by
  intro H fl p k G al s h N;refine⟨⟨_,(h.Bx G al s (fun x hx=>hx) N).fS (fun x=>⟨fun e=>e.2 e.1,fun e=>e.elim⟩)⟩,h.mr G al (fun x hx=>hx),fun x hx=>?_⟩;unfold eW;rw[iz _ al,Ti hx];by_cases d:x=p
  .rw[Ti d];exact .inl rfl
  rw[Tg d];exact .inr rfl
 intro n;induction n with
 |zero=>
  intro H fl p k M l al s h;exact Tj l al s h (fun j=>Q)
 |succ n R=>
  intro H fl p k M l al s h;have I:=aK k;rw[aa.iV];by_cases F:k=H.Th
  .rw[Ti (by simp[F])];exact Tj l al s h (fun j=>Q)
  have j:k<H.Th:=Q;rw[h.Jv j al Q rfl,UK F,Bool.false_or];by_cases cb:VV p k∈fl k
  .rw[Tg (by simp[cb])];obtain⟨l1,S,v⟩:=ZE cb;obtain⟨L,K,O⟩:=h.Vf l cb;have hu:=h.qX l v;have t:=h.lC l v;rw[wb H al]at hu t;have hs:=FL.YU h.ok.Wc (by rw[<- v];exact h.Ve k l) (by rw[<- v];exact h.VC k l) (fun q w=>iq h.ok ((h.Uy k l q).1 (by rw[v];exact w)).1 Q);rw[hs.next,hs.T8];obtain⟨q,w⟩:=acH (p/2^(k+1)*2^(k+1));have o:=aK (k+1);have u:q%2^(k+1)=0:=by rw[w];exact Xl _ _
   have z:q/2^(k+1)=p/2^(k+1):=by rw[w,WG _ o]
   have f:∀x,(x/2^k=p/2^k∨x/2^k=VV p k/2^k)↔x/2^(k+1)=q/2^(k+1):=fun x=>by rw[z,Cv al]
   have C:=hu.fS f;have g:=t.T6;have B:q+2^(k+1)≤H.np:=by have T:=nR (H:=H) (k:=k+1) (x:=p) (y:=q+2^(k+1)-1) j Q (by rw[<- z];exact(dB u).2 Q);omega
   obtain⟨P,A,J⟩:=R (H:=(H.aM p k).b9 k (Uz H S 0) (VD H 0 l1)) (p:=q) (k:=k+1) (by rw[g.Th];omega) (by rw[g.Th];exact j) u (by rw[g.np];exact B) C;rw[<- w];refine⟨P,?_,fun x hx=>J x ((f x).1 (.inl hx))⟩;have E:=aa.cJ.trans A.T6 g;refine⟨E,A.part.trans t.part,A.lock.trans t.lock,fun x hx hn r=>?_,fun x hx hn r=>?_⟩
   .have D:¬x/2^(k+1)=q/2^(k+1):=by
     intro e;rcases(f x).2 e with e|e
     .exact hn e
     exact r (L.kinds e)
    obtain⟨a,b⟩:=t.held x hx hn r;obtain⟨c,d⟩:=A.held x (by rw[g.np];exact hx) D (by unfold eW at r⊢;rw[a];exact r);exact⟨c.trans a,fun i hi=>(d i hi).trans (b i hi)⟩
   by_cases e:x/2^(k+1)=q/2^(k+1)
   .exact J x e
   exact A.Vf x (by rw[g.np];exact hx) e (t.Vf x hx hn r)
  rw[Ti (by simp[cb])];exact Tj l al s h (fun _=>cb)
def ir.range{g:Nat->bB}{N:Nat}:∀{l:List Nat} {pv e:Int},(∀q∈l,q<N)->-1≤pv->pv<(N:Int)->-1≤e->e<(N:Int)->ir g pv l e->∀q∈l,(-1≤(g q).next∧(g q).next<(N:Int))∧-1≤(g q).T8∧(g q).T8<(N:Int)
 | [],_,_,_,_,_,_,_,_,q,a=>by cases a
 |p ::r,pv,e,hl,h1,h2,h3,h4,h,q,a=>by
  have hp:=hl p (VY ..);rcases U8.1 a with rfl|a
  .refine⟨?_,by rw[h.2.1];exact⟨h1,h2⟩⟩;rw[h.1];cases r with
   |nil=>exact⟨h3,h4⟩
   |cons b r=>have:=hl b Y;simp only[Ux];omega
  exact ir.range (fun q a=>hl q (VO _ a)) Q Q h3 h4 h.2.2 q a
def oJ(H:aa)(p c x:Nat):UI (H.Tf x) ((H.gq p c).Tf x):=by
 unfold aa.gq;by_cases a:0≤(H.Tf p).T8
 .rw[Ti a];simp only[aa.aB];by_cases e:x=(H.Tf p).T8.toNat
  .rw[Ti e,e];exact UI.zo _ _ _
  rw[Tg e];exact UI.refl _
 rw[Tg a];exact UI.refl _
def H4(H:aa)(p c x:Nat):UI (H.Tf x) ((H.iI p c).Tf x):=by
 unfold aa.iI;by_cases a:0≤(H.Tf p).next
 .rw[Ti a];simp only[aa.aB];by_cases e:x=(H.Tf p).next.toNat
  .rw[Ti e,e];exact(oJ H p c _).trans (UI.zo _ _ _)
  rw[Tg e];exact oJ H p c x
 rw[Tg a];exact oJ H p c x
def PL.O5{c p:Nat}{l1 l2:List Nat}(h:PL H c (l1++p ::l2))(nd:(l1++p ::l2).Nodup)(g:∀x,x∈l1++p ::l2->x<H.np∧(H.Tf x).kind=4):H.Fv p c:=by
 obtain⟨v,hs⟩:=h;have m:=ir.range (N:=H.np) (fun q u=>(g q u).1) Q Q Q Q hs;rw[ir.append]at hs;obtain⟨w,s2⟩:=hs;have f:(H.Tf p).next=Ux l2 (-1):=s2.1;have d:(H.Tf p).T8=Ze (-1) l1:=s2.2.1;have s:=m p Y;refine⟨s.1,s.2,fun k=>?_,fun k=>?_,(H4 H p c p).kind.trans (g p Y).2⟩
 .rcases jZ l1 with rfl|⟨n,a,rfl⟩
  .have h:(H.Tf p).T8=-1:=d;omega
  rw[jH]at d;rw[(Q:(H.Tf p).T8.toNat=a)];exact⟨(g a Y).2,(m a Y).2⟩
 cases l2 with
 |nil=>have h:(H.Tf p).next=-1:=f;omega
 |cons b r=>
  have h:(H.Tf p).next=(b:Int):=f;rw[(Q:(H.Tf p).next.toNat=b)];have j:=oJ H p c b;have t:=g b Y;have i:=m b Y;refine⟨j.kind.trans t.2,?_⟩;have e:((H.gq p c).Tf b).next=(H.Tf b).next:=by
   unfold aa.gq;by_cases o:0≤(H.Tf p).T8
   .rw[Ti o];simp only[aa.aB];have l:b≠(H.Tf p).T8.toNat:=by
     rcases jZ l1 with rfl|⟨n,a,rfl⟩
     .have h:(H.Tf p).T8=-1:=d;omega
     rw[jH]at d;rw[WN]at nd;have:=nd.2.2 a Y b Y;omega
    rw[Tg l]
   rw[Tg o];rfl
  rw[e];exact i.1
def PL.congr{c:Nat}{l:List Nat}(h:PL H c l)(hp:H'.part c=H.part c)(a:∀q∈l,(H'.Tf q).next=(H.Tf q).next∧(H'.Tf q).T8=(H.Tf q).T8):PL H' c l:=
 ⟨hp.trans h.1,ir.congr a h.2⟩
def Tv.Ed(h:Tv H fl pl fc hole){i j x:Nat}(hi:i<8)(e:j<8)(c:x∈pl i)(d:x∈pl j):i=j:=by have a:=((h.U0 i hi x).1 c).2.2.2.1;have b:=((h.U0 j e x).1 d).2.2.2.1;omega
def gy(H:aa)(p f:Nat)(nf:Int)(x:Nat):(H.ft p f nf).Tf x=if x=p then { (H.Tf p).TJ f true with first:=nf }else H.Tf x:=by
 simp only[aa.ft,aa.aB,TT];by_cases e:x=p
 .rw[Ti e,Ti e]
 rw[Tg e,Tg e,Tg e]
def Tv.zK(h:Tv H fl pl fc hole){p c f:Nat}{r:List Nat}(j:c<8)(hp:p∈pl c)(w:fc p=f ::r):H.sn p c f (Ux r (-1)):=by
 obtain⟨n,u,o,v,z⟩:=(h.U0 c j p).1 hp;obtain⟨i,s⟩:=h.sl p n u o;have e:i=c:=by have:=s.TQ;omega
 subst e;rw[w]at s;have g:=s.ZC;refine⟨n,j,o,v,s.first,s.lt f Y,s.Uf,by rw[s.Uc f (s.lt f Y)];simp,?_,?_,?_⟩
 .have:=s.Ty;have t:(f ::r).length≤256/2^i:=by
   have hs:(f ::r) ⊆ List.range (256/2^i):=fun q m=>Ws.2 (s.lt q m)
   have:=abX s.nd hs
   simpa using this
  have:=(w8 j).2.2.2.2;omega
 .cases r with
  |nil=>exact .inl ⟨rfl,g.1⟩
  |cons q r=>
   have m:=s.lt q Y;refine .inr ⟨by simp[Ux],by simp only[Ux];omega,?_⟩;simp only[Ux,TZ];exact g.1
 intro hn;obtain⟨l1,y,k⟩:=ZE hp;have l:PL (H.ft p f (Ux r (-1))) i (l1++p ::y):=by
  rw[<- k];refine(h.Vy i j).congr rfl fun q m=>?_
  rw[gy];by_cases e:q=p
  .rw[Ti e,e];exact⟨rfl,rfl⟩
  rw[Tg e];exact⟨rfl,rfl⟩
 refine l.O5 (by rw[<- k];exact h.VE i j) fun x hx=>?_
 rw[<- k]at hx;obtain⟨a,b,d,_⟩:=(h.U0 i j x).1 hx;refine⟨a,?_⟩;rw[gy];by_cases e:x=p
 .rw[Ti e, <- e];exact d
 rw[Tg e];exact d
structure kN (H H':aa) (p:Nat):Prop where
 T6:H'.cJ H
 head:H'.head=H.head
 U1:H'.U1=H.U1
 Xw:∀ x,x≠p -> UI (H.Tf x) (H'.Tf x)
 kind:(H'.Tf p).kind=(H.Tf p).kind
 Th:(H'.Tf p).Th=(H.Tf p).Th
 mem:∀ x,x≠p -> ∀ i,i<4096 -> H'.mem (4096*x+i)=H.mem (4096*x+i)
def kN.kinds{p:Nat}(h:kN H H' p)(x:Nat):(H'.Tf x).kind=(H.Tf x).kind∧(H'.Tf x).Th=(H.Tf x).Th:=by
 by_cases e:x=p
 .subst e;exact⟨h.kind,h.Th⟩
 exact⟨(h.Xw x e).kind,(h.Xw x e).Th⟩
def Tv.qD{p c:Nat}{b a:Nat->List Nat}(h:Tv H fl pl fc hole)(w:kN H H' p)(u:H'.OK)(hp:p<H.np)(A:¬hole p)(o:(H.Tf p).kind=4)(v:(H.Tf p).TQ=(c:Int))(B:c<8)(g:∀x,x≠p->b x=fc x)(m:uD H' p c (b p))(f:∀j,j≠c->a j=pl j)(l:∀x,x∈a c↔(x∈pl c∧x≠p)∨(x=p∧b p≠[]))(t:(a c).Nodup)(r:∀j,j<8->PL H' j (a j)):
  Tv H' fl a b hole where
 ok:=u
 pg x hx hn:=by rw[w.T6.np]at hx;obtain⟨k,n,q⟩:=h.pg x hx hn;exact⟨k,n,q.eC w.T6.Th fun y hy=>⟨(w.kinds y).2,(w.kinds y).1,(q.all y hy).1⟩⟩
 Uy k hk x:=by rw[w.T6.Th]at hk;rw[h.Uy k hk x,w.T6.np,(w.kinds x).1,(w.kinds x).2]
 VC k hk:=h.VC k (by rw[w.T6.Th]at hk;exact hk)
 Ve k hk:=by
  rw[w.T6.Th]at hk;refine FL.VW (h.Ve k hk) w.T6.Tj (by rw[w.head]) fun x hx=>w.mem x fun e=>?_
  subst e;have:=((h.Uy k hk x).1 hx).2.2.1;omega
 bits k hk i hi:=by rw[w.T6.Th]at hk;rw[lS w.U1];exact h.bits k hk i (by unfold aa.nw aa.gm at hi⊢;rw[w.T6.np]at hi;exact hi)
 sl x hx hn hkd:=by
  rw[w.T6.np]at hx;rw[(w.kinds x).1]at hkd;by_cases e:x=p
  .subst e;exact⟨c,m⟩
  obtain⟨z,s⟩:=h.sl x hx hn hkd;rw[g x e];exact⟨z,s.eC w.T6.Tj (w.Xw x e) (w.mem x e)⟩
 U0 j hj x:=by
  rw[w.T6.np,(w.kinds x).1];by_cases ex:x=p
  .subst ex;rw[m.TQ];by_cases d:j=c
   .subst d;rw[l];constructor
    .rintro(⟨_,e⟩|⟨_,e⟩)
     .exact(e rfl).elim
     exact⟨hp,A,o,rfl,e⟩
    rintro⟨_,_,_,_,e⟩;exact .inr ⟨rfl,e⟩
   rw[f j d,h.U0 j hj x];constructor
   .rintro⟨_,_,_,e,_⟩;omega
   rintro⟨_,_,_,e,_⟩;omega
  rw[(w.Xw x ex).TQ,g x ex, <- h.U0 j hj x];by_cases d:j=c
  .subst d;rw[l];constructor
   .rintro(⟨e,_⟩|⟨e,_⟩)
    .exact e
    exact(ex e).elim
   intro e;exact .inl ⟨e,ex⟩
  rw[f j d]
 VE j hj:=by
  by_cases d:j=c
  .subst d;exact t
  rw[f j d];exact h.VE j hj
 Vy:=r
def fw(H:aa)(p c f:Nat)(nf:Int):kN H (H.Tz p c f nf) p:=by
 have a:kN H (H.ft p f nf) p:=by refine⟨tW H p f nf,rfl,rfl,fun x hx=>by rw[gy,Tg hx];exact UI.refl _,by rw[gy,Ti rfl];rfl,by rw[gy,Ti rfl];rfl,fun x hx i hi=>rfl⟩
 unfold aa.Tz;by_cases e:nf<0
 .rw[Ti e];have hu:∀x,UI ((H.ft p f nf).Tf x) (((H.ft p f nf).dh p c).Tf x):=lA _ p c;have b:((H.ft p f nf).dh p c).head=H.head∧((H.ft p f nf).dh p c).U1=H.U1∧((H.ft p f nf).dh p c).mem=H.mem:=by simp only[aa.dh,aa.iI,aa.gq,aa.aB,aa.dQ];split <;> split <;> exact⟨rfl,rfl,rfl⟩
  exact⟨aa.cJ.trans (nG _ _ _) a.T6,b.1,b.2.1,fun x hx=>(a.Xw x hx).trans (hu x),(hu p).kind.trans a.kind,(hu p).Th.trans a.Th,fun x hx i hi=>by rw[b.2.2]⟩
 rw[Tg e];exact a
def Tv.Tz(h:Tv H fl pl fc hole){p c f:Nat}{r:List Nat}(l:c<8)(hp:p∈pl c)(P:fc p=f ::r):
  ∃L,Tv (H.Tz p c f (Ux r (-1))) fl L (fun x=>if x=p then r else fc x) hole:=by
 obtain⟨C,D,E,M,U⟩:=(h.U0 c l p).1 hp;obtain⟨a,s⟩:=h.sl p C D E;have e:a=c:=by have:=s.TQ;omega
 subst e;rw[P]at s;have G:=s.lt f Y;have J:=(w8 l).2.2.2.2;have nd:=WO.1 s.nd;have d:((H.Tz p a f (Ux r (-1))).Tf p).TQ=(a:Int)∧(∀j,((H.Tz p a f (Ux r (-1))).Tf p).bw j=((H.Tf p).TJ f true).bw j)∧((H.Tz p a f (Ux r (-1))).Tf p).Ty=(H.Tf p).Ty+1∧((H.Tz p a f (Ux r (-1))).Tf p).first=Ux r (-1):=by
  have u:(H.ft p f (Ux r (-1))).Tf p={ (H.Tf p).TJ f true with first:=Ux r (-1) }:=by rw[gy,Ti rfl]
  unfold aa.Tz;by_cases e:Ux r (-1)<0
  .rw[Ti e];have k:=lA (H.ft p f (Ux r (-1))) p a p;refine⟨k.TQ.trans (by rw[u];exact s.TQ),fun j=>(k.bw j).trans (by rw[u];rfl),k.Ty.trans (by rw[u];rfl),k.first.trans (by rw[u])⟩
  rw[Tg e,u];exact⟨s.TQ,fun _=>rfl,rfl,rfl⟩
 have v:(H.Tz p a f (Ux r (-1))).mem=H.mem:=by
  unfold aa.Tz;by_cases e:Ux r (-1)<0
  .rw[Ti e];simp only[aa.dh,aa.iI,aa.gq,aa.aB,aa.dQ];split <;> split <;> rfl
  rw[Tg e];rfl
 have sm:=(fw H p a f (Ux r (-1))).T6;have w:uD (H.Tz p a f (Ux r (-1))) p a r:=by
  refine⟨l,d.1,fun j=>by rw[d.2.1];exact yZ s.Uf Q j,fun q t=>s.lt q (VO _ t),nd.2,fun q t=>?_,?_,d.2.2.2,?_⟩
  .have O:((H.Tz p a f (Ux r (-1))).Tf p).Uc q=((H.Tf p).TJ f true).Uc q:=by unfold bB.Uc;rw[d.2.1]
   rw[O,zU _ _ Q Q];by_cases e:q=f
   .subst e;rw[Ti rfl,Tg nd.1,s.Uc q G];simp
   rw[Tg e,s.Uc q t];simp[e]
  .rw[d.2.2.1];have:=s.Ty;simp only[TH]at this;omega
  exact pz.congr sm.Tj (fun q t=>s.Vd (VO _ t)) (fun i _=>by rw[v]) s.ZC.2
 obtain⟨l1,R,z⟩:=ZE hp;have n:=h.VE a l;rw[z]at n;obtain⟨S,T,K,y⟩:=sP n;have o:∀j,j<8->PL (H.ft p f (Ux r (-1))) j (pl j):=fun j m=>(h.Vy j m).congr rfl fun q t=>by
  rw[gy];by_cases e:q=p
  .rw[Ti e,e];exact⟨rfl,rfl⟩
  rw[Tg e];exact⟨rfl,rfl⟩
 by_cases B:r=[]
 .subst B;have F:H.Tz p a f (Ux [] (-1))=(H.ft p f (-1)).dh p a:=by unfold aa.Tz;rw[Ti (by simp[Ux])];rfl
  refine⟨fun j=>if j=a then l1++R else pl j,Tv.qD (c:=a) h (fw H p a f _) (C8 h.ok) C D E M l (fun x hx=>Tg hx) (by rw[Ti rfl];exact w) (fun j m=>Tg m) ?_ (by rw[Ti rfl];exact K) ?_⟩
  .intro x;rw[Ti rfl,y, <- z];simp
  intro j m;have g:=o a l;rw[z]at g;rw[F];by_cases A:j=a
  .subst A;rw[Ti rfl];exact g.JM n
  rw[Tg A];refine g.rX (o j m) A fun x hx N=>?_
  rw[<- z]at N;exact A (h.Ed m l hx N)
 have I:¬Ux r (-1)<0:=by cases r with|nil=>exact(B rfl).elim|cons b r=>simp[Ux]
 have F:H.Tz p a f (Ux r (-1))=H.ft p f (Ux r (-1)):=by unfold aa.Tz;rw[Tg I]
 refine⟨pl,Tv.qD (c:=a) h (fw H p a f _) (C8 h.ok) C D E M l (fun x hx=>Tg hx) (by rw[Ti rfl];exact w) (fun j m=>rfl) ?_ (h.VE a l) ?_⟩
 .intro x;rw[Ti rfl];constructor
  .intro hx;by_cases e:x=p
   .exact .inr ⟨e,B⟩
   exact .inl ⟨hx,e⟩
  rintro(e|e)
  .exact e.1
  rw[e.1];exact hp
 intro j m;rw[F];exact o j m
theorem iX(H:aa)(p q x:Nat):(H.dz p q).Tf x=if x=p then(H.Tf p).TJ q false else H.Tf x:=rfl
def PL.dz{c p q:Nat}{l:List Nat}(h:PL H c l):PL (H.dz p q) c l:=h.congr rfl fun x hx=>by
 rw[iX];by_cases e:x=p
 .rw[Ti e,e];exact⟨rfl,rfl⟩
 rw[Tg e];exact⟨rfl,rfl⟩
def Tv.Ua(h:Tv H fl pl fc hole){p c:Nat}(hp:p<H.np)(d:¬hole p)(f:(H.Tf p).kind=4)(a:(H.Tf p).TQ=(c:Int)):uD H p c (fc p):=by
 obtain⟨b,s⟩:=h.sl p hp d f;have e:b=c:=by have:=s.TQ;omega
 exact e▸s
def Tv.Pa(h:Tv H fl pl fc hole){p c q:Nat}(hp:p<H.np)(C:¬hole p)(w:(H.Tf p).kind=4)(g:(H.Tf p).TQ=(c:Int))(A:q<256/2^c)(u:(H.Tf p).Uc q=1):H.ED p c q:=by
 have s:=h.Ua hp C w g;have i:=s.c8;have B:q∉fc p:=fun m=>by rw[s.Uc q A,Ti m]at u;cases u
 have D:(fc p).length<256/2^c:=by
  have hs:(q ::fc p) ⊆ List.range (256/2^c):=fun x hx=>by
   rcases U8.1 hx with rfl|hx
   .exact Ws.2 A
   exact Ws.2 (s.lt x hx)
  have:=abX (WO.2 ⟨B,s.nd⟩) hs;simp only[TH,YE]at this;omega
 have hw:=w8 i;have l:=s.Ty;refine⟨hp,i,w,g,A,s.Uf,u,Q,?_,?_,?_⟩
 .rw[s.first];cases v:fc p with
  |nil=>simp only[Ux];omega
  |cons x r=>have:=s.lt x (by rw[v];simp);simp only[Ux];omega
 .intro F;have y:fc p≠[]:=by intro e;rw[e]at l;simp only[TK,VN,Int.add_zero]at l;omega
  have m:=(h.U0 c i p).2 ⟨hp,C,w,g,y⟩;obtain⟨l1,I,o⟩:=ZE m;have f:PL (H.dz p q) c (l1++p ::I):=by rw[<- o];exact(h.Vy c i).dz
  refine f.O5 (by rw[<- o];exact h.VE c i) fun x hx=>?_
  rw[<- o]at hx;obtain⟨a,b,d,_⟩:=(h.U0 c i x).1 hx;refine⟨a,?_⟩;rw[iX];by_cases e:x=p
  .rw[Ti e, <- e];exact d
  rw[Tg e];exact d
 intro F t;have n:fc p=[]:=by
  rw[s.first]at t;cases v:fc p with
  |nil=>rfl
  |cons x r=>rw[v]at t;simp only[Ux]at t;omega
 have z:p∉pl c:=fun m=>((h.U0 c i p).1 m).2.2.2.2 n
 have f:=h.Vy c i;cases k:pl c with
 |nil=>rw[k]at f;have E:H.part c=-1:=f.1;exact⟨Q,fun J=>Q⟩
 |cons b r=>
  rw[k]at f;have E:H.part c=(b:Int):=f.1;obtain⟨a,b2,d,_⟩:=(h.U0 c i b).1 (by rw[k];simp);refine⟨Q,fun _=>?_⟩;have j:b≠p:=fun e=>z (by rw[k,e];simp)
  have G:=ir.range (N:=H.np) (fun x hx=>((h.U0 c i x).1 (by rw[k];exact hx)).1) Q Q Q Q f.2 b Y;have e:(((H.dz p q).du p c).Tf (H.part c).toNat)=H.Tf b:=by rw[(Q:(H.part c).toNat=b)];simp only[aa.du,aa.aB,Tg j];rw[iX,Tg j]
  rw[e];exact⟨d,G.1⟩
def qC(H:aa)(p c q:Nat):(∀x,x≠p->UI (H.Tf x) ((H.dy p c q).Tf x))∧UI ((H.Tf p).TJ q false) ((H.dy p c q).Tf p)∧(H.dy p c q).mem=H.mem∧(H.dy p c q).head=H.head∧(H.dy p c q).U1=H.U1:=by
 have a:∀x,x≠p->UI (H.Tf x) ((H.dz p q).Tf x):=fun x hx=>by rw[iX,Tg hx];exact UI.refl _
 have b:UI ((H.Tf p).TJ q false) ((H.dz p q).Tf p):=by rw[iX,Ti rfl];exact UI.refl _
 unfold aa.dy;by_cases e:(H.Tf p).first<0
 .rw[Ti e];refine⟨fun x hx=>(a x hx).trans (o4 _ p c x),b.trans (o4 _ p c p),?_,?_,?_⟩ <;> (simp only[aa.Vh,aa.dQ];split <;> rfl)
 rw[Tg e];exact⟨a,b,rfl,rfl,rfl⟩
theorem fN(H:aa)(p c q x:Nat):(H.V1 p c q).Tf x=if x=p then { (H.dy p c q).Tf p with first:=(q:Int) }else(H.dy p c q).Tf x:=rfl
def Tv.V1(h:Tv H fl pl fc hole){p c q:Nat}(hp:p<H.np)(J:¬hole p)(K:(H.Tf p).kind=4)(g:(H.Tf p).TQ=(c:Int))(N:q<256/2^c)(M:(H.Tf p).Uc q=1):
  (∃R,Tv (H.V1 p c q) fl R (fun x=>if x=p then q ::fc p else fc x) hole)∧kN H (H.V1 p c q) p∧∀i,i<4096->(i<q*(16*2^c)∨q*(16*2^c)+8≤i)->(H.V1 p c q).mem (4096*p+i)=H.mem (4096*p+i):=by
 have s:=h.Ua hp J K g;have d:=s.c8;have E:q∉fc p:=fun v=>by rw[s.Uc q N,Ti v]at M;cases M
 obtain⟨w1,w2,w3,w4,w5⟩:=w8 d;obtain⟨S,A,T,U,V⟩:=qC H p c q;have O:=ey d N;have l:∀a,(a<4096*p+q*(16*2^c)∨4096*p+q*(16*2^c)+8≤a)->(H.V1 p c q).mem a=H.mem a:=by intro a ha;have:=nJ (H.dy p c q) (H.Tk p+q*(16*2^c)) (H.lB p c) a (by rw[(lp H p c q).Tj];unfold aa.Tk;omega);show((H.dy p c q).dO (H.Tk p+q*(16*2^c)) (H.lB p c)).mem a=_;rw[this,T]
 have w:kN H (H.V1 p c q) p:=by
  refine⟨mU H p c q,U,V,fun x hx=>by rw[fN,Tg hx];exact S x hx,?_,?_,fun x hx i hi=>l _ Q⟩
  .rw[fN,Ti rfl];exact A.kind
  rw[fN,Ti rfl];exact A.Th
 have D:H.lB p c=match fc p with| []=>0|q' ::_=>H.Tk p+q'*(16*2^c):=by
  unfold aa.lB;have b:=s.first;cases B:fc p with
  |nil=>rw[B]at b;rw[Ti (show(H.Tf p).first<0 by rw[b];simp[Ux])]
  |cons x r=>rw[B]at b;rw[Tg (show ¬(H.Tf p).first<0 by rw[b];simp only[Ux];omega),b];simp only[Ux,TZ]
 have u:H.lB p c<18446744073709551616:=by
  rw[D];cases B:fc p with
  |nil=>simp
  |cons x r=>
   have:=ey d (s.lt x (by rw[B];simp));have:=Go.Proofs.YtlgmpheammbacaaGreatDoor.eU h.ok (p:=p+1) hp;simp only;unfold aa.Tk at *;omega
 have F:uD (H.V1 p c q) p c (q ::fc p):=by
  refine⟨d,?_,fun j=>?_,fun x hx=>?_,WO.2 ⟨E,s.nd⟩,fun x hx=>?_,?_,?_,?_⟩
  .rw[fN,Ti rfl];exact A.TQ.trans s.TQ
  .rw[fN,Ti rfl];exact(A.bw j).symm▸yZ s.Uf Q j
  .rcases U8.1 hx with rfl|hx
   .exact N
   exact s.lt x hx
  .rw[fN,Ti rfl];show((H.dy p c q).Tf p).Uc x=_;rw[A.Uc,zU _ _ Q Q];by_cases e:x=q
   .subst e;rw[Ti rfl,M];simp
   rw[Tg e,s.Uc x hx];simp[e]
  .rw[fN,Ti rfl];show((H.dy p c q).Tf p).Ty+_=_;rw[A.Ty];have:=s.Ty;show(H.Tf p).Ty-1+_=_;simp only[TH];omega
  .rw[fN,Ti rfl];rfl
  have W:=(lp H p c q).Tj;refine⟨?_,?_⟩
  .have L:(H.V1 p c q).Tk p=H.Tk p:=(mU H p c q).Tk p;rw[L];exact(j5 (H.dy p c q) (p:=H.Tk p+q*(16*2^c)) u).trans D
  have P:∀(f:List Nat),(∀x∈f,x<256/2^c∧x≠q)->pz H p (16*2^c) f->pz (H.V1 p c q) p (16*2^c) f:=by
   intro f;induction f with
   |nil=>intro _ _;trivial
   |cons x r Z=>
    intro hx hs;refine⟨?_,Z (fun y hy=>hx y (VO _ hy)) hs.2⟩;have L:(H.V1 p c q).Tk p=H.Tk p:=(mU H p c q).Tk p;rw[L];refine WY ?_ hs.1;obtain⟨x1,x2⟩:=hx x Y;have X:=ey d x1;refine lh (mU H p c q).Tj fun i hi=>l _ ?_
    have hd:x*(16*2^c)+(16*2^c)≤q*(16*2^c)∨q*(16*2^c)+(16*2^c)≤x*(16*2^c):=by
     rcases aaN x2 with k|k
     .left;have:=UG (16*2^c) (Q:x+1≤q);rw[UW]at this;omega
     right;have:=UG (16*2^c) (Q:q+1≤x);rw[UW]at this;omega
    unfold aa.Tk;omega
  exact P (fc p) (fun x hx=>⟨s.lt x hx,fun e=>E (e▸hx)⟩) s.ZC
 refine⟨?_,w,fun i hi hd=>l _ Q⟩;have G:=JV h.ok (p:=p) (c:=c) (q:=q);have C:∀x,((H.V1 p c q).Tf x).next=((H.dy p c q).Tf x).next∧((H.V1 p c q).Tf x).T8=((H.dy p c q).Tf x).T8:=by
  intro x;rw[fN];by_cases e:x=p
  .rw[Ti e,e];exact⟨rfl,rfl⟩
  rw[Tg e];exact⟨rfl,rfl⟩
 by_cases hn:fc p=[]
 .have t:(H.Tf p).first<0:=by rw[s.first,hn];simp[Ux]
  have z:p∉pl c:=fun v=>((h.U0 c d p).1 v).2.2.2.2 hn
  have o:H.dy p c q=(H.dz p q).Vh p c:=by unfold aa.dy;rw[Ti t]
  have m:∀j,j<8->PL (H.dz p q) j (pl j):=fun j n=>(h.Vy j n).dz
  refine⟨fun j=>if j=c then p ::pl c else pl j,Tv.qD (c:=c) h w G hp J K g d (fun x hx=>Tg hx) (by rw[Ti rfl];exact F) (fun j n=>Tg n) ?_ (by rw[Ti rfl];exact WO.2 ⟨z,h.VE c d⟩) ?_⟩
  .intro x;rw[Ti rfl,Ti rfl];constructor
   .intro hx;rcases U8.1 hx with rfl|hx
    .exact .inr ⟨rfl,Y⟩
    exact .inl ⟨hx,fun e=>z (e▸hx)⟩
   rintro(e|e)
   .exact VO _ e.1
   rw[e.1];exact VY ..
  intro j n;by_cases I:j=c
  .subst I;rw[Ti rfl];refine PL.congr (H:=(H.dz p q).Vh p j) ((m j d).ach z (h.VE j d)) (by show(H.dy p j q).part j=_;rw[o]) fun x hx=>?_
   rw[(C x).1,(C x).2,o];exact⟨rfl,rfl⟩
  rw[Tg I];refine PL.congr (H:=(H.dz p q).Vh p c) ((m c d).we (m j n) I (fun v=>?_) fun x hx v=>I (h.Ed n d hx v)) (by show(H.dy p c q).part j=_;rw[o]) fun x hx=>?_
  .have:=((h.U0 j n p).1 v).2.2.2.1;omega
  rw[(C x).1,(C x).2,o];exact⟨rfl,rfl⟩
 have t:¬(H.Tf p).first<0:=by
  rw[s.first];cases B:fc p with
  |nil=>exact(hn B).elim
  |cons x r=>simp only[Ux];omega
 have o:H.dy p c q=H.dz p q:=by unfold aa.dy;rw[Tg t]
 refine⟨pl,Tv.qD (c:=c) h w G hp J K g d (fun x hx=>Tg hx) (by rw[Ti rfl];exact F) (fun j n=>rfl) ?_ (h.VE c d) ?_⟩
 .intro x;rw[Ti rfl];constructor
  .intro hx;by_cases e:x=p
   .exact .inr ⟨e,Y⟩
   exact .inl ⟨hx,e⟩
  rintro(e|e)
  .exact e.1
  rw[e.1];exact(h.U0 c d p).2 ⟨hp,J,K,g,hn⟩
 intro j n;refine PL.congr (H:=H.dz p q) (h.Vy j n).dz (by show(H.dy p c q).part j=_;rw[o]) fun x hx=>?_
 rw[(C x).1,(C x).2,o];exact⟨rfl,rfl⟩
def Tv.gN(h:Tv H fl pl fc hole){p c q:Nat}(hp:p<H.np)(N: ¬hole p)(P:(H.Tf p).kind=4)(z:(H.Tf p).TQ=(c:Int))(hq:q<256/2^c)(hb:(H.Tf p).Uc q=1)(R:(H.Tf p).Ty=1):
    (∃U,Tv (H.gN p c q) fl U fc hole)∧(H.gN p c q).mem=H.mem∧(∀x,x≠ p->UI (H.Tf x) ((H.gN p c q).Tf x))∧(H.gN p c q).Tf p=cI 2 0∧(H.gN p c q).cJ H:=by
  have s:=h.Ua hp N P z;have I:=s.c8;obtain⟨w1,w2,w3,w4,w5⟩:=w8 I;have S:fc p≠ []:=by intro e;have:=s.Ty;rw[e,R]at this;simp only[TK,VN,Int.add_zero]at this;omega
  have hm:=(h.U0 c I p).2 ⟨hp,N,P,z,S⟩;obtain⟨l1,V,M⟩:=ZE hm;have D:=h.VE c I;rw[M]at D;obtain⟨ac,ad,T,B⟩:=sP D;obtain⟨v,t⟩: ∃v,v=(H.dz p q).dh p c:=⟨_,rfl⟩;have F:v.head=H.head∧v.U1=H.U1∧v.mem=H.mem:=by rw[t];simp only[aa.dh,aa.iI,aa.gq,aa.aB,aa.dQ];split <;> split <;> exact⟨rfl,rfl,rfl⟩
  have sm:v.cJ H:=by rw[t];exact aa.cJ.trans (nG _ _ _) (kY _ _ _)
  have w: ∀x,x≠ p->UI (H.Tf x) (v.Tf x):=by intro x hx;have k:=lA (H.dz p q) p c x;rw[iX,Tg hx]at k;rw[t];exact k
  have A: ∀j,j<8->PL (H.dz p q) j (pl j):=fun j l=>(h.Vy j l).dz
  have u:=A c I;rw[M]at u;obtain⟨k,G,g⟩:=h.pg p hp N;obtain⟨rfl,rfl⟩:=g.Zy P;have m: ∀x,x/2^0=p/2^0 ↔ x=p:=fun x=>by simp
  have X:Tv v fl (fun j=>if j=c then l1 ++V else pl j) fc (fun x=>hole x∨x=p):= {
    ok:=by rw[t];exact tq (ph h.ok)
    pg:=by
      intro x hx hn;rw[sm.np]at hx;obtain⟨j,G,r⟩:=h.pg x hx (fun c=>hn (.inl c));refine⟨j,G,r.eC sm.Th fun y hy=>?_⟩;have C:y≠ p:=by rintro rfl;obtain⟨e,O⟩:=r.one g hy rfl;subst e;rw[(m x).1 O]at hn;exact hn (.inr rfl)
      refine⟨(w y C).Th,(w y C).kind, ?_⟩;rintro(f|f)
      · exact(r.all y hy).1 f
      · exact C f
    Uy:=by
      intro j l x;rw[sm.Th]at l;rw[h.Uy j l x,sm.np];by_cases e:x=p
      · subst e;constructor
        · rintro⟨_,_,f,_⟩;omega
        · rintro⟨_,f,_,_⟩;exact(f (.inr rfl)).elim
      · rw[(w x e).kind,(w x e).Th];constructor
        · rintro⟨a,b,d⟩;exact⟨a,fun f=>f.elim b e,d⟩
        · rintro⟨a,b,d⟩;exact⟨a,fun f=>b (.inl f),d⟩
    VC:=fun j l=>h.VC j (by rw[sm.Th]at l;exact l)
    Ve:=by intro j l;rw[sm.Th]at l;exact FL.VW (h.Ve j l) sm.Tj (by rw[F.1]) fun x hx i hi=>by rw[F.2.2]
    bits:=by intro j l i hi;rw[sm.Th]at l;rw[lS F.2.1];exact h.bits j l i (by unfold aa.nw aa.gm at hi⊢;rw[sm.np]at hi;exact hi)
    sl:=by
      intro x hx hn J;rw[sm.np]at hx;have L:x≠ p:=fun e=>hn (.inr e)
      rw[(w x L).kind]at J;obtain⟨W,s2⟩:=h.sl x hx (fun e=>hn (.inl e)) J;exact⟨W,s2.eC sm.Tj (w x L) fun i _=>by rw[F.2.2]⟩
    U0:=by
      intro j l x;rw[sm.np];have TE:=h.U0 j l x;by_cases ex:x=p
      · subst ex;constructor
        · intro hx;by_cases o:j=c
          · subst o;rw[Ti rfl,B]at hx;exact(hx.2 rfl).elim
          · rw[Tg o]at hx;have:=(TE.1 hx).2.2.2.1;omega
        · rintro⟨_,f,_⟩;exact(f (.inr rfl)).elim
      · rw[(w x ex).kind,(w x ex).TQ];have O:x ∈ (if j=c then l1 ++V else pl j) ↔ x ∈ pl j:=by
          by_cases o:j=c
          · subst o;rw[Ti rfl,B, <- M];exact⟨fun f=>f.1,fun f=>⟨f,ex⟩⟩
          · rw[Tg o]
        rw[O,TE];constructor
        · rintro⟨a,b,d⟩;exact⟨a,fun f=>f.elim b ex,d⟩
        · rintro⟨a,b,d⟩;exact⟨a,fun f=>b (.inl f),d⟩
    VE:=by
      intro j l;by_cases o:j=c
      · subst o;simp only[TT];exact T
      · simp only[Tg o];exact h.VE j l
    Vy:=by
      intro j l;rw[t];by_cases o:j=c
      · subst o;simp only[TT];exact u.JM D
      · simp only[Tg o];refine u.rX (A j l) o fun x hx K=>?_
        rw[<- M]at K;exact o (h.Ed l I hx K) }
  have Y:=X.fill (p:=p) (k:=0) Q (by simp[XM]) (fun x hx=>.inr ((m x).1 hx));have Z:H.gN p c q=v.run p 0 2:=by rw[t];rfl
  have E:p % 2^0=0:=by simp[XM]
  rw[Z];refine⟨⟨_,Y.fS fun x=>?_⟩,F.2.2,fun x hx=>?_, ?_,aa.cJ.trans (wL _ _ _ _) sm⟩
  · rw[m];constructor
    · rintro⟨f|f,n⟩
      · exact f
      · exact(n f).elim
    · intro f;exact⟨.inl f,fun e=>N (e ▸ f)⟩
  · rw[jk E,Tg (fun e=>hx ((m x).1 e))];exact w x hx
  · rw[jk E,Ti rfl,Ti rfl];rfl
def UP(n:Nat):Nat:=if n=0 then 0 else n.log2+1
def tj{x:Nat}(h:1≤x):UP x=1+UP (x/2):=by
 unfold UP;rw[Tg Q,Nat.log2_def];by_cases c:2≤x
 .rw[Ti c,Tg Q];omega
 rw[Tg c,Ti Q]
def kT{x:Nat}:∀k,2^k≤x->UP x=k+UP (x/2^k)
 | 0,_=>by simp
 |k+1,h=>by
  have b:2^k≤x:=by rw[XO]at h;omega
  have a:1≤x/2^k:=by rw[ab8 (Ye Q)];omega
  rw[kT k b,tj a,Nat.div_div_eq_div_mul,show 2^k*2=2^(k+1)from(XO ..).symm];omega
def rP{x:Nat}:∀k,x<2^k->UP x≤k
 | 0,h=>by
  have:x=0:=by simp at h;exact h
  subst this;simp[UP]
 |k+1,h=>by
  rcases Wi x with c|c
  .subst c;simp[UP]
  rw[tj c];have:=rP (x:=x/2) k (by rw[XO]at h;omega);omega
def Ka:∀y:Fin 256,([0,1,2,2,3,3,3,3,4,4,4,4,4,4,4,4,5,5,5,5,5,5,5,5,5,5,5,5,5,5,5,5,6,6,6,6,6,6,6,6,6,6,6,6,6,6,6,6,6,6,6,6,6,6,6,6,6,6,6,6,6,6,6,6,7,7,7,7,7,7,7,7,7,7,7,7,7,7,7,7,7,7,7,7,7,7,7,7,7,7,7,7,7,7,7,7,7,7,7,7,7,7,7,7,7,7,7,7,7,7,7,7,7,7,7,7,7,7,7,7,7,7,7,7,7,7,7,7,8,8,8,8,8,8,8,8,8,8,8,8,8,8,8,8,8,8,8,8,8,8,8,8,8,8,8,8,8,8,8,8,8,8,8,8,8,8,8,8,8,8,8,8,8,8,8,8,8,8,8,8,8,8,8,8,8,8,8,8,8,8,8,8,8,8,8,8,8,8,8,8,8,8,8,8,8,8,8,8,8,8,8,8,8,8,8,8,8,8,8,8,8,8,8,8,8,8,8,8,8,8,8,8,8,8,8,8,8,8,8,8,8,8,8,8,8,8,8,8,8,8,8,8,8,8,8,8]:List Nat)[y.val]?=some (UP y.val):=by decide+kernel
def HK{Γ:T AF}{M:List fK}{s:List Nat}{i:AM.Tt}{tm:T V}{ds:T4}{K:V->T4->St->Prop}:AM.wpOp Γ M (.aag (.const (.WJ s)) i) tm ds σ K=AM.asInt (i.eval tm) fun _ n=>AM.WC (decide (0≤n)) (AM.ef s[n.toNat]? fun b=>K (.int .u8 b) ds σ) False:=by
 show(match AM.Uh _ _ tm ds σ with|some (v,ds,σ)=>K v ds σ|none=>False)=_;simp only[AM.Uh,AM.cD,AM.cN,TT,AM.acf];cases i.eval tm with
 |int k n=>
  simp only[AM.asInt];by_cases h:0≤n
  .simp only[h,TT,decide_true,AM.Dn];cases s[n.toNat]? <;> rfl
  rw[UK h,AM.yK];simp only[h,Ul]
 |_=>rfl
def JX(c:AC)(a off:Nat):Prop:=∀(s:St) (fr:Fr) (K:fA) (m y:Nat),m≤off->y<a->fr.defers=[]->fr.tmps.get 0=some (.u y)->fr.tmps.get 2=some (.i m) →
 (∀Tw,Tw.defers=[]->Tw.tmps.get 2=some (.i (m+UP y:Nat))->K .ret Tw s)->wp G0 [] c fr s K
def QW:JX (Vp (Vr (Vr (Vr (Vr c245.body))))) 256 56:=by
 rintro s ⟨k,ds⟩ K m y j hy a c d h;simp only at a c d;subst a;rw[lE];have e:IntKind.u8.wrap (y:Int)=(y:Int):=by rw[wu8];omega
 have b:=Ka ⟨y,hy⟩;simp only at b;have i:=rP (x:=y) 8 hy;have f:IntKind.i64.wrap ((UP y:Nat):Int)=((UP y:Nat):Int):=bF Q;have g:IntKind.i64.wrap ((m:Int)+((UP y:Nat):Int))=((m+UP y:Nat):Int):=by rw[dw] <;> omega
 have c1:(0:Int)≤(y:Int):=Q;simp only[Vr,c245];simp only[go_sem,HK,c,d,e,c1,TZ,b,f,g];refine h _ rfl ?_;simp only[go_sem]
def Q6:JX (Vp (Vr (Vr (Vr (c245.body))))) 65536 48:=by
 rintro s ⟨i,ds⟩ K m y j hy a c b f;simp only at a c b;subst a;rw[lE];refine lD 1 ?_;simp only[Vr,c245,fT];have e:(0:Int)≤8:=by decide
 by_cases c1:(256:Int)≤(y:Int)
 .have g:nE .u64 (y:Int) 8=((y/2^8:Nat):Int):=gM (n:=8) rfl Q;have h:IntKind.i64.wrap ((m:Int)+8)=((m+8:Nat):Int):=by rw[dw] <;> omega
  have d:=kT (x:=y) 8 Q;simp only[go_sem,c,b,c1,e,bA,g,h];refine QW _ _ _ (m+8) (y/2^8) Q Q rfl ?_ ?_ ?_
  .simp only[go_sem]
  .simp only[go_sem]
  rintro⟨i,ds⟩ a b;refine f _ a ?_;rw[d, <- Yb];exact b
 simp only[go_sem,c,b,c1,e];refine QW _ _ _ m y Q Q rfl ?_ ?_ f
 .simp only[go_sem,c]
 simp only[go_sem,b]
def Q1:JX (Vp (Vr (Vr (c245.body)))) 4294967296 32:=by
 rintro s ⟨i,ds⟩ K m y j hy a c b f;simp only at a c b;subst a;rw[lE];refine lD 1 ?_;simp only[Vr,c245,fT];have e:(0:Int)≤16:=by decide
 by_cases c1:(65536:Int)≤(y:Int)
 .have g:nE .u64 (y:Int) 16=((y/2^16:Nat):Int):=gM (n:=16) rfl Q;have h:IntKind.i64.wrap ((m:Int)+16)=((m+16:Nat):Int):=by rw[dw] <;> omega
  have d:=kT (x:=y) 16 Q;simp only[go_sem,c,b,c1,e,bA,g,h];refine Q6 _ _ _ (m+16) (y/2^16) Q Q rfl ?_ ?_ ?_
  .simp only[go_sem]
  .simp only[go_sem]
  rintro⟨i,ds⟩ a b;refine f _ a ?_;rw[d, <- Yb];exact b
 simp only[go_sem,c,b,c1,e];refine Q6 _ _ _ m y Q Q rfl ?_ ?_ f
 .simp only[go_sem,c]
 simp only[go_sem,b]
def OD{x:Nat}(hx:x<18446744073709551616):au G0 [] 245 [.u x] σ fun r σ'=>r=.i (UP x)∧σ'=σ:=by
 refine ai g245 rfl ?_;refine lD 2 ?_;simp only[fT];have d:(0:Int)≤32:=by decide
 by_cases c1:(4294967296:Int)≤(x:Int)
 .have e:nE .u64 (x:Int) 32=((x/2^32:Nat):Int):=gM (n:=32) rfl Q;have c:=kT (x:=x) 32 Q;simp only[go_sem,c1,d,bA,e];refine Q1 _ _ _ 32 (x/2^32) Q Q rfl ?_ ?_ ?_
  .simp only[go_sem]
  .simp only[go_sem];rfl
  rintro⟨f,ds⟩ a b;simp only at a b;subst a;simp only[go_sem,b,c]
 simp only[go_sem,c1,d];refine Q1 _ _ _ 0 x Q Q rfl ?_ ?_ ?_
 .simp only[go_sem]
 .simp only[go_sem];rfl
 rintro⟨f,ds⟩ a b;simp only at a b;subst a;rw[Vk]at b;simp only[go_sem,b]
end
section
variable {σ:St} {A:Tu -> Nat} {H:aa}
def Ax{x:Nat}(h:x<18446744073709551616):UP x≤64:=rP (x:=x) 64 h
def FJ{x:Nat}(hx:x<18446744073709551616):au G0 [] 202 [.u x] σ fun r σ'=>r=.i ((UP x:Int)-1)∧σ'=σ:=by
 refine ai g202 rfl ?_;obtain⟨v,d,⟨c,hs⟩,b⟩:=OD (σ:=σ) hx;subst c hs;have:=Ax hx;have a:IntKind.i64.wrap ((UP x:Int)-1)=(UP x:Int)-1:=by rw[dw] <;> omega
 simp only[go_sem];refine ab b ?_;simp only[go_sem,a]
def cQ(x:Nat):Bool:=decide (x≠0) && decide (x &&& (x-1)=0)
def HL{x:Nat}(hx:x<18446744073709551616):au G0 [] 193 [.u x] σ fun r σ'=>r=.bool (cQ x)∧σ'=σ:=by
 refine ai g193 rfl ?_;rcases Wi x with c|c
 .subst c;simp only[go_sem,VN,TV,Uq];rfl
 have d:¬((x:Int)=0):=Q;have e:IntKind.u64.wrap ((x:Int)-1)=((x-1:Nat):Int):=by rw[cd] <;> omega
 have f:=aar (a:=x) (b:=x-1) hx Q;simp only[go_sem,d,TV,Ug,e,f];unfold cQ;rw[show decide (x≠0)=true by simp;omega,WL];exact Uj V.bool (Zw.mpr Q)
def kf(x:Nat):Nat:=if x≤1 then 1 else 2^UP (x-1)
def PX{x:Nat}(hx:x≤9223372036854775808):au G0 [] 198 [.u x] σ fun r σ'=>r=.tuple [.u (kf x),.bool true]∧σ'=σ:=by
 refine ai g198 rfl ?_;by_cases c:x≤1
 .have b:(x:Int)≤1:=Q;simp only[go_sem,b];unfold kf;rw[Ti c];rfl
 have b:¬((x:Int)≤1):=Q;have e:IntKind.u64.wrap ((x:Int)-1)=((x-1:Nat):Int):=by rw[cd] <;> omega
 obtain⟨v,p,⟨o,hs⟩,m⟩:=FJ (σ:=σ) (x:=x-1) Q;subst o hs;have j:=rP (x:=x-1) 63 Q;have k:1≤UP (x-1):=by rw[tj Q];omega
 have h:IntKind.i64.wrap ((UP (x-1):Int)-1+1)=(UP (x-1):Int):=by rw[dw] <;> omega
 have d:IntKind.u64.wrap 1=1:=rfl;have q:2^UP (x-1)≤2^63:=Vb Q j;have l:0<2^UP (x-1):=Ye Q;have i:jc .u64 1 (UP (x-1):Int)=((2^UP (x-1):Nat):Int):=by have:=gP (a:=1) (n:=UP (x-1)) Q Q;rw[WH]at this;exact this
 have f:(0:Int)≤(UP (x-1):Int):=Q;have g:¬(((2^UP (x-1):Nat):Int)=0):=Q;simp only[go_sem,b,d,e];refine ab m ?_;simp only[go_sem,b,d,e,h,aT,f,i,g,TV,Ug];unfold kf;rw[Tg c]
def HQ{x:Nat}(k:9223372036854775808<x)(hx:x<18446744073709551616):au G0 [] 198 [.u x] σ fun r σ'=>r=.tuple [.u 0,.bool false]∧σ'=σ:=by
 refine ai g198 rfl ?_;have a:¬((x:Int)≤1):=Q;have c:IntKind.u64.wrap ((x:Int)-1)=((x-1:Nat):Int):=by rw[cd] <;> omega
 obtain⟨v,j,⟨i,hs⟩,d⟩:=FJ (σ:=σ) (x:=x-1) Q;subst i hs;have h:UP (x-1)=64:=by
  have l:=Ax (x:=x-1) Q;have m:63≤(x-1).log2:=(Nat.le_log2 Q).2 Q;have n:UP (x-1)=(x-1).log2+1:=by unfold UP;rw[Tg Q]
  omega
 rw[h]at d;have b:IntKind.u64.wrap 1=1:=rfl;have f:IntKind.i64.wrap (((64:Nat):Int)-1+1)=64:=by rw[dw] <;> omega
 have g:jc .u64 1 64=0:=by decide
 have e:(0:Int)≤64:=Q;simp only[go_sem,a,b,c];refine ab d ?_;simp only[go_sem,a,b,c,f,aT,e,g,TV,Uq]
def Ie{x:Nat}(b:9223372036854775808<x)(hx:x<18446744073709551616):kf x=18446744073709551616:=by
 have d:63≤(x-1).log2:=(Nat.le_log2 Q).2 Q;have c:=Ax (x:=x-1) Q;have e:UP (x-1)=(x-1).log2+1:=by unfold UP;rw[Tg Q]
 have a:UP (x-1)=64:=Q;unfold kf;rw[Tg Q,a]
def Gc{x:Nat}(hx:x<18446744073709551616):au G0 [] 157 [.u x] σ fun r σ'=>r=.i ((UP (x/4096):Int)-1)∧σ'=σ:=by
 refine ai g157 rfl ?_;have a:(4096:Int)≠0:=by decide
 have c:IntKind.u64.wrap ((x:Int).tdiv 4096)=((x/4096:Nat):Int):=iw (b:=4096) hx;obtain⟨v,f,⟨e,hs⟩,d⟩:=FJ (σ:=σ) (x:=x/4096) Q;subst e hs;simp only[go_sem,bc,a,TV,Ug,c];refine ab d ?_;simp only[go_sem]
def NC{x:Nat}(hx:x<18446744073709551616):au G0 [] 204 [.u x] σ fun r σ'=>r=.i ((UP (x/16):Int)-1)∧σ'=σ:=by
 refine ai g204 rfl ?_;have a:(16:Int)≠0:=by decide
 have c:IntKind.u64.wrap ((x:Int).tdiv 16)=((x/16:Nat):Int):=iw (b:=16) hx;obtain⟨v,f,⟨e,hs⟩,d⟩:=FJ (σ:=σ) (x:=x/16) Q;subst e hs;simp only[go_sem,bc,a,TV,Ug,c];refine ab d ?_;simp only[go_sem]
def Es(ok:H.OK):H.Tp≤9223372036854775808:=by have:=Vb (n:=2) Q ok.VI;unfold aa.Tp;omega
def IJ(e:aw σ A H)(ok:H.OK):au G0 [] 199 [.acK (A .heap) 0] σ fun r σ'=>r=.u H.Tp∧σ'=σ:=by
 refine ai g199 rfl ?_;have b:=e.cell (s:=.heap) trivial (i:=4) (Q:4<7);rw[show H.cell A .heap 4=.i H.Th from rfl]at b;have g:=ok.VI;have f:=Es ok;have c:(0:Int)≤(H.Th:Int):=Q;have d:jc .u64 4096 (H.Th:Int)=(H.Tp:Int):=by unfold aa.Tp at f;exact gP (a:=4096) (n:=H.Th) Q Q
 simp only[go_sem,b,aT,c,d]
theorem B9{x y z:AM.Tt}{tm:T V}:AM.cN (.XA true [x,y,z]) tm=AM.kS true (x.eval tm) [y.eval tm,z.eval tm]:=rfl
def K6{a b c:Nat}:AM.kS true (.u a) [.u b,.u c]=some (.u (max (max a b) c:Nat)):=by
 simp only[AM.kS,TT];congr 2;by_cases h:(b:Int) > (a:Int)
 .rw[Ti h];by_cases d:(c:Int) > (b:Int)
  .rw[Ti d];omega
  rw[Tg d];omega
 rw[Tg h];by_cases d:(c:Int) > (a:Int)
 .rw[Ti d];omega
 rw[Tg d];omega
def aE(n a:Nat):Nat:=kf (max (max n a) 16)
def Gk(t:aw σ A H)(ok:H.OK){n a:Nat}(hn:n<18446744073709551616)(ha:a<18446744073709551616):au G0 [] 154 [.acK (A .heap) 0,.u n,.u a] σ fun r σ'=>
  r=(if cQ a=false then .tuple [.u 0,.i 1]else if H.Tp<aE n a then .tuple [.u 0,.i 3]else .tuple [.u (aE n a),.i 0])∧σ'=σ:=by
 refine ai g154 rfl ?_;obtain⟨v,l,⟨g,hs⟩,o⟩:=HL (σ:=σ) (x:=a) Q;subst g hs;simp only[go_sem];refine ab o ?_;cases hi:cQ a with
 |false=>
  simp only[go_sem,Z0,TT]
 |true=>
  have s:=K6 (a:=n) (b:=a) (c:=16);obtain⟨m,j⟩:=acH (max (max n a) 16);rw[<- j]at s;have h:AM.kS true (.u n) [.u a,.u 16]=some (.u (m:Nat)):=s;have k:aE n a=kf m:=by unfold aE;rw[j]
  by_cases e:9223372036854775808<m
  .have z:=Es ok;have w:=Ie e Q;obtain⟨v,q,⟨g,hs⟩,f⟩:=HQ (σ:=l) (x:=m) e Q;subst g hs;have c:H.Tp<kf m:=Q;rw[k];simp only[go_sem,XZ,B9,h];refine ab f ?_;simp only[go_sem,XZ,Z0,c,TT,Ul,abc]
  simp only[go_sem,XZ,B9,h];obtain⟨v,q,⟨g,hs⟩,f⟩:=PX (σ:=l) (x:=m) Q;subst g hs;refine ab f ?_;obtain⟨v,y,⟨g,hs⟩,p⟩:=IJ t ok;subst g hs;simp only[go_sem,XZ];refine ab p ?_;rw[k];by_cases c:H.Tp<kf m
  .have d:(H.Tp:Int)<(kf m:Int):=Q;simp only[go_sem,XZ,d,c,TT,Ul,abc]
  have d:¬((H.Tp:Int)<(kf m:Int)):=Q;simp only[go_sem,XZ,d,c,TT,Ul,abc]
def nH(k:Nat):UP (2^k)=k+1:=by have h:=kT (x:=2^k) k (Tx _);rw[h,Nat.div_self (Ye Q)];rfl
def iS(a:aw σ A H):σ.cell (A .heap) 5=some (.acK (A .Ud) 0):=a.cell (s:=.heap) trivial (i:=5) (Q:5<7)
def zJ(a:aw σ A H):σ.cell (A .heap) 6=some (.acK (A .Ua) 0):=a.cell (s:=.heap) trivial (i:=6) (Q:6<7)
def F3(l:aw σ A H){c:Nat}(m:c<8){d:V}{a e:Int}{g:Bool}{P:St->Prop}(h:au G0 [] 203 [.acK (A .Ua) 0,.i c,d] σ fun r σ'=>P σ'∧r=.tuple [.u a,.bool g,.i e]):
  au G0 [] 158 [.acK (A .heap) 0,.u (16*2^c:Nat),d] σ fun r σ'=>P σ'∧r=.tuple [.u a,.i e]:=by
 refine ai g158 rfl ?_;obtain⟨s,t,o,y,z⟩:=w8 m;have k:=zJ l;obtain⟨v,p,⟨f,hs⟩,b⟩:=NC (σ:=σ) (x:=16*2^c) Q;rw[Yd _ Q,nH,show((c+1:Nat):Int)-1=(c:Int)from Q]at f;subst f hs;obtain⟨v,q,⟨n,f⟩,j⟩:=h;subst f;obtain⟨w,hw⟩:=acH (16*2^c);rw[<- hw]at b o⊢;have c1:(w:Int)<4096:=Q;simp only[go_sem,c1,k];refine ab b ?_;simp only[go_sem];refine ab j ?_;simp only[go_sem];exact⟨by simp only[k,dD,ZZ],n⟩
def Gy(m:aw σ A H){k:Nat}(n:k≤40){d:V}{a e:Int}{g:Bool}{P:St->Prop}(h:au G0 [] 205 [.acK (A .Ud) 0,.i k,d] σ fun r σ'=>P σ'∧r=.tuple [.u a,.bool g,.i e]):
  au G0 [] 158 [.acK (A .heap) 0,.u (4096*2^k:Nat),d] σ fun r σ'=>P σ'∧r=.tuple [.u a,.i e]:=by
 refine ai g158 rfl ?_;have l:2^k≤2^40:=Vb Q n;have p:0<2^k:=Ye Q;have j:=iS m;obtain⟨v,q,⟨c,hs⟩,b⟩:=Gc (σ:=σ) (x:=4096*2^k) Q;rw[Yd _ Q,nH,show((k+1:Nat):Int)-1=(k:Int)from Q]at c;subst c hs;obtain⟨v,s,⟨o,c⟩,f⟩:=h;subst c;obtain⟨w,hw⟩:=acH (4096*2^k);rw[<- hw]at b⊢;have c1:¬((w:Int)<4096):=Q;simp only[go_sem,c1,j];refine ab b ?_;simp only[go_sem];refine ab f ?_;simp only[go_sem];exact⟨by simp only[j,dD,ZZ],o⟩
def yM(p:aw σ A H)(ok:H.OK){n a:Nat}{d:V}(hn:n<18446744073709551616)(ha:a<18446744073709551616)(h:cQ a=false∨H.Tp<aE n a):
  au G0 [] 121 [.acK (A .heap) 0,.u n,.u a,d] σ fun r σ'=>r=.tuple [.agg [.u 0,.u 0],.i (if cQ a=false then 1 else 3)]∧aH σ σ':=by
 refine ai g121 rfl ?_;have s:=aH.new σ (.acM 2 [.u 0,.u 0] .nil);have o:=p.new (.acM 2 [.u 0,.u 0] .nil) rfl;have c:=aQ (σ:=σ) (z:=[.u 0,.u 0]) (vs:=[.u 0,.u 0]) (n:=2) Y rfl;have L:=To.Ts σ 2 [.u 0,.u 0] [.u 0,.u 0] rfl;have l:=L.load (off:=0) (k:=2) Q;rw[show((List.range 2).map fun j=>Tn [V.u 0,V.u 0] (0+j))=[V.u 0,V.u 0]from rfl]at l;obtain⟨v,q,⟨f,hs⟩,b⟩:=Gk o ok (n:=n) (a:=a) hn ha;have e:bZ [V.u 0,.u 0] []=some [V.u 0,.u 0]:=rfl;subst hs;cases hi:cQ a with
 |false=>
  rw[hi,Ti rfl]at f;subst f;simp only[go_sem,TH,TK];refine ab b ?_;have g:(1:Int)≠0:=by decide
  simp only[go_sem,g,TV,Ug,aG,e,aj,TH,TK,c,l,TT];exact aH.Ts _ _ _ _
 |true=>
  have m:H.Tp<aE n a:=by rcases h with h|h;rw[hi]at h;cases h;exact h
  rw[hi,Tg (by decide),Ti m]at f;subst f;simp only[go_sem,TH,TK];refine ab b ?_;have g:(3:Int)≠0:=by decide
  simp only[go_sem,g,TV,Ug,aG,e,aj,TH,TK,c,l,Ul,abc];exact aH.Ts _ _ _ _
end
end
end Go.Proofs.YtlgmpheammbacaaGreatDoor
