import Derived.Test.YtlgmpheammbacaaGreatDoorPyi
set_option linter.all false
set_option maxRecDepth 1000000
attribute [local irreducible] AM.T.get AM.T.set
namespace Go.Proofs.YtlgmpheammbacaaGreatDoor
open AM Go
noncomputable section
variable {σ:St} {A:Tu -> Nat} {H H':aa} {has:Tu -> Prop} {size:Tu -> Nat} {cell:Tu -> Nat -> V} {fl pl fc:Nat -> List Nat} {hole hole':Nat -> Prop}
def Co(G:aw σ A H)(ok:H.OK){n a:Nat}{d:V}(hn:n<18446744073709551616)(ha:a<18446744073709551616)(hi:cQ a=true)(y:¬H.Tp<aE n a){adr e:Int}(ht:∀s,aw s A H->au G0 [] 158 [.acK (A .heap) 0,.u (aE n a),d] s fun r s'=>∃A',aw s' A' H'∧A' .heap=A .heap∧r=.tuple [.u adr,.i e]):
  au G0 [] 121 [.acK (A .heap) 0,.u n,.u a,d] σ fun r σ'=>∃A',aw σ' A' H'∧A' .heap=A .heap∧r=.tuple [.agg [.u (if e=0 then adr else 0),.u (if e=0 then aE n a else 0)],.i e]:=by
 refine ai g121 rfl ?_;have g:=G.new (.acM 2 [.u 0,.u 0] .nil) rfl;have m:=To.fx σ [.u 0,.u 0] 2 (.inl Y);have t:∀s,H.has s->A s≠σ.next:=fun s hs=>by have:=G.lt (s:=s) hs;omega
 simp only[go_sem,TH,TK];generalize σ.next=R at m t⊢;generalize σ.new (.acM 2 _ .nil)=L at g m⊢;obtain⟨v,N,⟨p,hs⟩,z⟩:=Gk g ok (n:=n) (a:=a) hn ha;rw[hi,Tg (by decide),Tg y]at p;subst p hs;refine ab z ?_;simp only[go_sem,TH,TK,TV,Uq];obtain⟨v,O,⟨A',f,⟨F,p⟩,I⟩,B⟩:=aw.call (H':=H') (P:=fun v A'=>A' .heap=A .heap∧v=.tuple [.u adr,.i e]) (Γ:=G0) (Γ':=G0) (M:=[]) (fun _ _ h=>h) (fun _ h=>(Xa h).elim) g ht;subst p;refine ab B ?_;have o:=m.left g I t;have E:=m.Ov g I t;have J:bZ [V.u 0,.u 0] []=some [V.u 0,.u 0]:=rfl;have K:bZ [V.u 0,.u 0] [(0,1,.u adr),(1,1,.u (aE n a))]=some [V.u adr,.u (aE n a)]:=rfl;by_cases c:e=0
 .subst c;obtain⟨D,b,q,C,w⟩:=o.store f.gw (off:=0) (vs:=[.u adr,.u (aE n a)]) Y rfl;have x:=f.VW C E w (f.Ub.gR o);have l:=q.load (off:=0) (k:=2) Q;rw[show((List.range 2).map fun j=>UO (fun i=>[V.u 0,V.u 0].getD (i% [V.u 0,V.u 0].length) .undef) 0 [V.u adr,V.u (aE n a)] (0+j))=[V.u adr,V.u (aE n a)]from rfl]at l;simp only[go_sem,TH,TK,TV,Uq,aG,K,aj,b,l,TT];exact⟨A',x,F⟩
 obtain⟨D,b,q,C,w⟩:=o.store f.gw (off:=0) (vs:=[.u 0,.u 0]) Y rfl;have x:=f.VW C E w (f.Ub.gR o);have l:=q.load (off:=0) (k:=2) Q;rw[show((List.range 2).map fun j=>UO (fun i=>[V.u 0,V.u 0].getD (i% [V.u 0,V.u 0].length) .undef) 0 [V.u 0,V.u 0] (0+j))=[V.u 0,V.u 0]from rfl]at l;simp only[go_sem,TH,TK,TV,c,Ug,aG,J,aj,b,l,Ul];exact⟨A',x,F⟩
def _root_.AM.aa.aC(H:aa)(l:Int):aa:={ H with lock:=l }
def EZ(ok:H.OK){l:Int}:(H.aC l).OK:=⟨ok.Wc,ok.VI,ok.Yw,ok.Xo,ok.X7,ok.XT,ok.fU,ok.We,ok.XB,ok.Yv,ok.XG,ok.T0,ok.aU⟩
def vJ(d:aw σ A H)(l:Int):∃σ',σ.store (A .heap) 0 [.int .i32 l]=some σ'∧aw σ' A (H.aC l):=by
 obtain⟨c,b,a,_⟩:=d.store (H':=H.aC l) (s:=.heap) trivial (off:=0) (vs:=[.int .i32 l]) (Q:0+1≤7) rfl
  (fun t ht=>ht) (fun t _=>by cases t <;> rfl) (by
   intro t ht i hi;cases t with
   |heap=>
    rw[Ti rfl];have e:i<7:=hi;rcases(by omega:i=0∨i=1∨i=2∨i=3∨i=4∨i=5∨i=6)with rfl|rfl|rfl|rfl|rfl|rfl|rfl <;> rfl
   |_=>rw[Tg Y];rfl)
 exact⟨c,b,a⟩
def kL(c:aw σ A H)(h:H.lock=0):au G0 [] 68 [.acK (A .heap) 0] σ fun r σ'=>aw σ' A (H.aC 1)∧r=.tuple []:=by have b:=c.cell (s:=.heap) trivial (i:=0) (Q:0<7);rw[show H.cell A .heap 0=.int .i32 H.lock from rfl,h]at b;obtain⟨a,hs,d⟩:=vJ c 1;exact lL OT rfl (show AM.dA .lock _ _=some (.tuple [],a) by simp only[AM.dA,b,hs,Xd]) ⟨d,rfl⟩
def fg(c:aw σ A H)(h:H.lock=1):au G0 [] 69 [.acK (A .heap) 0] σ fun r σ'=>aw σ' A (H.aC 0)∧r=.tuple []:=by have b:=c.cell (s:=.heap) trivial (i:=0) (Q:0<7);rw[show H.cell A .heap 0=.int .i32 H.lock from rfl,h]at b;obtain⟨a,hs,d⟩:=vJ c 0;exact lL fi rfl (show AM.dA .unlock _ _=some (.tuple [],a) by simp only[AM.dA,b,hs,Xd]) ⟨d,rfl⟩
def wi(B:aw σ A H){n a:V}{d:V}(C:H.lock=0){x y e:Int}(g:H'.lock=1)(D:∀s,aw s A (H.aC 1)->au G0 [] 121 [.acK (A .heap) 0,n,a,d] s fun r s'=>∃A',aw s' A' H'∧A' .heap=A .heap∧r=.tuple [.agg [.u x,.u y],.i e]):
  au G0 [] 61 [.acK (A .heap) 0,a,n,d] σ fun r σ'=>∃A',aw σ' A' (H'.aC 0)∧A' .heap=A .heap∧r=.tuple [.u x,.i e]:=by
 refine ai g61 rfl ?_;obtain⟨v,E,⟨p,c⟩,h⟩:=kL B C;subst c;simp only[go_sem];refine ab h ?_;obtain⟨v,f,⟨A',q,l,c⟩,j⟩:=D _ p;subst c;simp only[go_sem];refine ab j ?_;have k:=aQ (σ:=f) (z:=[.u 0,.u 0]) (vs:=[.u x,.u y]) (n:=2) Y rfl;have t:=q.Ts (n:=2) (z:=[.u 0,.u 0]) (vs:=[.u x,.u y]) Y rfl;have o:=To.Ts f 2 [.u 0,.u 0] [.u x,.u y] rfl;have m:=o.cell (i:=0) Q;rw[show Tn [V.u x,.u y] 0=.u x from rfl]at m;obtain⟨v,F,⟨w,c⟩,b⟩:=fg t g;subst c;rw[l]at b;simp only[go_sem,TH,TK,aj,k,m,b7];refine⟨.inr fi,?_⟩;refine ab b ?_;simp only[go_sem];exact⟨A',w,l⟩
def iZ(a:aw σ A H):σ.cell (A .heap) 2=some (.u H.Tj):=a.cell (s:=.heap) trivial (i:=2) (Q:2<7)
def ig(a:aw σ A H):σ.cell (A .Ud) 0=some (.acK (A .TY) 0):=a.cell (s:=.Ud) trivial (i:=0) (Q:0<3)
def fU(ok:H.OK):H.Tj%4096=0:=by have h:=ok.fU;unfold aa.Tp at h;exact Yc (WE ⟨2^H.Th,rfl⟩ (WQ h))
def Aa(H:aa):H.Ut=H.Tj+4096*H.np:=by unfold aa.Ut aa.Tp aa.np;rw[YZ,UF (2^H.Th)]
def jG(a:aw σ A H):σ.cell (A .Ud) 2=some (.acK (A .TO) 0):=a.cell (s:=.Ud) trivial (i:=2) (Q:2<3)
def Ge(c:aw σ A H){a k:V}{Q:V->St->Prop}(h:au G0 [] 228 [.acK (A .TO) 0,a,k] σ Q):
  au G0 [] 174 [.acK (A .Ud) 0,a,k] σ Q:=by
 refine ai g174 rfl ?_;have b:=jG c;obtain⟨v,f,d,e⟩:=h;simp only[go_sem,b];refine ab e ?_;simp only[go_sem];exact d
def Nr(j:aw σ A H){a w:Int}(hw:w<4096){P:St->Prop}(h:∀s,aw s A H->au G0 [] 173 [.acK (A .Ua) 0,.u a] s fun _ s'=>P s'):
  au G0 [] 127 [.acK (A .heap) 0,.agg [.u a,.u w]] σ fun r s'=>P s':=by
 refine ai g127 rfl ?_;have m:aH σ (σ.ag [.u a,.u w]):=aH.new _ _;have e:aw (σ.ag [.u a,.u w]) A H:=j.new _ rfl;have d:=To.cg σ [.u a,.u w];have c:=d.cell (i:=0) Y;rw[show Tn [V.u a,.u w] 0=.u a from rfl]at c;have g:=d.cell (i:=1) Y;rw[show Tn [V.u a,.u w] 1=.u w from rfl]at g;have f:=zJ e;obtain⟨v,l,k,b⟩:=h _ e;simp only[go_sem,aj,TH,TK,c,g,hw,f];refine ab b ?_;simp only[go_sem];exact⟨by simp only[f,c,dD,ZZ],k⟩
def OB(p:aw σ A H){a:Int}{k:Nat}(q:k≤40){P:St->Prop}(h:∀s,aw s A H->au G0 [] 228 [.acK (A .TO) 0,.u a,.i k] s fun _ s'=>P s'):
  au G0 [] 127 [.acK (A .heap) 0,.agg [.u a,.u (4096*2^k:Nat)]] σ fun r s'=>P s':=by
 refine ai g127 rfl ?_;have o:2^k≤2^40:=Vb Q q;have y:0<2^k:=Ye Q;have b:∀s:St,au G0 [] 157 [.u (4096*2^k:Nat)] s fun r s'=>r=.i k∧s'=s:=by intro s;obtain⟨v,z,⟨c,hs⟩,j⟩:=Gc (σ:=s) (x:=4096*2^k) Q;rw[Yd _ Q,nH,show((k+1:Nat):Int)-1=(k:Int)from Q]at c;exact ab j ⟨c,hs⟩
 obtain⟨w,hw⟩:=acH (4096*2^k);rw[<- hw]at b⊢;have c1:¬((w:Int)<4096):=Q;have f:aw (σ.ag [.u a,.u w]) A H:=p.new _ rfl;have n:=To.cg σ [.u a,.u w];have d:=n.cell (i:=0) Y;rw[show Tn [V.u a,.u w] 0=.u a from rfl]at d;have e:=n.cell (i:=1) Y;rw[show Tn [V.u a,.u w] 1=.u w from rfl]at e;have g:=iS f;obtain⟨v,B,⟨c,hs⟩,l⟩:=b (σ.ag [.u a,.u w]);subst c hs;obtain⟨v,C,t,m⟩:=Ge f (h _ f);simp only[go_sem,aj,TH,TK,d,e,c1,g];refine ab l ?_;simp only[go_sem,d,e,g];refine ab m ?_;simp only[go_sem,d,e,g];exact t
def Qn(c:aw σ A H){k d:V}{a e:Int}{P:St->Prop}(f:e≠2)(h:au G0 [] 248 [.acK (A .TO) 0,k] σ fun r s=>P s∧r=.tuple [.u a,.i e]):
  au G0 [] 205 [.acK (A .Ud) 0,k,d] σ fun r s=>P s∧r=.tuple [.u a,.bool false,.i e]:=by
 refine ai g205 rfl ?_;have b:=jG c;obtain⟨v,m,⟨g,l⟩,j⟩:=h;subst l;simp only[go_sem,b];refine ab j ?_;simp only[go_sem,f,TV,Ug];exact g
def NZ(c:aw σ A H){k d:V}{e x:Int}{P:St->Prop}(l:e≠0)(h:au G0 [] 248 [.acK (A .TO) 0,k] σ fun r s=>s=σ∧r=.tuple [.u 0,.i 2])(j:au G0 [] 249 [.acK (A .TY) 0,d] σ fun r s=>P s∧r=.tuple [.u x,.i e]):
  au G0 [] 205 [.acK (A .Ud) 0,k,d] σ fun r s=>P s∧r=.tuple [.u 0,.bool false,.i e]:=by
 refine ai g205 rfl ?_;have g:=jG c;have f:=ig c;obtain⟨v,o,⟨hs,b⟩,n⟩:=h;subst b hs;obtain⟨v,p,⟨m,b⟩,a⟩:=j;subst b;simp only[go_sem,g];refine ab n ?_;simp only[go_sem,TV,Uq,f];refine ab a ?_;simp only[go_sem,l,TV,Ug];exact m
def Nf(o:aw σ A H){k d:V}{a x:Int}{P:St->Prop}{m:Nat}(h:au G0 [] 248 [.acK (A .TO) 0,k] σ fun r s=>s=σ∧r=.tuple [.u 0,.i 2])(y:au G0 [] 249 [.acK (A .TY) 0,d] σ fun r s=>(s.cell (A .Ud) 1=some (.acK m 0)∧
   au G0 [] 250 [.acK m 0] s fun r s2=>s2.cell (A .Ud) 2=some (.acK (A .TO) 0)∧
    au G0 [] 251 [.acK (A .TO) 0] s2 fun r p=>p.cell (A .Ud) 2=some (.acK (A .TO) 0)∧
     au G0 [] 248 [.acK (A .TO) 0,k] p fun r C=>P C∧r=.tuple [.u a,.i 0])∧r=.tuple [.u x,.i 0]):
  au G0 [] 205 [.acK (A .Ud) 0,k,d] σ fun r s=>P s∧r=.tuple [.u a,.bool true,.i 0]:=by
 refine ai g205 rfl ?_;have w:=jG o;have q:=ig o;obtain⟨v,D,⟨hs,l⟩,B⟩:=h;subst l hs;obtain⟨v,E,⟨⟨t,J,F,⟨b,K,G,⟨c,L,I,⟨z,n⟩,j⟩,g⟩,f⟩,l⟩,e⟩:=y;subst l n;simp only[go_sem,w];refine ab B ?_;simp only[go_sem,TV,Uq,q];refine ab e ?_;simp only[go_sem,TV,Uq,t];refine ab f ?_;simp only[go_sem,b];refine ab g ?_;simp only[go_sem,c];refine ab j ?_;simp only[go_sem];exact z
def HH(g:aw σ A H)(ok:H.OK){d:Bool}(h:d=true∨H.Tl=H.TB):
  au G0 [] 249 [.acK (A .TY) 0,.bool d] σ fun r s=>s=σ∧r=.tuple [.u 0,.i 2]:=by
 refine ai g249 rfl ?_;have a:=g.cell (s:=.TY) trivial (i:=4) (Q:4<5);have f:=g.cell (s:=.TY) trivial (i:=1) (Q:1<5);rw[show H.cell A .TY 1=.i H.TB from rfl]at f;obtain⟨b,e⟩:∃b,H.eH A=.slice b H.Tl 1∨(H.eH A=.slice b H.Tl 0):=by
  unfold aa.eH;by_cases c:H.Yk=true
  .rw[Ti c];exact⟨_,.inl rfl⟩
  rw[Tg c];have:H.Tl=0:=by
   rcases Wi H.Tl with z|z
   .exact z
   exact absurd (ok.T0 z) c
  rw[this];exact⟨none,.inr rfl⟩
 rw[show H.cell A .TY 4=H.eH A from rfl]at a;cases d with
 |true=>simp only[go_sem,TT]
 |false=>
  have j:H.Tl=H.TB:=by rcases h with h|h;cases h;exact h
  have c1:(H.Tl:Int)=(H.TB:Int):=Q;rcases e with e|e <;> rw[e]at a
  .simp only[go_sem,a,f,c1,TT,Ul,U5]
  simp only[go_sem,a,f,c1,TT,Ul,U5]
structure dW (σ:St) (has:Tu -> Prop) (A:Tu -> Nat) (size:Tu -> Nat) (cell:Tu -> Nat -> V):Prop where
 gw:GW σ
 Ub:Vv σ
 inj:∀ s t,has s -> has t -> A s=A t -> s=t
 row:∀ s,has s -> Row σ (A s) (size s) (cell s)
 cut:∀ s t o,has s -> has t -> s≠t -> σ.Tq.get (A s)=some o -> o.TG≠0 -> A t∉σ.row o.TG
def Q0(h:aw σ A H):dW σ H.has A H.size (H.cell A):=⟨h.gw,h.Ub,h.inj,h.row,h.cut⟩
def dW.abN(h:dW σ has A size cell)(c:∀t,H.has t->has t)(d:∀t,H.has t->H.size t≤size t)(e:∀t,H.has t->∀i,i<H.size t->cell t i=H.cell A t i):aw σ A H:=
 ⟨h.gw,h.Ub,fun s t a b=>h.inj s t (c s a) (c t b),fun s a=>(h.row s (c s a)).congr (d s a) (e s a),fun s t o a b=>h.cut s t o (c s a) (c t b)⟩
def TN{a:Type}(f:Tu->a)(s:Tu)(x:a):Tu->a:=fun t=>if t=s then x else f t
def an{a:Type}{f:Tu->a}{s:Tu}{x:a}:TN f s x s=x:=Ti rfl
def ae{a:Type}{f:Tu->a}{s t:Tu}{x:a}(h:t≠s):TN f s x t=f t:=Tg h
def dW.UL(h:dW σ has A size cell){s:Tu}(hs:has s):A s<σ.next:=by obtain⟨g,m,z,t,c,a,b⟩:=h.row s hs;exact h.gw.UL a
def dW.new(h:dW σ has A size cell){s0:Tu}(hs:¬has s0){n:Nat}{z:List V}{t:T V}{f:Nat->V}(x:∀i,i<n->Vw n z t i=some (f i)):
  dW (σ.new (.acM n z t)) (fun t=>has t∨t=s0) (TN A s0 σ.next) (TN size s0 n) (TN cell s0 f):=by
 have r:=aH.new σ (.acM n z t);have hw:=h.gw.new (.acM n z t) rfl;have p:∀s,has s->(σ.new (.acM n z t)).Tq.get (A s)=σ.Tq.get (A s):=fun s hs=>r.TE _ (h.UL hs)
 have l:(σ.new (.acM n z t)).Tq.get σ.next=some (.acM n z t):=by simp only[St.new,T.aJ,TT]
 have c:∀s,has s->s≠s0:=fun s a e=>hs (e▸a)
 refine⟨hw,h.Ub.fQ (r.TE _ ?_),?_,?_,?_⟩
 .obtain⟨m,z,t,w,j,v⟩:=h.Ub;exact h.gw.UL j
 .rintro a b (ha|rfl) (d|rfl) e
  .rw[ae (c a ha),ae (c b d)]at e;exact h.inj a b ha d e
  .rw[ae (c a ha),an]at e;have:=h.UL ha;omega
  .rw[ae (c b d),an]at e;have:=h.UL d;omega
  rfl
 .rintro a (ha|rfl)
  .rw[ae (c a ha),ae (c a ha),ae (c a ha)];obtain⟨g,m,B,y,w,j,v⟩:=h.row a ha;exact⟨g,m,B,y,w,by rw[p a ha];exact j,v⟩
  rw[an,an,an];exact⟨0,n,z,t,Tx _,l,x⟩
 rintro a b o (ha|rfl) d u j hg
 .rw[ae (c a ha),p a ha]at j;have q:(σ.new (.acM n z t)).row o.TG=σ.row o.TG:=by simp only[St.row,r.TX]
  rw[q];rcases d with d|rfl
  .rw[ae (c b d)];exact h.cut a b o ha d u j hg
  rw[an];intro k;have:=h.gw.lt _ _ k;omega
 rw[an,l]at j;simp only[TC]at j;subst j;exact absurd rfl hg
def dW.append(h:dW σ has A size cell){s0:Tu}(hs:has s0){esz bytes k xl:Nat}{vs:List V}{v:V}{σ':St}(Z:size s0=xl*esz)(ha:dc σ esz bytes k vs (some (A s0,0)) xl=some (v,σ')):
  v=.acL σ.next 0 (xl+k) esz∧σ'.next=σ.next+1∧
  dW σ' has (TN A s0 σ.next) (TN size s0 (xl*esz+vs.length)) (TN cell s0 fun i=>if i<xl*esz then cell s0 i else Tn vs (i-xl*esz)):=by
 have hw:=h.gw.dc ha;obtain⟨g,n,z,t,TE,hg,Ur,hv,hn,P,E⟩:=kF ha;have w:=h.row s0 hs;have p:=w.load (off:=0) (k:=xl*esz) Q;have F:σ.load (A s0) 0 (xl*esz)=some TE:=by simp only[St.load,hg,Ur]
 rw[F,TC]at p;have K:TE.length=xl*esz:=by rw[p];simp
 have f:∀s,has s->A s≠σ.next:=fun s a=>by have:=h.UL a;omega
 have L:∀s,has s->s≠s0->σ'.Tq.get (A s)=σ.Tq.get (A s):=by
  intro s y B;have M:A s≠A s0:=fun e=>B (h.inj s s0 y hs e)
  have I:¬(g≠0∧A s∈σ.row g):=fun⟨G,H⟩=>h.cut s0 s _ hs y (U2 B) hg G H
  have N:¬(g≠0∧A s∈(σ.row g).drop 8):=fun⟨G,H⟩=>I ⟨G,YG H⟩
  rw[E,Tg (f s y),Tg N,Tg M,Tg I]
 have C:σ'.Tq.get σ.next=some (.cells false (if g=0 then σ.next else g) (TE++vs).length [] (ofList (TE++vs))):=by rw[E,Ti rfl]
 have O:g≠0->A s0∈σ.row g∧g<σ.next:=fun k=>h.gw.mem _ _ hg k
 have u:∀x,σ'.row x=if x=(if g=0 then σ.next else g)then(σ.next ::(if g=0 then [A s0]else(σ.row g).take 8))else σ.row x:=by
  intro x;simp only[St.row,P,T.aJ];by_cases c:x=(if g=0 then σ.next else g)
  .rw[Ti c,Ti c];rfl
  rw[Tg c,Tg c]
 have J:∀s o,has s->s≠s0->σ.Tq.get (A s)=some o->o.TG≠0->o.TG≠(if g=0 then σ.next else g):=by
  intro s o y B q r e;by_cases c:g=0
  .rw[Ti c]at e;have:=(h.gw.mem _ _ q r).2;omega
  rw[Tg c]at e;have:=h.cut s s0 o y hs B q r;rw[e]at this;exact this (O c).1
 refine⟨hv,hn,hw,h.Ub.fQ ?_,?_,?_,?_⟩
 .obtain⟨m,W,U,S,q,R⟩:=h.Ub;have M:dE≠A s0:=h.Ub.qt w;have I:¬(g≠0∧dE∈σ.row g):=fun⟨G,H⟩=>by have:=h.gw.TG _ _ _ H q rfl;exact G this.symm
  have N:¬(g≠0∧dE∈(σ.row g).drop 8):=fun⟨G,H⟩=>I ⟨G,YG H⟩
  have Y:dE≠σ.next:=by have:=h.gw.UL q;omega
  rw[E,Tg Y,Tg N,Tg M,Tg I]
 .intro a b d l e;by_cases j:a=s0
  .by_cases cb:b=s0
   .rw[j,cb]
   rw[j,an,ae cb]at e;exact absurd e.symm (f b l)
  by_cases cb:b=s0
  .rw[cb,an,ae j]at e;exact absurd e (f a d)
  rw[ae j,ae cb]at e;exact h.inj a b d l e
 .intro a d;by_cases j:a=s0
  .subst j;rw[an,an,an];refine⟨_,_,_,_,?_,C,fun i hi=>?_⟩
   .rw[UN,K];exact Tx _
   rw[cT,List.getElem?_append,K];by_cases c:i<xl*esz
   .rw[Ti c];show _=some (if i<xl*esz then _ else _);rw[Ti c,p];simp[c]
   rw[Tg c];show _=some (if i<xl*esz then _ else _);rw[Tg c];have:i-xl*esz<vs.length:=Q;simp[Tn,this]
  rw[ae j,ae j,ae j];obtain⟨X,m,W,U,S,q,R⟩:=h.row a d;exact⟨X,m,W,U,S,by rw[L a d j];exact q,R⟩
 intro a b o d l D q r;by_cases j:a=s0
 .subst j;have cb:b≠a:=U2 D;rw[an,C,TC]at q;subst q;rw[u,Ti (show AM.Obj.TG (.cells false (if g=0 then σ.next else g) (TE++vs).length [] (ofList (TE++vs)))=(if g=0 then σ.next else g)from rfl),ae cb];intro k;rcases U8.mp k with k|k
  .exact f b l k
  by_cases c:g=0
  .rw[Ti c]at k;have:A b=A a:=by simpa using k
   exact cb (h.inj b a l hs this)
  rw[Tg c]at k;exact h.cut a b _ hs l D hg c (X9 k)
 rw[ae j,L a d j]at q;rw[u,Tg (J a o d j q r)];by_cases cb:b=s0
 .subst cb;rw[an];intro k;have:=h.gw.lt _ _ k;omega
 rw[ae cb];exact h.cut a b o d l D q r
def dW.store(h:dW σ has A size cell){s:Tu}(hs:has s){off:Nat}{vs:List V}(F:off+vs.length≤size s)(E:vs.all V.Tr=true):
  ∃σ',σ.store (A s) off vs=some σ'∧dW σ' has A size (TN cell s (UO (cell s) off vs))∧σ'.next=σ.next:=by
 obtain⟨σ',B,H,hn,hg,l,n⟩:=(h.row s hs).store F E;have u:Vv σ':=by obtain⟨m,z,t,y,i,v⟩:=h.Ub;exact h.Ub.fQ (l.Vl h.gw (h.Ub.qt (h.row s hs)) i rfl rfl)
 refine⟨σ',B,⟨h.gw.store B,u,h.inj,?_,?_⟩,hn⟩
 .intro t ht;by_cases c:t=s
  .subst c;rw[an];exact H
  have f:A t≠A s:=fun e=>c (h.inj t s ht hs e)
  rw[ae c];obtain⟨g,m,z,D,y,i,v⟩:=h.row t ht;refine⟨g,m,z,D,y,?_,v⟩;rw[l (A t) f fun o k d=>h.cut s t o hs ht (U2 c) k d];exact i
 intro a b o ha C f i d;simp only[St.row,hg];by_cases c:a=s
 .subst c;obtain⟨q,G,x⟩:∃q,σ.Tq.get (A a)=some q∧q.TG=o.TG:=by obtain⟨g,m,z,D,y,r,v⟩:=h.row a hs;obtain⟨I,j,w⟩:=n _ r;rw[i]at j;simp only[TC]at j;subst j;exact⟨_,r,w.symm⟩
  have:=h.cut a b q hs C f G Q
  rwa [x]at this
 have p:A a≠A s:=fun e=>c (h.inj a s ha hs e)
 rw[l (A a) p fun o k d=>h.cut s a o hs ha (U2 c) k d]at i;exact h.cut a b o ha C f i d
def dW.gE(h:dW σ has A size cell){s:Tu}(hs:has s){i:Nat}(hi:i<size s):σ.cell (A s) i=some (cell s i):=(h.row s hs).cell hi
def dW.Ui{σ':St}(h:dW σ has A size cell)(g:aH σ σ')(w:GW σ'):dW σ' has A size cell where
 gw:=w
 Ub:=by obtain⟨m,z,t,c,a,b⟩:=h.Ub;exact h.Ub.fQ (g.TE _ (h.gw.UL a))
 inj:=h.inj
 row s hs:=by obtain⟨d,m,z,t,c,a,b⟩:=h.row s hs;exact⟨d,m,z,t,c,by rw[g.TE _ (h.UL hs)];exact a,b⟩
 cut s t o hs ht hne a hg0:=by
  rw[g.TE _ (h.UL hs)]at a;have:=h.cut s t o hs ht hne a hg0
  simpa only[St.row,g.TX]using this
def lM{id n:Nat}{f:Nat->V}(h:Row σ id n f){esz bytes k xl:Nat}{vs:List V}(hn:xl*esz≤n)(c:(xl+k)*bytes≤aq)(d:xl+k≤aq)(e:vs.all V.Tr=true):
  ∃v σ',dc σ esz bytes k vs (some (id,0)) xl=some (v,σ'):=by
 have a:=h.load (off:=0) (k:=xl*esz) Q;obtain⟨g,m,z,t,j,b,i⟩:=h;simp only[St.load,b]at a;unfold dc;rw[Ti ⟨c,d,e⟩];simp only[TT,b,a];exact⟨_,_,rfl⟩
theorem kh{b:Bool}{x y:AM.Tt}{tm:T V}:AM.cN (.XA b [x,y]) tm=AM.kS b (x.eval tm) [y.eval tm]:=rfl
def OP{n:Nat}(hn:n≤1048576):au G0 [] 253 [.i n] σ fun r σ'=>r=.tuple [.i n,.i ((n+63)/64:Nat)]∧σ'=σ:=by
 refine ai g253 rfl ?_;have f:AM.kS false (.i n) [.i 1048576]=some (.i n):=by simp only[AM.kS,TT,U5,Ul];rw[Tg Q]
 have g:AM.kS true (.i 0) [.i n]=some (.i n):=by
  simp only[AM.kS,TT];by_cases c:(n:Int) > 0
  .rw[Ti c]
  rw[Tg c];congr 2;omega
 have d:IntKind.i64.wrap ((n:Int)+63)=((n+63:Nat):Int):=by rw[dw] <;> omega
 have a:(64:Int)≠0:=by decide
 have e:IntKind.i64.wrap (((n+63:Nat):Int).tdiv 64)=(((n+63)/64:Nat):Int):=oW (b:=64) Q;simp only[go_sem,kh,f,g,d,bc,a,TV,Ug,e]
def xi(n nw:Nat)(w:Nat->Nat)(i:Nat):Nat:=if n%64≠0∧i=nw-1 then w i%2^(n%64)else w i
def Ke{x e n nw:Nat}{w:Nat->Nat}(gw:GW σ)(hn:n≤1048576)(I:nw=(n+63)/64)(hw:∀i,w i<18446744073709551616)(p:To σ x 2 (Tn [.i n,.acL e 0 nw 1]))(g:To σ e nw (fun i=>.u (w i))):
  au G0 [] 254 [.acK x 0] σ fun r σ'=>r=.tuple []∧GW σ'∧VL e σ σ'∧To σ' e nw (fun i=>.u (xi n nw w i)):=by
 refine ai g254 rfl ?_;have o:=p.cell (i:=0) Q;rw[show Tn [V.i n,.acL e 0 nw 1] 0=.i n from rfl]at o;have y:=p.cell (i:=1) Q;rw[show Tn [V.i n,.acL e 0 nw 1] 1=.acL e 0 nw 1 from rfl]at y;have q:(64:Int)≠0:=by decide
 have h:((n:Int).tmod 64)=((n%64:Nat):Int):=aW n 64;obtain⟨m,j⟩:=acH (n%64);rw[<- j]at h;by_cases c:m=0
 .have d:((m:Nat):Int)=0:=Q;simp only[go_sem,o,aZ,q,TV,Ug,h,d,Uq];refine⟨gw,⟨rfl,rfl,fun _ _=>rfl⟩,g.congr (Tx _) fun i hi=>?_⟩;simp only[xi, <- j,c,TV,Uq,false_and,Ul]
 have d:¬((m:Nat):Int)=0:=Q;have f:m<64:=Q;have v:1≤nw:=Q;have D:IntKind.i64.wrap ((nw:Int)-1)=((nw-1:Nat):Int):=by rw[dw] <;> omega
 have B:(0:Int)≤((nw-1:Nat):Int)∧((nw-1:Nat):Int)<(nw:Int):=Q;have J:=g.cell (i:=nw-1) Q;have C:(0:Int)≤(m:Int):=Q;have E:=oC f;have G:2^m≤2^63:=Vb Q Q;have H:0<2^m:=Ye Q;have F:IntKind.u64.wrap (((2^m:Nat):Int)-1)=((2^m-1:Nat):Int):=by rw[cd] <;> omega
 have t:=aar (a:=w (nw-1)) (b:=2^m-1) (hw _) Q;rw[ab6]at t;obtain⟨L,l,z,K,A⟩:=g.store gw (off:=nw-1) (vs:=[.u (w (nw-1)%2^m:Nat)]) (by simp;omega) rfl;simp only[go_sem,Bool.and_false,Z0,aaw,ZZ,o,y,aZ,q,TV,Ug,h,d,D,B,Us,TZ,Um,Vk,J,aT,C,E,F,t,az,TH,TK,l];refine⟨K,A,z.congr (Tx _) fun i hi=>?_⟩;simp only[UO,xi, <- j,TH,TK,Vk];by_cases s:i=nw-1
 .subst s;rw[Ti Q,Ti ⟨c,rfl⟩];simp
 rw[Tg Q,Tg (fun k=>s k.2)]
def QM{n:Nat}(gw:GW σ)(hn:n≤1048576){Q:V->St->Prop}(h:∀s b,b=(n+63)/64->GW s->aH σ s->s.next=σ.next+2->To s σ.next b (fun _=>.u 0)->To s (σ.next+1) 2 (Tn [.i n,.acL σ.next 0 b 1])->Q (.acK (σ.next+1) 0) s):
  au G0 [] 210 [.acJ,.i n] σ Q:=by
 refine ai g210 rfl ?_;obtain⟨v,c,⟨B,hs⟩,m⟩:=OP (σ:=σ) hn;subst B hs;obtain⟨b,j⟩:=acH ((n+63)/64);rw[<- j]at m;simp only[go_sem];refine ab m ?_;have c1:b*8≤aq:=by unfold aq;omega
 have K:(0:Int)≤(b:Int)∧(b:Int)<9223372036854775808:=acG;have x:(b:Int)≤(b:Int):=acG;have E:=aH.new c (.acM b [.u 0] .nil);have D:=gw.new (.acM b [.u 0] .nil) rfl;have r:=To.fx c [.u 0] b (.inl Y);have L:bZ [V.i 0,.acJ] [(0,1,.i (n:Int)),(1,1,.acL c.next 0 b 1)]=some [V.i n,.acL c.next 0 b 1]:=rfl;obtain⟨e,f⟩:=acH (c.next);simp only[go_sem,K,x,c1,Us,TZ,Um,aG,L,aj,TH,TK];rw[<- f]at r⊢;have C:(c.new (.acM b [.u 0] .nil)).next=e+1:=by rw[f];rfl
 generalize c.new (.acM b _ .nil)=d at E D r C⊢;have y:aH d (d.ag [.i n,.acL e 0 b 1]):=aH.new _ _;have H:GW (d.ag [.i n,.acL e 0 b 1]):=D.new _ rfl;have t:=To.cg d [.i n,.acL e 0 b 1];have G:(d.ag [.i n,.acL e 0 b 1]).next=e+2:=by show d.next+1=_;rw[C]
 rw[C]at t⊢;have k:=r.Ui D y;generalize d.ag _=o at y H t k G⊢;have g:To o (e+1) 2 (Tn [.i n,.acL e 0 b 1]):=t;have F:=g.cell (i:=1) acG;rw[show Tn [V.i n,.acL e 0 b 1] 1=.acL e 0 b 1 from rfl]at F;have J:To o e b (fun i=>.u ((fun _:Nat=>(0:Nat)) i:Nat)):=k.congr (Tx _) fun i hi=>by simp[XM]
 simp only[go_sem,F,Ez];obtain⟨v,p,⟨B,M,q,I⟩,A⟩:=Ke (w:=fun _=>0) H hn j (fun _=>acG) g J;subst B;refine ab A ?_;simp only[go_sem];have l:=E.trans y;have z:p.next=c.next+2:=by rw[q.next,G,f]
 rw[f]at *;refine h p b j M ⟨acG,q.TX.trans l.TX,fun a ha=>(q.TE a acG).trans (l.TE a ha)⟩ z ?_ (g.put q acG);exact I.congr (Tx _) fun i hi=>by simp[xi]
def M7{b f nw nwo:Nat}{w:Nat->Nat}(gw:GW σ)(g:To σ b nw (fun _=>.u 0))(n:Row σ f nwo (fun i=>.u (w i))):
  ∃σ',YN σ 1 (.acL b 0 nw 1) (.acL f 0 nwo 1)=some (.i (min nwo nw:Nat),σ')∧GW σ'∧VL b σ σ'∧To σ' b nw (fun i=>.u ((if i<nwo then w i else 0:Nat):Int)):=by
 obtain⟨m,e⟩:∃m,min nwo nw=m:=⟨_,rfl⟩;rcases Wi m with c|c
 .refine⟨σ,by simp[YN,e,c],gw,VL.refl _ _,g.congr (Tx _) fun i hi=>?_⟩;rw[Tg Q];rfl
 have o:=n.load (off:=0) (k:=m) Q;have a:((List.range m).map fun j=>V.u (w (0+j))).all V.Tr=true:=by rw[X8];intro v p;obtain⟨j,_,rfl⟩:=V3.mp p;rfl
 obtain⟨σ',hs,h,q,l⟩:=g.store gw (off:=0) (vs:=(List.range m).map fun j=>V.u (w (0+j))) (by simp;omega) a;refine⟨σ',?_,q,l,h.congr (Tx _) fun i hi=>?_⟩
 .exact sU (σ:=σ) (σ':=σ') (esz:=1) (ix:=b) (ox:=0) (iy:=f) (oy:=0) (xl:=nw) (yl:=nwo) (xe:=1) (ye:=1) (vs:=(List.range m).map fun j=>V.u (w (0+j))) (by rw[e];omega) (by rw[e,Um];exact o) hs
 simp only[UO,VK,WK,Wz,YE,Vk,Zr];by_cases d:i<m
 .rw[Ti d,Ti Q];simp[d]
 rw[Tg d,Tg Q];rfl
def Sr{n nwo G:Nat}{w:Nat->Nat}(gw:GW σ)(hn:n≤1048576)(S:Row σ G nwo (fun i=>.u (w i)))(W:G<σ.next)(hw:∀i,w i<18446744073709551616){Q:V->St->Prop}(h:∀s b,b=(n+63)/64->GW s->aH σ s->s.next=σ.next+2->To s σ.next b (fun i=>.u (xi n b (fun i=>if i<nwo then w i else 0) i))->To s (σ.next+1) 2 (Tn [.i n,.acL σ.next 0 b 1])->Q (.acK (σ.next+1) 0) s):
  au G0 [] 210 [.acL G 0 nwo 1,.i n] σ Q:=by
 refine ai g210 rfl ?_;obtain⟨v,d,⟨F,hs⟩,o⟩:=OP (σ:=σ) hn;subst F hs;obtain⟨b,l⟩:=acH ((n+63)/64);rw[<- l]at o;simp only[go_sem];refine ab o ?_;have c1:b*8≤aq:=by unfold aq;omega
 have T:(0:Int)≤(b:Int)∧(b:Int)<9223372036854775808:=acG;have A:(b:Int)≤(b:Int):=acG;have K:=aH.new d (.acM b [.u 0] .nil);have I:=gw.new (.acM b [.u 0] .nil) rfl;have t:=To.fx d [.u 0] b (.inl Y);have U:bZ [V.i 0,.acJ] [(0,1,.i (n:Int)),(1,1,.acL d.next 0 b 1)]=some [V.i n,.acL d.next 0 b 1]:=rfl;obtain⟨f,g⟩:=acH (d.next);simp only[go_sem,T,A,c1,Us,TZ,Um,aG,U,aj,TH,TK];rw[<- g]at t⊢;have H:(d.new (.acM b [.u 0] .nil)).next=f+1:=by rw[g];rfl
 generalize d.new (.acM b _ .nil)=e at K I t H⊢;have B:aH e (e.ag [.i n,.acL f 0 b 1]):=aH.new _ _;have N:GW (e.ag [.i n,.acL f 0 b 1]):=I.new _ rfl;have x:=To.cg e [.i n,.acL f 0 b 1];have M:(e.ag [.i n,.acL f 0 b 1]).next=f+2:=by show e.next+1=_;rw[H]
 rw[H]at x⊢;have m:=t.Ui I B;generalize e.ag _=p at B N x m M⊢;have j:To p (f+1) 2 (Tn [.i n,.acL f 0 b 1]):=x;have L:=j.cell (i:=1) acG;rw[show Tn [V.i n,.acL f 0 b 1] 1=.acL f 0 b 1 from rfl]at L;have R:To p f b (fun _=>.u 0):=m.congr (Tx _) fun i hi=>by simp[XM]
 have k:=K.trans B;obtain⟨ac,C,Z,J,P⟩:=M7 N R (k.row gw S);have y:=j.put J acG;simp only[go_sem,L,C];obtain⟨v,q,⟨F,X,z,O⟩,E⟩:=Ke (w:=fun i=>if i<nwo then w i else 0) Z hn l (fun i=>by by_cases c:i<nwo <;> simp[c,hw]) y P;have r:=J.trans z;subst F;refine ab E ?_;simp only[go_sem];have D:q.next=d.next+2:=by rw[r.next,M,g]
 rw[g]at *;refine h q b l X ⟨acG,r.TX.trans k.TX,fun a ha=>(r.TE a acG).trans (k.TE a ha)⟩ D ?_ (j.put r acG);exact O
def dW.move{σ':St}(j:dW σ has A size cell)(g:aH σ σ')(w:GW σ'){s0:Tu}{b n:Nat}{f:Nat->V}(L:To σ' b n f)(r:σ.next≤b):
  dW σ' has (TN A s0 b) (TN size s0 n) (TN cell s0 f):=by
 have h:=j.Ui g w;have d:∀s,has s->A s≠b:=fun s a=>by have:=j.UL a;omega
 refine⟨w,h.Ub,?_,?_,?_⟩
 .intro s t hs ht e;by_cases cs:s=s0
  .by_cases c:t=s0
   .rw[cs,c]
   rw[cs,an,ae c]at e;exact absurd e.symm (d t ht)
  by_cases c:t=s0
  .rw[c,an,ae cs]at e;exact absurd e (d s hs)
  rw[ae cs,ae c]at e;exact h.inj s t hs ht e
 .intro s hs;by_cases cs:s=s0
  .subst cs;rw[an,an,an];exact L.row
  rw[ae cs,ae cs,ae cs];exact h.row s hs
 intro s t o hs ht p i hg;by_cases cs:s=s0
 .subst cs;rw[an]at i;obtain⟨m,z,x,v,l,u⟩:=L;rw[l,TC]at i;subst i;exact absurd rfl hg
 rw[ae cs]at i;by_cases c:t=s0
 .subst c;rw[an];intro k;have q:b∈σ.row o.TG:=by simpa only[St.row,g.TX]using k
  have:=j.gw.lt _ _ q;omega
 rw[ae c];exact h.cut s t o hs ht p i hg
def K5{k n0 n nwo:Nat}{w:Nat->Nat}(h:dW σ has A size cell)(hs:has (.set k))(g:has (.Uf k))(I:size (.set k)=2)(hn:n≤1048576)(J:cell (.set k) 1=.acL (A (.Uf k)) 0 nwo 1)(t:size (.Uf k)=nwo)(l:cell (.Uf k)=fun i=>.u (w i))(hw:∀i,w i<18446744073709551616):
  au G0 [] 264 [.acK (A (.set k)) 0,.i n] σ fun r σ'=>r=.tuple []∧σ.next≤σ'.next∧
   dW σ' has (TN A (.Uf k) σ.next) (TN size (.Uf k) ((n+63)/64))
    (TN (TN cell (.Uf k) fun i=>.u (xi n ((n+63)/64) (fun i=>if i<nwo then w i else 0) i)) (.set k) (UO (cell (.set k)) 0 [.i n,.acL σ.next 0 ((n+63)/64) 1])):=by
 refine ai g264 rfl ?_;have C:=h.gE hs (i:=1) acG;rw[J]at C;have y:=h.row _ g;rw[t,l]at y;have m:=h.UL g;have p:=Sr (Q:=fun v s=>v=.acK (σ.next+1) 0∧GW s∧aH σ s∧To s σ.next ((n+63)/64) (fun i=>.u (xi n ((n+63)/64) (fun i=>if i<nwo then w i else 0) i))∧To s (σ.next+1) 2 (Tn [.i n,.acL σ.next 0 ((n+63)/64) 1])) h.gw hn y m hw
  (fun s O e a b c G H=>by subst e;exact⟨rfl,a,b,G,H⟩)
 obtain⟨v,M,⟨K,L,z,D,E⟩,q⟩:=p;subst K;simp only[go_sem,C];refine ab q ?_;have B:=E.load (off:=0) (k:=2) acG;rw[show((List.range 2).map fun j=>Tn [V.i n,.acL σ.next 0 ((n+63)/64) 1] (0+j))=[V.i n,.acL σ.next 0 ((n+63)/64) 1]from rfl]at B;have F:=h.move (s0:=.Uf k) z L D (Tx _);have d:Tu.set k≠Tu.Uf k:=by simp
 obtain⟨N,f,x,o⟩:=F.store (s:=.set k) hs (off:=0) (vs:=[.i n,.acL σ.next 0 ((n+63)/64) 1]) (by rw[ae d,I];simp) rfl;rw[ae d]at f;rw[ae d]at x;simp only[go_sem,B,aj,TH,TK,f];exact⟨by rw[o];exact z.next,x⟩
def MM(q:Nat):q ^^^1=if q%2=0 then q+1 else q-1:=by
 have c:(q ^^^1)/2=q/2:=by rw[Nat.xor_div_two];simp
 have d:(q ^^^1)%2=(q+1)%2:=by
  have h:=Nat.xor_mod_two_pow (a:=q) (b:=1) (n:=1);simp only[Nat.pow_one,Nat.one_mod_eq_one.2 (by decide:(2:Nat)≠1)]at h;rw[h];rcases abw q with e|e
  .rw[e];show 1=_;omega
  rw[e];show 0=_;omega
 split <;> omega
def Mv{p k:Nat}(al:p%2^k=0):p ^^^2^k=VV p k:=by
 rw[uX al, <- MM];have a:=(mV al).symm;generalize p/2^k=q at a⊢;subst a;apply ab7;intro i;rw[abD,aaR,aaR,aac,abD,show(1:Nat)=2^0 from rfl,aac];by_cases c:k≤i
 .by_cases d:k=i
  .subst d;simp
  have:¬(0=i-k):=Q;simp[c,d,this]
 have:¬k=i:=Q;simp[c,this]
def Hu{p k:Nat}(al:p%2^k=0)(hp:p<2^60)(b:k<60):mX .i64 (p:Int) ((2^k:Nat):Int)=((p/2^(k+1)*2^(k+1):Nat):Int):=by
 have f:2^k<2^60:=Y0 Q b;have e:(BitVec.ofInt IntKind.i64.bits (p:Int) &&& ~~~ BitVec.ofInt IntKind.i64.bits ((2^k:Nat):Int)).toNat=p/2^(k+1)*2^(k+1):=by
  rw[BitVec.toNat_and,BitVec.toNat_not,FA p Q,FA (2^k) Q,show IntKind.i64.bits=64 from rfl];apply ab7;intro i;rw[Nat.testBit_and,(Q:2^64-1-2^k=2^64-(2^k+1)),Nat.testBit_two_pow_sub_succ Q,aaR,Nat.testBit_div_two_pow,aac];have g:=(mV al).symm;rcases Nat.lt_trichotomy i k with c|c|c
  .have:p.testBit i=false:=by rw[g,aaR];simp[(Q:¬k≤i)]
   rw[this];simp[(Q:¬k+1≤i)]
  .subst c;simp[(Q:¬i+1≤i)]
  have d:¬k=i:=Q;rw[UK d,UR (Q:i ≥ k+1),(Q:i-(k+1)+(k+1)=i)];by_cases a:i<64
  .simp[a]
  have:p.testBit i=false:=Nat.testBit_lt_two_pow (YY hp (Vb Q Q));rw[this];simp
 unfold mX;rw[e];have:p/2^(k+1)*2^(k+1)≤p:=Yr _ _;exact bF Q
def scB(c:AC):AC:=match c with
 | .seq _ (.scope b)=>b
 |c=>c
def Y8:AC:=scB c228.body
def Y9:AC:=Vr (Vr (Vr (Vr Y8)))
def Nz:AM.findLabel Y8 0=some (AC.seq .skip Y9):=by kernel_rfl
def Dm{fr:AM.Fr}{K:fA}(h:wp G0 [] (Vp Y9) fr σ K):wp G0 [] (AC.seq .skip Y9) fr σ K:=by rw[lE]at h;exact h
def HZ:∀(n:Nat) {H:aa} {fl:Nat->List Nat} {p k:Nat} {σ:St} {fr:AM.Fr} {K:fA},aw σ A H->H.Th≤k+n->k≤H.Th->p%2^k=0->p+2^k≤H.np->Tv H fl pl fc (fun x=>x/2^k=p/2^k) →
  fr.defers=[]->fr.tmps.get 0=some (.acK (A .TO) 0)->fr.tmps.get 7=some (.i p)->fr.tmps.get 9=some (.i k) →
  (∀Tw s',Tw.defers=[]->aw s' A (H.iV n p k)->Tw.tmps.get 6=some (.i 0)->K .ret Tw s') →
  wp G0 [] (Vp Y9) fr σ fun ex fr σ=>match ex with
   | .goto l=>XV G0 [] Y8 n l fr σ K
   |ex=>K ex fr σ:=by
 intro n;induction n with
 |zero=>
  rintro H fl p k σ ⟨tm,ds⟩ K hR hn d al hp h o m t u C;simp only at o m t u;subst o;have ok:=h.ok;have P:=aK k;have F:k=H.Th:=Q;obtain⟨v,am,⟨D,g⟩,w⟩:=xk hR ok (p:=p) (k:=k) d Q;rw[UR F,aaw]at g;subst g;have sm:=dt H p k;obtain⟨B,X⟩:=acH Y8;rw[lE, <- X];simp only[Y9,Y8,scB,Vr,c228];simp only[go_sem,m,t,u];refine ab w ?_;simp only[go_sem,m,t,u];have f:(H.aM p k).lH k:=by
   have hf:=h.Ve k d;have E:FL (H.aM p k) k (fl k):=FL.VW (H:=H) hf sm.Tj (by rw[gx]) fun x _ i _=>by rw[fO]
   exact E.Ba fun q r=>iq (gj ok) (by rw[sm.np];exact((h.Uy k d q).1 r).1) Q
  obtain⟨v,U,⟨Y,g⟩,j⟩:=uN D (gj ok) (p:=p) (k:=k) (by rw[sm.Th];exact d) al (by rw[sm.np];exact hp) f;subst g;refine ab j ?_;simp only[go_sem];refine C _ _ rfl Y ?_;simp only[go_sem]
 |succ n ih=>
  rintro H fl p k σ ⟨tm,ds⟩ K hR hn d al hp h o m t u C;simp only at o m t u;subst o;have ok:=h.ok;have P:=aK k;have ho:=ok.VI;have av:=iM ok;obtain⟨v,am,⟨D,g⟩,w⟩:=xk hR ok (p:=p) (k:=k) d Q;have sm:=dt H p k;obtain⟨B,X⟩:=acH Y8;rw[lE, <- X];by_cases c:(decide (k=H.Th) ||(H.aM p k).Vq k (p/2^(k+1)))=true
  .rw[aa.iV,Ti c]at C;rw[c]at g;subst g;simp only[Y9,Y8,scB,Vr,c228];simp only[go_sem,m,t,u];refine ab w ?_;simp only[go_sem,m,t,u];have f:(H.aM p k).lH k:=by
    have hf:=h.Ve k d;have E:FL (H.aM p k) k (fl k):=FL.VW (H:=H) hf sm.Tj (by rw[gx]) fun x _ i _=>by rw[fO]
    exact E.Ba fun q r=>iq (gj ok) (by rw[sm.np];exact((h.Uy k d q).1 r).1) Q
   obtain⟨v,U,⟨Y,g⟩,j⟩:=uN D (gj ok) (p:=p) (k:=k) (by rw[sm.Th];exact d) al (by rw[sm.np];exact hp) f;subst g;refine ab j ?_;simp only[go_sem];refine C _ _ rfl Y ?_;simp only[go_sem]
  rw[aa.iV,Tg c]at C;have N:(decide (k=H.Th) ||(H.aM p k).Vq k (p/2^(k+1)))=false:=by simpa using c
  rw[N]at g;subst g;have F:k≠H.Th:=fun e=>by rw[UR e]at N;simp at N
  have G:k<H.Th:=Q;have O:=h.Jv G al Q rfl;rw[O,UK F,Bool.false_or]at N;have cb:VV p k∈fl k:=by simpa using N
  obtain⟨l1,l2,z⟩:=ZE cb;obtain⟨gb,ap,ax⟩:=h.Vf d cb;have hu:=h.qX d z;have ku:=h.lC d z;rw[wb H al]at hu ku;have hs:=FL.YU ok.Wc (by rw[<- z];exact h.Ve k d) (by rw[<- z];exact h.VC k d) (fun q r=>iq ok ((h.Uy k d q).1 (by rw[z];exact r)).1 Q);rw[hs.next,hs.T8]at C;have ac:FL (H.aM p k) k (l1++VV p k ::l2):=by rw[<- z];exact FL.VW (H:=H) (h.Ve k d) sm.Tj (by rw[gx]) fun x _ i _=>by rw[fO]
  have S:=FL.YU (by rw[sm.Tj];exact ok.Wc) ac (by rw[<- z];exact h.VC k d) (fun q r=>iq (gj ok) (by rw[sm.np];exact((h.Uy k d q).1 (by rw[z];exact r)).1) Q);rw[jW sm.Tj,oA sm.Tj,sm.Tk]at S;have T:(H.aM p k).OK:=gj ok;have ar:VV p k<H.np:=((h.Uy k d _).1 cb).1;obtain⟨v,U,⟨g,ag⟩,j⟩:=pw D T (p:=VV p k) (by rw[sm.np];omega);subst g ag;rw[sm.Tk]at j;obtain⟨v,ay,⟨R4,g⟩,af⟩:=xq D T (k:=k) (by rw[sm.Th];exact d) S;subst g;have V:=D.cell (s:=.TO) trivial (i:=5) (Q:5<6);rw[show(H.aM p k).cell A .TO 5=.acL (A .US) 0 ((H.aM p k).Th+1) 1 from rfl,sm.Th]at V;have W:=D.cell (s:=.US) trivial (i:=k) (show k<(H.aM p k).Th+1 by rw[sm.Th];omega);rw[show(H.aM p k).cell A .US k=.acK (A (.UZ k)) 0 from rfl]at W;have c1:(0:Int)≤(k:Int)∧(k:Int)<((H.Th+1:Nat):Int):=Q;have Z:(0:Int)≤(k:Int):=Q;have e1:=ja (n:=k) Q;have ao:2^k≤1024:=Q;have e2:Fo .i64 (p:Int) ((2^k:Nat):Int)=(VV p k:Int):=by rw[Mr Q Q,Mv al]
  have e3:=Hu al (p:=p) (k:=k) Q Q;have e4:IntKind.i64.wrap ((k:Int)+1)=((k+1:Nat):Int):=bj (a:=k) (b:=1) Q;simp only[Y9,Y8,scB,Vr,c228];simp only[go_sem,m,t,u];refine ab w ?_;simp only[go_sem,m,t,u,V,W,c1,Z,Us,TZ,Um,aT,e1,e2];refine ab j ?_;simp only[go_sem,m,t,u,V,W,c1,Z,Us,TZ,Um,aT,e1,e2];refine ab af ?_;simp only[go_sem,m,t,u,V,W,c1,Z,Us,TZ,Um,aT,e1,e2,e3,e4,TV,Uq];have L:=ku.T6;obtain⟨q,r⟩:=acH (p/2^(k+1)*2^(k+1));rw[<- r]at C⊢;have J:=aK (k+1);have M:q%2^(k+1)=0:=by rw[r];exact Xl _ _
  have R:q/2^(k+1)=p/2^(k+1):=by rw[r,WG _ J]
  have I:∀x,(x/2^k=p/2^k∨x/2^k=VV p k/2^k)↔x/2^(k+1)=q/2^(k+1):=fun x=>by rw[R,Cv al]
  have ah:=hu.fS I;have ad:q+2^(k+1)≤H.np:=by have hl:=nR (H:=H) (k:=k+1) (x:=p) (y:=q+2^(k+1)-1) G Q (by rw[<- R];exact(dB M).2 Q);omega
  rw[X,XV,Nz];refine rz (AC.seq .skip Y9) ?_;refine Dm (ih R4 (by rw[L.Th];omega) (by rw[L.Th];exact G) M (by rw[L.np];exact ad) ah ?_ ?_ ?_ ?_ C)
  .rfl
  .simp only[go_sem,m]
  .simp only[go_sem]
  simp only[go_sem]
def Jd(f:aw σ A H)(h:Tv H fl pl fc (fun _=>False)){p k:Nat}(hp:p<H.np)(d:(H.Tf p).kind=2)(z:(H.Tf p).Th=(k:Int)):
  au G0 [] 228 [.acK (A .TO) 0,.u (H.Tk p),.i k] σ fun r σ'=>aw σ' A (H.iV H.Th p k)∧r=.i 0:=by
 obtain⟨j,w,g⟩:=h.pg p hp (fun e=>e);have e:j=k:=by have:=g.Th;omega
 subst e;obtain⟨rfl,al⟩:=g.Xi d;have n:=aK j;have b:p+2^j≤H.np:=by have F:=nR (x:=p) (y:=p+2^j-1) g.le hp ((dB al).2 Q);omega
 have B:=(h.abQ g).fS (hole':=fun x=>x/2^j=p/2^j) (fun x=>by simp);have ok:=h.ok;refine ai g228 rfl ?_;refine lD 1 ?_;rw[fT,fT];simp only[go_sem];rw[lE,De];refine lD 4 ?_;rw[fT,fT,fT,fT,fT];obtain⟨v,D,⟨C,E,t⟩,c⟩:=f.dF (JC f ok (p:=p) (k:=j) Q d z);subst C;simp only[go_sem];refine ab c ?_;simp only[go_sem];refine AM.YA _ (HZ H.Th (K:=fun ex fr σ=>ZS ex (iL G0 [] fr.defers σ fun σ=>xm [.tmp 6] fr.tmps σ fun r σ'=>aw σ' A (H.iV H.Th p j)∧r=.i 0)) t Q g.le al b B ?_ ?_ ?_ ?_ ?_) ?_
 .rfl
 .simp only[go_sem]
 .simp only[go_sem]
 .simp only[go_sem]
 .rintro⟨I,ds⟩ G a q o;simp only at a o;subst a;simp only[go_sem,o];exact q
 intro ex fr s m;cases ex with
 |goto l=>exact⟨_,m⟩
 |_=>exact m
def dW.congr{A':Tu->Nat}{c:Tu->Prop}{d:Tu->Nat}{f:Tu->Nat->V}(h:dW σ has A size cell)(g:∀t,c t->has t)(j:∀t,c t->A' t=A t)(m:∀t,c t->d t≤size t)(n:∀t,c t->∀i,i<d t->cell t i=f t i):
  dW σ c A' d f:=
 ⟨h.gw,h.Ub,fun s t a b e=>h.inj s t (g s a) (g t b) (by rw[<- j s a, <- j t b];exact e),fun s a=>by rw[j s a];exact(h.row s (g s a)).congr (m s a) (n s a),fun s t o a b k l hg=>by
  rw[j s a]at l;rw[j t b];exact h.cut s t o (g s a) (g t b) k l hg⟩
def sW(H:aa)(t:Tu):Prop:=H.has t∨t=.UE H.Tl∨t=.T0
def nj(H:aa)(t:Tu):Nat:=match t with
 | .T0=>H.Tl+1
 |t=>H.size t
def cC(H:aa)(A:Tu->Nat)(t:Tu):Nat->V:=match t with
 | .T0=>fun i=>.acL (A (.UE i)) 0 H.Tp 1
 | .UE r=>if r=H.Tl then fun _=>.int .u8 0 else H.cell A (.UE r)
 | .TY=>Tn [.u H.Tj,.i H.TB,.i H.Th,.u H.Tp,.acL (A .T0) 0 (H.Tl+1) 1]
 |t=>H.cell A t
def Lp(K:aw σ A H)(ok:H.OK)(ar:H.Tl<H.TB):
  au G0 [] 249 [.acK (A .TY) 0,.bool false] σ fun r s=>(∃A',dW s (sW H) A' (nj H) (cC H A')∧∀t,t≠.UE H.Tl->t≠.T0->A' t=A t)∧r=.tuple [.u H.Ut,.i 0]:=by
 refine ai g249 rfl ?_;have L:=K.cell (s:=.TY) trivial (i:=4) (Q:4<5);have W:=K.cell (s:=.TY) trivial (i:=1) (Q:1<5);rw[show H.cell A .TY 1=.i H.TB from rfl]at W;have h3:=K.cell (s:=.TY) trivial (i:=3) (Q:3<5);rw[show H.cell A .TY 3=.u H.Tp from rfl]at h3;rw[show H.cell A .TY 4=H.eH A from rfl]at L;have ay:=ke ok;have ax:=oS H;have ap:=zj ok;obtain⟨v,m,⟨hv,hs⟩,al⟩:=tC K ok;subst hv hs;obtain⟨a,ha⟩:=acH (m.next);obtain⟨g,y⟩:∃s,s=m.new (.acM H.Tp [.int .u8 0] .nil):=⟨_,rfl⟩;have n1:g.next=a+1:=by rw[y,ha];rfl
 have R0:=Q0 K;have X:=R0.new (s0:=.UE H.Tl) (fun h=>by have h':H.Tl<H.Tl:=h;omega) (n:=H.Tp) (z:=[.int .u8 0]) (t:=.nil) (f:=fun _=>.int .u8 0) (fun i hi=>by
  unfold Vw;rw[Ti hi,T.Xm];simp[XM])
 rw[<- y, <- ha]at X;have g1:aH m g:=by rw[y];exact aH.new m _
 obtain⟨d,p⟩:∃s,s=g.ag [.acL a 0 H.Tp 1]:=⟨_,rfl⟩;have g2:aH g d:=by rw[p];exact aH.new g _
 have w2:GW d:=by rw[p];exact X.gw.new _ rfl
 have Z:=X.Ui g2 w2;have n2:d.next=a+2:=by rw[p];show g.next+1=_;omega
 have ht:d.load g.next 0 1=some [.acL a 0 H.Tp 1]:=by rw[p,(oh g _).load (off:=0) (k:=1) Y];rfl
 have e1:bZ (bL [V.acJ] 1) [(0,1,.acL a 0 H.Tp 1)]=some [.acL a 0 H.Tp 1]:=rfl;have av:∀t:Tu,H.has t->t≠.UE H.Tl:=by rintro t h rfl;have h':H.Tl<H.Tl:=h;omega
 have ao:∃o,dj d 1 24 (H.eH A) (.acL g.next 0 1 1)=some (.acL d.next 0 (H.Tl+1) 1,o)∧o.next=d.next+1∧
   dW o (sW H) (TN (TN A (.UE H.Tl) a) .T0 d.next) (nj H) (fun t=>match t with
    | .TY=>H.cell A .TY
    |t=>cC H (TN (TN A (.UE H.Tl) a) .T0 d.next) t):=by
  by_cases c:H.Yk=true
  .have hp:H.eH A=.acL (A .T0) 0 H.Tl 1:=by unfold aa.eH;rw[Ti c]
   have G:H.has .T0:=c;have w:(TN A (.UE H.Tl) a) .T0=A .T0:=ae Y;have D:=Z.row .T0 (.inl G);rw[w]at D;obtain⟨v3,o,O⟩:=lM D (esz:=1) (bytes:=24) (k:=1) (xl:=H.Tl) (vs:=[.acL a 0 H.Tp 1]) (by rw[ae Y];show H.Tl*1≤H.Tl;omega) (by unfold aq;omega) (by unfold aq;omega) rfl;have B:=O;rw[<- w]at B;obtain⟨am,af,J⟩:=Z.append (s0:=.T0) (.inl G) (by rw[ae Y];show H.Tl=H.Tl*1;omega) B;refine⟨o,?_,af,?_⟩
   .unfold dj;rw[hp];simp only[Um,ht]
    simpa [am]using O
   refine J.congr ?_ (fun t _=>rfl) ?_ ?_
   .rintro t (h|rfl|rfl)
    .exact .inl h
    .exact .inr rfl
    exact .inl G
   .intro t h;by_cases j:t=.T0
    .subst j;rw[an];show H.Tl+1≤H.Tl*1+1;omega
    rw[ae j];by_cases l:t=.UE H.Tl
    .subst l;rw[an];exact Tx _
    rw[ae l];cases t with
    |T0=>exact(j rfl).elim
    |_=>exact Tx _
   intro t h i hi;by_cases j:t=.T0
   .subst j;rw[an];have R:i<H.Tl+1:=hi;simp only[cC];by_cases ci:i<H.Tl*1
    .rw[Ti ci,ae Y];rw[ae Y,ae (by simp;omega)];rfl
    rw[Tg ci,(Q:i=H.Tl),ae Y,an,(Q:H.Tl-H.Tl*1=0)];rfl
   rw[ae j];by_cases l:t=.UE H.Tl
   .subst l;rw[an];simp[cC]
   rw[ae l];cases t with
   |T0=>exact(j rfl).elim
   |UE r=>
    have:r≠H.Tl:=fun e=>l (by rw[e])
    simp only[cC,Tg this];rfl
   |map=>
    simp only[cC,aa.cell,aa.dZ,aa.gd];rw[ae Y,ae Y,ae Y,ae Y]
   |heap=>simp only[cC,aa.cell];rw[ae Y,ae Y,ae Y,ae Y]
   |Ud=>simp only[cC,aa.cell];rw[ae Y,ae Y,ae Y,ae Y,ae Y,ae Y]
   |UJ=>simp only[cC,aa.cell];rw[ae Y,ae Y]
   |set k=>simp only[cC,aa.cell];rw[ae Y,ae Y]
   |TO=>simp only[cC,aa.cell];rw[ae Y,ae Y,ae Y,ae Y,ae Y,ae Y]
   |US=>simp only[cC,aa.cell];rw[ae Y,ae Y]
   |UZ k=>simp only[cC,aa.cell];rw[ae Y,ae Y]
   |Ua=>simp only[cC,aa.cell];rw[ae Y,ae Y]
   |_=>rfl
  have hp:H.eH A=.acJ:=by unfold aa.eH;rw[Tg c]
  have C:H.Tl=0:=by
   rcases Wi H.Tl with z|z
   .exact z
   exact absurd (ok.T0 z) c
  have ah:¬(H.has .T0∨Tu.T0=.UE H.Tl):=by
   rintro(h|h)
   .exact c h
   cases h
  have J:=Z.new (s0:=.T0) ah (n:=1) (z:=[]) (t:=ofList [.acL a 0 H.Tp 1]) (f:=Tn [.acL a 0 H.Tp 1]) (fun i hi=>by
   have:=cT [V.acL a 0 H.Tp 1] i;rw[show [V.acL a 0 H.Tp 1].length=1 from rfl]at this;rw[this,(Q:i=0)];rfl)
  refine⟨_,?_,rfl,J.congr ?_ (fun t _=>rfl) ?_ ?_⟩
  .unfold dj;rw[hp];simp only[Um,ht];unfold dc;rw[Tg Y,Tg Q,Ti ⟨by unfold aq;omega,by unfold aq;omega,rfl⟩];simp only[TT,C];rfl
  .rintro t (h|rfl|rfl)
   .exact .inl (.inl h)
   .exact .inl (.inr rfl)
   exact .inr rfl
  .intro t h;by_cases j:t=.T0
   .subst j;rw[an];show H.Tl+1≤1;omega
   rw[ae j];by_cases l:t=.UE H.Tl
   .subst l;rw[an];exact Tx _
   rw[ae l];cases t with
   |T0=>exact(j rfl).elim
   |_=>exact Tx _
  intro t h i hi;by_cases j:t=.T0
  .subst j;rw[an];have R:i<H.Tl+1:=hi;simp only[cC];rw[(Q:i=H.Tl),ae Y,an,C];rfl
  rw[ae j];by_cases l:t=.UE H.Tl
  .subst l;rw[an];simp[cC]
  rw[ae l];cases t with
  |T0=>exact(j rfl).elim
  |UE r=>
   have:r≠H.Tl:=fun e=>l (by rw[e])
   simp only[cC,Tg this];rfl
  |map=>
   simp only[cC,aa.cell,aa.dZ,aa.gd];rw[ae Y,ae Y,ae Y,ae Y]
  |heap=>simp only[cC,aa.cell];rw[ae Y,ae Y,ae Y,ae Y]
  |Ud=>simp only[cC,aa.cell];rw[ae Y,ae Y,ae Y,ae Y,ae Y,ae Y]
  |UJ=>simp only[cC,aa.cell];rw[ae Y,ae Y]
  |set k=>simp only[cC,aa.cell];rw[ae Y,ae Y]
  |TO=>simp only[cC,aa.cell];rw[ae Y,ae Y,ae Y,ae Y,ae Y,ae Y]
  |US=>simp only[cC,aa.cell];rw[ae Y,ae Y]
  |UZ k=>simp only[cC,aa.cell];rw[ae Y,ae Y]
  |Ua=>simp only[cC,aa.cell];rw[ae Y,ae Y]
  |_=>rfl
 obtain⟨o,P,n3,J⟩:=ao;obtain⟨A',E⟩:=acH (TN (TN A (.UE H.Tl) a) .T0 d.next);rw[<- E]at J;have N:∀t,t≠.UE H.Tl->t≠.T0->A' t=A t:=fun t W h2=>by rw[E,ae h2,ae W]
 have w:A' .T0=d.next:=by rw[E,an]
 obtain⟨aB,U,R4,n4⟩:=J.store (s:=.TY) (.inl trivial) (off:=4) (vs:=[.acL d.next 0 (H.Tl+1) 1]) (Q:4+1≤5) rfl;rw[N .TY Y Y]at U;have F:∃b e,H.eH A=.slice b H.Tl e:=by
  unfold aa.eH;by_cases c:H.Yk=true
  .rw[Ti c];exact⟨_,_,rfl⟩
  rw[Tg c];have:H.Tl=0:=by
   rcases Wi H.Tl with z|z
   .exact z
   exact absurd (ok.T0 z) c
  rw[this];exact⟨_,_,rfl⟩
 obtain⟨pb,pe,F⟩:=F;rw[F]at L P;have S:A .TY<m.next:=K.lt (s:=.TY) trivial;have q:∀i x,m.cell (A .TY) i=some x->g.cell (A .TY) i=some x:=fun i x h=>by unfold St.cell at h⊢;rw[g1.TE _ S];exact h
 have I:∀i x,g.cell (A .TY) i=some x->d.cell (A .TY) i=some x:=fun i x h=>by unfold St.cell at h⊢;rw[g2.TE _ Q];exact h
 have M:=q _ _ L;have ad:=I _ _ M;have ac:=q _ _ h3;have c1:¬(H.Tl:Int)=(H.TB:Int):=Q;have c2:(0:Int)≤(H.Tp:Int)∧(H.Tp:Int)<9223372036854775808:=Q;have c3:(H.Tp:Int)≤(H.Tp:Int):=Q;have c4:H.Tp≤aq:=by unfold aq;omega
 simp only[go_sem,L,W,c1,TT,Ul,U5];refine ab al ?_;simp only[go_sem,L,M,ad,h3,ac,c2,c3,c4,Us,TZ,Um,<- y,<- ha,aG,e1,<- p,P,aD,TH,TK,U];refine⟨A',R4.congr (fun t h=>h) (fun _ _=>rfl) (fun t h=>Tx _) ?_,N⟩;intro t h i hi;by_cases j:t=.TY
 .subst j;rw[an];have R:i<5:=hi;simp only[cC,w];rcases(by omega:i=0∨i=1∨i=2∨i=3∨i=4)with rfl|rfl|rfl|rfl|rfl <;> rfl
 rw[ae j];cases t with
 |TY=>exact(j rfl).elim
 |_=>rfl
def yc(N k nwo:Nat)(w:Nat->Nat)(i:Nat):Nat:=xi (N/2^(k+1)) ((N/2^(k+1)+63)/64) (fun i=>if i<nwo then w i else 0) i
structure KP (has:Tu -> Prop) (A:Tu -> Nat) (size:Tu -> Nat) (cell:Tu -> Nat -> V) (k nwo:Nat) (w:Nat -> Nat):Prop where
 hs:has (.set k)
 hw:has (.Uf k)
 s2:size (.set k)=2
 c1:cell (.set k) 1=.slice (some (A (.Uf k),0)) nwo 1
 sw:size (.Uf k)=nwo
 cw:cell (.Uf k)=fun i=>.int .u64 (w i)
def BW{Th N:Nat}{b:Option (Nat×Nat)}{e:Nat}{nwo:Nat->Nat}{w:Nat->Nat->Nat}{pv:V}(h:dW σ has A size cell)(hm:has .map)(X:size .map=3)(U:cell .map 1=.slice b N e)(W:cell .map 2=pv)(z:(Th=0∧pv=.acJ)∨pv=.acL (A .UJ) 0 Th 1)(ho:Th≤8)(hN:N≤1024)(hp:0<Th->has .UJ∧size .UJ=Th∧∀k,k<Th->cell .UJ k=.acK (A (.set k)) 0)(C:∀k,k<Th->KP has A size cell k (nwo k) (w k))(ac:∀k i,w k i<18446744073709551616):
  au G0 [] 233 [.acK (A .map) 0] σ fun r s=>(∃A' f d,dW s has A' f d∧(∀t,(∀k,t≠.Uf k)->A' t=A t)∧(∀t,(∀k,k<Th->t≠.Uf k)->(∀k,k<Th->t≠.set k)->f t=size t∧d t=cell t)∧
   ∀k,k<Th->KP has A' f d k ((N/2^(k+1)+63)/64) (yc N k (nwo k) (w k))∧d (.set k) 0=.i ((N/2^(k+1):Nat):Int))∧r=.tuple []:=by
 refine ai g233 rfl ?_;have m2:=h.gE hm (i:=2) Q;rw[W]at m2;have j:∃b e,pv=.slice b Th e:=by
  rcases z with⟨a,c⟩|c
  .rw[c,a];exact⟨_,_,rfl⟩
  exact⟨_,_,c⟩
 obtain⟨b',e',j⟩:=j;rw[j]at m2;simp only[go_sem,m2];refine bW (fun(n:Nat) (fr:AM.Fr) (s:St)=>fr.defers=[]∧fr.tmps.get 0=some (.acK (A .map) 0)∧fr.tmps.get 7=some (.slice b' Th e')∧fr.tmps.get 8=some (.i Th)∧∃i,i≤Th∧n=Th-i∧fr.tmps.get 9=some (.i (i:Nat))∧
  ∃A' f d,dW s has A' f d∧(∀t,(∀k,t≠.Uf k)->A' t=A t)∧(∀t,(∀k,k<Th->t≠.Uf k)->(∀k,k<Th->t≠.set k)->f t=size t∧d t=cell t)∧
   (∀k,k<Th->i≤k->KP has A' f d k (nwo k) (w k))∧
   ∀k,k<i->KP has A' f d k ((N/2^(k+1)+63)/64) (yc N k (nwo k) (w k))∧d (.set k) 0=.i ((N/2^(k+1):Nat):Int)) ?_ Th ?_
 .rintro n ⟨tm,ds⟩ s ⟨y,F,G,H,i,hi,hn,I,A',f,d,R,x,g,Ur,o⟩;simp only at y F G H I;subst y;rcases Vm i Th with c|c
  .obtain⟨p1,p2,p3⟩:=hp Q;have Z:pv=.acL (A .UJ) 0 Th 1:=by
    rcases z with⟨a,c'⟩|c'
    .omega
    exact c'
   rw[Z]at j;simp only[V.slice.injEq,WK]at j;obtain⟨P,S⟩:=j;subst P S;have M:=x .UJ Y;have L:=x .map Y;have O:=x (.set i) Y;have q1:=R.gE p1 (i:=i) (by rw[(g .UJ Y Y).1,p2];exact c);rw[(g .UJ Y Y).2,p3 i c,M]at q1;have q2:=R.gE hm (i:=1) (by rw[(g .map Y Y).1,X];omega);rw[(g .map Y Y).2,U,L]at q2;have m:=Ur i c (Tx _);have J:(i:Int)<(Th:Int):=Q;have d2:(0:Int)≤(i:Int):=Q;have e1:IntKind.i64.wrap ((i:Int)+1)=((i+1:Nat):Int):=bj (a:=i) (b:=1) Q;have d3:(0:Int)≤((i+1:Nat):Int):=Q;have e2:nE .i64 (N:Int) ((i+1:Nat):Int)=((N/2^(i+1):Nat):Int):=gM rfl Q;have hq:N/2^(i+1)≤N:=aaK _ _;obtain⟨v,ag,⟨hv,af,R1⟩,B⟩:=K5 (n0:=0) (n:=N/2^(i+1)) R m.hs m.hw m.s2 Q m.c1 m.sw m.cw (ac i);subst hv;rw[O]at B;simp only[go_sem,F,G,H,I,J,d2,Us,TZ,Um,q1,q2,e1,bA,d3,e2];refine ab B ?_;simp only[go_sem,F,G,H,I,e1];refine⟨Th-(i+1),Q,i+1,Q,rfl,rfl,_,_,_,R1,?_,?_,?_,?_⟩
   .intro t ht;rw[ae (ht i)];exact x t ht
   .intro t K h2;rw[ae (K i c),ae (h2 i c),ae (K i c)];exact g t K h2
   .intro k p ad;have l:=Ur k p Q;have q:Tu.Uf k≠Tu.Uf i:=by simp;omega
    have D:Tu.set k≠Tu.set i:=by simp;omega
    have u:Tu.set k≠Tu.Uf i:=by simp
    have E:Tu.Uf k≠Tu.set i:=by simp
    exact⟨l.hs,l.hw,by rw[ae u];exact l.s2,by rw[ae D,ae u,ae q];exact l.c1,by rw[ae q];exact l.sw,by rw[ae E,ae q];exact l.cw⟩
   intro k p;have u:Tu.set k≠Tu.Uf i:=by simp
   have E:Tu.Uf k≠Tu.set i:=by simp
   by_cases ck:k=i
   .subst ck;refine⟨⟨m.hs,m.hw,by rw[ae u];exact m.s2,?_,by rw[an],?_⟩,?_⟩
    .rw[an,an];rfl
    .rw[ae E,an];rfl
    rw[an];rfl
   have q:Tu.Uf k≠Tu.Uf i:=by simp;omega
   have D:Tu.set k≠Tu.set i:=by simp;omega
   obtain⟨l,s0⟩:=o k Q;exact⟨⟨l.hs,l.hw,by rw[ae u];exact l.s2,by rw[ae D,ae u,ae q];exact l.c1,by rw[ae q];exact l.sw,by rw[ae E,ae q];exact l.cw⟩,by rw[ae D,ae u];exact s0⟩
  have J:¬((i:Int)<(Th:Int)):=Q;have T:i=Th:=Q;subst T;simp only[go_sem,F,G,H,I,J];exact⟨A',f,d,R,x,g,fun k p=>o k p⟩
 refine⟨rfl,?_,?_,?_,0,Q,Q,?_,A,size,cell,h,fun _ _=>rfl,fun _ _ _=>⟨rfl,rfl⟩,fun k p _=>C k p,fun k p=>Q⟩ <;> simp only[go_sem,VN]
def _root_.AM.aa.Vi(H:aa):aa:= { H with
  Tl:=H.Tl+1
  mem:=fun i=>if i<H.Tp*H.Tl then H.mem i else 0
  Tf:=fun x=>if x<H.np then H.Tf x else bX
  U1:=fun k j=>yc ((H.Tl+1)*2^H.Th) k (H.nw k) (H.U1 k) j
  Yk:=true
  YO:=true }
def Gw{n nw:Nat}{w:Nat->Nat}(h:∀i,w i<18446744073709551616)(i:Nat):xi n nw w i<18446744073709551616:=by
 unfold xi;split
 .exact aaa (Nat.mod_le _ _) (h i)
 exact h i
def ry(H:aa):H.Vi.np=H.np+2^H.Th:=by show(H.Tl+1)*2^H.Th=H.Tl*2^H.Th+_;rw[UW,WH]
def AO(ok:H.OK)(h:H.Tl<H.TB):H.Vi.OK:=
 ⟨ok.Wc,ok.VI,ok.Yw,ok.Xo,ok.X7,ok.XT,ok.fU,h,fun i=>by
  show(if i<H.Tp*H.Tl then H.mem i else 0)<256;split
  .exact ok.XB i
  .omega,ok.Yv,fun k j=>by
  show yc _ k (H.nw k) (H.U1 k) j<_;unfold yc;exact Gw (fun i=>by split;exact ok.XG k i;omega) j,fun _=>rfl,fun _=>rfl⟩
def FM{m o:Nat}(c:o≤8)(h:σ.cell m 0=some (.i o)):au G0 [] 232 [.acK m 0] σ fun r σ'=>r=.i ((2^o:Nat):Int)∧σ'=σ:=by refine ai g232 rfl ?_;have b:=ja (n:=o) Q;have a:(0:Int)≤(o:Int):=Q;simp only[go_sem,h,aT,a,b]
def tE(z:List V):∀n,(bL z n).length=n*z.length
 | 0=>by simp[bL]
 |n+1=>by simp[bL,tE z n,UW];omega
def jT{z:List V}(a:0<z.length):∀(n i:Nat),i<n*z.length->(bL z n).getD i .undef=z.getD (i%z.length) .undef
 | 0,i,h=>Q
 |n+1,i,h=>by
  rw[bL,U7,U7];by_cases c:i<z.length
  .rw[Wh c,WR c]
  rw[WM Q, <- U7,jT a n (i-z.length) (by rw[UW]at h;omega),U7, <- Nat.mod_eq_sub_mod (Q:i ≥ z.length)]
def nu{z:List V}(a:z.all V.Tr=true):∀n,(bL z n).all V.Tr=true
 | 0=>rfl
 |n+1=>by rw[bL,List.all_append,a,nu a n];rfl
def Qc(ok:H.OK)(ao:H.Tl<H.TB)(h:dW σ (sW H) A (nj H) (cC H A)):
  au G0 [] 250 [.acK (A .map) 0] σ fun r s=>(∃A',aw s A' (H.Vi.run H.np H.Th 2)∧∀t,(∀k,t≠.Uf k)->t≠.aU->A' t=A t)∧r=.tuple []:=by
 refine ai g250 rfl ?_;have ho:=ok.VI;have ax:=aK H.Th;have I:=ry H;have ar:=iM (AO ok ao);rw[I]at ar;have bs:=AO ok ao;have h0:=h.gE (s:=.map) (.inl trivial) (i:=0) (Q:0<3);rw[show cC H A .map 0=.i H.Th from rfl]at h0;have q:=h.gE (s:=.map) (.inl trivial) (i:=1) (Q:1<3);rw[show cC H A .map 1=H.dZ A from rfl]at q;obtain⟨z,hz⟩:=acH ([V.i 0,.i 0,.i 0,.i 0,.i 0,.i 0,.i 0,.u 0,.u 0,.u 0,.u 0]);have D:z.length=11:=by rw[hz];rfl
 have aL:z.all V.Tr=true:=by rw[hz];rfl
 have bk:z=bX.cells:=hz;obtain⟨g,J⟩:∃n,n=2^H.Th:=⟨_,rfl⟩;rw[<- J]at ax I ar;have av:∃b e,H.dZ A=.slice b H.np e:=by
  unfold aa.dZ;by_cases c:H.YO=true
  .rw[Ti c];exact⟨_,_,rfl⟩
  rw[Tg c];have:H.Tl=0:=by
   rcases Wi H.Tl with z|z
   .exact z
   exact absurd (ok.aU z) c
  have X:H.np=0:=by unfold aa.np;rw[this];omega
  rw[X];exact⟨_,_,rfl⟩
 obtain⟨pb,pe,be⟩:=av;have bl:∃K,gH σ 11 88 z (H.dZ A) (.i (g:Int))=some (.acL σ.next 0 (H.np+g) 11,K)∧K.next=σ.next+1∧
   dW K (fun t=>sW H t∨t=.aU) (TN A .aU σ.next) (TN (nj H) .aU ((H.np+g)*11)) (TN (cC H A) .aU fun i=>(if i<H.np*11 then H.Tf (i/11)else bX).cell (i%11)):=by
  have aC:(bL z g).length=g*11:=by rw[tE,D]
  have al:∀i,H.np*11≤i->i<(H.np+g)*11->Tn (bL z g) (i-H.np*11)=bX.cell (i%11):=by intro i q T;have e:=jT (z:=z) Q g (i-H.np*11) (by rw[D];omega);unfold Tn;rw[e,D,bk,(Q:(i-H.np*11)%11=i%11)];rfl
  have Z:∀(a:Option (Nat×Nat)) (e:Nat),(e=11∨a=none)->gH σ 11 88 z (.slice a H.np e) (.i (g:Int))=dc σ 11 88 g (bL z g) a H.np:=by intro a e aM;unfold gH;simp only;rw[Tg (by rcases aM with rfl|rfl <;> simp),Ti Q,TZ]
  by_cases c:H.YO=true
  .have hp:H.dZ A=.acL (A .aU) 0 H.np 11:=by unfold aa.dZ;rw[Ti c]
   have R:sW H .aU:=.inl c;obtain⟨v3,S,ag⟩:=lM (h.row .aU R) (esz:=11) (bytes:=88) (k:=g) (xl:=H.np) (vs:=bL z g) (Q:H.np*11≤H.np*11) (by unfold aq;omega) (by unfold aq;omega) (nu aL g);obtain⟨bi,aP,U⟩:=h.append (s0:=.aU) R (show H.np*11=H.np*11 from rfl) ag;refine⟨S,by rw[hp,Z _ _ (.inl rfl),ag,bi],aP,U.congr ?_ (fun t _=>rfl) ?_ ?_⟩
   .rintro t (h|rfl)
    .exact h
    exact R
   .intro t ht;by_cases l:t=.aU
    .subst l;rw[an,an,aC];omega
    rw[ae l,ae l];exact Tx _
   intro t ht i hi;by_cases l:t=.aU
   .subst l;rw[an]at hi;rw[an,an];by_cases ci:i<H.np*11
    .rw[Ti ci,Ti ci];rfl
    rw[Tg ci,Tg ci];exact al i Q hi
   rw[ae l,ae l]
  have hp:H.dZ A=.acJ:=by unfold aa.dZ;rw[Tg c]
  have X:H.np=0:=by
   have:H.Tl=0:=by
    rcases Wi H.Tl with z|z
    .exact z
    exact absurd (ok.aU z) c
   unfold aa.np;rw[this];omega
  have aS:¬sW H .aU:=by
   rintro(h|h|h)
   .exact c h
   .cases h
   cases h
  have U:=h.new (s0:=.aU) aS (n:=(bL z g).length) (z:=[]) (t:=ofList (bL z g)) (f:=Tn (bL z g)) (fun i hi=>by
   rw[cT];simp[Tn,hi])
  refine⟨_,?_,rfl,U.congr (fun t h=>h) (fun t _=>rfl) ?_ ?_⟩
  .rw[hp,show V.acJ=V.slice none H.np 0 by rw[X],Z _ _ (.inr rfl)];unfold dc;rw[Ti ⟨by unfold aq;omega,by unfold aq;omega,nu aL g⟩];simp only[X,TT,Vk];rfl
  .intro t ht;by_cases l:t=.aU
   .subst l;rw[an,an,aC];omega
   rw[ae l,ae l];exact Tx _
  intro t ht i hi;by_cases l:t=.aU
  .subst l;rw[an]at hi;rw[an,an,Tg Q, <- al i Q hi,X];rfl
  rw[ae l,ae l]
 obtain⟨K,ah,n1,R1⟩:=bl;have o:∀t,t≠.aU->TN A .aU σ.next t=A t:=fun t ht=>ae ht
 obtain⟨bw,aJ,R2,bv⟩:=R1.store (s:=.map) (.inl (.inl trivial)) (off:=1) (vs:=[.acL σ.next 0 (H.np+g) 11]) (by rw[ae Y];show 1+1≤3;omega) rfl;rw[o .map Y]at aJ;obtain⟨v,F,⟨hv,hs⟩,O⟩:=FM (m:=A .map) ho h0;subst hv hs;rw[<- J]at O;have e1:IntKind.i64.wrap ((H.np:Int)+(g:Int))=((H.np+g:Nat):Int):=bj Q;have c1:¬((1024:Int)<((H.np+g:Nat):Int)):=Q;rw[be]at q ah;obtain⟨A1,M⟩:=acH (TN A .aU F.next);rw[<- M]at R2 o;obtain⟨c2,y⟩:=acH (TN (TN (cC H A) Tu.aU fun i=>(if i<H.np*11 then H.Tf (i/11)else bX).cell (i%11)) .map (UO ((TN (cC H A) Tu.aU fun i=>(if i<H.np*11 then H.Tf (i/11)else bX).cell (i%11)) .map) 1 [.acL F.next 0 (H.np+g) 11]));rw[<- y]at R2;obtain⟨s2,P⟩:=acH (TN (nj H) Tu.aU ((H.np+g)*11));rw[<- P]at R2;have G:∀t,t≠.aU->t≠.map->c2 t=cC H A t:=fun t q T=>by rw[y,ae T,ae q]
 have B:∀t,t≠.aU->s2 t=nj H t:=fun t q=>by rw[P,ae q]
 have C:(H.Tl+1)*2^H.Th=H.np+g:=by rw[J];exact ry H
 have ba:∀k,H.nw k≤((H.np+g)/2^(k+1)+63)/64:=by intro k;unfold aa.nw aa.gm;have:H.np/2^(k+1)≤(H.np+g)/2^(k+1):=Nat.div_le_div_right Q;omega
 have bd:=BW (Th:=H.Th) (N:=H.np+g) (b:=some (F.next,0)) (e:=11) (nwo:=H.nw) (w:=H.U1) (pv:=H.gd A) R2 (.inl (.inl trivial)) (by rw[B _ Y];rfl)
  (by rw[y,an];rfl) (by rw[y,an,ae Y];rfl)
  (by
   unfold aa.gd;rw[o .UJ Y];by_cases c:0<H.Th
   .rw[Ti c];exact .inr rfl
   rw[Tg c];exact .inl ⟨Q,rfl⟩) ho Q
  (fun bb=>⟨.inl (.inl bb),by rw[B _ Y];rfl,fun k hk=>by rw[G _ Y Y,o _ Y];rfl⟩)
  (fun k hk=>⟨.inl (.inl hk),.inl (.inl hk),by rw[B _ Y];rfl,by rw[G _ Y Y,o _ Y];rfl,by rw[B _ Y];rfl,by rw[G _ Y Y];rfl⟩)
  ok.XG
 obtain⟨v,S,⟨⟨L,s3,c3,U,ad,j,x⟩,hv⟩,ay⟩:=bd;subst hv;rw[o .map Y]at ay;have d:∀t,(∀k,t≠.Uf k)->t≠.aU->L t=A t:=fun t q T=>by rw[ad t q,o t T]
 have af:L .aU=F.next:=by rw[ad _ Y,M,an]
 have W:aw S L H.Vi:=by
  have E:∀t,(∀k,t≠.Uf k)->(∀k,t≠.set k)->t≠.aU->t≠.map->s3 t=nj H t∧c3 t=cC H A t:=by intro t q T h3 h4;obtain⟨a,b⟩:=j t (fun k _=>q k) (fun k _=>T k);exact⟨a.trans (B t h3),b.trans (G t h3 h4)⟩
  refine U.abN (fun t ht=>?_) (fun t ht=>?_) (fun t ht i hi=>?_)
  .cases t with
   |UE i=>
    have hi:i<H.Tl+1:=ht;rcases Vm i H.Tl with c|c
    .exact .inl (.inl c)
    exact .inl (.inr (.inl (by rw[(Q:i=H.Tl)])))
   |T0=>exact .inl (.inr (.inr rfl))
   |aU=>exact .inr rfl
   |_=>exact .inl (.inl ht)
  .cases t with
   |set k=>rw[(x k ht).1.s2];exact Tx _
   |Uf k=>rw[(x k ht).1.sw, <- C];exact Tx _
   |aU=>
    rw[(j .aU Y Y).1,P,an, <- C];exact Tx _
   |map=>rw[(j .map Y Y).1,B _ Y];exact Tx _
   |_=>rw[(E _ Y Y Y Y).1];exact Tx _
  cases t with
  |heap=>
   rw[(E .heap Y Y Y Y).2];simp only[cC,aa.cell,aa.Vi,d .Ud Y Y,d .Ua Y Y]
  |Ud=>
   rw[(E .Ud Y Y Y Y).2];simp only[cC,aa.cell,d .TY Y Y,d .map Y Y,d .TO Y Y]
  |TY=>
   rw[(E .TY Y Y Y Y).2];simp only[cC,aa.cell,aa.Vi,aa.eH,TT,d .T0 Y Y,aa.Tp]
  |T0=>
   rw[(E .T0 Y Y Y Y).2];simp only[cC,aa.cell,aa.Tp,aa.Vi,d (.UE i) Y Y]
  |UE r=>
   rw[(E (.UE r) Y Y Y Y).2];have am:i<H.Tp:=hi;have bu:r<H.Tl+1:=ht;simp only[cC,aa.cell];show _=V.int .u8 ((if r*H.Tp+i<H.Tp*H.Tl then H.mem (r*H.Tp+i)else 0:Nat):Int);by_cases c:r=H.Tl
   .rw[Ti c,Tg (by rw[c,UF];omega)];rfl
   rw[Tg c];have hm:(r+1)*H.Tp≤H.Tl*H.Tp:=UG _ Q;rw[UW,UF H.Tl]at hm;rw[Ti Q]
  |map=>
   rw[(j .map Y Y).2,y,an,ae Y];have am:i<3:=hi;rcases(by omega:i=0∨i=1∨i=2)with rfl|rfl|rfl
   .rfl
   .show V.acL F.next 0 (H.np+g) 11=H.Vi.dZ L;unfold aa.dZ;rw[Ti (show H.Vi.YO=true from rfl),af,I]
   show H.gd A=H.Vi.gd L;unfold aa.gd;show _=if 0<H.Th then V.acL (L .UJ) 0 H.Th 1 else .acJ
   rw[d .UJ Y Y]
  |aU=>
   rw[(j .aU Y Y).2,y,ae Y,an];show _=(if i/11<H.np then H.Tf (i/11)else bX).cell (i%11);by_cases c:i<H.np*11
   .rw[Ti c,Ti Q]
   rw[Tg c,Tg Q]
  |UJ=>
   rw[(E .UJ Y Y Y Y).2];simp only[cC,aa.cell,d (.set i) Y Y]
  |set k=>
   obtain⟨sk,s0⟩:=x k ht;have am:i<2:=hi;rcases(by omega:i=0∨i=1)with rfl|rfl
   .rw[s0, <- C];rfl
   rw[sk.c1, <- C];rfl
  |Uf k=>
   rw[(x k ht).1.cw, <- C];rfl
  |TO=>
   rw[(E .TO Y Y Y Y).2];simp only[cC,aa.cell,aa.Vi,d .TY Y Y,d .map Y Y,d .US Y Y]
  |US=>
   rw[(E .US Y Y Y Y).2];simp only[cC,aa.cell,d (.UZ i) Y Y]
  |UZ k=>
   rw[(E (.UZ k) Y Y Y Y).2];simp only[cC,aa.cell,aa.Vi,d .TY Y Y]
  |Ua=>
   rw[(E .Ua Y Y Y Y).2];simp only[cC,aa.cell,aa.Vi,d .Ud Y Y]
 have ac:=W.cell (s:=.map) trivial (i:=0) (Q:0<3);rw[show H.Vi.cell L .map 0=.i H.Th from rfl,d .map Y Y]at ac;have ap:H.np%2^H.Th=0:=by unfold aa.np;exact Xl _ _
 obtain⟨v,bx,⟨R4,hv⟩,aB⟩:=Dy W bs (p:=H.np) (k:=H.Th) (kind:=2) (Tx _) (.inr rfl) ap (by rw[I,J];exact Tx _);subst hv;rw[d .map Y Y]at aB;simp only[go_sem,q];refine ab O ?_;simp only[go_sem,q,e1,c1];refine ab O ?_;simp only[go_sem,q,<- hz,ah,aD,TH,TK,aJ];refine ab ay ?_;simp only[go_sem,ac];refine ab aB ?_;simp only[go_sem];exact⟨L,R4,d⟩
def Tv.Qq{p c:Nat}{l g:Nat->List Nat}(h:Tv H fl pl fc (fun x=>hole x∨x=p))(hp:p<H.np)(K:¬hole p)(sm:H'.cJ H)(J:H'.OK)(r:H'.head=H.head)(u:H'.U1=H.U1)(m:∀x,x≠p->UI (H.Tf x) (H'.Tf x))(w:(H'.Tf p).kind=4)(G:(H'.Tf p).Th=0)(o:∀x,x≠p->∀i,i<4096->H'.mem (4096*x+i)=H.mem (4096*x+i))(v:∀x,x≠p->l x=fc x)(B:uD H' p c (l p))(t:∀j,j≠c->g j=pl j)(A:∀x,x∈g c↔x∈pl c∨(x=p∧l p≠[]))(F:(g c).Nodup)(E:∀j,j<8->PL H' j (g j)):
  Tv H' fl g l hole where
 ok:=J
 pg x hx hn:=by
  rw[sm.np]at hx;by_cases e:x=p
  .subst e;refine⟨0,4,VK _,.inr (.inr ⟨rfl,rfl⟩),fun y hy=>?_⟩;have I:y=x:=by simpa using hy
   subst I;exact⟨K,G,by rw[w];simp[XM]⟩
  obtain⟨k,D,q⟩:=h.pg x hx (fun f=>f.elim hn e);refine⟨k,D,q.eC sm.Th fun y hy=>?_⟩;have C:y≠p:=fun f=>(q.all y hy).1 (.inr f)
  exact⟨(m y C).Th,(m y C).kind,fun f=>(q.all y hy).1 (.inl f)⟩
 Uy k hk x:=by
  rw[sm.Th]at hk;rw[h.Uy k hk x,sm.np];by_cases e:x=p
  .subst e;constructor
   .rintro⟨_,f,_⟩;exact(f (.inr rfl)).elim
   rintro⟨_,_,f,_⟩;omega
  rw[(m x e).kind,(m x e).Th];constructor
  .rintro⟨a,b,d⟩;exact⟨a,fun f=>b (.inl f),d⟩
  rintro⟨a,b,d⟩;exact⟨a,fun f=>f.elim b e,d⟩
 VC k hk:=h.VC k (by rw[sm.Th]at hk;exact hk)
 Ve k hk:=by
  rw[sm.Th]at hk;refine FL.VW (h.Ve k hk) sm.Tj (by rw[r]) fun x hx=>o x fun e=>?_
  exact((h.Uy k hk x).1 hx).2.1 (.inr e)
 bits k hk i hi:=by rw[sm.Th]at hk;rw[lS u];exact h.bits k hk i (by unfold aa.nw aa.gm at hi⊢;rw[sm.np]at hi;exact hi)
 sl x hx hn hk4:=by
  rw[sm.np]at hx;by_cases e:x=p
  .subst e;exact⟨c,B⟩
  rw[(m x e).kind]at hk4;obtain⟨L,s⟩:=h.sl x hx (fun f=>f.elim hn e) hk4;rw[v x e];exact⟨L,s.eC sm.Tj (m x e) (o x e)⟩
 U0 j hj x:=by
  rw[sm.np];have TE:=h.U0 j hj x;by_cases ex:x=p
  .subst ex;have z:x∉pl j:=fun f=>(TE.1 f).2.1 (.inr rfl)
   rw[w,B.TQ];by_cases n:j=c
   .subst n;rw[A];constructor
    .rintro(f|⟨_,f⟩)
     .exact(z f).elim
     exact⟨hp,K,rfl,rfl,f⟩
    rintro⟨_,_,_,_,f⟩;exact .inr ⟨rfl,f⟩
   rw[t j n];constructor
   .intro f;exact(z f).elim
   rintro⟨_,_,_,f,_⟩;omega
  rw[(m x ex).kind,(m x ex).TQ,v x ex];have M:x∈g j↔x∈pl j:=by
   by_cases n:j=c
   .subst n;rw[A];constructor
    .rintro(f|f)
     .exact f
     exact(ex f.1).elim
    intro f;exact .inl f
   rw[t j n]
  rw[M,TE];constructor
  .rintro⟨a,b,d⟩;exact⟨a,fun f=>b (.inl f),d⟩
  rintro⟨a,b,d⟩;exact⟨a,fun f=>f.elim b ex,d⟩
 VE j hj:=by
  by_cases n:j=c
  .subst n;exact F
  rw[t j n];exact h.VE j hj
 Vy:=E
def zh(H:aa){p w n:Nat}:∀(i:Nat),(∀j,j<i->j*w+8≤4096)->∀x,(x<4096*p∨4096*p+4096≤x)->(H.ib (H.Tk p) w n i).mem x=H.mem x
 | 0,_,x,_=>rfl
 |i+1,h,x,hx=>by have hi:=h i Q;rw[aa.ib,nJ _ _ _ _ (by rw[(iR H (H.Tk p) w n i).Tj];unfold aa.Tk;omega)];exact zh H i (fun j a=>h j Q) x hx
def zp(H:aa){p w n:Nat}(hw:16≤w)(a:H.Tk p+n*w<18446744073709551616):∀(i:Nat),i≤n->∀j,j<i->(H.ib (H.Tk p) w n i).UD (H.Tk p+j*w)=if j+1=n then 0 else H.Tk p+(j+1)*w
 | 0,_,j,hj=>Q
 |i+1,hi,j,hj=>by
  have b:=(iR H (H.Tk p) w n i).Tj;have d:(if i+1=n then 0 else H.Tk p+(i+1)*w)<18446744073709551616:=by have:(i+1)*w≤n*w:=UG _ hi;split <;> omega
  rw[aa.ib];rcases Vm j i with c|c
  .rw[nM _ ?_ (by rw[b];have:=qV H p;omega) (by rw[b];have:=qV H p;omega)]
   .exact zp H hw a i Q j c
   left;have:=UG w (Q:j+1≤i);rw[UW]at this;omega
  have e:j=i:=Q;subst e;exact j5 _ d
def Tv.born(h:Tv H fl pl fc hole){p c:Nat}(hp:p<H.np)(P:c<8)(g:kc H hole p 0 2)(K:pl c=[]):
  Tv (H.born p c) fl (fun j=>if j=c then [p]else pl j) (fun x=>if x=p then List.range' 0 (256/2^c)else fc x) hole∧(∀x,x≠p->UI (H.Tf x) ((H.born p c).Tf x))∧(H.born p c).cJ H∧(∀x,x≠p->∀i,i<4096->(H.born p c).mem (4096*x+i)=H.mem (4096*x+i)):=by
 obtain⟨w1,w2,w3,w4,w5⟩:=w8 P;have hh:=g.I8;have ho:=(h.abQ g).fS (hole':=fun x=>hole x∨x=p) (fun x=>by simp);obtain⟨n,hn⟩:=acH (256/2^c);obtain⟨w,hw⟩:=acH (16*2^c);rw[<- hn]at w1 w4 w5;rw[<- hw]at w1 w2 w3;obtain⟨a,d⟩:∃a,a=H.aB p { cI 4 0 with TQ:=(c:Int) }:=⟨_,rfl⟩;have D:a.cJ H:=by rw[d];exact dG _ _ _
 have u:a.Tk p=H.Tk p:=D.Tk p;have l:H.fD p c=a.ib (a.Tk p) w n n:=by unfold aa.fD;rw[<- d, <- hw, <- hn,u]
 have X:(H.fD p c).cJ H:=by rw[l];exact aa.cJ.trans (iR _ _ _ _ _) D
 have C:(H.fD p c).Tf=a.Tf∧(H.fD p c).part=a.part:=by rw[l];exact pR _ _ _ _ _
 have I:(H.fD p c).head=H.head∧(H.fD p c).U1=H.U1:=by
  rw[l];have:∀i,(a.ib (a.Tk p) w n i).head=a.head∧(a.ib (a.Tk p) w n i).U1=a.U1:=by
   intro i;induction i with
   |zero=>exact⟨rfl,rfl⟩
   |succ i W=>exact W
  rw[(this n).1,(this n).2,d];exact⟨rfl,rfl⟩
 obtain⟨r,b⟩:∃r,r=(H.fD p c).aB p { (H.fD p c).Tf p with first:=0 }:=⟨_,rfl⟩;have e:H.born p c=r.Vh p c:=by rw[b];rfl
 have Z:r.cJ H:=by rw[b];exact aa.cJ.trans (dG _ _ _) X
 have o:r.Tf p={ ({ cI 4 0 with TQ:=(c:Int) }:bB)with first:=0 }:=by rw[b];simp only[aa.aB,TT];rw[C.1,d];simp only[aa.aB,TT]
 have L:∀x,x≠p->r.Tf x=H.Tf x:=by intro x hx;rw[b];simp only[aa.aB,Tg hx];rw[C.1,d];simp only[aa.aB,Tg hx]
 have B:r.part=H.part:=by rw[b];show(H.fD p c).part=_;rw[C.2,d];rfl
 have ad:n*w≤4096:=by rw[UF,w1];exact Tx _
 have J:∀j,j<n->j*w+8≤4096:=by intro j t;have:=UG w (Q:j+1≤n);rw[UW]at this;omega
 have z:∀x,(x<4096*p∨4096*p+4096≤x)->(H.born p c).mem x=H.mem x:=by
  intro x hx;have N:(H.born p c).mem=(H.fD p c).mem:=by rw[e,b];simp only[aa.Vh,aa.dQ];split <;> rfl
  rw[N,l,zh a n J x hx,d];rfl
 have ac:H.Tk p+4096<18446744073709551616:=by have:=Go.Proofs.YtlgmpheammbacaaGreatDoor.eU h.ok (p:=p+1) hp;unfold aa.Tk at *;omega
 have v:(H.born p c).cJ H:=by rw[e];exact aa.cJ.trans (yT _ _ _) Z
 have M:∀j,j<n->(H.born p c).UD (H.Tk p+j*w)=if j+1=n then 0 else H.Tk p+(j+1)*w:=by
  intro j t;have N:(H.born p c).mem=(a.ib (a.Tk p) w n n).mem:=by rw[<- l,e,b];simp only[aa.Vh,aa.dQ];split <;> rfl
  have e2:(H.born p c).UD (H.Tk p+j*w)=(a.ib (a.Tk p) w n n).UD (H.Tk p+j*w):=by
   refine lh ?_ fun i hi=>by rw[N]
   rw[v.Tj,(iR a (a.Tk p) w n n).Tj,D.Tj]
  rw[e2];have:=zp a (p:=p) (w:=w) (n:=n) w2 (by rw[u];omega) n (Tx _) j t;rw[u]at this;rw[u];exact this
 have k:=o4 r p c p;have R:((H.born p c).Tf p).kind=4:=by rw[e];exact k.kind.trans (by rw[o];rfl)
 have S:((H.born p c).Tf p).Th=0:=by rw[e];exact k.Th.trans (by rw[o];rfl)
 have F:∀j,((H.born p c).Tf p).bw j=0:=by
  intro j;rw[e,k.bw,o];unfold bB.bw;split
  .rfl
  split
  .rfl
  split <;> rfl
 have T:uD (H.born p c) p c (List.range' 0 n):=by
  refine⟨P,by rw[e];exact k.TQ.trans (by rw[o]),fun j=>by rw[F];omega,fun q hq=>?_,List.nodup_range',fun q hq=>?_,?_,?_,?_⟩
  .rw[List.mem_range'_1]at hq;rw[<- hn];omega
  .unfold bB.Uc;rw[F,Ti (by rw[List.mem_range'_1];omega)];simp
  .rw[List.length_range', <- hn,e];have:((r.Vh p c).Tf p).Ty=0:=k.Ty.trans (by rw[o];rfl);rw[this];omega
  .rw[e];have:((r.Vh p c).Tf p).first=0:=k.first.trans (by rw[o]);rw[this];obtain⟨m,rfl⟩:∃m,n=m+1:=⟨n-1,Q⟩
   rw[Ya];rfl
  rw[<- hw];have:∀m s,s+m=n->pz (H.born p c) p w (List.range' s m):=by
   intro m;induction m with
   |zero=>intro s _;trivial
   |succ m W=>
    intro s hs;rw[Ya];refine⟨?_,W (s+1) Q⟩;rw[v.Tk,M s Q];cases m with
    |zero=>rw[Ti Q];rfl
    |succ m=>rw[Tg Q,Ya]
  exact this n 0 Q
 have E:∀x,x≠p->UI (H.Tf x) ((H.born p c).Tf x):=by intro x hx;have:=o4 r p c x;rw[L x hx]at this;rw[e];exact this
 have y:∀j,j<8->PL r j (pl j):=fun j t=>(h.Vy j t).congr (by rw[B]) fun x hx=>by
  have V:x≠p:=by rintro rfl;have h4:=((h.U0 j t x).1 hx).2.2.1;have:=(g.all x rfl).2.2;rw[Ti (by simp[XM])]at this;omega
  rw[L x V];exact⟨rfl,rfl⟩
 refine⟨?_,E,v,fun x hx i hi=>z _ Q⟩;rw[<- hn];refine Tv.Qq (p:=p) (c:=c) ho hp hh v ?_ ?_ ?_ E R S (fun x hx i hi=>z _ Q) (fun x hx=>Tg hx) (by rw[Ti rfl];exact T) (fun j t=>Tg t) ?_ (by rw[Ti rfl];simp) ?_
 .rw[e,b,l];exact Gf (dr (nZ (by rw[d];exact dr h.ok) _))
 .rw[e,b];have:∀(G:aa),(G.Vh p c).head=G.head:=fun G=>by simp only[aa.Vh,aa.dQ];split <;> rfl
  rw[this];exact I.1
 .rw[e,b];have:∀(G:aa),(G.Vh p c).U1=G.U1:=fun G=>by simp only[aa.Vh,aa.dQ];split <;> rfl
  rw[this];exact I.2
 .intro x;rw[Ti rfl,Ti rfl,K];constructor
  .intro hx;have U:x=p:=by simpa using hx
   refine .inr ⟨U,?_⟩;obtain⟨m,rfl⟩:∃m,n=m+1:=⟨n-1,Q⟩
   rw[Ya];simp
  rintro(f|f)
  .cases f
  rw[f.1];simp
 intro j t;rw[e];have A:=y c P;rw[K]at A;by_cases O:j=c
 .subst O;rw[Ti rfl];exact A.ach Y Y
 rw[Tg O];refine A.we (y j t) O (fun hm=>?_) (fun x _=>by simp);have h4:=((h.U0 j t p).1 hm).2.2.1;have:=(g.all p rfl).2.2;rw[Ti (by simp[XM])]at this;omega
end
end Go.Proofs.YtlgmpheammbacaaGreatDoor
