import Derived.Test.YtlgmpheammbacaaGreatDoorPys
import Derived.Carry
set_option linter.all false
set_option maxRecDepth 1000000
set_option maxHeartbeats 8000000
attribute [local irreducible] AM.T.get AM.T.set
namespace AM
open Go
noncomputable section
variable {Γ:T AF} {M:List fK}
theorem Mx{a:Bool}{b:Nat}{c:Nat}{d:Tt}:bh (TL.part a b c d)=false:=(rfl)
theorem MK{a:Bool}{b:Nat}{c:Nat}{d:Tt}:bQ (TL.part a b c d)=false:=(rfl)
theorem NK{a:Bool}{b:Nat}{c:Nat}{d:Tt}:cM (TL.part a b c d)=false:=(rfl)
attribute [go_sem] Mx MK NK
end
end AM
namespace Go.Proofs.YtlgmpheammbacaaGreatDoor
open AM Go
noncomputable section
section
variable {σ σ':St} {A:Tu -> Nat} {H H':aa} {fl pl fc:Nat -> List Nat} {S:AS}
def BC(h:aw σ A H)(hg:T3 H):
  au G0 [] 41 [.acK (A .heap) 0] σ fun r s=>∃b,r=eO (bf H) b∧LH s A H (bf H) b:=by
 refine ai g41 rfl ?_;obtain⟨fl,pl,fc,n⟩:=hg.UB;obtain⟨v,q,⟨j,hv⟩,c⟩:=kL h hg.lock;subst hv;obtain⟨v,s2,⟨b,hv,f⟩,d⟩:=Af j (n.aC 1);have l:bf (H.aC 1)=bf H:=rfl;rw[l]at hv f;subst hv;obtain⟨v,t,⟨o,k,a,hv⟩,e⟩:=HC.call (Γ:=G0) (Γ':=G0) (M:=[]) (H':=H) (P:=fun v i=>A=i∧v=.tuple []) (fun _ _ h=>h) (fun _ h=>nomatch h) f fun s hs=>(fg hs rfl).mono fun v p ⟨g,m⟩=>⟨A,by rw[ff hg.lock]at g;exact g,rfl,m⟩
 subst a hv;simp only[go_sem];refine ab c ?_;simp only[go_sem];refine ab d ?_;simp only[go_sem,b7];refine⟨.inr fi,ab e ?_⟩;simp only[go_sem];exact⟨b,rfl,k⟩
def ga(b:Tv H fl pl fc (fun _=>False)){a s:Nat}:(a,s)∈bf H↔aV H a s:=by
 unfold bf gi aV;rw[abo];constructor
 .rintro⟨x,hx,h⟩;rw[Ws]at hx;exact⟨x,hx,(gJ b hx).1 h⟩
 rintro⟨x,hx,h⟩;exact⟨x,Ws.2 hx,(gJ b hx).2 h⟩
def rF:∀{l m:List (Nat×Nat)},l.Pairwise (fun a b=>a.1<b.1)->m.Pairwise (fun a b=>a.1<b.1)->(∀x,x∈l↔x∈m)->l=m
 | [],[],_,_,_=>rfl
 | [],y ::m,_,_,h=>absurd ((h y).2 (VY ..)) Y
 |x ::l,[],_,_,h=>absurd ((h x).1 (VY ..)) Y
 |x ::l,y ::m,hl,hm,h=>by
  rw[aaD]at hl hm;have e:x=y:=by
   rcases U8.1 ((h x).1 (VY ..))with e|hx
   .exact e
   rcases U8.1 ((h y).2 (VY ..))with e|hy
   .exact e.symm
   have:=hm.1 x hx;have:=hl.1 y hy;omega
  subst e;congr 1;refine rF hl.2 hm.2 fun z=>?_
  constructor
  .intro d;rcases U8.1 ((h z).1 (VO _ d))with e|c
   .have:=hl.1 z d;rw[e]at this;omega
   exact c
  intro d;rcases U8.1 ((h z).2 (VO _ d))with e|c
  .have:=hm.1 z d;rw[e]at this;omega
  exact c
def OH(h:aw σ A H)(hg:T3 H)(a n:Nat)(j:n=0∨H.eZ a n=false):
  au G0 [] 33 [.acK (A .heap) 0,.u a,.u n] σ fun r s=>aw s A H∧r=.tuple [.acJ,.i (if n=0 then 0 else 4)]:=by
 refine ai g33 rfl ?_;obtain⟨fl,pl,fc,o⟩:=hg.UB;obtain⟨v,q,⟨g,hv⟩,k⟩:=kL h hg.lock;subst hv;simp only[go_sem];refine ab k ?_;by_cases c:n=0
 .have d:(n:Int)=0:=Q;obtain⟨v,p,⟨f,hv⟩,b⟩:=fg g rfl;subst hv;simp only[go_sem,d,b7];refine⟨.inr fi,ab b ?_⟩;rw[Ti c];simp only[go_sem];rw[ff hg.lock]at f;exact f
 have d:¬(n:Int)=0:=Q;have hw:H.eZ a n=false:=by rcases j with e|e;exact(c e).elim;exact e
 obtain⟨v,s2,⟨hv,g2,m⟩,l⟩:=g.dF (px g (o.aC 1) a n);rw[ky,hw]at hv;subst hv;obtain⟨v,p,⟨f,hv⟩,b⟩:=fg m rfl;subst hv;simp only[go_sem,d];refine ab l ?_;simp only[go_sem,d,b7];refine⟨.inr fi,ab b ?_⟩;rw[Tg c];simp only[go_sem];rw[ff hg.lock]at f;exact f
def jv.cut(g:T3 H)(h:jv H S)(n:Nat):T3 (cz H (eV S n))∧(∀b s,aV (cz H (eV S n)) b s↔aV H b s∧b∉(S.Tm.drop n).map (·.1))∧∀b,b∈S.Tm.take n->aV (cz H (eV S n)) b.1 b.2:=by
 obtain⟨f,i,c,j⟩:=fh (eV S n) g;have e:∀b,b∈eV S n↔b∈(S.Tm.drop n).map (·.1):=fun b=>by unfold eV;rw[List.mem_reverse]
 refine⟨f,fun b s=>by rw[c,e],fun b d=>?_⟩;rw[c,e];refine⟨h.Ty b (X9 d),fun hd=>?_⟩;have a:=h.Zz;rw[<- YI n S.Tm,WA,WN]at a;exact a.2.2 b.1 (Xs d) b.1 hd rfl
def cJ.Tp(h:H'.cJ H):H'.Tp=H.Tp:=by unfold aa.Tp;rw[h.Th]
def jv.aan(g:T3 H)(h:jv H S):jv (cz H (eV S 0)) (gL S):=by have sm:=(fh (eV S 0) g).2.1;exact⟨(fun b a=>nomatch (show b∈[]from a)),List.nodup_nil,VK _,abF _,(by rw[cJ.Tp sm];exact h.TD),(fun _=>rfl),(fun _=>rfl)⟩
end
section
attribute [local go_sem] bJ bO bM bP bI bo bj bV bD bK VG Wa VU WZ dx dv cH bg cU bq bG cX cZ br bH cY cB UR UK aj az aD TH TK TZ bm bF aW aO aI bz aX bt aY dM aR bU dN aZ bc aT bA
section
variable {σ σ' s:St}
def MH{L:List (Nat×Nat)}{v:V}(h:U6 σ L v)(Ue:L.length<9000000000000000000):au G0 [] 147 [v] σ fun y s=>y=.u (dC L%18446744073709551616:Nat)∧s=σ:=by
 refine ai g147 rfl ?_;obtain⟨q,e,hv⟩:=h.is;simp (disch:=omega) only[go_sem];refine bW (fun n fr t=>fr.defers=[]∧t=σ∧fr.tmps.get 0=some v∧∃i,i+n=L.length∧fr.tmps.get 4=some (.i (i:Nat))∧fr.tmps.get 3=some (.u (dC (L.take i)%18446744073709551616:Nat))) ?_ L.length ?_
 .rintro n ⟨tm,ds⟩ t ⟨hd,rfl,d,i,hi,g,f⟩;simp only at hd d f g;subst hd;by_cases c:i<L.length
  .obtain⟨b,o,a,m,c1,j,l⟩:=h.at c;rw[a]at d;have hs:dC (L.take (i+1))=dC (L.take i)+L[i].2:=by rw[X1 c];unfold dC;rw[WA,List.sum_append];simp
   have k:IntKind.u64.wrap (((dC (L.take i)%18446744073709551616:Nat):Int)+(L[i].2:Int))=((dC (L.take (i+1))%18446744073709551616:Nat):Int):=by rw[NB,hs];omega
   simp (disch:=omega) only[go_sem,d,f,g,j,k];exact⟨n-1,Q,Uj some a.symm,i+1,Q,rfl,rfl⟩
  rw[hv]at d;rw[VZ Q]at f;simp (disch:=omega) only[go_sem,d,f,g]
 simp (disch:=omega) only[go_sem];exact⟨0,Q,rfl,rfl⟩
def Nl.store{z n off:Nat}{vs xs:List V}{b:Nat}(h:Nl σ s z n vs (.acL b 0 n z))(e:TP σ s)(w0:GW σ)(w:GW s)(x:off+xs.length≤n*z)(M:xs.all V.Tr=true):
  ∃s',s.store b off xs=some s'∧Nl σ s' z n (vs.take off++xs++vs.drop (off+xs.length)) (.acL b 0 n z)∧TP σ s'∧GW s'∧s'.next=s.next∧∀id n' f,To s id n' f->id≠b->To s' id n' f:=by
 obtain⟨r,R⟩:σ.next≤b∧Row s b (n*z) (Tn vs):=by
  rcases h.UH with⟨_,hv⟩|⟨b',hv,r,R⟩
  .cases hv
  cases hv;exact⟨r,R⟩
 obtain⟨s',hs,I,hn,v,_,_⟩:=R.store x M;obtain⟨g,m,zz,t,hg,O,N,S,F,l⟩:=qK hs;have Y:=w.store hs;have j:=h.len;have q:∀k,s'.row k=s.row k:=fun k=>by unfold St.row;rw[v]
 have C:g≠0->∀a,a<σ.next->a∈s.row g->∀o,s.Tq.get a=some o->o.Ty=false:=by
  intro c a ha P o d;cases y:o.Ty with
  |false=>rfl
  |true=>
   have E:=w.TG _ _ _ P d y;rw[e.TE a ha]at d;have G:=(w0.mem a o d (by rw[E];exact c)).2;obtain⟨D,_⟩:=w.mem b _ hg c;rw[E]at G;have U:s.row g=σ.row g:=e.row g G;have H:b∈s.row g:=D;rw[U]at H;have:=w0.lt _ _ H;omega
 refine⟨s',hs,⟨?_,.inr ⟨b,rfl,r,I.congr (Tx _) fun i hi=>?_⟩⟩,⟨by rw[hn];exact e.next,fun a ha=>?_,fun k x=>(q k).trans (e.row k x)⟩,Y,hn,?_⟩
 .rw[UN,UN,Va,Z5,j];omega
 .unfold UO Tn;simp only[U7];by_cases c:off≤i∧i<off+xs.length
  .rw[Ti c,Wh (by rw[UN,Va,j];omega),WM (by rw[Va];omega),Va,j,Xb Q]
  rw[Tg c];by_cases J:i<off
  .rw[Xj,Wh (by rw[Va,j];omega),YD,Ti J]
  rw[WM (by rw[UN,Va,j];omega),UN,Va,j,Xb Q,Z4];congr 2;omega
 .rw[l,Tg Q];by_cases c:g≠0∧a∈s.row g
  .rw[Ti c];have:=e.TE a ha;cases d:s.Tq.get a with
   |none=>rw[d]at this;rw[<- this];rfl
   |some o=>
    have hd:=C c.1 a ha c.2 o d;rw[d]at this;rw[<- this];cases o <;> first|rfl|cases hd
  rw[Tg c];exact e.TE a ha
 intro id n' f L B;obtain⟨W,Z,X,A,p,u⟩:=L;have K:¬(g≠0∧id∈s.row g):=fun⟨D,T⟩=>D (w.TG _ _ _ T p rfl).symm
 exact⟨W,Z,X,A,by rw[l,Tg B,Tg K];exact p,u⟩
def KD(M:List (Nat×Nat))(k:Nat)(x:Nat×Nat)(e:k<M.length):(fl gK M).take (k*2)++[.u x.1,.u x.2]++(fl gK M).drop (k*2+2)=fl gK (M.set k x):=by
 have b:=zW ik M k;have c:(fl gK M).drop (k*2+2)=fl gK (M.drop (k+1)):=by
  have f:=zW ik M (k+1);have d:fl gK M=fl gK (M.take (k+1))++fl gK (M.drop (k+1)):=by unfold fl;rw[<- Yo,YI]
  have a:=tv ik (M.take (k+1));rw[Va,Xb Q]at a;rw[(Q:k*2+2=(k+1)*2)]
  conv=>lhs;rw[d]
  rw[List.drop_append,YW Q,a,Yf];rfl
 rw[b,c,List.set_eq_take_append_cons_drop,Ti e];show _=List.flatMap gK _;rw[Yo,List.flatMap_cons,Xj];rfl
def U6.mid{l:List (Nat×Nat)}{b n:Nat}(h:U6 σ l (.acL b 0 n 2))(A B:List (Nat×Nat))(x:Nat×Nat)(e:l=A++x ::B):
  b<σ.next∧σ.cell b (A.length*2)=some (.u x.1)∧σ.cell b (A.length*2+1)=some (.u x.2)∧σ.load b (A.length*2) 2=some [.u x.1,.u x.2]:=by
 have hi:A.length<l.length:=by rw[e];simp
 obtain⟨j,o,hv,i,c1,a,c⟩:=h.at hi;have hx:l[A.length]=x:=by subst e;simp
 have d:=XP (V.slice.inj hv).1;obtain⟨f,g⟩:=Prod.mk.inj d;subst f g;rw[hx]at c1 a c;rw[Vk]at c1 a c;exact⟨i,c1,a,c⟩
abbrev GY(l:List (Nat×Nat)):Prop:=l.Pairwise fun a b=>a.1<b.1
theorem IS{L:List (Nat×Nat)}{v:V}(w:GW σ)(hL:U6 σ L v)(Ue:L.length≤1000001)(nd:(L.map (·.1)).Nodup):
  au G0 [] 97 [v] σ fun y s=>(∃M,M.Perm L∧GY M∧Nl σ s 2 M.length (fl gK M) y)∧TP σ s:=by
 refine ai g97 rfl ?_;obtain⟨q,e,hv⟩:=hL.is;simp (maxSteps:=9^9) (disch:=omega) only[go_sem];refine bW (fun n fr t=>fr.defers=[]∧fr.tmps.get 0=some v∧GW t∧TP σ t∧∃i M x,i+n=L.length∧fr.tmps.get 4=some (.i (i:Nat))∧fr.tmps.get 3=some x∧M.Perm (L.take i)∧GY M∧Nl σ t 2 i (fl gK M) x) ?_ L.length ?_
 .rintro n ⟨tm,ds⟩ t ⟨hd,C,wt,g,i,M,x,hi,E,D,O,hR,N⟩;simp only at hd C D E;subst hd;by_cases c:i<L.length
  .obtain⟨bb,o,ao,av,d1,d2,T⟩:=hL.at c;have ad:M.length=i:=by rw[O.length_eq,Va];omega
   obtain⟨y,hy⟩:=acH (L[i]);have ah:∀z∈M,z.1≠y.1:=by intro z p e;have ap:=O.mem_iff.1 p;obtain⟨j,hj,ac⟩:=Zn ap;rw[Va]at hj;rw[List.getElem_take]at ac;have W:=aaE.1 nd j i (by simp;omega) (by simp;omega) Q;simp only[YX]at W;exact W (by rw[ac,e,hy])
   have hP:(M++[y]).Perm (L.take (i+1)):=by rw[X1 c,hy];exact O.append_right _
   rw[<- hy]at T;obtain⟨v',s',ha,N',g',w'⟩:=N.push (y:=16) (x:=[.u y.1,.u y.2]) g w wt Q rfl rfl (by unfold aq;omega) (by unfold aq;omega);rw[om]at N';obtain⟨b,rfl⟩:∃b,v'=.acL b 0 (i+1) 2:=by
    rcases N'.UH with⟨h,_⟩|⟨b,h,_⟩
    .omega
    exact⟨b,h⟩
   have f2:bZ (bL VA 1) [(0,2,V.agg [.u y.1,.u y.2])]=some [.u y.1,.u y.2]:=rfl;have f:=C;rw[ao]at f;simp (maxSteps:=9^9) (disch:=omega) only[go_sem,f,D,E,g.load,T,aG,f2,ha];clear f D ha N;refine bW (fun k fr t=>fr.defers=[]∧fr.tmps.get 0=some v∧fr.tmps.get 4=some (.i (i:Nat))∧fr.tmps.get 3=some (.acL b 0 (i+1) 2)∧GW t∧TP σ t∧∃A B,A++B=M∧A.length=k∧fr.tmps.get 5=some (.i (k:Nat))∧(∀z∈B,y.1<z.1)∧Nl σ t 2 (i+1) (fl gK (A++y ::B)) (.acL b 0 (i+1) 2)) ?_ i ?_
   .rintro k ⟨tm,ds⟩ J ⟨hd,C,E,D,r,I,A,B,l,hk,t5,hB,Nt⟩;simp only at hd C D E t5;subst hd;have d:(A++y ::B).length=i+1:=by have:=Uj List.length l;simp at this⊢;omega
    have R:U6 J (A++y ::B) (.acL b 0 (i+1) 2):=by have:=Nt.ls r;unfold U6;rw[d];exact this
    have done:GY (A++y ::B)->∃P H x',P+(n-1)=L.length∧i+1=P∧(.acL b 0 (i+1) 2)=x'∧H.Perm (L.take P)∧GY H∧Nl σ J 2 P (fl gK H) x':=fun hr=>by refine⟨i+1,_,_,Q,rfl,rfl,?_,hr,Nt⟩;refine List.Perm.trans ?_ hP;rw[<- l];exact aaF.trans (List.perm_append_singleton y (A++B)).symm
    have G:GY (A++B):=by rw[l];exact hR
    rcases List.eq_nil_or_concat A with rfl|⟨F,u,rfl⟩
    .have ag:k=0:=hk.symm;subst ag;obtain⟨P,H,x',K,rfl,rfl,h4,h5,h6⟩:=done (aaD.2 ⟨hB,G⟩);simp (maxSteps:=9^9) (disch:=omega) only[go_sem,C,D,E,t5];exact⟨n-1,Q,r,I,i+1,H,_,Q,rfl,rfl,h4,h5,h6⟩
    rw[List.concat_eq_append]at *;have S:k=F.length+1:=by rw[<- hk];simp
    have ar:=ah u (by rw[<- l];simp);obtain⟨af,m1,m2,m3⟩:=R.mid F (y ::B) u Y;obtain⟨_,p1,p2,p3⟩:=R.mid (F++[u]) B y rfl;rw[UN,YF, <- S]at p1 p2 p3;rw[(Q:F.length=k-1)]at m1 m2 m3;have ax:k≤i:=by have:=d;simp at this;omega
    by_cases cy:y.1<u.1
    .have Z:=aQ (σ:=J) (z:=VA) (n:=2) (vs:=[V.u y.1,.u y.2]) Y rfl;have w4:=r.Ts (n:=2) (z:=VA) (vs:=[V.u y.1,.u y.2]) Y rfl;have g4:=(aH.Ts J 2 VA [V.u y.1,.u y.2]).ext;have L4:=To.Ts J 2 VA [V.u y.1,.u y.2] rfl;have N4:=Nt.Ui r g4;have e4:=I.trans g4;generalize J.Ts 2 VA [V.u y.1,.u y.2]=s4 at Z w4 g4 L4 N4 e4;obtain⟨s5,al,N5,e5,w5,n5,C5⟩:=N4.store (off:=k*2) (xs:=[.u u.1,.u u.2]) e4 w w4 (by simp;omega) rfl;rw[show k*2+[V.u u.1,.u u.2].length=k*2+2 from rfl,KD _ k u (by rw[d];omega)]at N5;have L5:=C5 _ _ _ L4 Q;obtain⟨s6,am,N6,e6,w6,n6,C6⟩:=N5.store (off:=(k-1)*2) (xs:=[.u y.1,.u y.2]) e5 w w5 (by simp;omega) rfl;rw[show(k-1)*2+[V.u y.1,.u y.2].length=(k-1)*2+2 from rfl,KD _ (k-1) y (by rw[ZG,d];omega)]at N6;have X:((F++[u]++y ::B).set k u).set (k-1) y=F++y ::(u ::B):=by rw[S,Zq];simp[List.set_append]
     rw[X]at N6;have U:s4.load b ((k-1)*2) 2=some [.u u.1,.u u.2]:=by rw[g4.load (m:=J.next) af];exact m3
     simp (maxSteps:=9^9) (disch:=omega) only[go_sem,C,D,E,t5,m1,m2,p1,p2,p3,Z,U,al,L5.bN rfl,am];refine⟨k-1,Q,w6,e6,F,u ::B,by rw[<- l];simp,Q,rfl,?_,N6⟩;intro z p;rcases U8.1 p with rfl|p
     .exact cy
     exact hB z p
    have hr:GY (F++[u]++y ::B):=by
     have K:=Xt.1 G;refine Xt.2 ⟨K.1,aaD.2 ⟨hB,K.2.1⟩,fun a ha z p=>?_⟩;rcases U8.1 p with rfl|p
     .have h2:=Xt.1 K.1;rcases VJ.1 ha with ha|ha
      .have:=h2.2.2 a ha u Y;omega
      rw[VP.1 ha];omega
     exact K.2.2 a ha z p
    obtain⟨P,H,x',K,rfl,rfl,h4,h5,h6⟩:=done hr;simp (maxSteps:=9^9) (disch:=omega) only[go_sem,C,D,E,t5,m1,m2,p1,p2];exact⟨n-1,Q,r,I,i+1,H,_,Q,rfl,rfl,h4,h5,h6⟩
   simp (maxSteps:=9^9) (disch:=omega) only[go_sem,C,E];exact⟨w',g',M,[],Y,ad,(fun z p=>nomatch p),N'⟩
  have f:=C;rw[hv]at f;obtain rfl:i=L.length:=Q;rw[VZ Q]at O;simp (maxSteps:=9^9) (disch:=omega) only[go_sem,f,D,E];exact⟨⟨M,O,hR,by rw[O.length_eq];exact N⟩,g⟩
 simp (maxSteps:=9^9) (disch:=omega) only[go_sem];exact⟨w,TP.refl _,0,[],_,Q,rfl,rfl,Y,List.Pairwise.nil,Nl.nil⟩
section
variable {κ:Type} {kI:κ -> Prop} {AK:κ -> Nat} {cK:κ -> cA} {A:Tu -> Nat} {H:aa}
def HC.JY{g:FuncId}{xs:List V}{P:V->Nat->Prop}{x:cA}{hx:Prop}(h:HC σ A H kI AK cK)(i:∀σ,aw σ A H->au G0 [] g xs σ fun v s=>∃b,P v b∧HC s A H (fun _:Unit=>hx) (fun _=>b) (fun _=>x)):
  au G0 [] g xs σ fun v s=>∃b,P v b∧HC s A H (Sum.elim kI fun _:Unit=>hx) (Sum.elim AK fun _=>b) (Sum.elim cK fun _=>x)∧T5 σ s (Vu H A kI AK) (Vu H A (Sum.elim kI fun _:Unit=>hx) (Sum.elim AK fun _=>b)):=by
 have n:Wd σ (Sum.elim (Sum.elim H.has fun _:Unit=>False) kI) (Sum.elim (Sum.elim A fun _=>0) AK) (Sum.elim (Sum.elim (fW H A) fun _=>.map []) cK):=by
  refine Wd.sub h (fun k=>match k with| .inl (.inl s)=>.inl s| .inl (.inr u)=>.inl .heap| .inr k=>.inr k) ?_ ?_ ?_ ?_
  .rintro((k|k)|k) d
   .exact d
   .exact d.elim
   exact d
  .rintro((k|k)|k) ((j|j)|j) d hj e <;> simp_all
  .rintro((k|k)|k) d
   .rfl
   .exact d.elim
   rfl
  rintro((k|k)|k) d
  .exact .inl rfl
  .exact d.elim
  exact .inl rfl
 refine(Wd.gQ (P:=fun v f l m=>∃b,P v b∧f=(Sum.elim H.has fun _:Unit=>hx)∧l=(Sum.elim A fun _=>b)∧m=(Sum.elim (fW H A) fun _=>x)) n fun s w=>(i s (jl (Wd.sub w Sum.inl (fun _ h=>h) (fun _ _ _ _ e=>ZQ e) (fun _ _=>rfl) fun _ _=>.inl rfl))).mono ?_).mono ?_
 .rintro v o ⟨b,hv,W⟩;exact⟨_,_,_,W,b,hv,rfl,rfl,rfl⟩
 rintro v o ⟨f,l,m,w,⟨b,hv,rfl,rfl,rfl⟩,k⟩;refine⟨b,hv,?_,k.next,fun a b c hn=>k.Wo a b c ?_,fun a b c hn=>?_⟩
 .refine Wd.sub w (fun k=>match k with| .inl x=>.inl (.inl x)| .inr (.inl k)=>.inr k| .inr (.inr u)=>.inl (.inr u)) ?_ ?_ ?_ ?_
  .rintro(x|x|x) d <;> exact d
  .rintro(x|x|x) (y|y|y) _ _ e <;> simp_all
  .rintro(x|x|x) d <;> rfl
  rintro(x|x|x) d <;> exact .inl rfl
 .exact Nm.map (by rintro((x|x)|x) d;exact⟨.inl x,d,rfl⟩;exact d.elim;exact⟨.inr x,d,rfl⟩) hn
 refine Nm.map ?_ (k.Xp a b c (Nm.map ?_ hn))
 .rintro(x|x|x) d
  .exact⟨.inl (.inl x),d,rfl⟩
  .exact⟨.inr x,d,rfl⟩
  exact⟨.inl (.inr x),d,rfl⟩
 rintro((x|x)|x) d
 .exact⟨.inl x,d,rfl⟩
 .exact d.elim
 exact⟨.inr x,d,rfl⟩
def HC.FV{hx:Prop}{b:Nat}{x:cA}(h:HC σ A H kI AK cK)(e:TP σ s)(w:GW s)(c:hx->σ.next≤b)(L:hx->jS s b x):HC s A H (Sum.elim kI fun _:Unit=>hx) (Sum.elim AK fun _=>b) (Sum.elim cK fun _=>x):=by
 refine Wd.sub (Wd.FV h e w c L) (fun k=>match k with| .inl x=>.inl (.inl x)| .inr (.inl k)=>.inl (.inr k)| .inr (.inr u)=>.inr u) ?_ ?_ ?_ ?_
 .rintro(x|x|x) a <;> exact a
 .rintro(x|x|x) (y|y|y) _ _ e <;> simp_all
 .rintro(x|x|x) a <;> rfl
 rintro(x|x|x) a <;> exact .inl rfl
def HC.Fc{hx:Prop}{b:Nat}{x:cA}(h:HC σ A H (Sum.elim kI fun _:Unit=>hx) (Sum.elim AK fun _=>b) (Sum.elim cK fun _=>x)):HC σ A H kI AK cK:=by
 refine Wd.sub h (fun k=>match k with| .inl x=>.inl x| .inr k=>.inr (.inl k)) ?_ ?_ ?_ ?_
 .rintro(x|x) a <;> exact a
 .rintro(x|x) (y|y) _ _ e <;> simp_all
 .rintro(x|x) a <;> rfl
 rintro(x|x) a <;> exact .inl rfl
def O8{hx:Prop}{b id:Nat}(h:¬Vu H A (Sum.elim kI fun _:Unit=>hx) (Sum.elim AK fun _=>b) id):¬Vu H A kI AK id:=
 Nm.map (by rintro(x|x) a;exact⟨.inl x,a,rfl⟩;exact⟨.inr (.inl x),a,rfl⟩) h
def LK{hx:Prop}{b id:Nat}(h:¬Vu H A kI AK id)(c:hx->b≠id):¬Vu H A (Sum.elim kI fun _:Unit=>hx) (Sum.elim AK fun _=>b) id:=by
 rintro(rfl|⟨x|x|x,a,rfl⟩)
 .exact h (.inl rfl)
 .exact h (.inr ⟨.inl x,a,rfl⟩)
 .exact h (.inr ⟨.inr x,a,rfl⟩)
 exact c a rfl
def oR{l:List (Nat×Nat)}{b:Nat}(w:GW σ)(h:l≠[]->jS σ b (.row (l.length*2) (fy l))):U6 σ l (eO l b):=by
 unfold eO;by_cases c:l=[]
 .subst c;exact⟨⟨_,_,rfl⟩,rfl,fun h=>absurd h (XK _)⟩
 rw[Tg c];have R:Row σ b (l.length*2) (fy l):=h c;refine⟨⟨_,_,rfl⟩,tv ik l,fun _=>⟨b,0,rfl,?_,fun i hi=>?_⟩⟩
 .obtain⟨g,m,y,t,_,a,_⟩:=R;exact w.UL a
 rw[Vk,R.cell hi,By hi]
def Nl.named{z n:Nat}{vs:List V}{v:V}(h:Nl σ s z n vs v):∃b, ∃hx:Prop,(hx->σ.next≤b∧jS s b (.row (n*z) (Tn vs)))∧∀s',GW s'->(hx->jS s' b (.row (n*z) (Tn vs)))->Ls s' z n vs v:=by
 rcases h.UH with⟨rfl,rfl⟩|⟨b,rfl,d,R⟩
 .exact⟨0,False,fun h=>h.elim,fun s' _ _=>⟨⟨_,_,rfl⟩,h.len,fun h=>absurd h (XK _)⟩⟩
 refine⟨b,True,fun _=>⟨d,R⟩,fun s' f a=>⟨⟨_,_,rfl⟩,h.len,fun hn=>⟨b,0,rfl,?_,fun i hi=>?_⟩⟩⟩
 .obtain⟨g,m,y,t,_,e,_⟩:=(show Row s' b (n*z) (Tn vs)from a trivial);exact f.UL e
 have c:Row s' b (n*z) (Tn vs):=a trivial;rw[Vk,c.cell hi,UQ (by rw[h.len];exact hi)];exact Uj some (iD (UQ (by rw[h.len];exact hi)))
theorem CM(h:HC σ A H kI AK cK)(g:T3 H){L:List Hd}{v:V}(hb:jV H L)(hH:∀{s},HC s A H kI AK cK->VF s L v):
  au G0 [] 39 [.acK (A .heap) 0,Vn H.Tj H.TB H.Th H.Tl v] σ fun y s=>y=.bool true∧HC s A H kI AK cK∧T5 σ s (Vu H A kI AK) (Vu H A kI AK):=by
 refine ai g39 rfl ?_;have w:=h.gw;obtain⟨ao,pl,fc,U⟩:=g.UB;have hm:=A9 U.ok;have am:=U.ok.We;have Ue:=hb.Ue g;obtain⟨s1,l⟩:=acH (σ.ag [.u H.Tj,.i H.TB,.i H.Th,.i H.Tl,v]);have g1:aH σ s1:=by rw[l];exact aH.new _ _
 have w1:GW s1:=by rw[l];exact w.new _ rfl
 have h1:=h.Ui g1 w1;have L1:To s1 σ.next 5 (Tn [.u H.Tj,.i H.TB,.i H.Th,.i H.Tl,v]):=by rw[l];exact To.cg σ _
 have m1:¬Vu H A kI AK σ.next:=h.eh (Tx _);simp (maxSteps:=9^9) (disch:=omega) only[go_sem,<- l];refine(HC.JY h1 (P:=fun v b=>v=eO (bf H) b) fun s R=>(BC R g).mono fun v s' ⟨b,hv,W⟩=>⟨b,hv,W⟩).mono ?_;rintro _ s2 ⟨b,rfl,p,k2⟩;have Y:=k2.Yl L1 m1;have m2:=k2.nm L1 m1;simp (maxSteps:=9^9) (disch:=omega) only[go_sem,Y.bN rfl];refine((wY p.gw (hH p.Fc) Q).gw p.gw).mono ?_;rintro u s3 ⟨⟨N3,S⟩,w3⟩;simp (maxSteps:=9^9) (disch:=omega) only[go_sem];refine((IS w3 (N3.bls w3) (by rw[Wz];omega) hb.Yy).gw w3).mono ?_;rintro y s4 ⟨⟨⟨M,hM,hR,N4⟩,e4⟩,w4⟩;have F:M=bf H:=rF hR (jD U) fun x=>by rw[hM.mem_iff];obtain⟨a,z⟩:=x;rw[hb.Ty, <- ga U]
 obtain⟨b2,B,j,I⟩:=N4.named;have ad:=S.trans e4;have h3:=p.ext S w3;have O:=(Y.ext p.gw S).ext w3 e4;have h4:=HC.FV h3 e4 w4 (fun hx=>(j hx).1) (fun hx=>(j hx).2);have av:σ.next<s2.next:=Y.lt p.gw;have ap:=S.next;have m4:=LK (hx:=B) (b:=b2) m2 fun hx=>by have:=(j hx).1;omega
 obtain⟨q,e,hy⟩:=(I s4 w4 fun hx=>(j hx).2).is;have f:M.length=(bf H).length:=by rw[F]
 have ar:(bf H).length≤262144:=by rw[<- f,hM.length_eq,Wz];exact Ue
 obtain⟨ql,el,C⟩:∃q e,eO (bf H) b=.slice q (bf H).length e:=by
  unfold eO;by_cases c:bf H=[]
  .rw[Ti c,c];exact⟨_,_,rfl⟩
  rw[Tg c];exact⟨_,_,rfl⟩
 simp (maxSteps:=9^9) (disch:=omega) only[go_sem,hy,C,f];refine(HC.gQ h4 (P:=fun v k=>k=A∧v=ns H) fun s R=>(rA R g).mono fun v s' ⟨hv,R'⟩=>⟨A,R',rfl,hv⟩).mono ?_;rintro _ s5 ⟨k,T,⟨rfl,rfl⟩,k5⟩;have Z:=k5.Yl O m4;have m5:=k5.nm O m4;simp (maxSteps:=9^9) (disch:=omega) only[go_sem,ns,O.bN rfl,Z.bN rfl];refine((PM (v:=v) hm am).gw T.gw).mono ?_;rintro _ J ⟨⟨rfl,g6⟩,w6⟩;have L6:=Z.ext T.gw g6.ext;have h6:=T.ext g6.ext w6;have r:H.Tp*H.Tl=H.Tl*(4096*2^H.Th):=UF _ _;have ah:U6 J (bf H) (eO (bf H) b):=oR w6 fun al=>h6.Ur (.inr (.inl (.inr ()))) al
 have E:=I J w6 fun hx=>h6.Ur (.inr (.inr ())) hx
 rw[F]at E;generalize H.Tp*H.Tl=R1 at r⊢;generalize H.Tl*(4096*2^H.Th)=R2 at r⊢;subst r;have af:HC J k H kI AK cK∧T5 σ J (Vu H k kI AK) (Vu H k kI AK):=by
  refine⟨HC.Fc (HC.Fc h6),?_⟩;have k1:=T5.ext (W:=Vu H k kI AK) g1.ext w;have k3:=T5.ext (W:=Vu H k (Sum.elim kI fun _:Unit=>bf H≠[]) (Sum.elim AK fun _=>b)) ad p.gw;have d:=(k1.trans k2).trans k3;have k6:=T5.ext (W:=Vu H k (Sum.elim (Sum.elim kI fun _:Unit=>bf H≠[]) fun _:Unit=>B) (Sum.elim (Sum.elim AK fun _=>b) fun _=>b2)) g6.ext T.gw;have D:=k5.trans k6;have m:∀{id:Nat} {o:AM.Obj},σ.Tq.get id=some o->o.Ty=true->o.TG=0->¬Vu H k kI AK id->¬Vu H k (Sum.elim (Sum.elim kI fun _:Unit=>bf H≠[]) fun _:Unit=>B) (Sum.elim (Sum.elim AK fun _=>b) fun _=>b2) id:=fun a b c hn=>LK (d.Xp a b c hn) fun hx=>by have:=(j hx).1;have:=w.UL a;omega
  exact⟨V4 d.next D.next,fun a b c hn=>D.Wo (d.Wo a b c hn) b c (m a b c hn),fun a b c hn=>O8 (O8 (D.Xp (d.Wo a b c hn) b c (m a b c hn)))⟩
 simp (maxSteps:=9^9) (disch:=omega) only[go_sem,O.bN rfl,Z.bN rfl,L6.bN rfl];refine bW (fun n fr t=>fr.defers=[]∧t=J∧fr.tmps.get 5=some (eO (bf H) b)∧fr.tmps.get 6=some y∧∃i,i+n=(bf H).length∧fr.tmps.get 7=some (.i (i:Nat))) ?_ (bf H).length ?_
 .rintro n ⟨tm,ds⟩ t ⟨hd,rfl,X,t6,i,hi,t7⟩;simp only at hd X t6 t7;subst hd;by_cases c:i<(bf H).length
  .obtain⟨ba,oa,ha,_,a1,a2,_⟩:=ah.at c;obtain⟨bb,ob,G,_,b1,ac,_⟩:=U6.at E c;have K:=X;have N:=t6;rw[ha]at K;rw[G]at N;simp (maxSteps:=9^9) (disch:=omega) only[go_sem,K,N,t7,a1,a2,b1,ac];exact⟨n-1,Q,Uj some ha.symm,Uj some G.symm,i+1,Q,rfl⟩
  rw[C]at X;simp (maxSteps:=9^9) (disch:=omega) only[go_sem,X,t6,t7];exact af
 simp (maxSteps:=9^9) (disch:=omega) only[go_sem];exact⟨Uj some C.symm,Uj some (by rw[hy,f]),0,Q,rfl⟩
variable {B:AI -> Nat} {S:AS}
def J0{c tk us md:Nat}{L:List (Nat×Nat)}{v mk:V}(a:U6 σ L v)(Ue:L.length<9000000000000000000):au G0 [] 96 [WV c v tk us mk md] σ fun y s=>y=.u (dC L%18446744073709551616:Nat)∧aH σ s:=by refine ai g96 rfl ?_;simp (disch:=omega) only[go_sem];refine(MH (a.ext (Gr.g (σ:=σ)).ext) Ue).mono ?_;rintro _ s ⟨rfl,rfl⟩;simp (disch:=omega) only[go_sem];exact Gr.g
theorem CQ{c tk md:Nat}{cs mk:V}(h:AR σ A H B S)(C:S.OK)(J:U6 σ S.Tm cs)(hu:S.TI≤dC S.Tm)(hs:dC S.Tm<18446744073709551616):
  au G0 [] 38 [.acK (B .TA) 0,WV c cs tk S.TI mk md] σ fun y s=>y=.bool true∧aH σ s:=by
 refine ai g38 rfl ?_;have w:=h.gw;have Y:=C.Ue;obtain⟨q,e,L⟩:=J.is;obtain⟨D,b⟩:=acH (σ.ag [.u c,cs,.u tk,.u S.TI,mk,.i md]);have x:aH σ D:=by rw[b];exact aH.new _ _
 have N:GW D:=by rw[b];exact w.new _ rfl
 have L1:To D σ.next 6 (Tn [.u c,cs,.u tk,.u S.TI,mk,.i md]):=by rw[b];exact To.cg σ _
 have W:AR D A H B S:=h.Ui x N;simp (maxSteps:=9^9) (disch:=omega) only[go_sem,<- b];refine((lQ W C).gw N).mono ?_;rintro l s2 ⟨⟨Z,g2⟩,w2⟩;have I:AR s2 A H B S:=Wd.Ui W g2 w2;have a:=L1.ext N g2.ext;obtain⟨lq,le,j⟩:=Z.is;have k:=a;rw[L]at k;simp (maxSteps:=9^9) (disch:=omega) only[go_sem,j,k.bC rfl];refine bW (fun n fr t=>fr.defers=[]∧t=s2∧fr.tmps.get 0=some (.acK (B .TA) 0)∧fr.tmps.get 3=some (.acK σ.next 0)∧fr.tmps.get 5=some l∧∃i,i+n=S.Tm.length∧fr.tmps.get 6=some (.i (i:Nat))) ?_ S.Tm.length ?_
 .rintro n ⟨tm,ds⟩ t ⟨hd,rfl,d,f,v,i,hi,M⟩;simp only at hd d f v M;subst hd;by_cases R:i<S.Tm.length
  .obtain⟨ba,oa,ha,_,a1,a2,_⟩:=Z.at R;obtain⟨P,ob,K,r,b1,b2,_⟩:=J.at R;have o:=a;rw[K]at o;rw[ha]at v;have U:=x.trans g2;have E:t.cell P (ob+i*2)=some (.u S.Tm[i].1):=by rw[U.cell (m:=σ.next) r];exact b1
   have F:t.cell P (ob+i*2+1)=some (.u S.Tm[i].2):=by rw[U.cell (m:=σ.next) r];exact b2
   simp (maxSteps:=9^9) (disch:=omega) only[go_sem,d,f,v,M,a1,a2,o.bC rfl,E,F];exact⟨n-1,Q,Uj some ha.symm,i+1,Q,rfl⟩
  rw[j]at v;simp (maxSteps:=9^9) (disch:=omega) only[go_sem,d,f,v,M];refine(Aw I).mono ?_;rintro _ s3 ⟨rfl,rfl⟩;simp (maxSteps:=9^9) (disch:=omega) only[go_sem,d,f,a.bC rfl];refine((BM I C).gw w2).mono ?_;rintro _ s4 ⟨⟨rfl,z⟩,w4⟩;have h4:AR s4 A H B S:=Wd.Ui I z w4;have g:=a.ext w2 z.ext;simp (maxSteps:=9^9) (disch:=omega) only[go_sem,d,f,a.bC rfl,g.bC rfl,a.bN rfl,g.bN rfl];refine((J0 (J.ext ((x.trans g2).trans z).ext) Q).gw w4).mono ?_;rintro _ s5 ⟨⟨rfl,G⟩,w5⟩;have X:AR s5 A H B S:=Wd.Ui h4 G w5;have p:=g.ext w4 G.ext;simp (maxSteps:=9^9) (disch:=omega) only[go_sem,d,f,a.bC rfl,g.bC rfl,p.bC rfl,a.bN rfl,g.bN rfl,p.bN rfl];refine(Aw X).mono ?_;rintro _ s6 ⟨rfl,rfl⟩;simp (maxSteps:=9^9) (disch:=omega) only[go_sem,d,f];refine((BM X C).gw w5).mono ?_;rintro _ s7 ⟨⟨rfl,T⟩,w7⟩;have O:=p.ext w5 T.ext;rw[WR hs];simp (maxSteps:=9^9) (disch:=omega) only[go_sem,d,f,a.bC rfl,g.bC rfl,p.bC rfl,O.bC rfl,a.bN rfl,g.bN rfl,p.bN rfl,O.bN rfl];exact x.trans (g2.trans (z.trans (G.trans T)))
 simp (maxSteps:=9^9) (disch:=omega) only[go_sem];exact⟨Uj some j.symm,0,Q,rfl⟩
def P1{vs:List V}{u v:V}{n:Nat}{x:Nat->Nat}(hu:Ls σ 1 n vs u)(hv:Ls σ 1 n vs v)(hx:∀i,i<n->vs[i]?=some (.int .u8 (x i:Nat)))(Ue:n≤100000000):au G0 [] 34 [u,v] σ fun y s=>y=.bool true∧s=σ:=by
 refine ai g34 rfl ?_;obtain⟨B,r,a⟩:=hu.is;obtain⟨C,w,f⟩:=hv.is;simp (disch:=omega) only[go_sem,a,f];refine bW (fun m fr t=>fr.defers=[]∧fr.tmps.get 0=some u∧fr.tmps.get 1=some v∧t=σ∧∃i,i+m=n∧fr.tmps.get 5=some (.i (i:Nat))) ?_ n ?_
 .rintro m ⟨tm,ds⟩ t ⟨hd,h,j,rfl,i,hi,o⟩;simp only at hd h j o;subst hd;by_cases c:i<n
  .obtain⟨p,z,e,_,k⟩:=hu.UH Q;obtain⟨q,A,g,_,l⟩:=hv.UH Q;have b:=k i Q;have d:=l i Q;rw[hx i c]at b d;rw[e]at h;rw[g]at j;simp (disch:=omega) only[go_sem,h,j,o,b,d,Um];exact⟨m-1,Q,Uj some e.symm,Uj some g.symm,i+1,Q,rfl⟩
  rw[a]at h;simp (disch:=omega) only[go_sem,h,j,o]
 simp (disch:=omega) only[go_sem];exact⟨Uj some a.symm,Uj some f.symm,0,Q,rfl⟩
open Go.ChangeShapes Go.WideShapes Go.ChangeAt Go.WideMaps Go.WideElems Go.RowKit
def DX.ls{l:List XR}{q:Option (Nat×Nat)}{n e:Nat}{a:List Nat}(h:DX l q n e a){s:St}(W:Wd s (ud l) sD (pX l)):Ls s 1 n (a.map fun x=>AM.V.int .u8 (x:Nat)) (.slice q n e):=by obtain⟨j,b,m,o,p,d,rfl,rfl,hn,f,hv⟩:=h;obtain⟨c,g⟩:=Ai d;have R:=W.KY c g;refine⟨⟨_,_,rfl⟩,by rw[Wz,f,Um],fun k=>⟨sD j,o,rfl,W.lt c,fun i hi=>?_⟩⟩;rw[R.cell Q,X0,UQ Q];refine Uj some ?_;rw[iD (hv i Q),U7,UQ Q];rfl
variable {H H':aa} {S S':AS}
def qn{fl pl fc:Nat->List Nat}(i:Tv H fl pl fc (fun _=>False)):((bf H).map (·.1)).Nodup:=by rw[List.Nodup,Z6];exact(jD i).imp fun h e=>Q
def KQ(g:T3 H){l:List Nat}(nd:l.Nodup)(d:∀a,a∈l↔∃w,aV H a w):(bf H).length=l.length:=by
 obtain⟨fl,pl,fc,i⟩:=g.UB;have:((bf H).map (·.1)).Perm l:=(ab3 (qn i) nd).2 fun a=>by
  rw[d];constructor
  .intro h;obtain⟨b,c,rfl⟩:=V3.1 h;exact⟨b.2,(ga i).1 c⟩
  rintro⟨w,hw⟩;exact V3.2 ⟨(a,w),(ga i).2 hw,rfl⟩
 rw[<- this.length_eq,Wz]
abbrev zP:List V:=[.u 0,.u 0,.acJ]
variable {m:ML -> Li} {D:DT} {g:Gm} {E:List Nat} {N:Nat} {v:V}
def PC(h:TS σ A H B S m kI AK cK)(g:T3 H){a n:Nat}(hw:0<n->H.eZ a n=true):
  au G0 [] 33 [.acK (A .heap) 0,.u a,.u n] σ fun v s=>(∃u,v=.tuple [u,.i 0]∧Ls s 1 n (iO H a n) u)∧TS s A H B S m kI AK cK∧T5 σ s (UA H A S B m kI AK) (UA H A S B m kI AK):=by
 by_cases hn:0<n
 .refine(HC.OX (Uo.hc h) (P:=fun v b=>v=.tuple [.acL b 0 n 1,.i 0]) (x:=.row n fun i=>.int .u8 (H.mem (a-H.Tj+i))) fun s R=>(FW R g a n hn (hw hn)).mono fun v j ⟨b,hv,W⟩=>⟨b,hv,W⟩).mono ?_;rintro v j ⟨b,rfl,c,f,k⟩;have d:Row j b n (fun i=>.int .u8 (H.mem (a-H.Tj+i))):=f;refine⟨⟨_,rfl,⟨_,_,rfl⟩,by unfold iO;simp,fun _=>⟨b,0,rfl,?_,fun i hi=>?_⟩⟩,HC.X4 c rfl,k.ah⟩
  .obtain⟨p,r,w,t,l,o,q⟩:=f;exact c.gw.UL o
  rw[Vk,d.cell Q];unfold iO;rw[X0,YC Q];rfl
 obtain rfl:n=0:=Q;refine(HC.gQ (H':=H) (P:=fun v e=>v=.tuple [.acJ,.i 0]∧e=A) (Uo.hc h) fun σ d=>(OH d g a 0 (.inl rfl)).mono fun v s ⟨x,y⟩=>⟨A,x,y,rfl⟩).mono ?_;rintro v s ⟨e,c,⟨rfl,rfl⟩,k⟩;exact⟨⟨_,rfl,⟨_,_,rfl⟩,rfl,fun h=>absurd h (XK _)⟩,HC.X4 c rfl,k.ah⟩
def HE{p n:Nat}:(se H p n).map (fun x=>AM.V.int .u8 (x:Nat))=iO H p n:=by unfold se iO;rw[List.map_map];rfl
def rH.left{l i:List XR}{x:AM.V}(h:rH l 1 x):rH (l++i) 1 x:=by obtain⟨q,L,e,rfl,f,h⟩:=h;refine⟨q,L,e,rfl,f,fun d=>?_⟩;obtain⟨rfl,j,b,n,o,c,a,rfl,g⟩:=h d;exact⟨rfl,j,b,n,o,c,by rw[Wh (ab0.1 a).1];exact a,rfl,g⟩
def rH.right{l a:List XR}{x:AM.V}(h:rH a (1+l.length) x):rH (l++a) 1 x:=by obtain⟨q,L,e,rfl,f,h⟩:=h;refine⟨q,L,e,rfl,f,fun d=>?_⟩;obtain⟨rfl,j,b,n,o,c,i,rfl,g⟩:=h d;exact⟨rfl,l.length+j,b,n,o,c,by rw[WM Q,Z9];exact i,by rw[Yb],g⟩
def Hq{W:World}{H:Type}{enc:TypeId×Value->H}{Tj:Nat}{v3 v4:Value}{d X:DataW H}{p p':List MemPlace}(Z:Value.okWide Tryz.prog W .any Tj 52 v3)(h4:Value.okWide Tryz.prog W .any Tj 52 v4)(hd:DataW.Trod enc Tryz.prog W 0 (fun _=>true) true 52 v3 d p)(hN:∀a len c,v3=.slice (some a) len c->len≤1990000000000)(I:DataW.Trod enc Tryz.prog W 0 (fun _=>true) true 52 v4 X p')(G:∀a len c,v4=.slice (some a) len c->len≤1990000000000):
  ∃(l:List XR) (q V:Option (Nat×Nat)) (M e N y T P:Nat) (ops w:Nat->Wb),M≤1990000000000∧y≤1990000000000∧pT (ud l) sD (pX l) (DX l) q e M N ops∧pT (ud l) sD (pX l) (DX l) V T y P w∧
   VR (nF W l) (.slice q M e) v3∧VR (nF W l) (.slice V y T) v4∧∀x∈l,CD W (nF W l) x:=by
 obtain⟨l,q,M,e,N,ops,hM,E,L,t,r⟩:=oG Z hd 1;obtain⟨k,q',S,Y,O,v,ac,m,u,g,f⟩:=oG h4 I (1+l.length);have U:∀{j:Nat} {x:XR},l[j]?=some x->(l++k)[j]?=some x:=fun {j x} h=>by rw[Wh (ab0.1 h).1];exact h
 have g2:∀{j:Nat} {x:XR},k[j]?=some x->(l++k)[l.length+j]?=some x:=fun {j x} h=>by rw[WM Q,Z9];exact h
 obtain⟨hv,J⟩:=L (nF W (l++k)) fun j x hx=>rC (U hx)
 obtain⟨K,s⟩:=u (nF W (l++k)) fun j x hx=>by rw[Yb];exact rC (g2 hx)
 have F:M≤1990000000000:=by
  rcases E with rfl|⟨a,c,e⟩
  .omega
  exact hN _ _ _ e
 have o:S≤1990000000000:=by
  rcases m with rfl|⟨a,c,e⟩
  .omega
  exact G _ _ _ e
 refine⟨l++k,q,q',M,e,N,S,Y,O,ops,v,F,o,rp (j0:=0) (fun D=>?_) (fun i hi=>(r i hi).left),rp (j0:=l.length) (fun D=>?_) (fun i hi=>(f i hi).right),hv,K,fun x hx=>?_⟩
 .obtain⟨z,A,b,n,R,B,C⟩:=t D;exact⟨z,A,b,n,R,U B,C⟩
 .obtain⟨z,A,b,n,R,B,C⟩:=g D;exact⟨z,A,b,n,R,g2 B,C⟩
 rcases VJ.1 hx with h|h
 .exact J x h
 exact s x h
abbrev Ot(kI:κ->Prop)(p:Prop):κ ⊕ Unit->Prop:=Sum.elim kI fun _=>p
abbrev MG(AK:κ->Nat)(b:Nat):κ ⊕ Unit->Nat:=Sum.elim AK fun _=>b
abbrev QU(cK:κ->cA)(x:cA):κ ⊕ Unit->cA:=Sum.elim cK fun _=>x
def EU(h:Uo σ A H B S kI AK cK)(g:T3 H):au G0 [] 41 [.acK (A .heap) 0] σ fun v s=>∃b,v=eO (bf H) b∧
  Uo s A H B S (Ot kI (bf H≠[])) (MG AK b) (QU cK (.row ((bf H).length*2) (fy (bf H))))∧
  T5 σ s (VB H A S B kI AK) (VB H A S B (Ot kI (bf H≠[])) (MG AK b)):=by
 refine(HC.JY (Uo.hc h) (P:=fun v b=>v=eO (bf H) b) fun s R=>(BC R g).mono fun v f ⟨b,hv,W⟩=>⟨b,hv,W⟩).mono ?_;rintro _ f ⟨b,rfl,d,k⟩;refine⟨b,rfl,?_,k.next,fun a b c hw=>k.Wo a b c (Cp.1 hw),fun a b c hw=>?_⟩
 .refine Wd.sub d (fun k=>match k with| .inl (.inl x)=>.inl x| .inl (.inr x)=>.inr (.inl (.inl x))| .inr (.inl k)=>.inr (.inl (.inr k))| .inr (.inr u)=>.inr (.inr u)) ?_ ?_ ?_ ?_
  .rintro((x|x)|x|x) hk <;> exact hk
  .rintro((x|x)|x|x) ((y|y)|y|y) _ _ e <;> simp_all
  .rintro((x|x)|x|x) hk <;> rfl
  rintro((x|x)|x|x) hk <;> exact .inl rfl
 refine Nm.map ?_ (k.Xp a b c (Cp.1 hw));rintro((x|x)|x|x) hk
 .exact⟨.inl x,hk,rfl⟩
 .exact⟨.inr (.inl (.inl x)),hk,rfl⟩
 .exact⟨.inr (.inl (.inr x)),hk,rfl⟩
 exact⟨.inr (.inr x),hk,rfl⟩
section
variable {H:Type} {enc:TypeId × Value -> H} {P:Program} {w:World} {Tj:Nat} {spare:Nat -> Bool} {held:Bool}
def acV{t E l F G:TypeId}{args:Array Value}{ds:List (DataW H)}{ps:List MemPlace}(h:DataW.TrodAll enc P w Tj spare held [t,E,l,F,G] args.toList ds ps):
  ∃v x i v3 v4 d m b n o p r g s u,args=#[v,x,i,v3,v4]∧ds=[d,m,b,n,o]∧ps=p++r++g++s++u∧DataW.Trod enc P w Tj spare held t v d p∧DataW.Trod enc P w Tj spare held E x m r∧DataW.Trod enc P w Tj spare held l i b g∧DataW.Trod enc P w Tj spare held F v3 n s∧DataW.Trod enc P w Tj spare held G v4 o u:=by
 obtain⟨v,U,d,J,p,q,z,rfl,rfl,hd,j⟩:=trodAll_cons h;obtain⟨x,N,m,D,r,R,rfl,rfl,rfl,A,c⟩:=trodAll_cons j;obtain⟨i,I,b,y,g,M,rfl,rfl,rfl,k,a⟩:=trodAll_cons c;obtain⟨v3,O,n,K,s,S,rfl,rfl,rfl,B,e⟩:=trodAll_cons a;obtain⟨v4,Q,o,L,u,T,rfl,rfl,rfl,C,f⟩:=trodAll_cons e;obtain⟨rfl,rfl,rfl⟩:=trodAll_nil f;exact⟨v,x,i,v3,v4,d,m,b,n,o,p,r,g,s,u,by cases args;simp_all,rfl,Y,hd,A,k,B,C⟩
def adf{t m c n o:TypeId}{v q e v3 v4:Value}{d j b k l:DataW H}{p g a p3 i:List MemPlace}(h:DataW.Trod enc P w Tj spare held t v d p)(r:DataW.Trod enc P w Tj spare held m q j g)(f:DataW.Trod enc P w Tj spare held c e b a)(s:DataW.Trod enc P w Tj spare held n v3 k p3)(u:DataW.Trod enc P w Tj spare held o v4 l i):DataW.TrodAll enc P w Tj spare held [t,m,c,n,o] [v,q,e,v3,v4] [d,j,b,k,l] (p++(g++(a++(p3++i)))):=⟨p,g++(a++(p3++i)),h,trodAll_mk4 r f s u,rfl⟩
end
def ads{F:FuncId}{L:jj}(hg:G0.get F=some (.code L))(n:∀(l:List XR) (b s o:Int) (c k M C e j i m:Nat) (q r:Option (Nat×Nat)) (ops f:Nat->Wb),0≤b->b<18446744073709551616->c<18446744073709551616->k<18446744073709551616->M≤1990000000000->pT (ud l) sD (pX l) (DX l) q e M C ops->j≤1990000000000->pT (ud l) sD (pX l) (DX l) r m j i f →
   au G0 [] F [Uu b s o,.u c,.u k,.slice q M e,.slice r j m] (Wf l) fun v _=>v=.bool true){W:World}{H:Type}{enc:TypeId×Value->H}{Tj:Nat}{E G D v3 v4:Value}{d K:DataW H}{p V:List MemPlace}(B:gh Tryz.prog Tryz.prog.globals.size G0)(h:laidMetH Tryz.prog iW W)(O:Value.okWide Tryz.prog W .any Tj 30 E)(P:Value.okWide Tryz.prog W .any Tj 28 G)(N:Value.okWide Tryz.prog W .any Tj 28 D)(Q:Value.okWide Tryz.prog W .any Tj 52 v3)(R:Value.okWide Tryz.prog W .any Tj 52 v4)(hd:DataW.Trod enc Tryz.prog W 0 (fun _=>true) true 52 v3 d p)(T:∀a len g,v3=.slice (some a) len g->len≤1990000000000)(y:DataW.Trod enc Tryz.prog W 0 (fun _=>true) true 52 v4 K V)(w:∀a len g,v4=.slice (some a) len g->len≤1990000000000):
  Calls Tryz.prog F #[E,G,D,v3,v4] W fun e I=>e=.returned (.bool true)∧Below W.heap.size W I:=by
 obtain⟨b,s,o,rfl,b1,b2⟩:=AP O;obtain⟨c,rfl,c1⟩:=BA P;obtain⟨k,rfl,J⟩:=BA N;obtain⟨l,q,r,M,e,C,j,m,i,ops,f,S,t,U,x,hv,A,z⟩:=Hq Q R hd T y w;refine jK (l:=l) (xs:=[Uu b s o,.u c,.u k,.slice q M e,.slice r j m]) B h z ?_ hg (n l b s o c k M C e j i m q r ops f b1 b2 c1 J S U t x);exact⟨_,_,rfl,⟨_,rfl,⟨_,_,rfl,rfl,_,_,rfl,rfl,_,_,rfl,rfl,rfl⟩⟩,_,_,rfl,rfl,_,_,rfl,rfl,_,_,rfl,hv,_,_,rfl,A,rfl⟩
variable {S2:AS} {g' g2:Gm} {N' N2:Nat}
abbrev adr(S:AS)(g:Gm):List Nat:=S.Tm.map (·.1)++g.O
structure Two (D:DT) (H:aa) (S S2:AS) (g g2:Gm) (N N2:Nat):Prop where
 x:eP D H S g (adr S2 g2) N
 y:eP D H S2 g2 (adr S g) N2
 e:g2.L=g.L
def Two.swap(t:Two D H S S2 g g2 N N2):Two D H S2 S g2 g N2 N:=⟨t.y,t.x,t.e.symm⟩
def Two.step(t:Two D H S S2 g g2 N N2)(ok:eP D H' S' g' (adr S2 g2) N')(d:kx H H' (adr S2 g2)):Two D H' S' S2 g' { g2 with L:=g'.L } N' N2:=by
 have y:=t.y;have f:∀c∈S2.Tm,c.1∈adr S2 g2:=fun c f=>Zo _ (Xs f)
 refine⟨ok, { Uk:=ok.Uk,Vo:=fun b e=>d.Ty _ _ (f b e) (y.Vo b e),TD:=by rw[d.Tp];exact y.TD,pos:=y.pos,nil:=y.nil,Ww:=y.Ww,ms:=y.ms,bk:=ok.bk,Vd:=y.Vd,XS:=y.XS,XC:=y.XC,mono:=y.mono,kl:=y.kl,kn:=y.kn,TJ:=fun a w l=>?_,ol:=fun a ha=>?_,nd:=?_,Ue:=y.Ue,bytes:=fun x hx=>⟨(y.bytes x hx).1,fun j=>?_⟩ },rfl⟩
 .rcases ok.TJ a w l with h|h|h
  .exact .inr (.inr (Zo _ h))
  .exact .inr (.inr (aaB _ h))
  rcases VJ.1 h with h|h
  .exact .inl h
  exact .inr (.inl h)
 .rcases ha with h|h
  .obtain⟨w,hw⟩:=y.ol a (.inl h);exact⟨w,d.Ty a w (aaB _ h) hw⟩
  rcases VJ.1 h with h|h
  .obtain⟨b,e,rfl⟩:=V3.1 h;exact⟨_,ok.Vo b e⟩
  exact ok.ol a (.inl h)
 .refine(List.Perm.nodup_iff ?_).1 ok.nd;have k:=List.perm_append_comm (l₁:=S'.Tm.map (·.1)++g'.O) (l₂:=S2.Tm.map (·.1)++g2.O)
  simpa [Xj]using k
 have:=(y.bytes x hx).2 j
 rwa [<- y.J3 d.Tj y.Vd (fun c h=>h) (fun c h i hi=>d.mem c.1 c.2 (f c h) (y.Vo c h) i hi) x (Xs hx) x.n (y.bytes x hx).1]at this
def Two.start{b l o:Int}{c e:Nat}(a:0≤b)(f:je b l o c)(d:je b l o e):Two D (di b.toNat l.toNat o.toNat) (ie c) (ie e) ⟨[],[],[],[]⟩ ⟨[],[],[],[]⟩ 0 0:=
 ⟨J8 a f,J8 a d,rfl⟩
def Two.Xv(t:Two D H S S2 g g2 N N2){p q:Hd}(hp:p∈g.P)(j:q∈g2.P):p.p+p.s≤q.p∨q.p+q.s≤p.p:=by
 obtain⟨_,c,b,k,l⟩:=t.x.ZU hp;obtain⟨_,d,f,m,n⟩:=t.y.ZU j;obtain⟨fl,pl,fc,i⟩:=t.x.Uk.UB;have a:c.1≠d.1:=fun e=>by have:=t.x.nd;refine(WN.1 this).2.2 c.1 (Xs b) d.1 ?_ e;exact aaB _ (Zo _ (Xs f))
 rcases i.Xv (t.x.Vo c b) (t.y.Vo d f) a with h|h <;> omega
def Two.aan(t:Two D H S S2 g g2 N N2):T3 (cz H (eV S 0))∧jv (cz H (eV S 0)) (gL S)∧jv (cz H (eV S 0)) S2∧
  T3 (cz (cz H (eV S 0)) (eV S2 0))∧(bf (cz (cz H (eV S 0)) (eV S2 0))).length=g.O.length+g2.O.length:=by
 obtain⟨s,j,v⟩:=t.x.ar.cut t.x.Uk 0;have nd:=t.x.nd;have d:=WN.1 nd;have n:∀b∈S2.Tm,aV (cz H (eV S 0)) b.1 b.2:=fun b k=>(j _ _).2 ⟨t.y.Vo b k,fun c=>by
  rw[VG]at c;exact d.2.2 _ c b.1 (aaB _ (Zo _ (Xs k))) rfl⟩
 have q:jv (cz H (eV S 0)) S2:=by have a:=t.y.ar;have hs:=(fh (eV S 0) t.x.Uk).2.1;exact⟨n,a.Zz,a.Tz,a.TI,by rw[cJ.Tp hs];exact a.TD,a.nil,a.Ww⟩
 obtain⟨r,l,u⟩:=q.cut s 0;refine⟨s,jv.aan t.x.Uk t.x.ar,q,r,?_⟩;rw[<- UN];have e:(g.O++g2.O).Nodup:=by have m:=(WN.1 d.2.1);refine WN.2 ⟨m.1,(WN.1 m.2.1).2.1,fun a ha b k=>m.2.2 a ha b (aaB _ k)⟩
 refine KQ r e fun a=>?_
 constructor
 .intro ha;rcases VJ.1 ha with h|h
  .obtain⟨w,hw⟩:=t.x.ol a (.inl h);refine⟨w,(l a w).2 ⟨(j a w).2 ⟨hw,fun c=>?_⟩,fun c=>?_⟩⟩
   .rw[VG]at c;exact d.2.2 a c a (Zo _ h) rfl
   rw[VG]at c;exact(WN.1 d.2.1).2.2 a h a (Zo _ c) rfl
  obtain⟨w,hw⟩:=t.y.ol a (.inl h);refine⟨w,(l a w).2 ⟨(j a w).2 ⟨hw,fun c=>?_⟩,fun c=>?_⟩⟩
  .rw[VG]at c;exact d.2.2 a c a (aaB _ (aaB _ h)) rfl
  rw[VG]at c;exact(WN.1 (WN.1 d.2.1).2.1).2.2 a c a h rfl
 rintro⟨w,hw⟩;obtain⟨o,f⟩:=(l a w).1 hw;obtain⟨p,i⟩:=(j a w).1 o;rw[VG]at f i;rcases t.x.TJ a w p with h|h|h
 .exact absurd h i
 .exact Zo _ h
 rcases VJ.1 h with h|h
 .exact absurd h f
 exact aaB _ h
variable {B2:AI -> Nat} {m2:ML -> Li}
abbrev noL:Li:=⟨False,0,.map []⟩
abbrev adg(S2:AS)(m2:ML->Li)(kI:κ->Prop):(AI ⊕ ML) ⊕ κ->Prop:=Sum.elim (Sum.elim S2.has fun i=>(m2 i).h) kI
abbrev adi(B2:AI->Nat)(m2:ML->Li)(AK:κ->Nat):(AI ⊕ ML) ⊕ κ->Nat:=Sum.elim (Sum.elim B2 fun i=>(m2 i).a) AK
abbrev adl(p:Nat)(B2:AI->Nat)(S2:AS)(m2:ML->Li)(cK:κ->cA):(AI ⊕ ML) ⊕ κ->cA:=Sum.elim (Sum.elim (S2.X5 p B2) fun i=>(m2 i).c) cK
abbrev TwW(σ:St)(A:Tu->Nat)(H:aa)(B:AI->Nat)(S:AS)(m:ML->Li)(B2:AI->Nat)(S2:AS)(m2:ML->Li)(kI:κ->Prop)(AK:κ->Nat)(cK:κ->cA):Prop:=
 TS σ A H B S m (adg S2 m2 kI) (adi B2 m2 AK) (adl (A .heap) B2 S2 m2 cK)
abbrev NmT(H:aa)(A:Tu->Nat)(S:AS)(B:AI->Nat)(m:ML->Li)(S2:AS)(B2:AI->Nat)(m2:ML->Li)(kI:κ->Prop)(AK:κ->Nat):Nat->Prop:=UA H A S B m (adg S2 m2 kI) (adi B2 m2 AK)
def aaU:(Tu ⊕ AI) ⊕ (ML ⊕ ((AI ⊕ ML) ⊕ κ))->(Tu ⊕ AI) ⊕ (ML ⊕ ((AI ⊕ ML) ⊕ κ))
 | .inl (.inl x)=>.inl (.inl x)
 | .inl (.inr i)=>.inr (.inr (.inl (.inl i)))
 | .inr (.inl i)=>if i=.hd then .inr (.inl .hd)else .inr (.inr (.inl (.inr i)))
 | .inr (.inr (.inl (.inl i)))=>.inl (.inr i)
 | .inr (.inr (.inl (.inr i)))=>if i=.hd then .inr (.inr (.inl (.inr .hd)))else .inr (.inl i)
 | .inr (.inr (.inr k))=>.inr (.inr (.inr k))
def adM:∀i:(Tu ⊕ AI) ⊕ (ML ⊕ ((AI ⊕ ML) ⊕ κ)),aaU (aaU i)=i
 | .inl (.inl x)=>rfl
 | .inl (.inr i)=>rfl
 | .inr (.inl i)=>by
  by_cases c:i=.hd
  .subst c;rfl
  show aaU (if i=.hd then _ else _)=_;rw[Tg c];show(if i=.hd then _ else _)=_;rw[Tg c]
 | .inr (.inr (.inl (.inl i)))=>rfl
 | .inr (.inr (.inl (.inr i)))=>by
  by_cases c:i=.hd
  .subst c;rfl
  show aaU (if i=.hd then _ else _)=_;rw[Tg c];show(if i=.hd then _ else _)=_;rw[Tg c]
 | .inr (.inr (.inr k))=>rfl
def aaX:∀k:(Tu ⊕ AI) ⊕ (ML ⊕ ((AI ⊕ ML) ⊕ κ)),
  (Sum.elim (Sum.elim H.has S2.has) (Sum.elim (fun j=>(cu m2 .hd (m .hd) j).h) (adg S (cu m .hd noL) kI))) k →
  (Sum.elim (Sum.elim H.has S.has) (Sum.elim (fun j=>(m j).h) (adg S2 m2 kI))) (aaU k)∧
  (Sum.elim (Sum.elim A B2) (Sum.elim (fun j=>(cu m2 .hd (m .hd) j).a) (adi B (cu m .hd noL) AK))) k=(Sum.elim (Sum.elim A B) (Sum.elim (fun j=>(m j).a) (adi B2 m2 AK))) (aaU k)∧
  (Sum.elim (Sum.elim (fW H A) (S2.X5 (A .heap) B2)) (Sum.elim (fun j=>(cu m2 .hd (m .hd) j).c) (adl (A .heap) B S (cu m .hd noL) cK))) k=(Sum.elim (Sum.elim (fW H A) (S.X5 (A .heap) B)) (Sum.elim (fun j=>(m j).c) (adl (A .heap) B2 S2 m2 cK))) (aaU k)
 | .inl (.inl x),h=>⟨h,rfl,rfl⟩
 | .inl (.inr i),h=>⟨h,rfl,rfl⟩
 | .inr (.inl i),h=>by
  by_cases c:i=.hd
  .subst c;have b:(cu m2 .hd (m .hd) .hd).h:=h;rw[aF]at b;exact⟨b,by show(cu m2 .hd (m .hd) .hd).a=_;rw[aF];rfl,by show(cu m2 .hd (m .hd) .hd).c=_;rw[aF];rfl⟩
  have b:(cu m2 .hd (m .hd) i).h:=h;rw[aA c]at b;have e:aaU (κ:=κ) (.inr (.inl i))=.inr (.inr (.inl (.inr i))):=Tg c;rw[e];exact⟨b,by show(cu m2 .hd (m .hd) i).a=_;rw[aA c];rfl,by show(cu m2 .hd (m .hd) i).c=_;rw[aA c];rfl⟩
 | .inr (.inr (.inl (.inl i))),h=>⟨h,rfl,rfl⟩
 | .inr (.inr (.inl (.inr i))),h=>by
  have b:(cu m .hd noL i).h:=h;by_cases c:i=.hd
  .subst c;rw[aF]at b;exact b.elim
  rw[aA c]at b;have e:aaU (κ:=κ) (.inr (.inr (.inl (.inr i))))=.inr (.inl i):=Tg c;rw[e];exact⟨b,by show(cu m .hd noL i).a=_;rw[aA c];rfl,by show(cu m .hd noL i).c=_;rw[aA c];rfl⟩
 | .inr (.inr (.inr k)),h=>⟨h,rfl,rfl⟩
def TwW.swap(h:TwW s A H B S m B2 S2 m2 kI AK cK):TwW s A H B2 S2 (cu m2 .hd (m .hd)) B S (cu m .hd noL) kI AK cK:=
 Wd.sub h aaU (fun k a=>(aaX (A:=A) (B:=B) (B2:=B2) (AK:=AK) (cK:=cK) k a).1) (fun k l _ _ e=>by rw[<- adM k, <- adM l,e]) (fun k a=>(aaX (A:=A) (B:=B) (B2:=B2) (AK:=AK) (cK:=cK) k a).2.1) (fun k a=>.inl (aaX (A:=A) (B:=B) (B2:=B2) (AK:=AK) (cK:=cK) k a).2.2)
def NmT.swap{id:Nat}(h:¬NmT H A S B m S2 B2 m2 kI AK id):¬NmT H A S2 B2 (cu m2 .hd (m .hd)) S B (cu m .hd noL) kI AK id:=
 Nm.map (fun k a=>⟨aaU k,(aaX (A:=A) (B:=B) (B2:=B2) (AK:=AK) (cK:=fun _=>.map []) k a).1,(aaX (A:=A) (B:=B) (B2:=B2) (AK:=AK) (cK:=fun _=>.map []) k a).2.1.symm⟩) h
def Lo.swap{id n:Nat}{l:List V}(h:Lo s (NmT H A S B m S2 B2 m2 kI AK) id n l):Lo s (NmT H A S2 B2 (cu m2 .hd (m .hd)) S B (cu m .hd noL) kI AK) id n l:=⟨h.UH,h.len,NmT.swap h.nm⟩
structure adE (S:AS) (m:ML -> Li) (g:Gm) (cs mk ot pc mks:V):Prop where
 ch:LM m .ch 2 S.Tm.length (fl gK S.Tm) cs
 ma:LM m .ma 4 S.ms.length (fl Dr S.ms) mk
 ot:LM m .ot 1 g.O.length (fl NL g.O) ot
 pc:LM m .pc 3 g.P.length (fl j6 g.P) pc
 ks:LM m .mk 1 g.K.length (fl Qs g.K) mks
def VT.adO{cs mk hv ot pc mks:V}(h:VT A B H S m g cs mk hv ot pc mks):adE S (cu m .hd noL) g cs mk ot pc mks:=
 ⟨h.ch.TN nofun,h.ma.TN nofun,h.ot.TN nofun,h.pc.TN nofun,h.ks.TN nofun⟩
def adE.adP{cs mk hv ot pc mks:V}(h:adE S2 m2 g2 cs mk ot pc mks)(y:LM m .hd 3 g.L.length (fl j6 g.L) hv)(e:g2.L=g.L):VT A B2 H S2 (cu m2 .hd (m .hd)) g2 cs mk hv ot pc mks:=
 ⟨h.ch.TN nofun,h.ma.TN nofun,by unfold LM;rw[aF,e];exact y,h.ot.TN nofun,h.pc.TN nofun,h.ks.TN nofun⟩
def adE.Tr{cs mk ot pc mks:V}(h:adE S m g cs mk ot pc mks){hv:V}(f:[hv].all V.Tr=true)(A:Tu->Nat)(B:AI->Nat)(H:aa):(Uw A B H S cs mk hv ot pc mks).all V.Tr=true:=
 il h.ch.Tr h.ma.Tr f h.ot.Tr h.pc.Tr h.ks.Tr
def adE.re{cs mk ot pc mks:V}{L:List Hd}(h:adE S m g cs mk ot pc mks):adE S m { g with L:=L } cs mk ot pc mks:=⟨h.ch,h.ma,h.ot,h.pc,h.ks⟩
def I3.adQ{x:V}(h:I3 kI AK cK D x):I3 (adg S2 m2 kI) (adi B2 m2 AK) (adl (A .heap) B2 S2 m2 cK) D x:=by obtain⟨q,L,e,c,d,g⟩:=h;refine⟨q,L,e,c,d,fun b=>?_⟩;obtain⟨i,k,o,N,f,a,r⟩:=g b;exact⟨i,.inr k,o,N,f,a,r⟩
structure TG (σ:St) (A:Tu -> Nat) (H:aa) (B:AI -> Nat) (S:AS) (m:ML -> Li) (g:Gm) (cs mk hv ot pc mks:V) (B2:AI -> Nat) (S2:AS) (m2:ML -> Li) (g2:Gm) (cs2 mk2 ot2 pc2 K9:V) (kI:κ -> Prop) (AK:κ -> Nat) (cK:κ -> cA) (D:DT) (N N2:Nat):Prop where
 w:TwW σ A H B S m B2 S2 m2 kI AK cK
 t:Two D H S S2 g g2 N N2
 v:VT A B H S m g cs mk hv ot pc mks
 i:adE S2 m2 g2 cs2 mk2 ot2 pc2 K9
section
variable {cs mk hv ot pc mks cs2 mk2 ot2 pc2 K9:V}
def TG.swap(h:TG σ A H B S m g cs mk hv ot pc mks B2 S2 m2 g2 cs2 mk2 ot2 pc2 K9 kI AK cK D N N2):
  TG σ A H B2 S2 (cu m2 .hd (m .hd)) g2 cs2 mk2 hv ot2 pc2 K9 B S (cu m .hd noL) g cs mk ot pc mks kI AK cK D N2 N:=
 ⟨h.w.swap,h.t.swap,h.i.adP h.v.hd h.t.e,h.v.adO⟩
def TG.ext(h:TG σ A H B S m g cs mk hv ot pc mks B2 S2 m2 g2 cs2 mk2 ot2 pc2 K9 kI AK cK D N N2)(e:TP σ s)(w:GW s):
  TG s A H B S m g cs mk hv ot pc mks B2 S2 m2 g2 cs2 mk2 ot2 pc2 K9 kI AK cK D N N2:=⟨TS.ext h.w e w,h.t,h.v,h.i⟩
def TG.eX{id:Nat}(h:TG σ A H B S m g cs mk hv ot pc mks B2 S2 m2 g2 cs2 mk2 ot2 pc2 K9 kI AK cK D N N2)(p:VL id σ s)(w:GW s)(hn:¬NmT H A S B m S2 B2 m2 kI AK id):
  TG s A H B S m g cs mk hv ot pc mks B2 S2 m2 g2 cs2 mk2 ot2 pc2 K9 kI AK cK D N N2:=⟨TS.eX h.w p w hn,h.t,h.v,h.i⟩
def TG.adN(h:TG σ A H B S m g cs mk hv ot pc mks B2 S2 m2 g2 cs2 mk2 ot2 pc2 K9 kI AK cK D N N2)(p:Wb)(n:N<2000000000000)(hd:I3 kI AK cK D p.x):
  au G0 [] 31 [.agg (Uw A B H S cs mk hv ot pc mks),.agg p.v] σ fun y s=>∃A' B' H' S' m' g' b d c e f a,y=.tuple [.agg (Uw A' B' H' S' b d c e f a),.bool true]∧
   TG s A' H' B' S' m' g' b d c e f a B2 S2 m2 { g2 with L:=g'.L } cs2 mk2 ot2 pc2 K9 kI AK cK D (N+1) N2∧A' .heap=A .heap∧B' .TA=B .TA∧S'.TD=S.TD∧H'.Tj=H.Tj∧H'.TB=H.TB∧H'.Th=H.Th∧
   T5 σ s (NmT H A S B m S2 B2 m2 kI AK) (NmT H' A' S' B' m' S2 B2 m2 kI AK):=by
 have G:jw σ A H B S m (adg S2 m2 kI) (adi B2 m2 AK) (adl (A .heap) B2 S2 m2 cK) D g (adr S2 g2) N (.agg (Uw A B H S cs mk hv ot pc mks)):=⟨h.w,h.t.x,_,_,_,_,_,_,rfl,h.v⟩;refine(qq G p n hd.adQ).mono ?_;rintro _ o ⟨A',B',H',S',m',g',r,rfl,⟨q,l,b,d,c,e,f,a,rfl,j⟩,hA,hB,hch,bs,k, -⟩;refine⟨A',B',H',S',m',g',b,d,c,e,f,a,rfl,⟨?_,h.t.step l bs,j,h.i.re⟩,hA,hB,hch,bs.Tj,bs.TB,bs.Th,k⟩;show TS o A' H' B' S' m' (adg S2 m2 kI) (adi B2 m2 AK) (adl (A' .heap) B2 S2 m2 cK);rw[hA];exact q
end
def aaf:List Bool->AC->AC
 | [],c=>c
 |false ::p,.seq a _=>aaf p a
 |true ::p,.seq _ b=>aaf p b
 |false ::p,.block _ a=>aaf p a
 |false ::p,.loop a=>aaf p a
 |false ::p,.scope a=>aaf p a
 |false ::p,.cond _ a _=>aaf p a
 |true ::p,.cond _ _ b=>aaf p b
 |_ ::_,c=>c
def aaH:List Bool->AC->AC
 | [],c=>Vp c
 |false ::p,.seq a b=>.seq (aaH p a) b
 |true ::p,.seq a b=>.seq a (aaH p b)
 |false ::p,.block i a=>.block i (aaH p a)
 |false ::p,.loop a=>.loop (aaH p a)
 |false ::p,.scope a=>.scope (aaH p a)
 |false ::p,.cond o a b=>.cond o (aaH p a) b
 |true ::p,.cond o a b=>.cond o a (aaH p b)
 |_ ::_,c=>c
def adj:∀(p:List Bool) (c:AC),aaH p c=c
 | [],c=>by rw[aaH,lE]
 |b ::p,c=>by cases b <;> cases c <;> simp[aaH,adj p]
def aaG(p:List Bool){Γ:T AF}{M:List fK}{c:AC}{fr:Fr}{σ:St}{K:fA}(h:wp Γ M (aaH p c) fr σ K):wp Γ M c fr σ K:=by rw[adj]at h;exact h
def twL:AC:=aaf [true,true,true,true,true,true,true,true,true,true] c10.body
def twR:AC:=aaf [true] twL
def twF:AC:=aaf [true] twR
def twB:AC:=aaf [false,true,false,false,true,false,false] twL
def twY:AC:=aaf [true] twB
def twC:AC:=aaf [true] twY
def TwI(kI:κ->Prop)(AK:κ->Nat)(cK:κ->cA)(D:DT)(x y:Nat)(t:St)(N N2:Nat):Prop:=
 ∃A H B S m g cs mk hv ot pc mks B2 S2 m2 g2 cs2 mk2 ot2 pc2 K9,TG t A H B S m g cs mk hv ot pc mks B2 S2 m2 g2 cs2 mk2 ot2 pc2 K9 kI AK cK D N N2∧
  Lo t (NmT H A S B m S2 B2 m2 kI AK) x 16 (Uw A B H S cs mk hv ot pc mks)∧Lo t (NmT H A S B m S2 B2 m2 kI AK) y 16 (Uw A B2 H S2 cs2 mk2 hv ot2 pc2 K9)
def TwI.swap{x y:Nat}{t:St}(h:TwI kI AK cK D x y t N N2):TwI kI AK cK D y x t N2 N:=by obtain⟨A,H,B,S,m,g,cs,mk,hv,ot,pc,mks,B2,S2,m2,g2,cs2,mk2,ot2,pc2,K9,T,a,b⟩:=h;exact⟨A,H,B2,S2,_,g2,cs2,mk2,hv,ot2,pc2,K9,B,S,_,g,cs,mk,ot,pc,mks,T.swap,b.swap,a.swap⟩
def TG.Ty{t:St}{cs mk hv ot pc mks cs2 mk2 ot2 pc2 K9:V}(T:TG t A H B S m g cs mk hv ot pc mks B2 S2 m2 g2 cs2 mk2 ot2 pc2 K9 kI AK cK D N N2):
  au G0 [] 39 [.acK (A .heap) 0,Vn H.Tj H.TB H.Th H.Tl hv] t fun y s=>y=.bool true∧TG s A H B S m g cs mk hv ot pc mks B2 S2 m2 g2 cs2 mk2 ot2 pc2 K9 kI AK cK D N N2∧T5 t s (NmT H A S B m S2 B2 m2 kI AK) (NmT H A S B m S2 B2 m2 kI AK):=by
 refine(CM (Uo.hc T.w) T.t.x.Uk T.t.x.bk (fun a=>T.v.hd.ls (HC.X4 a rfl))).mono ?_;rintro y s ⟨hy,h,k⟩;exact⟨hy,⟨HC.X4 h rfl,T.t,T.v,T.i⟩,k.ah⟩
def TG.Tm{t:St}{cs mk hv ot pc mks cs2 mk2 ot2 pc2 K9:V}(T:TG t A H B S m g cs mk hv ot pc mks B2 S2 m2 g2 cs2 mk2 ot2 pc2 K9 kI AK cK D N N2):
  au G0 [] 38 [.acK (B .TA) 0,WV S.TD cs S.Tz S.TI mk S.TW] t fun y s=>y=.bool true∧aH t s:=by
 have a:=T.t.x.sum;exact CQ (Uo.drop T.w) T.t.x.ok (T.v.ch.ls T.w) T.t.x.held Q
abbrev FxT(tm:AM.T V)(v3 v4:V)(x y i:Nat):Prop:=tm.get 3=some v3∧tm.get 4=some v4∧tm.get 11=some (.acK x 0)∧tm.get 17=some (.acK y 0)∧tm.get 18=some (.i (i:Nat))
def ado{x y i:Nat}{v3 v4:V}{t:St}{tm:T V}{K:fA}(h:TwI kI AK cK D x y t N N2)(F:FxT tm v3 v4 x y i)(C:∀j s,TwI kI AK cK D x y s N N2->FxT j v3 v4 x y i->K .normal ⟨j,[]⟩ s):
  wp G0 [] (Vp twC) ⟨tm,[]⟩ t K:=by
 obtain⟨A,H,B,S,m,g,cs,mk,hv,ot,pc,mks,B2,S2,m2,g2,cs2,mk2,ot2,pc2,K9,T,k,l⟩:=h;obtain⟨E,G,a,b,p⟩:=F;have q:=T.w.gw;rw[lE];simp only[aaf,twC,twY,twB,twF,twR,twL,c10];simp (disch:=omega) only[go_sem,Uw,a,b,k.cl,k.ld,l.cl,l.ld];refine((TG.Tm T).gw q).mono ?_;rintro _ I ⟨⟨rfl,n⟩,w1⟩;have r:=T.ext n.ext w1;have c:=k.ext n.ext q;have e:=l.ext n.ext q;simp (disch:=omega) only[go_sem,Uw,a,b,c.cl,c.ld,e.cl,e.ld];refine((TG.Tm r.swap).gw w1).mono ?_;rintro _ s2 ⟨⟨rfl,o⟩,w2⟩;have v:=r.ext o.ext w2;have d:=c.ext o.ext w1;have f:=e.ext o.ext w1;simp (disch:=omega) only[go_sem,Uw,a,b,d.cl,d.ld,f.cl,f.ld];refine((TG.Ty v).gw w2).mono ?_;rintro _ J ⟨⟨rfl,z,u⟩,w3⟩;simp (disch:=omega) only[go_sem];refine C _ _ ⟨A,H,B,S,m,g,cs,mk,hv,ot,pc,mks,B2,S2,m2,g2,cs2,mk2,ot2,pc2,K9,z,d.T9 u,f.T9 u⟩ ⟨?_,?_,?_,?_,?_⟩ <;> simp (disch:=omega) only[go_sem,E,G,a,b,p]
def Lo.of{W a:Nat->Prop}{id n:Nat}{l:List V}(h:Lo s W id n l)(k:¬W id->¬a id):Lo s a id n l:=⟨h.UH,h.len,k h.nm⟩
def Lo.ady{W:Nat->Prop}{id n:Nat}{l k:List V}(h:Lo s W id n l)(w:GW s)(f:k.length=n)(e:k.all V.Tr=true):∃s',s.store id 0 k=some s'∧Lo s' W id n k∧GW s'∧VL id s s':=by obtain⟨s',b,a,c,d⟩:=h.set w (off:=0) (vs:=k) Q e;rw[VU,YH,YW (by rw[h.len,f];omega),Wr]at a;exact⟨s',b,a,c,d⟩
def Lo.ldA{W:Nat->Prop}{id n:Nat}{l:List V}(h:Lo s W id n l):s.load id 0 n=some l:=by rw[h.ld Q,VG,VZ (Vt h.len)]
def Lo.Ts{ι:Type}{has:ι->Prop}{A:ι->Nat}{c:ι->cA}{z vs:List V}{n:Nat}(W:Wd s has A c)(a:vs.length=n)(b:vs.all V.Tr=true):
  ∃s',s.Ts n z vs=s'∧(s.new (.acM n z .nil)).store s.next 0 vs=some s'∧GW s'∧TP s s'∧Lo s' (Nm has A) s.next n vs:=
 ⟨_,rfl,aQ (Vt a) b,W.gw.Ts (Vt a) b,(Gr.g).ext,To.Ts s n z _ a,a,W.eh (Tx _)⟩
def TG.Xh{t e I:St}{x y:Nat}{A':Tu->Nat}{H':aa}{B':AI->Nat}{S':AS}{m':ML->Li}{g':Gm}{cs mk hv ot pc mks h j a k l c cs2 mk2 ot2 pc2 K9:V}(b:e=t.new (.acM 16 zG .nil))(q:GW t)(T:TG t A H B S m g cs mk hv ot pc mks B2 S2 m2 g2 cs2 mk2 ot2 pc2 K9 kI AK cK D N N2)(ag:x≠y)(Lx:Lo t (NmT H A S B m S2 B2 m2 kI AK) x 16 (Uw A B H S cs mk hv ot pc mks))(Ly:Lo t (NmT H A S B m S2 B2 m2 kI AK) y 16 (Uw A B2 H S2 cs2 mk2 hv ot2 pc2 K9)){n2:Nat}(P:TG I A' H' B' S' m' g' h j a k l c B2 S2 m2 { g2 with L:=g'.L } cs2 mk2 ot2 pc2 K9 kI AK cK D n2 N2)(hA:A' .heap=A .heap)(K:T5 e I (NmT H A S B m S2 B2 m2 kI AK) (NmT H' A' S' B' m' S2 B2 m2 kI AK))(ac:GW I){n:List V}(d:n=Uw A' B' H' S' h j a k l c):
  ∃o p M,I.store t.next 0 n=some o∧o.load t.next 0 16=some n∧o.store x 0 n=some p∧p.load x 8 5=some [.u H'.Tj,.i H'.TB,.i H'.Th,.i H'.Tl,a]∧
   p.store y 8 [.u H'.Tj,.i H'.TB,.i H'.Th,.i H'.Tl,a]=some M∧eN t.next zG 1 0 [([],e),([],I),([],o)]=true∧TwI kI AK cK D x y M n2 N2:=by
 have al:GW e:=by rw[b];exact q.new _ rfl
 have F:TP t e:=by rw[b];exact(Gr.g).ext
 have ah:e.next=t.next+1:=by rw[b];rfl
 have G:e.Tq.get t.next=some (.acM 16 zG .nil):=by rw[b];show AM.T.get (AM.T.set _ _ _) _=_;rw[AM.T.aJ,Ti rfl]
 have r:Lo e (NmT H A S B m S2 B2 m2 kI AK) t.next 16 zG:=⟨by rw[b];exact To.zero q zG Y,rfl,Wd.eh T.w (Tx _)⟩
 have ad:x<t.next:=Lx.UH.lt q;have af:y<t.next:=Ly.UH.lt q;have gf:n.all V.Tr=true:=by rw[d];exact P.v.Tr A' B' H' S'
 have gl:n.length=16:=by rw[d];rfl
 have s:=r.T9 K;have U:=K.Wo G rfl rfl r.nm;obtain⟨o,W,O,J,p3⟩:=s.ady ac gl gf;have z:=((Lx.ext F q).T9 K).put p3 Q;obtain⟨p,X,C,w4,p4⟩:=z.ady J gl gf;obtain⟨M,Z,f,w5,p5⟩:=((((Ly.ext F q).T9 K).put p3 Q).put p4 Q).set w4 (off:=8) (vs:=[.u H'.Tj,.i H'.TB,.i H'.Th,.i H'.Tl,a]) Y (by have:=P.v.hd.Tr;simpa [V.Tr]using this);have T5:=((P.eX p3 J s.nm).eX p4 w4 z.nm).eX p5 w5 f.nm;have E:=C.put p5 Q;have e5:(Uw A B2 H S2 cs2 mk2 hv ot2 pc2 K9).take 8++[V.u H'.Tj,.i H'.TB,.i H'.Th,.i H'.Tl,a]++(Uw A B2 H S2 cs2 mk2 hv ot2 pc2 K9).drop (8+[V.u H'.Tj,.i H'.TB,.i H'.Th,.i H'.Tl,a].length)=Uw A' B2 H' S2 cs2 mk2 a ot2 pc2 K9:=by rw[Uw,Uw,hA];rfl
 rw[e5]at f;have R:p.load x 8 5=some [.u H'.Tj,.i H'.TB,.i H'.Th,.i H'.Tl,a]:=by rw[C.ld Q,d];rfl
 refine⟨o,p,M,W,O.ldA,X,R,Z,oL rfl fun m x hx hm=>?_,?_⟩
 .match m,hx with
  | 0,hx=>cases hx;exact G
  | 1,hx=>cases hx;exact U
  |m+2,_=>omega
 rw[d]at E;exact⟨A',H',B',S',m',g',h,j,a,k,l,c,B2,S2,m2,_,cs2,mk2,ot2,pc2,K9,T5,E,f⟩
def adu{x y i:Nat}{v3 v4:V}{t:St}{tm:T V}{K:fA}{M oo e:Nat}{q:Option (Nat×Nat)}{ops:Nat->Wb}(hM:M≤1990000000000)(o:pT kI AK cK D q e M oo ops)(U:x≠y)(h:TwI kI AK cK D x y t (min i M) N2)(F:FxT tm (.slice q M e) v4 x y i)(C:∀u s,TwI kI AK cK D x y s (min (i+1) M) N2->FxT u (.slice q M e) v4 x y i->wp G0 [] (Vp twY) ⟨u,[]⟩ s K):
  wp G0 [] (Vp twB) ⟨tm,[]⟩ t K:=by
 obtain⟨r,t4,c,j,b⟩:=F;rw[lE];simp only[aaf,twC,twY,twB,twF,twR,twL,c10]at C⊢;refine aaG [true] ?_;simp only[aaH];by_cases E:i<M
 .obtain⟨A,H,B,S,m,g,cs,mk,hv,ot,pc,mks,B2,S2,m2,g2,cs2,mk2,ot2,pc2,K9,T,La,Lb⟩:=h;have Z:=T.w.gw;obtain⟨ob,rfl,rfl,L⟩:=o.load E;obtain⟨u1,a⟩:=acH (t.new (.acM 16 zG .nil));have z:GW u1:=by rw[a];exact Z.new _ rfl
  have k:TP t u1:=by rw[a];exact(Gr.g).ext
  have l:=(La.ext k Z).ldA;have T1:=T.ext k z;have d:=(L (Wd.right (Wd.right (Wd.right T1.w)))).1;have ac:(ops i).v.length=7:=nC _;simp (disch:=omega) only[go_sem,r,c,b,<- a,l,d];refine((T1.adN (ops i) Q (o.dat i E)).gw z).mono ?_;rintro _ u2 ⟨⟨A',B',H',S',m',g',G,W,R,X,Y,p,rfl,T2,hA,hB,ad,hb,hl,ho,k2⟩,wu2⟩;obtain⟨GL,f⟩:=acH (Uw A' B' H' S' G W R X Y p);have gl:GL.length=16:=by rw[f];rfl
  rw[<- f];obtain⟨u3,u4,u5,N,n,O,J,P,I,I5⟩:=TG.Xh a Z T U La Lb T2 hA k2 wu2 f;simp (disch:=omega) only[go_sem,r,c,j,b,gl,N,l,d,<- a,I,n,O,J,P];rw[(Q:min i M+1=min (i+1) M)]at I5;refine C _ _ I5 ⟨?_,?_,?_,?_,?_⟩ <;> simp (disch:=omega) only[go_sem,r,t4,c,j,b]
 simp (disch:=omega) only[go_sem,r,b,E];have hN:min (i+1) M=min i M:=Q;rw[hN]at C;refine C _ _ h ⟨?_,?_,?_,?_,?_⟩ <;> simp (disch:=omega) only[go_sem,r,t4,c,j,b]
def adv{x y i:Nat}{v3 v4:V}{t:St}{tm:T V}{K:fA}{M oo e:Nat}{q:Option (Nat×Nat)}{ops:Nat->Wb}(hM:M≤1990000000000)(o:pT kI AK cK D q e M oo ops)(W:x≠y)(h:TwI kI AK cK D x y t N (min i M))(F:FxT tm v3 (.slice q M e) x y i)(C:∀u s,TwI kI AK cK D x y s N (min (i+1) M)->FxT u v3 (.slice q M e) x y i->wp G0 [] (Vp twC) ⟨u,[]⟩ s K):
  wp G0 [] (Vp twY) ⟨tm,[]⟩ t K:=by
 obtain⟨t3,r,j,c,b⟩:=F;rw[lE];simp only[aaf,twC,twY,twB,twF,twR,twL,c10]at C⊢;refine aaG [true] ?_;simp only[aaH];by_cases E:i<M
 .obtain⟨A,H,B,S,m,g,cs,mk,hv,ot,pc,mks,B2,S2,m2,g2,cs2,mk2,ot2,pc2,K9,T,La,Lb⟩:=h.swap;have wt:=T.w.gw;obtain⟨ob,rfl,rfl,L⟩:=o.load E;obtain⟨u1,a⟩:=acH (t.new (.acM 16 zG .nil));have z:GW u1:=by rw[a];exact wt.new _ rfl
  have k:TP t u1:=by rw[a];exact(Gr.g).ext
  have l:=(La.ext k wt).ldA;have T1:=T.ext k z;have d:=(L (Wd.right (Wd.right (Wd.right T1.w)))).1;have ac:(ops i).v.length=7:=nC _;simp (disch:=omega) only[go_sem,r,c,b,<- a,l,d];refine((T1.adN (ops i) Q (o.dat i E)).gw z).mono ?_;rintro _ u2 ⟨⟨A',B',H',S',m',g',G,X,U,Y,Z,p,rfl,T2,hA,hB,ad,hb,hl,ho,k2⟩,wu2⟩;obtain⟨GL,f⟩:=acH (Uw A' B' H' S' G X U Y Z p);have gl:GL.length=16:=by rw[f];rfl
  rw[<- f];obtain⟨u3,u4,u5,O,n,P,J,R,I,I5⟩:=TG.Xh a wt T W.symm La Lb T2 hA k2 wu2 f;simp (disch:=omega) only[go_sem,r,c,j,b,gl,O,l,d,<- a,I,n,P,J,R];rw[(Q:min i M+1=min (i+1) M)]at I5;refine C _ _ I5.swap ⟨?_,?_,?_,?_,?_⟩ <;> simp (disch:=omega) only[go_sem,t3,r,j,c,b]
 simp (disch:=omega) only[go_sem,r,b,E];have hN:min (i+1) M=min i M:=Q;rw[hN]at C;refine C _ _ h ⟨?_,?_,?_,?_,?_⟩ <;> simp (disch:=omega) only[go_sem,t3,r,j,c,b]
def adq{x y:Nat}{t:St}{tm:T V}{K:fA}{M X e a N m:Nat}{q o:Option (Nat×Nat)}{ops B:Nat->Wb}(U:M≤1990000000000)(A:pT kI AK cK D q e M X ops)(z:a≤1990000000000)(l:pT kI AK cK D o m a N B)(k:x≠y)(h:TwI kI AK cK D x y t 0 0)(p:tm.get 3=some (.slice q M e))(r:tm.get 4=some (.slice o a m))(f:tm.get 11=some (.acK x 0))(g:tm.get 17=some (.acK y 0))(S:∀u s,TwI kI AK cK D x y s M a->u.get 11=some (.acK x 0)->u.get 17=some (.acK y 0)->wp G0 [] (Vp twR) ⟨u,[]⟩ s K):
  wp G0 [] (Vp twL) ⟨tm,[]⟩ t K:=by
 rw[lE];simp only[aaf,twC,twY,twB,twF,twR,twL,c10]at S⊢;refine aaG [true] ?_;simp only[aaH];simp (disch:=omega) only[go_sem];refine bW (fun n fr t=>fr.defers=[]∧∃i,i+n=max M a∧FxT fr.tmps (.slice q M e) (.slice o a m) x y i∧TwI kI AK cK D x y t (min i M) (min i a)) ?_ (max M a) ?_
 .rintro n ⟨tm,ds⟩ t ⟨hd,i,hi,F,I⟩;simp only at hd F;subst hd;obtain⟨p,r,f,g,j⟩:=id F;by_cases c1:i<M
  .refine aaG [true,false,false] ?_;simp only[aaH];simp (disch:=omega) only[go_sem,p,r,j];refine adu (v3:=.slice q M e) (v4:=.slice o a m) U A k I ⟨?_,?_,?_,?_,?_⟩ fun O Y H C=>adv (v3:=.slice q M e) (v4:=.slice o a m) z l k H C fun P s2 J E=>ado J E fun R Z L G=>?_
   iterate 5 simp (disch:=omega) only[go_sem,p,r,f,g,j]
   obtain⟨v,w,b,c,d⟩:=G;simp (disch:=omega) only[go_sem,v,w,b,c,d];refine⟨n-1,Q,i+1,Q,⟨?_,?_,?_,?_,?_⟩,L⟩ <;> simp (disch:=omega) only[go_sem,v,w,b,c,d]
  by_cases W:i<a
  .refine aaG [true,false,false] ?_;simp only[aaH];simp (disch:=omega) only[go_sem,p,r,j,c1];refine adu (v3:=.slice q M e) (v4:=.slice o a m) U A k I ⟨?_,?_,?_,?_,?_⟩ fun O Y H C=>adv (v3:=.slice q M e) (v4:=.slice o a m) z l k H C fun P s2 J E=>ado J E fun R Z L G=>?_
   iterate 5 simp (disch:=omega) only[go_sem,p,r,f,g,j]
   obtain⟨v,w,b,c,d⟩:=G;simp (disch:=omega) only[go_sem,v,w,b,c,d];refine⟨n-1,Q,i+1,Q,⟨?_,?_,?_,?_,?_⟩,L⟩ <;> simp (disch:=omega) only[go_sem,v,w,b,c,d]
  simp (disch:=omega) only[go_sem,p,r,j,c1,W];rw[(Q:min i M=M),(Q:min i a=a)]at I;refine S _ _ I ?_ ?_ <;> simp (disch:=omega) only[go_sem,f,g]
 refine⟨rfl,0,Q,⟨?_,?_,?_,?_,?_⟩,?_⟩
 iterate 4 simp (disch:=omega) only[go_sem,p,r,f,g]
 .simp (disch:=omega) only[go_sem];rfl
 rw[Nat.zero_min,Nat.zero_min];exact h
variable {x y:Nat}
def adk{t:St}{tm:T V}{K:fA}(hD:∀{q n e bs} {s:St},D q n e bs->Wd s kI AK cK->Ls s 1 n (bs.map fun x=>AM.V.int .u8 (x:Nat)) (.slice q n e))(hN:N≤1990000000000)(cc:N2≤1990000000000)(h:TwI kI AK cK D x y t N N2)(c:tm.get 11=some (.acK x 0))(d:tm.get 17=some (.acK y 0))(hK:∀R s,TwI kI AK cK D x y s N N2->R.get 11=some (.acK x 0)->R.get 17=some (.acK y 0)->wp G0 [] (Vp twF) ⟨R,[]⟩ s K):
  wp G0 [] (Vp twR) ⟨tm,[]⟩ t K:=by
 obtain⟨A,H,B,S,m,g,cs,mk,hv,ot,pc,mks,B2,S2,m2,g2,cs2,mk2,ot2,pc2,K9,T,U,Ly⟩:=h;have P0:=T.v.pc.ls T.w;obtain⟨qp,ep,rfl⟩:=P0.is;obtain⟨qq,eq,rfl, -⟩:=T.i.pc.is;obtain⟨lx,F⟩:=acH (Uw A B H S cs mk hv ot (.slice qp g.P.length ep) mks);obtain⟨ly,af⟩:=acH (Uw A B2 H S2 cs2 mk2 hv ot2 (.slice qq g2.P.length eq) K9);have b2:lx[0]?=some (.acK (A .heap) 0):=by rw[F];rfl
 have Z:lx[14]?=some (.slice qp g.P.length ep):=by rw[F];rfl
 have C:ly[14]?=some (.slice qq g2.P.length eq):=by rw[af];rfl
 rw[<- F]at U;rw[<- af]at Ly;have b4:=T.t.x.Ue;have b5:=T.t.y.Ue;rw[lE];simp only[aaf,twC,twY,twB,twF,twR,twL,c10]at hK⊢;refine aaG [true] ?_;simp only[aaH];simp (disch:=omega) only[go_sem];refine bW (fun n fr t=>fr.defers=[]∧fr.tmps.get 11=some (.acK x 0)∧fr.tmps.get 17=some (.acK y 0)∧∃i,i+n=g.P.length∧fr.tmps.get 23=some (.i (i:Nat))∧
  TG t A H B S m g cs mk hv ot (.slice qp g.P.length ep) mks B2 S2 m2 g2 cs2 mk2 ot2 (.slice qq g2.P.length eq) K9 kI AK cK D N N2∧Lo t (NmT H A S B m S2 B2 m2 kI AK) x 16 lx∧Lo t (NmT H A S B m S2 B2 m2 kI AK) y 16 ly) ?_ g.P.length ?_
 .rintro n ⟨tm,ds⟩ t ⟨hd,c,d,i,hi,O,T,U,Ly⟩;simp only at hd c d O;subst hd;have wt:=T.w.gw;by_cases ci:i<g.P.length
  .have P8:VF t g.P (.slice qp g.P.length ep):=T.v.pc.ls T.w;obtain⟨pb,po,bY,b6,ba,bb,W, -⟩:=VF.at P8 (i:=i) ci;cases bY;obtain⟨b,bu⟩:=acH (g.P[i]'ci);rw[<- bu]at ba bb W;have ah:b∈g.P:=by rw[bu];exact Wm _
   obtain⟨cn,dd,aS,bT,cf⟩:=T.t.x.ZU ah;have ck:=T.t.x.range dd aS;obtain⟨co,b3⟩:=T.t.x.bytes b ah;obtain⟨ez,f⟩:=acH (j6 b);have bS:ez.all V.Tr=true:=by rw[f];rfl
   have aM:ez.length=3:=by rw[f];rfl
   have ad:ez[0]?=some (.u b.p):=by rw[f];rfl
   have aJ:ez[1]?=some (.u b.s):=by rw[f];rfl
   have aL:ez[2]?=some (.slice b.q b.n b.e):=by rw[f];rfl
   have ag:t.load pb (po+i*3) 3=some ez:=by rw[f];exact W
   obtain⟨t9, -,Y,w9,e9,L9⟩:=Lo.Ts (z:=zP) T.w aM bS;have ar:=U.ext e9 wt;have bw:=Ly.ext e9 wt;have T9:=T.ext e9 w9;obtain⟨z0,bl⟩:=acH (t.next);rw[<- bl]at Y L9;obtain⟨fl,pl,fc,iv⟩:=T.t.x.Uk.UB;simp (disch:=omega) only[go_sem,c,d,O,U.cl,Z,ag,aM,Y,<- bl,L9.cl,ar.cl,b2,ad,aL];refine((PC T9.w T.t.x.Uk (a:=b.p) (n:=b.n) fun hn=>iv.acp (T.t.x.Vo dd aS) bT hn Q).gw w9).mono ?_;rintro _ bv ⟨⟨⟨u,rfl,hu⟩,h10,k10⟩,w10⟩;have bC:TG bv A H B S m g cs mk hv ot (.acL pb po g.P.length 3) mks B2 S2 m2 g2 cs2 mk2 ot2 (.slice qq g2.P.length eq) K9 kI AK cK D N N2:=⟨h10,T.t,T.v,T.i⟩;have am:=L9.T9 k10;have ap:=ar.T9 k10;have av:=bw.T9 k10;have b1:Ls bv 1 b.n (iO H b.p b.n) (.slice b.q b.n b.e):=by
    by_cases hn:0<b.n
    .have:=hD (b3 hn) (Wd.right (Wd.right (Wd.right h10)))
     rwa [HE]at this
    exact⟨⟨_,_,rfl⟩,by unfold iO;simp,fun h=>absurd h hn⟩
   simp (disch:=omega) only[go_sem,am.cl,aL];refine((P1 (x:=fun i=>H.mem (b.p-H.Tj+i)) hu b1 (fun i hi=>by unfold iO;rw[X0,YC hi];rfl) Q).gw w10).mono ?_;rintro _ ca ⟨⟨rfl,rfl⟩,w11⟩;simp (disch:=omega) only[go_sem];refine bW (fun n' fr t'=>fr.defers=[]∧fr.tmps.get 11=some (.acK x 0)∧fr.tmps.get 17=some (.acK y 0)∧fr.tmps.get 23=some (.i (i:Nat))∧fr.tmps.get 24=some (.acK z0 0)∧∃j,j+n'=g2.P.length∧fr.tmps.get 27=some (.i (j:Nat))∧
    TG t' A H B S m g cs mk hv ot (.acL pb po g.P.length 3) mks B2 S2 m2 g2 cs2 mk2 ot2 (.slice qq g2.P.length eq) K9 kI AK cK D N N2∧Lo t' (NmT H A S B m S2 B2 m2 kI AK) x 16 lx∧Lo t' (NmT H A S B m S2 B2 m2 kI AK) y 16 ly∧Lo t' (NmT H A S B m S2 B2 m2 kI AK) z0 3 ez) ?_ g2.P.length ?_
   .rintro n' ⟨R,cb⟩ t' ⟨aP,G,I,J,L,j,hj,M,T',ao,k,bx⟩;simp only at aP G I J L M;subst aP;have al:=T'.w.gw;by_cases cj:j<g2.P.length
    .have Q8:VF t' g2.P (.slice qq g2.P.length eq):=T'.swap.v.pc.ls T'.swap.w;obtain⟨qb,qo,b0,b8,bd,be,X, -⟩:=VF.at Q8 (i:=j) cj;cases b0;obtain⟨yy,bk⟩:=acH (g2.P[j]'cj);rw[<- bk]at bd be X;have bi:yy∈g2.P:=by rw[bk];exact Wm _
     have ce:=T.t.Xv ah bi;obtain⟨cm,d2,aU,cg,ch⟩:=T.t.y.ZU bi;have b9:=T.t.y.range d2 aU;obtain⟨ey,l⟩:=acH (j6 yy);have bN:ey.all V.Tr=true:=by rw[l];rfl
     have ac:ey.length=3:=by rw[l];rfl
     have aB:ey[0]?=some (.u yy.p):=by rw[l];rfl
     have aC:ey[1]?=some (.u yy.s):=by rw[l];rfl
     have o:t'.load qb (qo+j*3) 3=some ey:=by rw[l];exact X
     obtain⟨s9, -,r,v9,f9,M9⟩:=Lo.Ts (z:=zP) T'.w ac bN;have ax:=ao.ext f9 al;have ay:=k.ext f9 al;have E:=bx.ext f9 al;have U9:=T'.ext f9 v9;by_cases c1:b.p<yy.p+yy.s
     .have c2:¬yy.p<b.p+b.s:=Q;simp (disch:=omega) only[go_sem,G,I,J,L,M,k.cl,C,o,ac,r,M9.cl,E.cl,aB,aC,ad,aJ,c2];exact⟨n'-1,Q,j+1,Q,rfl,U9,ax,ay,E⟩
     simp (disch:=omega) only[go_sem,G,I,J,L,M,k.cl,C,o,ac,r,M9.cl,E.cl,aB,aC,ad,aJ,c1];exact⟨n'-1,Q,j+1,Q,rfl,U9,ax,ay,E⟩
    simp (disch:=omega) only[go_sem,G,I,J,L,M,cj,k.cl,C];exact⟨n-1,Q,i+1,Q,rfl,T',ao,k⟩
   simp (disch:=omega) only[go_sem,c,d,O];exact⟨0,Q,rfl,bC,ap,av,am⟩
  simp (disch:=omega) only[go_sem,c,d,O,ci,U.cl,Z];rw[F]at U;rw[af]at Ly;refine hK _ _ ⟨A,H,B,S,m,g,cs,mk,hv,ot,_,mks,B2,S2,m2,g2,cs2,mk2,ot2,_,K9,T,U,Ly⟩ ?_ ?_ <;> simp (disch:=omega) only[go_sem,c,d]
 simp (disch:=omega) only[go_sem,c,d];exact⟨0,Q,rfl,T,U,Ly⟩
def adt{t:St}{tm:T V}{K:fA}(hN:N≤1990000000000)(ac:N2≤1990000000000)(h:TwI kI AK cK D x y t N N2)(d:tm.get 11=some (.acK x 0))(f:tm.get 17=some (.acK y 0))(hK:∀fr s,fr.defers=[]->fr.tmps.get 10=some (.bool true)->K .ret fr s):
  wp G0 [] (Vp twF) ⟨tm,[]⟩ t K:=by
 obtain⟨A,H,B,S,m,g,cs,mk,hv,ot,pc,mks,B2,S2,m2,g2,cs2,mk2,ot2,pc2,K9,T,z,P⟩:=h;have O0:=T.v.ot.ls T.w;obtain⟨qo,Q,rfl⟩:=O0.is;obtain⟨qq,R,rfl, -⟩:=T.i.ot.is;obtain⟨M,a⟩:=acH (Uw A B H S cs mk hv (.slice qo g.O.length Q) pc mks);obtain⟨ly,k⟩:=acH (Uw A B2 H S2 cs2 mk2 hv (.slice qq g2.O.length R) pc2 K9);have p:M[0]?=some (.acK (A .heap) 0):=by rw[a];rfl
 have I:M[1]?=some (.acK (B .TA) 0):=by rw[a];rfl
 have r:M[13]?=some (.slice qo g.O.length Q):=by rw[a];rfl
 have J:ly[1]?=some (.acK (B2 .TA) 0):=by rw[k];rfl
 have u:ly[13]?=some (.slice qq g2.O.length R):=by rw[k];rfl
 rw[<- a]at z;rw[<- k]at P;have W:=T.t.x.Ue;have X:=T.t.y.Ue;obtain⟨U,a1,a2,f2,o⟩:=T.t.aan;have wt:=T.w.gw;rw[lE];simp only[aaf,twC,twY,twB,twF,twR,twL,c10];simp (disch:=omega) only[go_sem,d,f,z.cl,I];refine((DB T.w T.t.x.Uk T.t.x.ok).gw wt).mono ?_;rintro _ s1 ⟨⟨h1,Y⟩,w1⟩;have G:TwW s1 A (cz H (eV S 0)) B (gL S) m B2 S2 m2 kI AK cK:=h1;have C:=z.T9 Y;have l:=P.T9 Y;simp (disch:=omega) only[go_sem,d,f,l.cl,J];refine((DB G.swap U (a2.ok U)).gw w1).mono ?_;rintro _ s2 ⟨⟨h2,Z⟩,w2⟩;have j:=(Lo.swap C).T9 Z;have n:=(Lo.swap l).T9 Z;simp (disch:=omega) only[go_sem,d,f,j.cl,p];refine((EU h2 f2).gw w2).mono ?_;rintro _ s3 ⟨⟨b,rfl,h3,k3⟩,w3⟩;have E:=j.T9 k3;have F:=n.T9 k3;obtain⟨qc,ec,L⟩:∃q e,eO (bf (cz (cz H (eV S 0)) (eV S2 0))) b=.slice q (g.O.length+g2.O.length) e:=by
  rw[<- o];unfold eO;by_cases c:bf (cz (cz H (eV S 0)) (eV S2 0))=[]
  .rw[Ti c,c];exact⟨_,_,rfl⟩
  rw[Tg c];exact⟨_,_,rfl⟩
 rw[L];simp (disch:=omega) only[go_sem,d,f,j.cl,E.cl,n.cl,F.cl,p,r,u,dD];exact hK _ _ rfl (by simp (disch:=omega) only[go_sem])
def HC.adm{κ:Type}{kI:κ->Prop}{AK:κ->Nat}{cK:κ->cA}(h:HC σ A H kI AK cK)(ok:H.OK){c:Nat}(n:c<18446744073709551616)(m:c≠0):
  au G0 [] 17 [.acK (A .heap) 0,.u c] σ fun r s=>if H.Tp<c then r=.tuple [.ptr none,.i 3]∧T5 σ s (Vu H A kI AK) (Vu H A kI AK)else ∃b,r=.tuple [.acK b 0,.i 0]∧Uo s A H (fun _=>b) (ie c) kI AK cK∧T5 σ s (Vu H A kI AK) (VB H A (ie c) (fun _=>b) kI AK):=by
 by_cases c1:H.Tp<c
 .simp only[Ti c1];refine(HC.gQ (H':=H) (P:=fun v f=>v=.tuple [.ptr none,.i 3]∧f=A) h fun s R=>(uM R ok n).mono ?_).mono ?_
  .intro v g d;simp only[Tg m,Ti c1]at d;exact⟨A,d.2,d.1,rfl⟩
  rintro v g ⟨f,W,⟨hv,rfl⟩,k⟩;exact⟨hv,k⟩
 simp only[Tg c1];have o:Wd σ (Sum.elim (Sum.elim H.has fun _:AI=>False) kI) (Sum.elim (Sum.elim A fun _=>0) AK) (Sum.elim (Sum.elim (fW H A) fun _=>.map []) cK):=by
  refine Wd.sub h (fun k=>match k with| .inl (.inl s)=>.inl s| .inl (.inr u)=>.inl .heap| .inr k=>.inr k) ?_ ?_ ?_ ?_
  .rintro((k|k)|k) hk
   .exact hk
   .exact hk.elim
   exact hk
  .rintro((k|k)|k) ((j|j)|j) hk hj e <;> simp_all
  .rintro((k|k)|k) hk
   .rfl
   .exact hk.elim
   rfl
  rintro((k|k)|k) hk
  .exact .inl rfl
  .exact hk.elim
  exact .inl rfl
 refine(Wd.gQ (P:=fun v a f l=>∃b,v=.tuple [.acK b 0,.i 0]∧a=Sum.elim H.has (ie c).has∧f=Sum.elim A (fun _=>b)∧l=Sum.elim (fW H A) ((ie c).X5 (A .heap) fun _=>b)) o fun s w=>(uM (jl w.left) ok n).mono ?_).mono ?_
 .intro v g d;simp only[Tg m,Tg c1]at d;obtain⟨b,hv,R⟩:=d;exact⟨_,_,_,R,b,hv,rfl,rfl,rfl⟩
 rintro v g ⟨a,f,l,W,⟨b,hv,rfl,rfl,rfl⟩,k⟩;refine⟨b,hv,W,k.pre fun hn=>Nm.map ?_ hn⟩;rintro((i|i)|i) hi
 .exact⟨.inl i,hi,rfl⟩
 .exact hi.elim
 exact⟨.inr i,hi,rfl⟩
def adp{t:St}(h:Uo t A H B2 S2 (Sum.elim S.has (Sum.elim (fun i=>(m i).h) kI)) (Sum.elim B (Sum.elim (fun i=>(m i).a) AK)) (Sum.elim (S.X5 (A .heap) B) (Sum.elim (fun i=>(m i).c) cK))):
  TwW t A H B S m B2 S2 (fun _=>noL) kI AK cK∧∀{id}, ¬VB H A S2 B2 (Sum.elim S.has (Sum.elim (fun i=>(m i).h) kI)) (Sum.elim B (Sum.elim (fun i=>(m i).a) AK)) id->¬NmT H A S B m S2 B2 (fun _=>noL) kI AK id:=by
 constructor
 .refine Wd.sub h (fun k=>match k with| .inl (.inl x)=>.inl (.inl x)| .inl (.inr i)=>.inr (.inl i)| .inr (.inl i)=>.inr (.inr (.inl i))| .inr (.inr (.inl (.inl i)))=>.inl (.inr i)| .inr (.inr (.inl (.inr i)))=>.inl (.inl .heap)| .inr (.inr (.inr k))=>.inr (.inr (.inr k))) ?_ ?_ ?_ ?_
  .rintro((k|k)|(k|((k|k)|k))) hk
   .exact hk
   .exact hk
   .exact hk
   .exact hk
   .exact hk.elim
   exact hk
  .rintro((k|k)|(k|((k|k)|k))) ((j|j)|(j|((j|j)|j))) hk hj e
   all_goals first
    |exact(show False from hk).elim
    |exact(show False from hj).elim
    |(simp at e;done)
    |(simp at e;rw[e])
  .rintro((k|k)|(k|((k|k)|k))) hk
   .rfl
   .rfl
   .rfl
   .rfl
   .exact hk.elim
   rfl
  rintro((k|k)|(k|((k|k)|k))) hk
  .exact .inl rfl
  .exact .inl rfl
  .exact .inl rfl
  .exact .inl rfl
  .exact hk.elim
  exact .inl rfl
 intro id hn;refine Nm.map ?_ hn;rintro((k|k)|(k|((k|k)|k))) hk
 .exact⟨.inl (.inl k),hk,rfl⟩
 .exact⟨.inr (.inl k),hk,rfl⟩
 .exact⟨.inr (.inr (.inl k)),hk,rfl⟩
 .exact⟨.inl (.inr k),hk,rfl⟩
 .exact hk.elim
 exact⟨.inr (.inr (.inr k)),hk,rfl⟩
abbrev t6(c:Nat):List V:=[.u c,.acJ,.u 0,.u 0,.acJ,.i 0]
def adh{b l o:Int}{c d M oo e M2 bb e2:Nat}{q q2:Option (Nat×Nat)}{ops ax:Nat->Wb}(hD:∀{q n e bs} {s:St},D q n e bs->Wd s kI AK cK->Ls s 1 n (bs.map fun x=>AM.V.int .u8 (x:Nat)) (.slice q n e))(W0:Wd σ kI AK cK)(I:0≤b)(hb:b<18446744073709551616)(hc:c<18446744073709551616)(Z:d<18446744073709551616)(hM:M≤1990000000000)(aP:pT kI AK cK D q e M oo ops)(H:M2≤1990000000000)(al:pT kI AK cK D q2 e2 M2 bb ax):
  au G0 [] 10 [Uu b l o,.u c,.u d,.slice q M e,.slice q2 M2 e2] σ fun v _=>v=.bool true:=by
 refine ai g10 rfl ?_;refine aaG [true,true,true,true,true,true,true,true,true,true] ?_;simp only[aaH];obtain⟨s1,E⟩:=acH (σ.ag [.u b,.i l,.i o]);have w1:GW s1:=by rw[E];exact W0.gw.new _ rfl
 have e1:TP σ s1:=by rw[E];exact(Gr.g).ext
 have W1:=W0.ext e1 w1;have L1:Lo s1 (Nm kI AK) σ.next 3 [.u b,.i l,.i o]:=⟨by rw[E];exact To.cg σ _,rfl,W0.eh (Tx _)⟩
 simp (disch:=omega) only[go_sem,Uu,<- E];refine((W1.AG (P:=fun v=>v=.bool true) fun s w hw=>qJ w hw).gw w1).mono ?_;rintro _ s2 ⟨⟨rfl,W2,k2⟩,w2⟩;have L2:=L1.T9 k2;simp (disch:=omega) only[go_sem,L2.ld];refine((W2.BI I hb hc).gw w2).mono ?_;rintro y s3 ⟨⟨m1,m2⟩,w3⟩;by_cases K:je b l o c
 .obtain⟨A,B,rfl,h3,k3⟩:=m1 K;have L3:=L2.T9 k3;obtain⟨m0,G4,h,af⟩:=mO D I K h3;have hR:=fun(σ:St)=>O6 (σ:=σ) K.1
  have ay:=fun(J:je b l o d)=>Two.start (D:=D) I K J
  have Y:∀d:Nat,d≠0->¬(di b.toNat l.toNat o.toNat).Tp<d->je b l o d:=fun d a b=>⟨K.1,a,Q⟩
  generalize di b.toNat l.toNat o.toNat=f at h3 k3 L3 G4 h af hR ay Y;obtain⟨s4,am⟩:=acH (s3.Ts 16 zG (U9 (Vc c b l o) (A .heap) (B .TA)));have F:=aQ (σ:=s3) (z:=zG) (vs:=U9 (Vc c b l o) (A .heap) (B .TA)) (n:=16) (Vt ny) rfl;have e4:TP s3 s4:=by rw[am];exact(Gr.g).ext
  rw[<- am]at G4 h F;have ac:(V.agg (U9 (Vc c b l o) (A .heap) (B .TA))).cells=U9 (Vc c b l o) (A .heap) (B .TA):=rfl;obtain⟨x,hx⟩:=acH (s3.next);obtain⟨p,hp⟩:=acH (σ.next);have be:p≠x:=by have:=L3.UH.lt w3;omega
  rw[<- hp]at L3;rw[<- hx]at h F;have L4:=(L3.ext e4 w3).of (mt (af _));obtain⟨h4,ba,cs,mk,hv,ot,pc,mks,aM,W⟩:=G4;have j:U9 (Vc c b l o) (A .heap) (B .TA)=Uw A B f (ie c) cs mk hv ot pc mks:=V.agg.inj aM;obtain⟨lx,t⟩:=acH (U9 (Vc c b l o) (A .heap) (B .TA));have ad:lx.length=16:=by rw[t];exact ny
  rw[<- t]at h F ac j;have ar:lx[0]?=some (.acK (A .heap) 0):=by rw[t];rfl
  have w4:=h4.gw;have ah:f.OK:=by obtain⟨fl,pl,fc,i⟩:=ba.Uk.UB;exact i.ok
  have bd:(lx.drop 8).take 5=[.u f.Tj,.i f.TB,.i f.Th,.i f.Tl,hv]:=by rw[j];rfl
  have f6:bZ [V.u 0,.acJ,.u 0,.u 0,.acJ,.i 0] [(0,1,V.u d),(1,1,V.acJ),(2,1,V.u 0),(3,1,V.u 0),(4,1,V.acJ),(5,1,V.i 0)]=some (t6 d):=rfl;rw[<- t];simp (disch:=omega) only[go_sem,ac,ad,<- hp,<- hx,F,h.cl,ar];by_cases d0:d=0
  .refine((HC.Lg (Uo.hc h4) ah Z).gw w4).mono ?_;rintro y s5 ⟨hy,L⟩;rw[Ti d0]at hy;obtain⟨rfl, -⟩:=hy;have r:(d:Int)=0:=Q;simp (disch:=omega) only[go_sem,r]
  have r:¬(d:Int)=0:=Q;refine((HC.adm (Uo.hc h4) ah Z d0).gw w4).mono ?_;rintro y s5 ⟨hy,L⟩;have N:=L4.of Cp.1;have T:=h.of Cp.1;by_cases d1:f.Tp<d
  .rw[Ti d1]at hy;obtain⟨rfl,k5⟩:=hy;have L5:=N.T9 k5;have G:((f.Tp:Nat):Int)<(d:Int):=Q;simp (disch:=omega) only[go_sem,r,L5.ld];refine((jI (b:=b) (l:=l) (o:=o) L).gw L).mono ?_;rintro _ s6 ⟨⟨rfl,g6⟩,w6⟩;simp (disch:=omega) only[go_sem,Uu];refine((hR s6).gw w6).mono ?_;rintro _ s7 ⟨⟨rfl,g7⟩,w7⟩;simp (disch:=omega) only[go_sem,G]
  rw[Tg d1]at hy;obtain⟨b2,rfl,h5,k5⟩:=hy;have J:=Y d d0 d1;have G:¬((f.Tp:Nat):Int)<(d:Int):=Q;have L5:=N.T9 k5;have aC:=T.T9 k5;simp (disch:=omega) only[go_sem,r,L5.ld];refine((jI (b:=b) (l:=l) (o:=o) L).gw L).mono ?_;rintro _ s6 ⟨⟨rfl,g6⟩,w6⟩;simp (disch:=omega) only[go_sem,Uu];refine((hR s6).gw w6).mono ?_;rintro _ s7 ⟨⟨rfl,g7⟩,w7⟩;have aJ:=(aC.ext g6.ext L).ext g7.ext w6;obtain⟨T7,n7⟩:=adp (Wd.ext (Wd.ext h5 g6.ext w6) g7.ext w7);have O:=aJ.of n7;obtain⟨s8, -,ao,w8,e8,aB⟩:=Lo.Ts (n:=6) (z:=[.u 0,.acJ,.u 0,.u 0,.acJ,.i 0]) (vs:=t6 d) T7 rfl rfl;have T8:=TS.ext T7 e8 w8;have k:=O.ext e8 w7;obtain⟨ly,C⟩:=acH (Uw A (fun _=>b2) f (ie d) (.acJ) (.acJ) hv (.acJ) (.acJ) (.acJ));have aL:bZ zG [(0,1,V.acK (A .heap) 0),(1,1,V.acK b2 0),(2,6,V.agg (t6 d)),(8,5,V.agg [.u f.Tj,.i f.TB,.i f.Th,.i f.Tl,hv]),(13,1,V.acJ),(14,1,V.acJ),(15,1,V.acJ)]=some ly:=by rw[C];rfl
  have aU:ly.all V.Tr=true:=by rw[C];exact(adE.Tr (S:=ie d) (m:=fun _=>noL) (g:=⟨[],[],[],[]⟩) ⟨LM.nil,LM.nil,LM.nil,LM.nil,LM.nil⟩ W.hd.Tr _ _ _)
  have av:ly.length=16:=by rw[C];rfl
  obtain⟨s9, -,ap,w9,e9,U⟩:=Lo.Ts (z:=zG) T8 av aU;have T9:=TS.ext T8 e9 w9;have R:=k.ext e9 w8;have aS:x≠s8.next:=by have:=k.UH.lt w8;omega
  simp (maxSteps:=9999999) (disch:=omega) only[go_sem,G,aG,f6,ao,k.cl,k.ld,ar,bd,aB.ld,aL,av,ap];rw[j]at R;rw[C]at U;have I9:TwI kI AK cK D x s8.next s9 0 0:=⟨_,_,_,_,_,_,_,_,_,_,_,_,_,_,_,_,_,_,_,_,_,⟨T9,ay J,W,⟨LM.nil,LM.nil,LM.nil,LM.nil,LM.nil⟩⟩,R,U⟩;refine adq hM aP H al aS I9 ?_ ?_ ?_ ?_ fun bi u1 I1 a1 b1=>adk hD hM H I1 a1 b1 fun bk u2 I2 a2 b2=>adt hM H I2 a2 b2 fun fr u hd X=>?_
  iterate 4 simp (maxSteps:=9999999) (disch:=omega) only[go_sem]
  obtain⟨tm,ds⟩:=fr;simp only at hd X;subst hd;simp (maxSteps:=9999999) (disch:=omega) only[go_sem,X]
 obtain rfl:=m2 K;simp (maxSteps:=9999999) (disch:=omega) only[go_sem]
