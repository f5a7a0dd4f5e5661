import Derived.Test.YtlgmpheammbacaaGreatDoorPys
set_option linter.all false
set_option maxRecDepth 1000000
set_option maxHeartbeats 8000000
attribute [local irreducible] AM.T.get AM.T.set
namespace AM
open Go
noncomputable section
variable {Γ:T AF} {M:List fK}
section
variable {k k':IntKind} {a b:Int}
end
theorem Mx{a:Bool}{b:Nat}{c:Nat}{d:Tt}:bh (TL.part a b c d)=false:=(rfl)
theorem MK{a:Bool}{b:Nat}{c:Nat}{d:Tt}:bQ (TL.part a b c d)=false:=(rfl)
theorem NK{a:Bool}{b:Nat}{c:Nat}{d:Tt}:cM (TL.part a b c d)=false:=(rfl)
section
variable {tm:T V} {ds:T4} {σ:St} {K:V -> T4 -> St -> Prop}
end
attribute [go_sem] Mx MK NK
end
end AM
namespace Go.Proofs.YtlgmpheammbacaaGreatDoor
open AM Go
noncomputable section
section
variable {σ σ':St} {A:Tu -> Nat} {H:aa} {fl pl fc:Nat -> List Nat}
def BC(h:aw σ A H)(hg:T3 H):
  au G0 [] 41 [.acK (A .heap) 0] σ fun r s=>∃b,r=eO (bf H) b∧LH s A H (bf H) b:=by
 refine ai g41 rfl ?_;obtain⟨fl,pl,fc,o⟩:=hg.UB;obtain⟨v,t,⟨k,a⟩,d⟩:=kL h hg.lock;subst a;obtain⟨v,s2,⟨b,a,g⟩,e⟩:=Af k (o.aC 1);have m:bf (H.aC 1)=bf H:=rfl;rw[m]at a g;subst a;obtain⟨v,u,⟨p,l,c,a⟩,f⟩:=HC.call (Γ:=G0) (Γ':=G0) (M:=[]) (H':=H) (P:=fun v j=>A=j∧v=.tuple []) (fun _ _ h=>h) (fun _ h=>nomatch h) g fun s hs=>(fg hs rfl).mono fun v q ⟨i,n⟩=>⟨A,by rw[ff hg.lock]at i;exact i,rfl,n⟩
 subst c a;simp only[go_sem];refine ab d ?_;simp only[go_sem];refine ab e ?_;simp only[go_sem,b7];refine⟨.inr fi,ab f ?_⟩;simp only[go_sem];exact⟨b,rfl,l⟩
def ga(b:Tv H fl pl fc (fun _=>False)){a s:Nat}:(a,s)∈bf H↔aV H a s:=by
 unfold bf gi aV;rw[abo];constructor
 .rintro⟨x,hx,h⟩;rw[Ws]at hx;exact⟨x,hx,(gJ b hx).1 h⟩
 rintro⟨x,hx,h⟩;exact⟨x,Ws.2 hx,(gJ b hx).2 h⟩
def rF:∀{l m:List (Nat×Nat)},l.Pairwise (fun a b=>a.1<b.1)->m.Pairwise (fun a b=>a.1<b.1)->(∀x,x∈l↔x∈m)->l=m
 | [],[],_,_,_=>rfl
 | [],y ::m,_,_,h=>absurd ((h y).2 (VY ..)) Y
 |x ::l,[],_,_,h=>absurd ((h x).1 (VY ..)) Y
 |x ::l,y ::m,hl,hm,h=>by
  rw[aaD]at hl hm;have e:x=y:=by
   rcases U8.1 ((h x).1 (VY ..))with e|hx
   .exact e
   rcases U8.1 ((h y).2 (VY ..))with e|hy
   .exact e.symm
   have:=hm.1 x hx;have:=hl.1 y hy;omega
  subst e;congr 1;refine rF hl.2 hm.2 fun z=>?_
  constructor
  .intro d;rcases U8.1 ((h z).1 (VO _ d))with e|c
   .have:=hl.1 z d;rw[e]at this;omega
   exact c
  intro d;rcases U8.1 ((h z).2 (VO _ d))with e|c
  .have:=hm.1 z d;rw[e]at this;omega
  exact c
end
section
attribute [local go_sem] bJ bO bM bP bI bo bj bV bD bK VG Wa VU WZ dx dv cH bg cU bq bG cX cZ br bH cY cB UR UK aj az aD TH TK TZ bm bF aW aO aI bz aX bt aY dM aR bU dN aZ bc aT bA
section
variable {σ σ' s:St}
def MH{L:List (Nat×Nat)}{v:V}(h:U6 σ L v)(Ue:L.length<9000000000000000000):au G0 [] 147 [v] σ fun y s=>y=.u (dC L%18446744073709551616:Nat)∧s=σ:=by
 refine ai g147 rfl ?_;obtain⟨q,e,m⟩:=h.is;simp (disch:=omega) only[go_sem];refine bW (fun n fr t=>fr.defers=[]∧t=σ∧fr.tmps.get 0=some v∧∃i,i+n=L.length∧fr.tmps.get 4=some (.i (i:Nat))∧fr.tmps.get 3=some (.u (dC (L.take i)%18446744073709551616:Nat))) ?_ L.length ?_
 .rintro n ⟨tm,ds⟩ t ⟨hd,rfl,d,i,hi,g,f⟩;simp only at hd d f g;subst hd;by_cases c:i<L.length
  .obtain⟨b,o,a,p,c1,j,l⟩:=h.at c;rw[a]at d;have hs:dC (L.take (i+1))=dC (L.take i)+L[i].2:=by rw[X1 c];unfold dC;rw[WA,List.sum_append];simp
   have k:IntKind.u64.wrap (((dC (L.take i)%18446744073709551616:Nat):Int)+(L[i].2:Int))=((dC (L.take (i+1))%18446744073709551616:Nat):Int):=by rw[NB,hs];omega
   simp (disch:=omega) only[go_sem,d,f,g,j,k];exact⟨n-1,Q,Uj some a.symm,i+1,Q,rfl,rfl⟩
  rw[m]at d;rw[VZ Q]at f;simp (disch:=omega) only[go_sem,d,f,g]
 simp (disch:=omega) only[go_sem];exact⟨0,Q,rfl,rfl⟩
def Nl.store{z n off:Nat}{vs xs:List V}{b:Nat}(h:Nl σ s z n vs (.acL b 0 n z))(e:TP σ s)(w0:GW σ)(w:GW s)(x:off+xs.length≤n*z)(N:xs.all V.Tr=true):
  ∃s',s.store b off xs=some s'∧Nl σ s' z n (vs.take off++xs++vs.drop (off+xs.length)) (.acL b 0 n z)∧TP σ s'∧GW s'∧s'.next=s.next∧∀id n' f,To s id n' f->id≠b->To s' id n' f:=by
 obtain⟨r,R⟩:σ.next≤b∧Row s b (n*z) (Tn vs):=by
  rcases h.UH with⟨_,D⟩|⟨b',D,r,R⟩
  .cases D
  cases D;exact⟨r,R⟩
 obtain⟨s',hs,J,hn,v,_,_⟩:=R.store x N;obtain⟨g,m,zz,t,hg,P,O,T,G,l⟩:=qK hs;have Z:=w.store hs;have j:=h.len;have q:∀k,s'.row k=s.row k:=fun k=>by unfold St.row;rw[v]
 have C:g≠0->∀a,a<σ.next->a∈s.row g->∀o,s.Tq.get a=some o->o.Ty=false:=by
  intro c a ha S o d;cases y:o.Ty with
  |false=>rfl
  |true=>
   have F:=w.TG _ _ _ S d y;rw[e.TE a ha]at d;have H:=(w0.mem a o d (by rw[F];exact c)).2;obtain⟨E,_⟩:=w.mem b _ hg c;rw[F]at H;have W:s.row g=σ.row g:=e.row g H;have I:b∈s.row g:=E;rw[W]at I;have:=w0.lt _ _ I;omega
 refine⟨s',hs,⟨?_,.inr ⟨b,rfl,r,J.congr (Tx _) fun i hi=>?_⟩⟩,⟨by rw[hn];exact e.next,fun a ha=>?_,fun k x=>(q k).trans (e.row k x)⟩,Z,hn,?_⟩
 .rw[UN,UN,Va,Z5,j];omega
 .unfold UO Tn;simp only[U7];by_cases c:off≤i∧i<off+xs.length
  .rw[Ti c,Wh (by rw[UN,Va,j];omega),WM (by rw[Va];omega),Va,j,Xb Q]
  rw[Tg c];by_cases K:i<off
  .rw[Xj,Wh (by rw[Va,j];omega),YD,Ti K]
  rw[WM (by rw[UN,Va,j];omega),UN,Va,j,Xb Q,Z4];congr 2;omega
 .rw[l,Tg Q];by_cases c:g≠0∧a∈s.row g
  .rw[Ti c];have:=e.TE a ha;cases d:s.Tq.get a with
   |none=>rw[d]at this;rw[<- this];rfl
   |some o=>
    have hd:=C c.1 a ha c.2 o d;rw[d]at this;rw[<- this];cases o <;> first|rfl|cases hd
  rw[Tg c];exact e.TE a ha
 intro id n' f L B;obtain⟨X,z',Y,A,p,u⟩:=L;have M:¬(g≠0∧id∈s.row g):=fun⟨E,U⟩=>E (w.TG _ _ _ U p rfl).symm
 exact⟨X,z',Y,A,by rw[l,Tg B,Tg M];exact p,u⟩
def KD(M:List (Nat×Nat))(k:Nat)(x:Nat×Nat)(e:k<M.length):(fl gK M).take (k*2)++[.u x.1,.u x.2]++(fl gK M).drop (k*2+2)=fl gK (M.set k x):=by
 have b:=zW ik M k;have c:(fl gK M).drop (k*2+2)=fl gK (M.drop (k+1)):=by
  have f:=zW ik M (k+1);have d:fl gK M=fl gK (M.take (k+1))++fl gK (M.drop (k+1)):=by unfold fl;rw[<- Yo,YI]
  have a:=tv ik (M.take (k+1));rw[Va,Xb Q]at a;rw[(Q:k*2+2=(k+1)*2)]
  conv=>lhs;rw[d]
  rw[List.drop_append,YW Q,a,Yf];rfl
 rw[b,c,List.set_eq_take_append_cons_drop,Ti e];show _=List.flatMap gK _;rw[Yo,List.flatMap_cons,Xj];rfl
def U6.mid{l:List (Nat×Nat)}{b n:Nat}(h:U6 σ l (.acL b 0 n 2))(A B:List (Nat×Nat))(x:Nat×Nat)(e:l=A++x ::B):
  b<σ.next∧σ.cell b (A.length*2)=some (.u x.1)∧σ.cell b (A.length*2+1)=some (.u x.2)∧σ.load b (A.length*2) 2=some [.u x.1,.u x.2]:=by
 have hi:A.length<l.length:=by rw[e];simp
 obtain⟨k,o,j,i,c1,a,c⟩:=h.at hi;have hx:l[A.length]=x:=by subst e;simp
 have d:=XP (V.slice.inj j).1;obtain⟨f,g⟩:=Prod.mk.inj d;subst f g;rw[hx]at c1 a c;rw[Vk]at c1 a c;exact⟨i,c1,a,c⟩
abbrev GY(l:List (Nat×Nat)):Prop:=l.Pairwise fun a b=>a.1<b.1
theorem IS{L:List (Nat×Nat)}{v:V}(w:GW σ)(hL:U6 σ L v)(Ue:L.length≤1000001)(nd:(L.map (·.1)).Nodup):
  au G0 [] 97 [v] σ fun y s=>(∃M,M.Perm L∧GY M∧Nl σ s 2 M.length (fl gK M) y)∧TP σ s:=by
 refine ai g97 rfl ?_;obtain⟨q,e,hv⟩:=hL.is;simp (maxSteps:=9^9) (disch:=omega) only[go_sem];refine bW (fun n fr t=>fr.defers=[]∧fr.tmps.get 0=some v∧GW t∧TP σ t∧∃i M x,i+n=L.length∧fr.tmps.get 4=some (.i (i:Nat))∧fr.tmps.get 3=some x∧M.Perm (L.take i)∧GY M∧Nl σ t 2 i (fl gK M) x) ?_ L.length ?_
 .rintro n ⟨tm,ds⟩ t ⟨hd,C,wt,g,i,M,x,hi,E,D,O,hR,N⟩;simp only at hd C D E;subst hd;by_cases c:i<L.length
  .obtain⟨bb,o,ao,av,d1,d2,T⟩:=hL.at c;have ad:M.length=i:=by rw[O.length_eq,Va];omega
   obtain⟨y,hy⟩:=acH (L[i]);have ah:∀z∈M,z.1≠y.1:=by intro z p e;have ap:=O.mem_iff.1 p;obtain⟨j,hj,ac⟩:=Zn ap;rw[Va]at hj;rw[List.getElem_take]at ac;have W:=aaE.1 nd j i (by simp;omega) (by simp;omega) Q;simp only[YX]at W;exact W (by rw[ac,e,hy])
   have hP:(M++[y]).Perm (L.take (i+1)):=by rw[X1 c,hy];exact O.append_right _
   rw[<- hy]at T;obtain⟨v',s',ha,N',g',w'⟩:=N.push (y:=16) (x:=[.u y.1,.u y.2]) g w wt Q rfl rfl (by unfold aq;omega) (by unfold aq;omega);rw[om]at N';obtain⟨b,rfl⟩:∃b,v'=.acL b 0 (i+1) 2:=by
    rcases N'.UH with⟨h,_⟩|⟨b,h,_⟩
    .omega
    exact⟨b,h⟩
   have f2:bZ (bL VA 1) [(0,2,V.agg [.u y.1,.u y.2])]=some [.u y.1,.u y.2]:=rfl;have f:=C;rw[ao]at f;simp (maxSteps:=9^9) (disch:=omega) only[go_sem,f,D,E,g.load,T,aG,f2,ha];clear f D ha N;refine bW (fun k fr t=>fr.defers=[]∧fr.tmps.get 0=some v∧fr.tmps.get 4=some (.i (i:Nat))∧fr.tmps.get 3=some (.acL b 0 (i+1) 2)∧GW t∧TP σ t∧∃A B,A++B=M∧A.length=k∧fr.tmps.get 5=some (.i (k:Nat))∧(∀z∈B,y.1<z.1)∧Nl σ t 2 (i+1) (fl gK (A++y ::B)) (.acL b 0 (i+1) 2)) ?_ i ?_
   .rintro k ⟨tm,ds⟩ J ⟨hd,C,E,D,r,I,A,B,l,hk,t5,hB,Nt⟩;simp only at hd C D E t5;subst hd;have d:(A++y ::B).length=i+1:=by have:=Uj List.length l;simp at this⊢;omega
    have R:U6 J (A++y ::B) (.acL b 0 (i+1) 2):=by have:=Nt.ls r;unfold U6;rw[d];exact this
    have done:GY (A++y ::B)->∃P H x',P+(n-1)=L.length∧i+1=P∧(.acL b 0 (i+1) 2)=x'∧H.Perm (L.take P)∧GY H∧Nl σ J 2 P (fl gK H) x':=fun hr=>by refine⟨i+1,_,_,Q,rfl,rfl,?_,hr,Nt⟩;refine List.Perm.trans ?_ hP;rw[<- l];exact aaF.trans (List.perm_append_singleton y (A++B)).symm
    have G:GY (A++B):=by rw[l];exact hR
    rcases List.eq_nil_or_concat A with rfl|⟨F,u,rfl⟩
    .have ag:k=0:=hk.symm;subst ag;obtain⟨P,H,x',K,rfl,rfl,h4,h5,h6⟩:=done (aaD.2 ⟨hB,G⟩);simp (maxSteps:=9^9) (disch:=omega) only[go_sem,C,D,E,t5];exact⟨n-1,Q,r,I,i+1,H,_,Q,rfl,rfl,h4,h5,h6⟩
    rw[List.concat_eq_append]at *;have S:k=F.length+1:=by rw[<- hk];simp
    have ar:=ah u (by rw[<- l];simp);obtain⟨af,m1,m2,m3⟩:=R.mid F (y ::B) u Y;obtain⟨_,p1,p2,p3⟩:=R.mid (F++[u]) B y rfl;rw[UN,YF, <- S]at p1 p2 p3;rw[(Q:F.length=k-1)]at m1 m2 m3;have ax:k≤i:=by have:=d;simp at this;omega
    by_cases cy:y.1<u.1
    .have Z:=aQ (σ:=J) (z:=VA) (n:=2) (vs:=[V.u y.1,.u y.2]) Y rfl;have w4:=r.Ts (n:=2) (z:=VA) (vs:=[V.u y.1,.u y.2]) Y rfl;have g4:=(aH.Ts J 2 VA [V.u y.1,.u y.2]).ext;have L4:=To.Ts J 2 VA [V.u y.1,.u y.2] rfl;have N4:=Nt.Ui r g4;have e4:=I.trans g4;generalize J.Ts 2 VA [V.u y.1,.u y.2]=s4 at Z w4 g4 L4 N4 e4;obtain⟨s5,al,N5,e5,w5,n5,C5⟩:=N4.store (off:=k*2) (xs:=[.u u.1,.u u.2]) e4 w w4 (by simp;omega) rfl;rw[show k*2+[V.u u.1,.u u.2].length=k*2+2 from rfl,KD _ k u (by rw[d];omega)]at N5;have L5:=C5 _ _ _ L4 Q;obtain⟨s6,am,N6,e6,w6,n6,C6⟩:=N5.store (off:=(k-1)*2) (xs:=[.u y.1,.u y.2]) e5 w w5 (by simp;omega) rfl;rw[show(k-1)*2+[V.u y.1,.u y.2].length=(k-1)*2+2 from rfl,KD _ (k-1) y (by rw[ZG,d];omega)]at N6;have X:((F++[u]++y ::B).set k u).set (k-1) y=F++y ::(u ::B):=by rw[S,Zq];simp[List.set_append]
     rw[X]at N6;have U:s4.load b ((k-1)*2) 2=some [.u u.1,.u u.2]:=by rw[g4.load (m:=J.next) af];exact m3
     simp (maxSteps:=9^9) (disch:=omega) only[go_sem,C,D,E,t5,m1,m2,p1,p2,p3,Z,U,al,L5.bN rfl,am];refine⟨k-1,Q,w6,e6,F,u ::B,by rw[<- l];simp,Q,rfl,?_,N6⟩;intro z p;rcases U8.1 p with rfl|p
     .exact cy
     exact hB z p
    have hr:GY (F++[u]++y ::B):=by
     have K:=Xt.1 G;refine Xt.2 ⟨K.1,aaD.2 ⟨hB,K.2.1⟩,fun a ha z p=>?_⟩;rcases U8.1 p with rfl|p
     .have h2:=Xt.1 K.1;rcases VJ.1 ha with ha|ha
      .have:=h2.2.2 a ha u Y;omega
      rw[VP.1 ha];omega
     exact K.2.2 a ha z p
    obtain⟨P,H,x',K,rfl,rfl,h4,h5,h6⟩:=done hr;simp (maxSteps:=9^9) (disch:=omega) only[go_sem,C,D,E,t5,m1,m2,p1,p2];exact⟨n-1,Q,r,I,i+1,H,_,Q,rfl,rfl,h4,h5,h6⟩
   simp (maxSteps:=9^9) (disch:=omega) only[go_sem,C,E];exact⟨w',g',M,[],Y,ad,(fun z p=>nomatch p),N'⟩
  have f:=C;rw[hv]at f;obtain rfl:i=L.length:=Q;rw[VZ Q]at O;simp (maxSteps:=9^9) (disch:=omega) only[go_sem,f,D,E];exact⟨⟨M,O,hR,by rw[O.length_eq];exact N⟩,g⟩
 simp (maxSteps:=9^9) (disch:=omega) only[go_sem];exact⟨w,TP.refl _,0,[],_,Q,rfl,rfl,Y,List.Pairwise.nil,Nl.nil⟩
end
section
variable {σ σ' s:St}
section
variable {κ:Type} {hasK:κ -> Prop} {AK:κ -> Nat} {cK:κ -> cA} {A:Tu -> Nat} {H:aa}
def HC.JY{g:FuncId}{xs:List V}{P:V->Nat->Prop}{x:cA}{hx:Prop}(h:HC σ A H hasK AK cK)(i:∀σ,aw σ A H->au G0 [] g xs σ fun v s=>∃b,P v b∧HC s A H (fun _:Unit=>hx) (fun _=>b) (fun _=>x)):
  au G0 [] g xs σ fun v s=>∃b,P v b∧HC s A H (Sum.elim hasK fun _:Unit=>hx) (Sum.elim AK fun _=>b) (Sum.elim cK fun _=>x)∧T5 σ s (Vu H A hasK AK) (Vu H A (Sum.elim hasK fun _:Unit=>hx) (Sum.elim AK fun _=>b)):=by
 have o:Wd σ (Sum.elim (Sum.elim H.has fun _:Unit=>False) hasK) (Sum.elim (Sum.elim A fun _=>0) AK) (Sum.elim (Sum.elim (fW H A) fun _=>.map []) cK):=by
  refine Wd.sub h (fun k=>match k with| .inl (.inl s)=>.inl s| .inl (.inr u)=>.inl .heap| .inr k=>.inr k) ?_ ?_ ?_ ?_
  .rintro((k|k)|k) d
   .exact d
   .exact d.elim
   exact d
  .rintro((k|k)|k) ((j|j)|j) d hj e <;> simp_all
  .rintro((k|k)|k) d
   .rfl
   .exact d.elim
   rfl
  rintro((k|k)|k) d
  .exact .inl rfl
  .exact d.elim
  exact .inl rfl
 refine(Wd.gQ (P:=fun v f m n=>∃b,P v b∧f=(Sum.elim H.has fun _:Unit=>hx)∧m=(Sum.elim A fun _=>b)∧n=(Sum.elim (fW H A) fun _=>x)) o fun s w=>(i s (jl (Wd.sub w Sum.inl (fun _ h=>h) (fun _ _ _ _ e=>ZQ e) (fun _ _=>rfl) fun _ _=>.inl rfl))).mono ?_).mono ?_
 .rintro v p ⟨b,l,W⟩;exact⟨_,_,_,W,b,l,rfl,rfl,rfl⟩
 rintro v p ⟨f,m,n,w,⟨b,l,rfl,rfl,rfl⟩,k⟩;refine⟨b,l,?_,k.next,fun a b c hn=>k.Wo a b c ?_,fun a b c hn=>?_⟩
 .refine Wd.sub w (fun k=>match k with| .inl x=>.inl (.inl x)| .inr (.inl k)=>.inr k| .inr (.inr u)=>.inl (.inr u)) ?_ ?_ ?_ ?_
  .rintro(x|x|x) d <;> exact d
  .rintro(x|x|x) (y|y|y) _ _ e <;> simp_all
  .rintro(x|x|x) d <;> rfl
  rintro(x|x|x) d <;> exact .inl rfl
 .exact Nm.map (by rintro((x|x)|x) d;exact⟨.inl x,d,rfl⟩;exact d.elim;exact⟨.inr x,d,rfl⟩) hn
 refine Nm.map ?_ (k.Xp a b c (Nm.map ?_ hn))
 .rintro(x|x|x) d
  .exact⟨.inl (.inl x),d,rfl⟩
  .exact⟨.inr x,d,rfl⟩
  exact⟨.inl (.inr x),d,rfl⟩
 rintro((x|x)|x) d
 .exact⟨.inl x,d,rfl⟩
 .exact d.elim
 exact⟨.inr x,d,rfl⟩
def HC.FV{hx:Prop}{b:Nat}{x:cA}(h:HC σ A H hasK AK cK)(e:TP σ s)(w:GW s)(c:hx->σ.next≤b)(L:hx->jS s b x):HC s A H (Sum.elim hasK fun _:Unit=>hx) (Sum.elim AK fun _=>b) (Sum.elim cK fun _=>x):=by
 refine Wd.sub (Wd.FV h e w c L) (fun k=>match k with| .inl x=>.inl (.inl x)| .inr (.inl k)=>.inl (.inr k)| .inr (.inr u)=>.inr u) ?_ ?_ ?_ ?_
 .rintro(x|x|x) a <;> exact a
 .rintro(x|x|x) (y|y|y) _ _ e <;> simp_all
 .rintro(x|x|x) a <;> rfl
 rintro(x|x|x) a <;> exact .inl rfl
def HC.Fc{hx:Prop}{b:Nat}{x:cA}(h:HC σ A H (Sum.elim hasK fun _:Unit=>hx) (Sum.elim AK fun _=>b) (Sum.elim cK fun _=>x)):HC σ A H hasK AK cK:=by
 refine Wd.sub h (fun k=>match k with| .inl x=>.inl x| .inr k=>.inr (.inl k)) ?_ ?_ ?_ ?_
 .rintro(x|x) a <;> exact a
 .rintro(x|x) (y|y) _ _ e <;> simp_all
 .rintro(x|x) a <;> rfl
 rintro(x|x) a <;> exact .inl rfl
def O8{hx:Prop}{b id:Nat}(h:¬Vu H A (Sum.elim hasK fun _:Unit=>hx) (Sum.elim AK fun _=>b) id):¬Vu H A hasK AK id:=
 Nm.map (by rintro(x|x) a;exact⟨.inl x,a,rfl⟩;exact⟨.inr (.inl x),a,rfl⟩) h
def LK{hx:Prop}{b id:Nat}(h:¬Vu H A hasK AK id)(c:hx->b≠id):¬Vu H A (Sum.elim hasK fun _:Unit=>hx) (Sum.elim AK fun _=>b) id:=by
 rintro(rfl|⟨x|x|x,a,rfl⟩)
 .exact h (.inl rfl)
 .exact h (.inr ⟨.inl x,a,rfl⟩)
 .exact h (.inr ⟨.inr x,a,rfl⟩)
 exact c a rfl
def oR{l:List (Nat×Nat)}{b:Nat}(w:GW σ)(h:l≠[]->jS σ b (.row (l.length*2) (fy l))):U6 σ l (eO l b):=by
 unfold eO;by_cases c:l=[]
 .subst c;exact⟨⟨_,_,rfl⟩,rfl,fun h=>absurd h (XK _)⟩
 rw[Tg c];have R:Row σ b (l.length*2) (fy l):=h c;refine⟨⟨_,_,rfl⟩,tv ik l,fun _=>⟨b,0,rfl,?_,fun i hi=>?_⟩⟩
 .obtain⟨g,m,y,t,_,a,_⟩:=R;exact w.UL a
 rw[Vk,R.cell hi,By hi]
end
end
section
variable {σ σ' s:St}
def Nl.named{z n:Nat}{vs:List V}{v:V}(h:Nl σ s z n vs v):∃b, ∃hx:Prop,(hx->σ.next≤b∧jS s b (.row (n*z) (Tn vs)))∧∀s',GW s'->(hx->jS s' b (.row (n*z) (Tn vs)))->Ls s' z n vs v:=by
 rcases h.UH with⟨rfl,rfl⟩|⟨b,rfl,d,R⟩
 .exact⟨0,False,fun h=>h.elim,fun s' _ _=>⟨⟨_,_,rfl⟩,h.len,fun h=>absurd h (XK _)⟩⟩
 refine⟨b,True,fun _=>⟨d,R⟩,fun s' f a=>⟨⟨_,_,rfl⟩,h.len,fun hn=>⟨b,0,rfl,?_,fun i hi=>?_⟩⟩⟩
 .obtain⟨g,m,y,t,_,e,_⟩:=(show Row s' b (n*z) (Tn vs)from a trivial);exact f.UL e
 have c:Row s' b (n*z) (Tn vs):=a trivial;rw[Vk,c.cell hi,UQ (by rw[h.len];exact hi)];exact Uj some (iD (UQ (by rw[h.len];exact hi)))
section
variable {κ:Type} {hasK:κ -> Prop} {AK:κ -> Nat} {cK:κ -> cA} {A:Tu -> Nat} {H:aa}
theorem CM(h:HC σ A H hasK AK cK)(g:T3 H){L:List Hd}{v:V}(hb:jV H L)(hH:∀{s},HC s A H hasK AK cK->VF s L v):
  au G0 [] 39 [.acK (A .heap) 0,Vn H.Tj H.TB H.Th H.Tl v] σ fun y s=>y=.bool true∧HC s A H hasK AK cK∧T5 σ s (Vu H A hasK AK) (Vu H A hasK AK):=by
 refine ai g39 rfl ?_;have w:=h.gw;obtain⟨ao,pl,fc,U⟩:=g.UB;have hm:=A9 U.ok;have am:=U.ok.We;have Ue:=hb.Ue g;obtain⟨s1,l⟩:=acH (σ.ag [.u H.Tj,.i H.TB,.i H.Th,.i H.Tl,v]);have g1:aH σ s1:=by rw[l];exact aH.new _ _
 have w1:GW s1:=by rw[l];exact w.new _ rfl
 have h1:=h.Ui g1 w1;have L1:To s1 σ.next 5 (Tn [.u H.Tj,.i H.TB,.i H.Th,.i H.Tl,v]):=by rw[l];exact To.cg σ _
 have m1:¬Vu H A hasK AK σ.next:=h.eh (Tx _);simp (maxSteps:=9^9) (disch:=omega) only[go_sem,<- l];refine(HC.JY h1 (P:=fun v b=>v=eO (bf H) b) fun s R=>(BC R g).mono fun v s' ⟨b,hv,W⟩=>⟨b,hv,W⟩).mono ?_;rintro _ s2 ⟨b,rfl,p,k2⟩;have Y:=k2.Yl L1 m1;have m2:=k2.nm L1 m1;simp (maxSteps:=9^9) (disch:=omega) only[go_sem,Y.bN rfl];refine((wY p.gw (hH p.Fc) Q).gw p.gw).mono ?_;rintro u s3 ⟨⟨N3,S⟩,w3⟩;simp (maxSteps:=9^9) (disch:=omega) only[go_sem];refine((IS w3 (N3.bls w3) (by rw[Wz];omega) hb.Yy).gw w3).mono ?_;rintro y s4 ⟨⟨⟨M,hM,hR,N4⟩,e4⟩,w4⟩;have F:M=bf H:=rF hR (jD U) fun x=>by rw[hM.mem_iff];obtain⟨a,z⟩:=x;rw[hb.Ty, <- ga U]
 obtain⟨b2,B,j,I⟩:=N4.named;have ad:=S.trans e4;have h3:=p.ext S w3;have O:=(Y.ext p.gw S).ext w3 e4;have h4:=HC.FV h3 e4 w4 (fun hx=>(j hx).1) (fun hx=>(j hx).2);have av:σ.next<s2.next:=Y.lt p.gw;have ap:=S.next;have m4:=LK (hx:=B) (b:=b2) m2 fun hx=>by have:=(j hx).1;omega
 obtain⟨q,e,hy⟩:=(I s4 w4 fun hx=>(j hx).2).is;have f:M.length=(bf H).length:=by rw[F]
 have ar:(bf H).length≤262144:=by rw[<- f,hM.length_eq,Wz];exact Ue
 obtain⟨ql,el,C⟩:∃q e,eO (bf H) b=.slice q (bf H).length e:=by
  unfold eO;by_cases c:bf H=[]
  .rw[Ti c,c];exact⟨_,_,rfl⟩
  rw[Tg c];exact⟨_,_,rfl⟩
 simp (maxSteps:=9^9) (disch:=omega) only[go_sem,hy,C,f];refine(HC.gQ h4 (P:=fun v k=>k=A∧v=ns H) fun s R=>(rA R g).mono fun v s' ⟨hv,R'⟩=>⟨A,R',rfl,hv⟩).mono ?_;rintro _ s5 ⟨k,T,⟨rfl,rfl⟩,k5⟩;have Z:=k5.Yl O m4;have m5:=k5.nm O m4;simp (maxSteps:=9^9) (disch:=omega) only[go_sem,ns,O.bN rfl,Z.bN rfl];refine((PM (v:=v) hm am).gw T.gw).mono ?_;rintro _ J ⟨⟨rfl,g6⟩,w6⟩;have L6:=Z.ext T.gw g6.ext;have h6:=T.ext g6.ext w6;have r:H.Tp*H.Tl=H.Tl*(4096*2^H.Th):=UF _ _;have ah:U6 J (bf H) (eO (bf H) b):=oR w6 fun al=>h6.Ur (.inr (.inl (.inr ()))) al
 have E:=I J w6 fun hx=>h6.Ur (.inr (.inr ())) hx
 rw[F]at E;generalize H.Tp*H.Tl=R1 at r⊢;generalize H.Tl*(4096*2^H.Th)=R2 at r⊢;subst r;have af:HC J k H hasK AK cK∧T5 σ J (Vu H k hasK AK) (Vu H k hasK AK):=by
  refine⟨HC.Fc (HC.Fc h6),?_⟩;have k1:=T5.ext (W:=Vu H k hasK AK) g1.ext w;have k3:=T5.ext (W:=Vu H k (Sum.elim hasK fun _:Unit=>bf H≠[]) (Sum.elim AK fun _=>b)) ad p.gw;have d:=(k1.trans k2).trans k3;have k6:=T5.ext (W:=Vu H k (Sum.elim (Sum.elim hasK fun _:Unit=>bf H≠[]) fun _:Unit=>B) (Sum.elim (Sum.elim AK fun _=>b) fun _=>b2)) g6.ext T.gw;have D:=k5.trans k6;have m:∀{id:Nat} {o:AM.Obj},σ.Tq.get id=some o->o.Ty=true->o.TG=0->¬Vu H k hasK AK id->¬Vu H k (Sum.elim (Sum.elim hasK fun _:Unit=>bf H≠[]) fun _:Unit=>B) (Sum.elim (Sum.elim AK fun _=>b) fun _=>b2) id:=fun a b c hn=>LK (d.Xp a b c hn) fun hx=>by have:=(j hx).1;have:=w.UL a;omega
  exact⟨V4 d.next D.next,fun a b c hn=>D.Wo (d.Wo a b c hn) b c (m a b c hn),fun a b c hn=>O8 (O8 (D.Xp (d.Wo a b c hn) b c (m a b c hn)))⟩
 simp (maxSteps:=9^9) (disch:=omega) only[go_sem,O.bN rfl,Z.bN rfl,L6.bN rfl];refine bW (fun n fr t=>fr.defers=[]∧t=J∧fr.tmps.get 5=some (eO (bf H) b)∧fr.tmps.get 6=some y∧∃i,i+n=(bf H).length∧fr.tmps.get 7=some (.i (i:Nat))) ?_ (bf H).length ?_
 .rintro n ⟨tm,ds⟩ t ⟨hd,rfl,X,t6,i,hi,t7⟩;simp only at hd X t6 t7;subst hd;by_cases c:i<(bf H).length
  .obtain⟨ba,oa,ha,_,a1,a2,_⟩:=ah.at c;obtain⟨bb,ob,G,_,b1,ac,_⟩:=U6.at E c;have K:=X;have N:=t6;rw[ha]at K;rw[G]at N;simp (maxSteps:=9^9) (disch:=omega) only[go_sem,K,N,t7,a1,a2,b1,ac];exact⟨n-1,Q,Uj some ha.symm,Uj some G.symm,i+1,Q,rfl⟩
  rw[C]at X;simp (maxSteps:=9^9) (disch:=omega) only[go_sem,X,t6,t7];exact af
 simp (maxSteps:=9^9) (disch:=omega) only[go_sem];exact⟨Uj some C.symm,Uj some (by rw[hy,f]),0,Q,rfl⟩
end
end
section
variable {σ σ' s:St}
section
variable {A:Tu -> Nat} {H:aa} {B:AI -> Nat} {S:AS}
def J0{c tk us md:Nat}{L:List (Nat×Nat)}{v mk:V}(a:U6 σ L v)(Ue:L.length<9000000000000000000):au G0 [] 96 [WV c v tk us mk md] σ fun y s=>y=.u (dC L%18446744073709551616:Nat)∧aH σ s:=by refine ai g96 rfl ?_;simp (disch:=omega) only[go_sem];refine(MH (a.ext (Gr.g (σ:=σ)).ext) Ue).mono ?_;rintro _ s ⟨rfl,rfl⟩;simp (disch:=omega) only[go_sem];exact Gr.g
theorem CQ{c tk md:Nat}{cs mk:V}(h:AR σ A H B S)(D:S.OK)(K:U6 σ S.Tm cs)(hu:S.TI≤dC S.Tm)(hs:dC S.Tm<18446744073709551616):
  au G0 [] 38 [.acK (B .TA) 0,WV c cs tk S.TI mk md] σ fun y s=>y=.bool true∧aH σ s:=by
 refine ai g38 rfl ?_;have w:=h.gw;have Z:=D.Ue;obtain⟨q,e,M⟩:=K.is;obtain⟨E,b⟩:=acH (σ.ag [.u c,cs,.u tk,.u S.TI,mk,.i md]);have z:aH σ E:=by rw[b];exact aH.new _ _
 have O:GW E:=by rw[b];exact w.new _ rfl
 have L1:To E σ.next 6 (Tn [.u c,cs,.u tk,.u S.TI,mk,.i md]):=by rw[b];exact To.cg σ _
 have X:AR E A H B S:=h.Ui z O;simp (maxSteps:=9^9) (disch:=omega) only[go_sem,<- b];refine((lQ X D).gw O).mono ?_;rintro l s2 ⟨⟨hl,r⟩,w2⟩;have J:AR s2 A H B S:=Wd.Ui X r w2;have a:=L1.ext O r.ext;obtain⟨lq,le,j⟩:=hl.is;have k:=a;rw[M]at k;simp (maxSteps:=9^9) (disch:=omega) only[go_sem,j,k.bC rfl];refine bW (fun n fr t=>fr.defers=[]∧t=s2∧fr.tmps.get 0=some (.acK (B .TA) 0)∧fr.tmps.get 3=some (.acK σ.next 0)∧fr.tmps.get 5=some l∧∃i,i+n=S.Tm.length∧fr.tmps.get 6=some (.i (i:Nat))) ?_ S.Tm.length ?_
 .rintro n ⟨tm,ds⟩ t ⟨hd,rfl,d,f,x,i,hi,N⟩;simp only at hd d f x N;subst hd;by_cases T:i<S.Tm.length
  .obtain⟨ba,oa,ha,_,a1,a2,_⟩:=hl.at T;obtain⟨R,ob,L,v,b1,b2,_⟩:=K.at T;have o:=a;rw[L]at o;rw[ha]at x;have W:=z.trans r;have F:t.cell R (ob+i*2)=some (.u S.Tm[i].1):=by rw[W.cell (m:=σ.next) v];exact b1
   have G:t.cell R (ob+i*2+1)=some (.u S.Tm[i].2):=by rw[W.cell (m:=σ.next) v];exact b2
   simp (maxSteps:=9^9) (disch:=omega) only[go_sem,d,f,x,N,a1,a2,o.bC rfl,F,G];exact⟨n-1,Q,Uj some ha.symm,i+1,Q,rfl⟩
  rw[j]at x;simp (maxSteps:=9^9) (disch:=omega) only[go_sem,d,f,x,N];refine(Aw J).mono ?_;rintro _ s3 ⟨rfl,rfl⟩;simp (maxSteps:=9^9) (disch:=omega) only[go_sem,d,f,a.bC rfl];refine((BM J D).gw w2).mono ?_;rintro _ s4 ⟨⟨rfl,C⟩,w4⟩;have h4:AR s4 A H B S:=Wd.Ui J C w4;have g:=a.ext w2 C.ext;simp (maxSteps:=9^9) (disch:=omega) only[go_sem,d,f,a.bC rfl,g.bC rfl,a.bN rfl,g.bN rfl];refine((J0 (K.ext ((z.trans r).trans C).ext) Q).gw w4).mono ?_;rintro _ s5 ⟨⟨rfl,I⟩,w5⟩;have Y:AR s5 A H B S:=Wd.Ui h4 I w5;have p:=g.ext w4 I.ext;simp (maxSteps:=9^9) (disch:=omega) only[go_sem,d,f,a.bC rfl,g.bC rfl,p.bC rfl,a.bN rfl,g.bN rfl,p.bN rfl];refine(Aw Y).mono ?_;rintro _ s6 ⟨rfl,rfl⟩;simp (maxSteps:=9^9) (disch:=omega) only[go_sem,d,f];refine((BM Y D).gw w5).mono ?_;rintro _ s7 ⟨⟨rfl,U⟩,w7⟩;have P:=p.ext w5 U.ext;rw[WR hs];simp (maxSteps:=9^9) (disch:=omega) only[go_sem,d,f,a.bC rfl,g.bC rfl,p.bC rfl,P.bC rfl,a.bN rfl,g.bN rfl,p.bN rfl,P.bN rfl];exact z.trans (r.trans (C.trans (I.trans U)))
 simp (maxSteps:=9^9) (disch:=omega) only[go_sem];exact⟨Uj some j.symm,0,Q,rfl⟩
end
end
section
variable {σ σ' s:St}
section
variable {ι κ:Type} {hasK:κ -> Prop} {AK:κ -> Nat} {cK:κ -> cA}
end
def lP{κ:Type}{hasK:κ->Prop}{AK:κ->Nat}{cK:κ->cA}{A:Tu->Nat}{B:AI->Nat}{b l o:Int}{c:Nat}(D:DT)(d:0≤b)(e:je b l o c)(h:Uo s A (di b.toNat l.toNat o.toNat) B (ie c) hasK AK cK):
  ∃m,jw (s.Ts 16 zG (U9 (Vc c b l o) (A .heap) (B .TA))) A (di b.toNat l.toNat o.toNat) B (ie c) m hasK AK cK D ⟨[],[],[],[]⟩ [] 0 (.agg (U9 (Vc c b l o) (A .heap) (B .TA)))∧
   Lo (s.Ts 16 zG (U9 (Vc c b l o) (A .heap) (B .TA))) (UA (di b.toNat l.toNat o.toNat) A (ie c) B m hasK AK) s.next 16 (U9 (Vc c b l o) (A .heap) (B .TA)):=
 let ⟨m,a,b,_⟩:=mO D d e h
 ⟨m,a,b⟩
section
variable {κ:Type} {hasK:κ -> Prop} {AK:κ -> Nat} {cK:κ -> cA} {D:DT}
end
end
end
end
end Go.Proofs.YtlgmpheammbacaaGreatDoor
namespace Go.Proofs.YtlgmpheammbacaaGreatDoor
open Go.ChangeShapes Go.WideShapes Go.ChangeAt Go.WideMaps Go.WideElems Go.RowKit
open AM
def vB{F:FuncId}{C:jj}(hg:G0.get F=some (.code C))(k:∀(l:List XR) (b m o:Int) (c M y e:Nat) (q:Option (Nat×Nat)) (ops:Nat->Wb),0≤b->b<18446744073709551616->c<18446744073709551616->M≤1990000000000->pT (ud l) sD (pX l) (DX l) q e M y ops →
   au G0 [] F [Uu b m o,.u c,.slice q M e] (Wf l) fun v _=>v=.bool true){W:World}{H:Type}{enc:TypeId×Value->H}{Tj:Nat}{z A v3:Value}{d:DataW H}{p:List MemPlace}(t:gh Tryz.prog Tryz.prog.globals.size G0)(h:laidMetH Tryz.prog iW W)(D:Value.okWide Tryz.prog W .any Tj 30 z)(E:Value.okWide Tryz.prog W .any Tj 28 A)(G:Value.okWide Tryz.prog W .any Tj 52 v3)(hd:DataW.Trod enc Tryz.prog W 0 (fun _=>true) true 52 v3 d p)(I:∀a len f,v3=.slice (some a) len f->len≤1990000000000):
  Calls Tryz.prog F #[z,A,v3] W fun e B=>e=.returned (.bool true)∧Below W.heap.size W B:=by
 obtain⟨b,m,o,rfl,b1,b2⟩:=AP D;obtain⟨c,rfl,c1⟩:=BA E;obtain⟨l,q,M,e,y,ops,K,n,w,i,g⟩:=oG G hd 1;obtain⟨J,s⟩:=w (nF W l) fun j x hx=>rC hx
 have r:M≤1990000000000:=by
  rcases n with rfl|⟨a,f,e⟩
  .omega
  exact I _ _ _ e
 refine jK (l:=l) (xs:=[Uu b m o,.u c,.slice q M e]) t h s ?_ hg (k l b m o c M y e q ops b1 b2 c1 r (rp (j0:=0) i g));exact⟨_,_,rfl,⟨_,rfl,⟨_,_,rfl,rfl,_,_,rfl,rfl,_,_,rfl,rfl,rfl⟩⟩,_,_,rfl,rfl,_,_,rfl,J,rfl⟩
end Go.Proofs.YtlgmpheammbacaaGreatDoor
namespace Go.Proofs.YtlgmpheammbacaaGreatDoor
open AM Go
noncomputable section
attribute [local go_sem] bJ bO bM bP bI bo bj bV bD bK VG Wa VU WZ dx dv cH bg cU bq bG cX cZ br bH cY cB UR UK aj az aD TH TK TZ bm bF aW aO aI bz aX bt aY dM aR bU dN aZ bc aT bA
variable {σ σ' s:St}
section
variable {κ:Type} {hasK:κ -> Prop} {AK:κ -> Nat} {cK:κ -> cA} {A:Tu -> Nat} {H:aa} {B:AI -> Nat} {S:AS} {m:ML -> Li} {D:DT} {g:Gm} {E:List Nat} {N:Nat} {v:V}
def Al{b l o:Int}{c M oo e:Nat}{q:Option (Nat×Nat)}{ops:Nat->Wb}(W0:Wd σ hasK AK cK)(am:0≤b)(hb:b<18446744073709551616)(hc:c<18446744073709551616)(hM:M≤1990000000000)(av:pT hasK AK cK D q e M oo ops):
  au G0 [] 8 [Uu b l o,.u c,.slice q M e] σ fun v _=>v=.bool true:=by
 refine ai g8 rfl ?_;obtain⟨s1,C⟩:=acH (σ.ag [.u b,.i l,.i o]);have w1:GW s1:=by rw[C];exact W0.gw.new _ rfl
 have e1:TP σ s1:=by rw[C];exact(Gr.g).ext
 have W1:=W0.ext e1 w1;have L1:Lo s1 (Nm hasK AK) σ.next 3 [.u b,.i l,.i o]:=⟨by rw[C];exact To.cg σ _,rfl,W0.eh (Tx _)⟩
 simp (disch:=omega) only[go_sem,Uu,<- C];refine((W1.AG (P:=fun v=>v=.bool true) fun s w hw=>qJ w hw).gw w1).mono ?_;rintro _ s2 ⟨⟨rfl,W2,k2⟩,w2⟩;have L2:=L1.T9 k2;simp (disch:=omega) only[go_sem,L2.ld];refine((W2.BI am hb hc).gw w2).mono ?_;rintro y s3 ⟨⟨m1,m2⟩,w3⟩;by_cases ho:je b l o c
 .obtain⟨A,B,rfl,h3,k3⟩:=m1 ho;obtain⟨m0,G4,k⟩:=lP D am ho h3;obtain⟨s4,be⟩:=acH (s3.Ts 16 zG (U9 (Vc c b l o) (A .heap) (B .TA)));have ax:=aQ (σ:=s3) (z:=zG) (vs:=U9 (Vc c b l o) (A .heap) (B .TA)) (n:=16) (Vt ny) rfl;rw[<- be]at G4 k ax;have ba:(V.agg (U9 (Vc c b l o) (A .heap) (B .TA))).cells=U9 (Vc c b l o) (A .heap) (B .TA):=rfl;simp (disch:=omega) only[go_sem,ba,ny,ax];obtain⟨x,hx⟩:=acH (s3.next);rw[<- hx]at k⊢;refine bW (fun n fr t=>fr.defers=[]∧fr.tmps.get 2=some (.slice q M e)∧fr.tmps.get 7=some (.acK x 0)∧∃i,i+n=M∧fr.tmps.get 10=some (.i (i:Nat))∧
   ∃A B H S m g ls,jw t A H B S m hasK AK cK D g [] i (.agg ls)∧Lo t (UA H A S B m hasK AK) x 16 ls) ?_ M ?_
  .rintro n ⟨tm,ds⟩ t ⟨hd,t2,t7,i,hi,E,A,B,H,S,m,g,ls,G,Lx⟩;simp only at hd t2 t7 E;subst hd;by_cases ci:i<M
   .obtain⟨ob,rfl,rfl,ao⟩:=av.load ci;obtain⟨bv, -⟩:=ao (Wd.right (Wd.right G.w));have Z:=G.w.gw;obtain⟨L,f⟩:=acH (t.new (.acM 16 zG .nil));have aB:GW L:=by rw[f];exact Z.new _ rfl
    have al:TP t L:=by rw[f];exact(Gr.g).ext
    have bx:L.next=t.next+1:=by rw[f];rfl
    have ar:L.Tq.get t.next=some (.acM 16 zG .nil):=by rw[f];show T.get (T.set _ _ _) _=_;rw[T.aJ,Ti rfl]
    have ac:Lo L (UA H A S B m hasK AK) t.next 16 zG:=⟨by rw[f];exact To.zero Z zG Y,rfl,Wd.eh G.w (Tx _)⟩
    have O:=Lx.ext al Z;have G1:jw L A H B S m hasK AK cK D g [] i (.agg ls):=⟨TS.ext G.w al aB,G.ok,G.v⟩;obtain⟨K, -⟩:=ao (Wd.right (Wd.right G1.w));have bw:x<t.next:=Lx.UH.lt Z;have ap:L.load x 0 16=some ls:=by rw[O.ld Q,VG,VZ (Vt O.len)]
    have bu:(ops i).v.length=7:=nC _;simp (disch:=omega) only[go_sem,t2,t7,E,<- f,ap,K];refine((qq G1 (ops i) Q (av.dat i ci)).gw aB).mono ?_;rintro _ u2 ⟨⟨I,J,h,j,m',g',v',rfl,⟨h2,a,cs,mk,hv,ot,pc,r,rfl,d⟩,hA,hB,hch,bs,k2,hP⟩,wu2⟩;have aM:=O.T9 k2;have ad:=ac.T9 k2;have bd:=k2.Wo ar rfl rfl ac.nm;obtain⟨d1,d2,d0,d3,d4,d5⟩:=d.cells;obtain⟨u3,bi,aC,F,p3⟩:=ad.set wu2 (off:=0) (vs:=Uw I J h j cs mk hv ot pc r) Y (d.Tr I J h j);have p:Lo u3 (UA h I j J m' hasK AK) t.next 16 (U4 (I .heap) (J .TA) j.TD cs j.Tz j.TI mk j.TW h.Tj h.TB h.Th h.Tl hv ot pc r):=aC;have W:=TS.eX h2 p3 F ad.nm;have aP:=aM.put p3 Q;have aU:eN t.next zG 1 0 [([],L),([],u2),([],u3)]=true:=oL rfl fun m x hx hm=>by
     match m,hx with
     | 0,hx=>cases hx;exact ar
     | 1,hx=>cases hx;exact bd
     |m+2,_=>omega
    simp (disch:=omega) only[go_sem,Uw,d0,d1,d2,d3,d4,d5,bi,ap,K,<- f,aU,p.cl,p.ld,t7];have ay:=a.sum;refine((CQ (Uo.drop W) a.ok (d.ch.ls W) a.held Q).gw F).mono ?_;rintro _ u4 ⟨⟨rfl,g4⟩,w4⟩;have N:=p.ext g4.ext F;have af:=aP.ext g4.ext F;have X:=TS.ext W g4.ext w4;simp (disch:=omega) only[go_sem,N.cl,N.ld];refine((CM (Uo.hc X) a.Uk a.bk (fun hh=>d.hd.ls (HC.X4 hh rfl))).gw w4).mono ?_;rintro _ u5 ⟨⟨rfl,h5,k5⟩,w5⟩;have aS:TS u5 I h J j m' hasK AK cK:=HC.X4 h5 rfl;have aL:=N.T9 k5.ah;have R:=af.T9 k5.ah;obtain⟨u6,bl,U,w6,p6⟩:=R.set w5 (off:=0) (vs:=U4 (I .heap) (J .TA) j.TD cs j.Tz j.TI mk j.TW h.Tj h.TB h.Th h.Tl hv ot pc r) Y (d.Tr I J h j);simp (disch:=omega) only[go_sem,t7,E,d0,d1,d2,d3,d4,d5,aL.ld,bl];refine⟨n-1,Q,t2,i+1,Q,rfl,I,J,h,j,m',g',_,⟨TS.eX aS p6 w6 R.nm,a,cs,mk,hv,ot,pc,r,rfl,d⟩,?_⟩;have:=U.len;rw[VU,YH,YW (by rw[R.len];simp),Wr]at U;exact U
   obtain⟨h2,a,cs,mk,hv,ot,pc,r,bb,d⟩:=G;cases bb;have Z:=h2.gw;have ay:=a.sum;simp (disch:=omega) only[go_sem,t2,t7,E,ci,Uw,Lx.cl,Lx.ld];refine((CQ (Uo.drop h2) a.ok (d.ch.ls h2) a.held Q).gw Z).mono ?_;rintro _ u4 ⟨⟨rfl,g4⟩,w4⟩;have k:=Lx.ext g4.ext Z;have X:=TS.ext h2 g4.ext w4;simp (disch:=omega) only[go_sem,t7,Uw,k.cl,k.ld];refine((CM (Uo.hc X) a.Uk a.bk (fun hh=>d.hd.ls (HC.X4 hh rfl))).gw w4).mono ?_;rintro _ u5 ⟨⟨rfl,h5,k5⟩,w5⟩;simp (disch:=omega) only[go_sem]
  simp (disch:=omega) only[go_sem];exact⟨0,Q,rfl,A,B,_,_,m0,_,_,G4,k⟩
 obtain rfl:=m2 ho;simp (disch:=omega) only[go_sem]
end
end
end Go.Proofs.YtlgmpheammbacaaGreatDoor
