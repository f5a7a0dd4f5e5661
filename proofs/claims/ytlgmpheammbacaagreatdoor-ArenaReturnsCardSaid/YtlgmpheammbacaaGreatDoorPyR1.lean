import Derived.Test.YtlgmpheammbacaaGreatDoorPys
set_option linter.all false
set_option maxRecDepth 1000000
set_option maxHeartbeats 8000000
attribute [local irreducible] AM.T.get AM.T.set
namespace Go.Proofs.YtlgmpheammbacaaGreatDoor
open AM Go
noncomputable section
section
variable {σ σ':St} {A:Tu -> Nat} {H H':aa} {S:AS} {fl pl fc:Nat -> List Nat}
def BC(h:aw σ A H)(hg:T3 H):
  au G0 [] 41 [.acK (A .heap) 0] σ fun r s=>∃b,r=eO (bf H) b∧LH s A H (bf H) b:=by
 refine ai g41 rfl ?_;obtain⟨fl,pl,fc,o⟩:=hg.UB;obtain⟨v,t,⟨k,a⟩,d⟩:=kL h hg.lock;subst a;obtain⟨v,s2,⟨b,a,g⟩,e⟩:=Af k (o.aC 1);have m:bf (H.aC 1)=bf H:=rfl;rw[m]at a g;subst a;obtain⟨v,u,⟨p,l,c,a⟩,f⟩:=HC.call (Γ:=G0) (Γ':=G0) (M:=[]) (H':=H) (P:=fun v j=>A=j∧v=.tuple []) (fun _ _ h=>h) (fun _ h=>nomatch h) g fun s hs=>(fg hs rfl).mono fun v q ⟨i,n⟩=>⟨A,by rw[ff hg.lock]at i;exact i,rfl,n⟩
 subst c a;simp only[go_sem];refine ab d ?_;simp only[go_sem];refine ab e ?_;simp only[go_sem,b7];refine⟨.inr fi,ab f ?_⟩;simp only[go_sem];exact⟨b,rfl,l⟩
def ga(b:Tv H fl pl fc (fun _=>False)){a s:Nat}:(a,s)∈bf H↔aV H a s:=by
 unfold bf gi aV;rw[abo];constructor
 .rintro⟨x,hx,h⟩;rw[Ws]at hx;exact⟨x,hx,(gJ b hx).1 h⟩
 rintro⟨x,hx,h⟩;exact⟨x,Ws.2 hx,(gJ b hx).2 h⟩
def rF:∀{l m:List (Nat×Nat)},l.Pairwise (fun a b=>a.1<b.1)->m.Pairwise (fun a b=>a.1<b.1)->(∀x,x∈l↔x∈m)->l=m
 | [],[],_,_,_=>rfl
 | [],y ::m,_,_,h=>absurd ((h y).2 (VY ..)) Y
 |x ::l,[],_,_,h=>absurd ((h x).1 (VY ..)) Y
 |x ::l,y ::m,hl,hm,h=>by
  rw[aaD]at hl hm;have e:x=y:=by
   rcases U8.1 ((h x).1 (VY ..))with e|hx
   .exact e
   rcases U8.1 ((h y).2 (VY ..))with e|hy
   .exact e.symm
   have:=hm.1 x hx;have:=hl.1 y hy;omega
  subst e;congr 1;refine rF hl.2 hm.2 fun z=>?_
  constructor
  .intro d;rcases U8.1 ((h z).1 (VO _ d))with e|c
   .have:=hl.1 z d;rw[e]at this;omega
   exact c
  intro d;rcases U8.1 ((h z).2 (VO _ d))with e|c
  .have:=hm.1 z d;rw[e]at this;omega
  exact c
def jt.alloc(g:T3 H)(h:jt H S)(A:S.Tm.length<5000000000000){n a:Nat}(hn:n<18446744073709551616)(ha:a<18446744073709551616)(d:Bool):
  T3 (dX H S n a d).1∧jt (dX H S n a d).1 (dX H S n a d).2.1∧(dX H S n a d).1.Tp=H.Tp∧(dX H S n a d).2.1.Tm.length≤S.Tm.length+1∧(dX H S n a d).2.1.TW=S.TW∧(dX H S n a d).2.1.ms=S.ms:=by
 obtain⟨fl,pl,fc,i⟩:=g.UB;have L:=ke i.ok;have Tj:T3 H∧jt H S∧H.Tp=H.Tp∧S.Tm.length≤S.Tm.length+1∧S.TW=S.TW∧S.ms=S.ms:=⟨g,h,rfl,Q,rfl,rfl⟩
 unfold dX;by_cases c:cQ a=false
 .rw[Ti c];exact Tj
 rw[Tg c];by_cases x:H.Tp<max n 1∨H.Tp<a
 .rw[Ti x];exact Tj
 rw[Tg x];cases f:S.Wj (max n 1) a with
 |some p=>
  refine⟨g,⟨⟨h.ok.Tm,?_,Wt _ Q,h.ok.TD,h.ok.nil,h.ok.Ww,h.ok.Ue⟩,⟨h.ms.Yz,h.ms.lt,h.ms.le,h.ms.nil,h.ms.Zf⟩,h.size⟩,rfl,Y,rfl,rfl⟩;unfold AS.Wj at f;cases u:S.Tm.getLast? with
  |none=>rw[u]at f;cases f
  |some t=>
   rw[u]at f;simp only at f;split at f
   .rename_i E;cases f;have:=h.ok.Tm t (Zp u);simp only[Xc];omega
   cases f
 |none=>
  have hx:max (max n 1) S.TD<18446744073709551616:=by have:=h.ok.TD;omega
  obtain⟨hi,hg⟩:=g.alloc hx ha d;unfold dg at hi hg
  revert hi hg
  generalize H.held.df (max (max n 1) S.TD) a d=r;obtain⟨G,p,e⟩:=r;simp only;intro hi hg;by_cases s:e=0
  .subst s;rw[Ti rfl];generalize D:G.aC 0=q at hi hg;cases hi with
   |ok J K y=>
    obtain⟨C,I,B,w⟩:=hg.UB;have k:aV q p (aE (max (max n 1) S.TD) a):=(y.Ty _ _).2 (.inr ⟨rfl,rfl⟩);have v:=w.gX k;have l:q.Tp=H.Tp:=by unfold aa.Tp;rw[y.Th]
    have o:=w.b8 k;have z:=mS w.ok;refine⟨hg,⟨⟨?_,?_,Wt _ Q,h.ok.TD,Y,h.ok.Ww,?_⟩,⟨h.ms.Yz,h.ms.lt,?_,h.ms.nil,h.ms.Zf⟩,by rw[l];exact h.size⟩,l,?_,rfl,rfl⟩
    .rw[v];simp only[Xc];intro b j;rcases VJ.1 j with j|j
     .exact h.ok.Tm b j
     rw[VP]at j;subst j;exact⟨by simp only;omega,by simp only;omega⟩
    .show max n 1≤8388608;omega
    .simp only[UN,YF];omega
    .intro m F;have:=h.ms.le m F;simp only[UN,YF];omega
    simp only[UN,YF];omega
  rw[Tg s];generalize D:G.aC 0=q at hi hg;cases hi with
  |ok=>exact(s rfl).elim
  |_=>exact⟨hg,h,rfl,Nat.le_succ _,rfl,rfl⟩
def jt.heap(h:jt H S)(e:H'.Tp=H.Tp):jt H' S:=⟨h.ok,h.ms,by rw[e];exact h.size⟩
def jv.cut(g:T3 H)(h:jv H S)(n:Nat):T3 (cz H (eV S n))∧(∀b s,aV (cz H (eV S n)) b s↔aV H b s∧b∉(S.Tm.drop n).map (·.1))∧∀b,b∈S.Tm.take n->aV (cz H (eV S n)) b.1 b.2:=by
 obtain⟨f,i,c,j⟩:=fh (eV S n) g;have e:∀b,b∈eV S n↔b∈(S.Tm.drop n).map (·.1):=fun b=>by unfold eV;rw[List.mem_reverse]
 refine⟨f,fun b s=>by rw[c,e],fun b d=>?_⟩;rw[c,e];refine⟨h.Ty b (X9 d),fun hd=>?_⟩;have a:=h.Zz;rw[<- YI n S.Tm,WA,WN]at a;exact a.2.2 b.1 (Xs d) b.1 hd rfl
def cJ.Tp(h:H'.cJ H):H'.Tp=H.Tp:=by unfold aa.Tp;rw[h.Th]
def jv.Zg(g:T3 H)(h:jv H S){i:Nat}{m:Mk}(ht:m.Tz≤8388608)(hu:m.TI<18446744073709551616):jv (cz H (eV S m.Tm)) (j9 S i m):=by
 obtain⟨c,d,b⟩:=h.cut g m.Tm;have sm:=(fh (eV S m.Tm) g).2.1;refine⟨b,?_,ht,hu,by rw[cJ.Tp sm];exact h.TD,fun a=>?_,fun a=>?_⟩
 .exact h.Zz.sublist ((List.take_sublist _ _).map _)
 .show S.Tm.take m.Tm=[];rw[h.nil a];simp
 have:=h.Ww a;unfold AS.cE at this;rw[List.map_eq_nil_iff]at this;show(S.ms.take i).map _=[];rw[this];simp
def jv.aan(g:T3 H)(h:jv H S):jv (cz H (eV S 0)) (gL S):=by have sm:=(fh (eV S 0) g).2.1;exact⟨(fun b a=>nomatch (show b∈[]from a)),List.nodup_nil,VK _,abF _,(by rw[cJ.Tp sm];exact h.TD),(fun _=>rfl),(fun _=>rfl)⟩
def jv.mark(h:jv H S):jv H (gU S):=⟨h.Ty,h.Zz,h.Tz,h.TI,h.TD,h.nil,(fun a=>nomatch (show true=false from a))⟩
end
section
attribute [local go_sem] bJ bO bM bP bI bo bj bV bD bK VG Wa VU WZ dx dv cH bg cU bq bG cX cZ br bH cY cB UR UK aj az aD TH TK TZ bm bF aW aO aI bz aX bt aY dM aR bU dN aZ bc aT bA
section
variable {σ σ' s:St}
section
variable {κ:Type} {hasK:κ -> Prop} {AK:κ -> Nat} {cK:κ -> cA} {A:Tu -> Nat} {H:aa}
def HC.JY{g:FuncId}{xs:List V}{P:V->Nat->Prop}{x:cA}{hx:Prop}(h:HC σ A H hasK AK cK)(i:∀σ,aw σ A H->au G0 [] g xs σ fun v s=>∃b,P v b∧HC s A H (fun _:Unit=>hx) (fun _=>b) (fun _=>x)):
  au G0 [] g xs σ fun v s=>∃b,P v b∧HC s A H (Sum.elim hasK fun _:Unit=>hx) (Sum.elim AK fun _=>b) (Sum.elim cK fun _=>x)∧T5 σ s (Vu H A hasK AK) (Vu H A (Sum.elim hasK fun _:Unit=>hx) (Sum.elim AK fun _=>b)):=by
 have o:Wd σ (Sum.elim (Sum.elim H.has fun _:Unit=>False) hasK) (Sum.elim (Sum.elim A fun _=>0) AK) (Sum.elim (Sum.elim (fW H A) fun _=>.map []) cK):=by
  refine Wd.sub h (fun k=>match k with| .inl (.inl s)=>.inl s| .inl (.inr u)=>.inl .heap| .inr k=>.inr k) ?_ ?_ ?_ ?_
  .rintro((k|k)|k) d
   .exact d
   .exact d.elim
   exact d
  .rintro((k|k)|k) ((j|j)|j) d hj e <;> simp_all
  .rintro((k|k)|k) d
   .rfl
   .exact d.elim
   rfl
  rintro((k|k)|k) d
  .exact .inl rfl
  .exact d.elim
  exact .inl rfl
 refine(Wd.gQ (P:=fun v f m n=>∃b,P v b∧f=(Sum.elim H.has fun _:Unit=>hx)∧m=(Sum.elim A fun _=>b)∧n=(Sum.elim (fW H A) fun _=>x)) o fun s w=>(i s (jl (Wd.sub w Sum.inl (fun _ h=>h) (fun _ _ _ _ e=>ZQ e) (fun _ _=>rfl) fun _ _=>.inl rfl))).mono ?_).mono ?_
 .rintro v p ⟨b,l,W⟩;exact⟨_,_,_,W,b,l,rfl,rfl,rfl⟩
 rintro v p ⟨f,m,n,w,⟨b,l,rfl,rfl,rfl⟩,k⟩;refine⟨b,l,?_,k.next,fun a b c hn=>k.Wo a b c ?_,fun a b c hn=>?_⟩
 .refine Wd.sub w (fun k=>match k with| .inl x=>.inl (.inl x)| .inr (.inl k)=>.inr k| .inr (.inr u)=>.inl (.inr u)) ?_ ?_ ?_ ?_
  .rintro(x|x|x) d <;> exact d
  .rintro(x|x|x) (y|y|y) _ _ e <;> simp_all
  .rintro(x|x|x) d <;> rfl
  rintro(x|x|x) d <;> exact .inl rfl
 .exact Nm.map (by rintro((x|x)|x) d;exact⟨.inl x,d,rfl⟩;exact d.elim;exact⟨.inr x,d,rfl⟩) hn
 refine Nm.map ?_ (k.Xp a b c (Nm.map ?_ hn))
 .rintro(x|x|x) d
  .exact⟨.inl (.inl x),d,rfl⟩
  .exact⟨.inr x,d,rfl⟩
  exact⟨.inl (.inr x),d,rfl⟩
 rintro((x|x)|x) d
 .exact⟨.inl x,d,rfl⟩
 .exact d.elim
 exact⟨.inr x,d,rfl⟩
def oR{l:List (Nat×Nat)}{b:Nat}(w:GW σ)(h:l≠[]->jS σ b (.row (l.length*2) (fy l))):U6 σ l (eO l b):=by
 unfold eO;by_cases c:l=[]
 .subst c;exact⟨⟨_,_,rfl⟩,rfl,fun h=>absurd h (XK _)⟩
 rw[Tg c];have R:Row σ b (l.length*2) (fy l):=h c;refine⟨⟨_,_,rfl⟩,tv ik l,fun _=>⟨b,0,rfl,?_,fun i hi=>?_⟩⟩
 .obtain⟨g,m,y,t,_,a,_⟩:=R;exact w.UL a
 rw[Vk,R.cell hi,By hi]
end
end
section
variable {σ σ':St} {A:Tu -> Nat} {B:AI -> Nat} {H H':aa} {S S':AS}
section
variable {k w m:Int} {n a:Nat} {d:Bool}
def th(g:T3 H):(bf H).length≤262144:=by obtain⟨_,_,_,a⟩:=g.UB;have b:=ka a.ok;have c:=nq H H.np;show(gi H H.np).length≤_;omega
end
end
section
variable {σ σ' s:St}
section
variable {ι κ:Type} {hasK:κ -> Prop} {AK:κ -> Nat} {cK:κ -> cA}
end
def lP{κ:Type}{hasK:κ->Prop}{AK:κ->Nat}{cK:κ->cA}{A:Tu->Nat}{B:AI->Nat}{b l o:Int}{c:Nat}(D:DT)(d:0≤b)(e:je b l o c)(h:Uo s A (di b.toNat l.toNat o.toNat) B (ie c) hasK AK cK):
  ∃m,jw (s.Ts 16 zG (U9 (Vc c b l o) (A .heap) (B .TA))) A (di b.toNat l.toNat o.toNat) B (ie c) m hasK AK cK D ⟨[],[],[],[]⟩ [] 0 (.agg (U9 (Vc c b l o) (A .heap) (B .TA)))∧
   Lo (s.Ts 16 zG (U9 (Vc c b l o) (A .heap) (B .TA))) (UA (di b.toNat l.toNat o.toNat) A (ie c) B m hasK AK) s.next 16 (U9 (Vc c b l o) (A .heap) (B .TA)):=
 let ⟨m,a,b,_⟩:=mO D d e h
 ⟨m,a,b⟩
section
variable {κ:Type} {hasK:κ -> Prop} {AK:κ -> Nat} {cK:κ -> cA} {D:DT}
end
end
section
variable {H H':aa} {S S':AS}
def qn{fl pl fc:Nat->List Nat}(i:Tv H fl pl fc (fun _=>False)):((bf H).map (·.1)).Nodup:=by rw[List.Nodup,Z6];exact(jD i).imp fun h e=>Q
def KQ(g:T3 H){l:List Nat}(nd:l.Nodup)(d:∀a,a∈l↔∃w,aV H a w):(bf H).length=l.length:=by
 obtain⟨fl,pl,fc,i⟩:=g.UB;have:((bf H).map (·.1)).Perm l:=(ab3 (qn i) nd).2 fun a=>by
  rw[d];constructor
  .intro h;obtain⟨b,c,rfl⟩:=V3.1 h;exact⟨b.2,(ga i).1 c⟩
  rintro⟨w,hw⟩;exact V3.2 ⟨(a,w),(ga i).2 hw,rfl⟩
 rw[<- this.length_eq,Wz]
def jv.nb(h:jv H S)(g:T3 H):S.Tm.length<5000000000000:=by
 obtain⟨fl,pl,fc,i⟩:=g.UB;have c:=ka i.ok;have:=oM (4096*H.np) H.Tj _ h.Zz fun x hx=>by obtain⟨b,a,rfl⟩:=V3.1 hx;have:=i.b8 (h.Ty b a);omega
 rw[Wz]at this;omega
def GH(g:T3 H)(e:T3 H')(h:∀a w,aV H' a w↔aV H a w):bf H'=bf H:=by obtain⟨fl,pl,fc,i⟩:=g.UB;obtain⟨d,f,c,b⟩:=e.UB;exact rF (jD b) (jD i) fun x=>by obtain⟨a,w⟩:=x;rw[ga i,ga b,h]
structure lR (H:aa) (S:AS) (H':aa) (S':AS):Prop where
 Uk:T3 H'
 ar:jv H' S'
 ms:xZ S'
 pre:∃ suf,S'.ms=S.ms++suf
 ch:∃ suf,S'.Tm=S.Tm++suf∧(∀ a w,aV H' a w↔aV H a w∨(a,w)∈suf)∧∀ b∈suf, ∀ w, ¬ aV H b.1 w
def lR.refl(g:T3 H)(h:jv H S)(m:xZ S):lR H S H S:=⟨g,h,m,⟨[],Y⟩,[],Y,fun a w=>by simp,fun _ h=>(Xa h).elim⟩
def lR.mark(h:lR H S H' S'):lR H S H' (gU S'):=by obtain⟨b,c⟩:=h.pre;have a:jt H' (gU S'):=jt.mark ⟨h.ar.ok h.Uk,h.ms,h.ar.TD⟩;exact⟨h.Uk,h.ar.mark,a.ms,⟨b++[⟨S'.TW,S'.Tm.length,S'.Tz,S'.TI⟩],by show S'.ms++_=_;rw[c,Xj]⟩,h.ch⟩
def lR.alloc(h:lR H S H' S')(g:T3 H){n a:Nat}(hn:n<18446744073709551616)(ha:a<18446744073709551616)(d:Bool):lR H S (dX H' S' n a d).1 (dX H' S' n a d).2.1:=by
 have j:=jt.alloc h.Uk ⟨h.ar.ok h.Uk,h.ms,h.ar.TD⟩ (h.ar.nb h.Uk) hn ha d;obtain⟨k,e⟩:=jv.alloc h.Uk h.ar hn ha d;have f:=j.2.1.ms;obtain⟨m,v⟩:=h.pre;obtain⟨s,p,l,q⟩:=h.ch;have c:=j.2.2.2.2.2;have hi:=rn h.Uk h.ar.TD hn ha d
 revert k e f c hi
 generalize dX H' S' n a d=r;intro k e f c hi;refine⟨k,e,f,⟨m,by rw[c];exact v⟩,?_⟩;cases hi with
 |new _ _ _ _ t o _=>
  refine⟨s++[_],by show S'.Tm++_=_;rw[p,Xj],fun a w=>?_,fun b i=>?_⟩
  .rw[o.Ty,l,VJ,VP,TU,or_assoc]
  rcases VJ.1 i with i|i
  .exact q b i
  obtain rfl:=VP.1 i;intro w u;exact o.rN h.Uk t ((l _ _).2 (.inl u)) rfl
 |_=>exact⟨s,p,l,q⟩
def lR.Zg{m:Mk}{pre:List Mk}(h:lR H S H' S')(o:S.ms=pre++[m])(e:m.Tm=S.Tm.length):∃c,S'.ms=pre++m ::c∧T3 (cz H' (eV S' m.Tm))∧(j9 S' pre.length m).Tm=S.Tm∧∀a w,aV (cz H' (eV S' m.Tm)) a w↔aV H a w:=by
 obtain⟨c,p⟩:=h.pre;obtain⟨r,d,j,l⟩:=h.ch;obtain⟨g,i,q⟩:=h.ar.cut h.Uk m.Tm;refine⟨c,by rw[p,o];simp,g,?_,fun a w=>?_⟩
 .show S'.Tm.take m.Tm=_;rw[d,e,List.take_left'];rfl
 rw[i,j,d,e,List.drop_left']
 .constructor
  .rintro⟨h|h,k⟩
   .exact h
   exact(k (V3.2 ⟨(a,w),h,rfl⟩)).elim
  intro f;refine⟨.inl f,fun k=>?_⟩;obtain⟨b,n,rfl⟩:=V3.1 k;exact l b n _ f
 rfl
end
end
end
end Go.Proofs.YtlgmpheammbacaaGreatDoor
namespace Go.Proofs.YtlgmpheammbacaaGreatDoor
open Go.ChangeShapes Go.WideShapes Go.ChangeAt Go.WideMaps Go.WideElems Go.RowKit
open AM
def rH.left{l i:List XR}{x:AM.V}(h:rH l 1 x):rH (l++i) 1 x:=by obtain⟨q,L,e,rfl,f,h⟩:=h;refine⟨q,L,e,rfl,f,fun d=>?_⟩;obtain⟨rfl,j,b,n,o,c,a,rfl,g⟩:=h d;exact⟨rfl,j,b,n,o,c,by rw[Wh (ab0.1 a).1];exact a,rfl,g⟩
def rH.right{l a:List XR}{x:AM.V}(h:rH a (1+l.length) x):rH (l++a) 1 x:=by obtain⟨q,L,e,rfl,f,h⟩:=h;refine⟨q,L,e,rfl,f,fun d=>?_⟩;obtain⟨rfl,j,b,n,o,c,i,rfl,g⟩:=h d;exact⟨rfl,l.length+j,b,n,o,c,by rw[WM Q,Z9];exact i,by rw[Yb],g⟩
def Hq{W:World}{H:Type}{enc:TypeId×Value->H}{Tj:Nat}{v3 v4:Value}{d Y:DataW H}{p p':List MemPlace}(h3:Value.okWide Tryz.prog W .any Tj 52 v3)(h4:Value.okWide Tryz.prog W .any Tj 52 v4)(hd:DataW.Trod enc Tryz.prog W 0 (fun _=>true) true 52 v3 d p)(hN:∀a len c,v3=.slice (some a) len c->len≤1990000000000)(I:DataW.Trod enc Tryz.prog W 0 (fun _=>true) true 52 v4 Y p')(G:∀a len c,v4=.slice (some a) len c->len≤1990000000000):
  ∃(l:List XR) (q X:Option (Nat×Nat)) (M e N y T P:Nat) (ops w:Nat->Wb),M≤1990000000000∧y≤1990000000000∧pT (ud l) sD (pX l) (DX l) q e M N ops∧pT (ud l) sD (pX l) (DX l) X T y P w∧
   VR (nF W l) (.slice q M e) v3∧VR (nF W l) (.slice X y T) v4∧∀x∈l,CD W (nF W l) x:=by
 obtain⟨l,q,M,e,N,ops,hM,E,L,t,r⟩:=oG h3 hd 1;obtain⟨k,q',S,Z,O,v,ac,m,u,g,f⟩:=oG h4 I (1+l.length);have U:∀{j:Nat} {x:XR},l[j]?=some x->(l++k)[j]?=some x:=fun {j x} h=>by rw[Wh (ab0.1 h).1];exact h
 have V:∀{j:Nat} {x:XR},k[j]?=some x->(l++k)[l.length+j]?=some x:=fun {j x} h=>by rw[WM Q,Z9];exact h
 obtain⟨hv,J⟩:=L (nF W (l++k)) fun j x hx=>rC (U hx)
 obtain⟨K,s⟩:=u (nF W (l++k)) fun j x hx=>by rw[Yb];exact rC (V hx)
 have F:M≤1990000000000:=by
  rcases E with rfl|⟨a,c,e⟩
  .omega
  exact hN _ _ _ e
 have o:S≤1990000000000:=by
  rcases m with rfl|⟨a,c,e⟩
  .omega
  exact G _ _ _ e
 refine⟨l++k,q,q',M,e,N,S,Z,O,ops,v,F,o,rp (j0:=0) (fun D=>?_) (fun i hi=>(r i hi).left),rp (j0:=l.length) (fun D=>?_) (fun i hi=>(f i hi).right),hv,K,fun x hx=>?_⟩
 .obtain⟨z,A,b,n,R,B,C⟩:=t D;exact⟨z,A,b,n,R,U B,C⟩
 .obtain⟨z,A,b,n,R,B,C⟩:=g D;exact⟨z,A,b,n,R,V B,C⟩
 rcases VJ.1 hx with h|h
 .exact J x h
 exact s x h
def PS{F:FuncId}{I:jj}(hg:G0.get F=some (.code I))(m:∀(l:List XR) (b r o:Int) (c M B e j i k:Nat) (q n:Option (Nat×Nat)) (ops f:Nat->Wb),0≤b->b<18446744073709551616->c<18446744073709551616->M≤1990000000000->pT (ud l) sD (pX l) (DX l) q e M B ops->j≤1990000000000->pT (ud l) sD (pX l) (DX l) n k j i f →
   au G0 [] F [Uu b r o,.u c,.slice q M e,.slice n j k] (Wf l) fun v _=>v=.bool true){W:World}{H:Type}{enc:TypeId×Value->H}{Tj:Nat}{C D v3 v4:Value}{d G:DataW H}{p S:List MemPlace}(A:gh Tryz.prog Tryz.prog.globals.size G0)(h:laidMetH Tryz.prog iW W)(J:Value.okWide Tryz.prog W .any Tj 30 C)(K:Value.okWide Tryz.prog W .any Tj 28 D)(L:Value.okWide Tryz.prog W .any Tj 52 v3)(N:Value.okWide Tryz.prog W .any Tj 52 v4)(hd:DataW.Trod enc Tryz.prog W 0 (fun _=>true) true 52 v3 d p)(P:∀a len g,v3=.slice (some a) len g->len≤1990000000000)(x:DataW.Trod enc Tryz.prog W 0 (fun _=>true) true 52 v4 G S)(t:∀a len g,v4=.slice (some a) len g->len≤1990000000000):
  Calls Tryz.prog F #[C,D,v3,v4] W fun e E=>e=.returned (.bool true)∧Below W.heap.size W E:=by
 obtain⟨b,r,o,rfl,b1,b2⟩:=AP J;obtain⟨c,rfl,c1⟩:=BA K;obtain⟨l,q,n,M,e,B,j,k,i,ops,f,O,s,Q,w,R,z,y⟩:=Hq L N hd P x t;refine jK (l:=l) (xs:=[Uu b r o,.u c,.slice q M e,.slice n j k]) A h y ?_ hg (m l b r o c M B e j i k q n ops f b1 b2 c1 O Q s w);exact⟨_,_,rfl,⟨_,rfl,⟨_,_,rfl,rfl,_,_,rfl,rfl,_,_,rfl,rfl,rfl⟩⟩,_,_,rfl,rfl,_,_,rfl,R,_,_,rfl,z,rfl⟩
end Go.Proofs.YtlgmpheammbacaaGreatDoor
namespace Go.Proofs.YtlgmpheammbacaaGreatDoor
open AM Go
noncomputable section
section
variable {σ σ' s:St}
section
variable {κ:Type} {hasK:κ -> Prop} {AK:κ -> Nat} {cK:κ -> cA} {A:Tu -> Nat} {H:aa} {B:AI -> Nat} {S:AS}
abbrev Ot(hasK:κ->Prop)(p:Prop):κ ⊕ Unit->Prop:=Sum.elim hasK fun _=>p
abbrev MG(AK:κ->Nat)(b:Nat):κ ⊕ Unit->Nat:=Sum.elim AK fun _=>b
abbrev QU(cK:κ->cA)(x:cA):κ ⊕ Unit->cA:=Sum.elim cK fun _=>x
def EU(h:Uo σ A H B S hasK AK cK)(g:T3 H):au G0 [] 41 [.acK (A .heap) 0] σ fun v s=>∃b,v=eO (bf H) b∧
  Uo s A H B S (Ot hasK (bf H≠[])) (MG AK b) (QU cK (.row ((bf H).length*2) (fy (bf H))))∧
  T5 σ s (VB H A S B hasK AK) (VB H A S B (Ot hasK (bf H≠[])) (MG AK b)):=by
 refine(HC.JY (Uo.hc h) (P:=fun v b=>v=eO (bf H) b) fun s R=>(BC R g).mono fun v i ⟨b,f,W⟩=>⟨b,f,W⟩).mono ?_;rintro _ i ⟨b,rfl,d,k⟩;refine⟨b,rfl,?_,k.next,fun a b c hw=>k.Wo a b c (Cp.1 hw),fun a b c hw=>?_⟩
 .refine Wd.sub d (fun k=>match k with| .inl (.inl x)=>.inl x| .inl (.inr x)=>.inr (.inl (.inl x))| .inr (.inl k)=>.inr (.inl (.inr k))| .inr (.inr u)=>.inr (.inr u)) ?_ ?_ ?_ ?_
  .rintro((x|x)|x|x) hk <;> exact hk
  .rintro((x|x)|x|x) ((y|y)|y|y) _ _ e <;> simp_all
  .rintro((x|x)|x|x) hk <;> rfl
  rintro((x|x)|x|x) hk <;> exact .inl rfl
 refine Nm.map ?_ (k.Xp a b c (Cp.1 hw));rintro((x|x)|x|x) hk
 .exact⟨.inl x,hk,rfl⟩
 .exact⟨.inr (.inl (.inl x)),hk,rfl⟩
 .exact⟨.inr (.inl (.inr x)),hk,rfl⟩
 exact⟨.inr (.inr x),hk,rfl⟩
def Jt(h:Uo σ A H B S hasK AK cK):au G0 [] 28 [.acK (B .TA) 0] σ fun v s=>v=.u S.TI∧s=σ:=Aw (Uo.drop h)
def Qe(h:Uo σ A H B S hasK AK cK)(a:S.OK):au G0 [] 29 [.acK (B .TA) 0] σ fun v s=>v=.u (dC S.Tm%18446744073709551616:Nat)∧aH σ s:=BM (Uo.drop h) a
end
end
section
variable {H H':aa} {S S':AS} {D:DT} {g:Gm} {N:Nat}
abbrev Ca(S:AS):Mk:=⟨S.TW,S.Tm.length,S.Tz,S.TI⟩
abbrev xJ(H':aa)(S S':AS):aa:=cz H' (eV S' S.Tm.length)
abbrev sh(S S':AS):AS:=j9 S' S.ms.length (Ca S)
structure Pb (S:AS) (H:aa) (g:Gm) (H':aa) (S':AS):Prop where
 ms:∃ suf,S'.ms=S.ms++Ca S :: suf
 Uk:T3 (xJ H' S S')
 ar:jv (xJ H' S S') (sh S S')
 ms2:xZ (sh S S')
 no:∀ m∈(sh S S').ms,(m.n:Int)≠(S.TW:Nat)
 Ty:bf (xJ H' S S')=bf H
 abM:T3 (cz (xJ H' S S') (eV (sh S S') 0))
 Y3:jv (cz (xJ H' S S') (eV (sh S S') 0)) (gL (sh S S'))
 len:(bf (cz (xJ H' S S') (eV (sh S S') 0))).length=g.O.length
def LZ(ok:eP D H S g [] N)(h:lR H (gU S) H' S'):Pb S H g H' S':=by
 have v:(gU S).ms=S.ms++[Ca S]:=rfl;obtain⟨r,n,l,x,o⟩:=h.Zg v rfl;have y:Ca S∈(gU S).ms:=by rw[v];simp
 have hn:=ok.mark.ms.Zf _ y;have b:jv (xJ H' S S') (sh S S'):=jv.Zg (i:=S.ms.length) h.Uk h.ar hn.1 hn.2;have q:jt (xJ H' S S') (sh S S'):=(jt.Zg (H:=H') ⟨h.ar.ok h.Uk,h.ms,h.ar.TD⟩ n).heap (by
  exact cJ.Tp (fh (eV S' S.Tm.length) h.Uk).2.1)
 have j:(sh S S').ms=S.ms:=by show S'.ms.take S.ms.length=S.ms;rw[n,List.take_left'];rfl
 have d:(sh S S').Tm=S.Tm:=x;obtain⟨s,t,z⟩:=b.cut l 0;refine⟨⟨r,n⟩,l,b,q.ms,fun m f=>?_,GH ok.Uk l o,s,jv.aan l b,?_⟩
 .rw[j]at f;have:=ok.ms.lt m f;omega
 have c:=ok.nd;rw[Wr]at c;refine KQ s (WN.1 c).2.1 fun a=>?_
 constructor
 .intro ha;obtain⟨w,hw⟩:=ok.ol a (.inl ha);refine⟨w,(t a w).2 ⟨(o a w).2 hw,fun u=>?_⟩⟩;rw[VG,d]at u;exact(WN.1 c).2.2 a u a ha rfl
 rintro⟨w,hw⟩;obtain⟨p,k⟩:=(t a w).1 hw;rw[VG,d]at k;rcases ok.TJ a w ((o a w).1 p)with e|e|e
 .exact absurd e k
 .exact e
 cases e
end
section
attribute [local go_sem] bJ bO bM bP bI bo bj bV bD bK VG Wa VU WZ dx dv cH bg cU bq bG cX cZ br bH cY cB UR UK aj az aD TH TK TZ bm bF aW aO aI bz aX bt aY dM aR bU dN aZ bc aT bA
variable {σ σ' s:St}
section
variable {κ:Type} {hasK:κ -> Prop} {AK:κ -> Nat} {cK:κ -> cA} {A:Tu -> Nat} {H:aa} {B:AI -> Nat} {S:AS} {m:ML -> Li} {D:DT} {g:Gm} {E:List Nat} {N:Nat} {v:V}
def wu{b l o:Int}{c M oo e M2 cS e2:Nat}{q q2:Option (Nat×Nat)}{ops f:Nat->Wb}(W0:Wd σ hasK AK cK)(ce:0≤b)(hb:b<18446744073709551616)(hc:c<18446744073709551616)(hM:M≤1990000000000)(ct:pT hasK AK cK D q e M oo ops)(ee:M2≤1990000000000)(cw:pT hasK AK cK D q2 e2 M2 cS f):
  au G0 [] 9 [Uu b l o,.u c,.slice q M e,.slice q2 M2 e2] σ fun v _=>v=.bool true:=by
 refine ai g9 rfl ?_;obtain⟨s1,aP⟩:=acH (σ.ag [.u b,.i l,.i o]);have w1:GW s1:=by rw[aP];exact W0.gw.new _ rfl
 have e1:TP σ s1:=by rw[aP];exact(Gr.g).ext
 have W1:=W0.ext e1 w1;have L1:Lo s1 (Nm hasK AK) σ.next 3 [.u b,.i l,.i o]:=⟨by rw[aP];exact To.cg σ _,rfl,W0.eh (Tx _)⟩
 simp (disch:=omega) only[go_sem,Uu,<- aP];refine((W1.AG (P:=fun v=>v=.bool true) fun s w hw=>qJ w hw).gw w1).mono ?_;rintro _ s2 ⟨⟨rfl,W2,k2⟩,w2⟩;have L2:=L1.T9 k2;simp (disch:=omega) only[go_sem,L2.ld];refine((W2.BI ce hb hc).gw w2).mono ?_;rintro y s3 ⟨⟨m1,m2⟩,w3⟩;by_cases ho:je b l o c
 .obtain⟨A,B,rfl,h3,k3⟩:=m1 ho;obtain⟨m0,G4,U⟩:=lP D ce ho h3;obtain⟨s4,dH⟩:=acH (s3.Ts 16 zG (U9 (Vc c b l o) (A .heap) (B .TA)));have cy:=aQ (σ:=s3) (z:=zG) (vs:=U9 (Vc c b l o) (A .heap) (B .TA)) (n:=16) (Vt ny) rfl;rw[<- dH]at G4 U cy;have du:(V.agg (U9 (Vc c b l o) (A .heap) (B .TA))).cells=U9 (Vc c b l o) (A .heap) (B .TA):=rfl;simp (disch:=omega) only[go_sem,du,ny,cy];obtain⟨x,hx⟩:=acH (s3.next);rw[<- hx]at U⊢;refine bW (fun n fr t=>fr.defers=[]∧fr.tmps.get 2=some (.slice q M e)∧fr.tmps.get 3=some (.slice q2 M2 e2)∧fr.tmps.get 9=some (.acK x 0)∧∃i,i+n=M∧fr.tmps.get 12=some (.i (i:Nat))∧
   ∃A B H S m g W,jw t A H B S m hasK AK cK D g [] i (.agg W)∧Lo t (UA H A S B m hasK AK) x 16 W) ?_ M ?_
  .rintro n ⟨tm,ds⟩ t ⟨hd,t2,t3,t9,i,hi,aU,A,B,H,S,m,g,W,G,Lx⟩;simp only at hd t2 t3 t9 aU;subst hd;have wt:=G.w.gw;by_cases ci:i<M
   .obtain⟨ob,rfl,rfl,cn⟩:=ct.load ci;obtain⟨ei, -⟩:=cn (Wd.right (Wd.right G.w));obtain⟨u1,I⟩:=acH (t.new (.acM 16 zG .nil));have c0:GW u1:=by rw[I];exact wt.new _ rfl
    have b0:TP t u1:=by rw[I];exact(Gr.g).ext
    have ep:u1.next=t.next+1:=by rw[I];rfl
    have cr:u1.Tq.get t.next=some (.acM 16 zG .nil):=by rw[I];show T.get (T.set _ _ _) _=_;rw[T.aJ,Ti rfl]
    have bT:Lo u1 (UA H A S B m hasK AK) t.next 16 zG:=⟨by rw[I];exact To.zero wt zG Y,rfl,Wd.eh G.w (Tx _)⟩
    have R:=Lx.ext b0 wt;have G1:jw u1 A H B S m hasK AK cK D g [] i (.agg W):=⟨TS.ext G.w b0 c0,G.ok,G.v⟩;obtain⟨be, -⟩:=cn (Wd.right (Wd.right G1.w));have em:x<t.next:=Lx.UH.lt wt;have cq:u1.load x 0 16=some W:=by rw[R.ld Q,VG,VZ (Vt R.len)]
    have d8:(ops i).v.length=7:=nC _;simp (disch:=omega) only[go_sem,t2,t3,t9,aU,<- I,cq,be];refine((qq G1 (ops i) Q (ct.dat i ci)).gw c0).mono ?_;rintro _ u2 ⟨⟨A',B',H',S',m',g',v',rfl,⟨h2,d5,cs,mk,hv,ot,pc,cP,rfl,b4⟩,hA,hB,hch,bs,k2,hP⟩,wu2⟩;obtain⟨GL,aC⟩:=acH (Uw A' B' H' S' cs mk hv ot pc cP);have gf:GL.all V.Tr=true:=by rw[aC];exact b4.Tr A' B' H' S'
    have gl:GL.length=16:=by rw[aC];rfl
    rw[<- aC];have ax:=R.T9 k2;have bi:=bT.T9 k2;have dF:=k2.Wo cr rfl rfl bT.nm;obtain⟨u3,dI,bY,c5,p3⟩:=bi.set wu2 (off:=0) (vs:=GL) Q gf;rw[VU,YH,YW (by rw[bi.len,gl];exact Tx _),Wr]at bY;have df:=TS.eX h2 p3 c5 bi.nm;have bk:=ax.put p3 Q;have dq:eN t.next zG 1 0 [([],u1),([],u2),([],u3)]=true:=oL rfl fun m x hx hm=>by
     match m,hx with
     | 0,hx=>cases hx;exact cr
     | 1,hx=>cases hx;exact dF
     |m+2,_=>omega
    have cp:u3.load t.next 0 16=some GL:=by rw[bY.ld Q,VG,VZ (Vt gl)]
    obtain⟨u4,dL,U,w4,p4⟩:=bk.set c5 (off:=0) (vs:=GL) Q gf;rw[VU,YH,YW (by rw[bk.len,gl];exact Tx _),Wr]at U;have h4:=TS.eX df p4 w4 bk.nm;simp (disch:=omega) only[go_sem,t2,t3,t9,aU,gl,dI,cq,be,<- I,dq,cp,dL];exact⟨n-1,Q,i+1,Q,rfl,A',B',H',S',m',g',_,⟨h4,d5,cs,mk,hv,ot,_,cP,Uj _ aC,b4⟩,U⟩
   obtain⟨h0,E,db,d3,dO,eq,d6,cR,dz,dd⟩:=G;have O0:=dd.ot.ls h0;obtain⟨qo,eo,rfl⟩:=O0.is;have av:W=Uw A B H S db d3 dO (.slice qo g.O.length eo) d6 cR:=V.agg.inj dz;have aM:W[0]?=some (.acK (A .heap) 0):=by rw[av];rfl
   have p:W[1]?=some (.acK (B .TA) 0):=by rw[av];rfl
   have ap:W[13]?=some (.slice qo g.O.length eo):=by rw[av];rfl
   have d7:=E.Ue;obtain rfl:i=M:=by have:=E;omega
   simp (disch:=omega) only[go_sem,t2,t3,t9,aU,Lx.cl,p];refine((AD h0 E.ok E.ms.nil E.ms.lt Q Q).gw wt).mono ?_;rintro _ t1 ⟨⟨rfl,B1,b6,h1,k1⟩,w1'⟩;have R:=Lx.T9 k1;have aS:=E.mark;simp (disch:=omega) only[go_sem,t9,R.cl,aM];refine((EU h1 aS.Uk).gw w1').mono ?_;rintro _ es ⟨⟨b1,rfl,h2,dS⟩,w2'⟩;have ax:=R.T9 dS;simp (disch:=omega) only[go_sem,t9,ax.cl,p];rw[<- b6];have cb:=Jt h2;rw[show(gU S).TI=S.TI from rfl]at cb;refine(cb.gw w2').mono ?_;rintro _ et ⟨⟨rfl,rfl⟩,w3'⟩;simp (disch:=omega) only[go_sem];have en:(gU S).ms.length=S.ms.length+1:=by show(S.ms++[_]).length=_;rw[UN];rfl
   refine bW (fun n' fr t'=>fr.defers=[]∧fr.tmps.get 3=some (.slice q2 M2 e2)∧fr.tmps.get 9=some (.acK x 0)∧fr.tmps.get 15=some (.i (S.TW:Nat))∧fr.tmps.get 16=some (eO (bf H) b1)∧fr.tmps.get 17=some (.u (S.TI:Nat))∧∃j,j+n'=M2∧fr.tmps.get 18=some (.i (j:Nat))∧
    ∃A' H' B' S',A' .heap=A .heap∧B' .TA=B .TA∧Uo t' A' H' B' S' (Ot (Sum.elim (fun i=>(m i).h) hasK) (bf H≠[])) (MG (Sum.elim (fun i=>(m i).a) AK) b1) (QU (Sum.elim (fun i=>(m i).c) cK) (.row ((bf H).length*2) (fy (bf H))))∧
     Lo t' (VB H' A' S' B' (Ot (Sum.elim (fun i=>(m i).h) hasK) (bf H≠[])) (MG (Sum.elim (fun i=>(m i).a) AK) b1)) x 16 W∧lR H (gU S) H' S'∧S'.TW≤S.TW+1+j∧S'.ms.length≤S.ms.length+1+j) ?_ M2 ?_
   .rintro n' ⟨eu,d9⟩ t' ⟨cf,r3,r9,J,K,X,j,hj,Z,A',H',B',S',ah,C,h',F,r,ek,el⟩;simp only at cf r3 r9 J K X Z;subst cf;have bx:=h'.gw;by_cases cj:j<M2
    .obtain⟨d4,rfl,rfl,co⟩:=cw.load cj;obtain⟨-,aL⟩:=co (Wd.right (Wd.left (Wd.right h')));have ch:t'.cell d4 (cS+j*7)=_:=aL 0 Q;have ck:=aL 3 Q;have al:=aL 4 Q;have cm:=aL 5 Q;have v0:(f j).v[0]?=some (.i (f j).k):=rfl;have v3:(f j).v[3]?=some (.u (f j).n):=rfl;have v4:(f j).v[4]?=some (.u (f j).a):=rfl;have v5:(f j).v[5]?=some (.bool (f j).d):=rfl;by_cases k2:(f j).k=2
     .simp (disch:=omega) only[go_sem,r3,r9,Z,ch,v0,k2,F.cl,p];rw[<- C];refine((AD h' (r.ar.ok r.Uk) r.ms.nil r.ms.lt Q Q).gw bx).mono ?_;rintro _ t4 ⟨⟨rfl,B4,bu,h4,k4⟩,w4'⟩;simp (disch:=omega) only[go_sem,r3,r9,Z];have mm:(gU S').ms.length=S'.ms.length+1:=by show(S'.ms++[_]).length=_;rw[UN];rfl
      have md:(gU S').TW=S'.TW+1:=rfl;exact⟨n'-1,Q,J,K,X,j+1,Q,rfl,A',H',B4,gU S',ah,bu,h4,F.T9 k4,r.mark,Q,Q⟩
     simp (disch:=omega) only[go_sem,r3,r9,Z,ch,v0,k2,F.cl,p,ck,al,cm,v3,v4,v5];rw[<- C];obtain⟨ra,cx⟩:=acH (dX H' S' (f j).n (f j).a (f j).d);have bv:=jt.alloc r.Uk ⟨r.ar.ok r.Uk,r.ms,r.ar.TD⟩ (r.ar.nb r.Uk) (f j).hn (f j).ha (f j).d;have ca:=r.alloc E.Uk (f j).hn (f j).ha (f j).d;rw[<- cx]at bv ca;refine((Dd h' r.Uk (r.ar.ok r.Uk) (f j).hn (f j).ha cx).gw bx).mono ?_;rintro _ t4 ⟨⟨rfl,A4,B4,dh,bu,h4,k4⟩,w4'⟩;have N:W[1]?=some (.acK (B' .TA) 0):=by rw[C];exact p
     simp (disch:=omega) only[go_sem,r3,r9,Z,F.cl,N,ck,al,cm,v3,v4,v5,dD];exact⟨n'-1,Q,J,K,X,j+1,Q,rfl,A4,ra.1,B4,ra.2.1,dh.trans ah,bu,h4,F.T9 k4,ca,by have:=bv.2.2.2.2.1;omega,by have:=bv.2.2.2.2.2;rw[this];omega⟩
    have L:=LZ E r;obtain⟨er,cE⟩:=L.ms;simp (disch:=omega) only[go_sem,r3,r9,J,Z,cj,F.cl,p];rw[<- C];refine((LP h' r.Uk (r.ar.ok r.Uk) r.ms cE Q).gw bx).mono ?_;rintro _ x1 ⟨⟨rfl,de,dU⟩,ww1⟩;have bd:=F.T9 dU;simp (disch:=omega) only[go_sem,r9,J,X,bd.cl,p];rw[<- C];have Lu:=L.ms2;refine((JF de L.ms2 L.no).gw ww1).mono ?_;rintro _ x2 ⟨⟨rfl,b5,d0⟩,ww2⟩;have ac:=bd.T9 d0;simp (disch:=omega) only[go_sem,r9,J,X,ac.cl,p]
    try rw[<- C]
    have cc:=Jt b5;rw[show(j9 S' S.ms.length (Ca S)).TI=S.TI from rfl]at cc;refine(cc.gw ww2).mono ?_;rintro _ x3 ⟨⟨rfl,rfl⟩,ww3⟩;simp (disch:=omega) only[go_sem,r9,J,K,X,ac.cl,aM,TV,Uq];rw[<- ah];refine((EU b5 L.Uk).gw ww3).mono ?_;rintro _ x4 ⟨⟨b2,rfl,aB,cO⟩,ww4⟩;have ad:=ac.T9 cO;have dl:bf (cz H' (eV S' (Ca S).Tm))=bf H:=L.Ty;rw[dl]at aB cO ad⊢;have am:∀b', ∃q e,eO (bf H) b'=.slice q (bf H).length e:=fun b'=>by
     unfold eO;by_cases c:bf H=[]
     .rw[Ti c,c];exact⟨_,_,rfl⟩
     rw[Tg c];exact⟨_,_,rfl⟩
    obtain⟨qa,ea,cJ⟩:=am b1;obtain⟨qb,eb,cL⟩:=am b2;have b8:U6 x4 (bf H) (eO (bf H) b1):=oR ww4 fun bw=>aB.Ur (.inr (.inl (.inr ()))) bw
    have b9:U6 x4 (bf H) (eO (bf H) b2):=oR ww4 fun bw=>aB.Ur (.inr (.inr ())) bw
    rw[cJ]at b8;rw[cL]at b9;rw[cJ]at K;have ej:=th E.Uk;simp (disch:=omega) only[go_sem,K,cL];refine bW (fun n' fr t'=>fr.defers=[]∧t'=x4∧fr.tmps.get 9=some (.acK x 0)∧fr.tmps.get 16=some (.slice qa (bf H).length ea)∧fr.tmps.get 19=some (.slice qb (bf H).length eb)∧∃j,j+n'=(bf H).length∧fr.tmps.get 20=some (.i (j:Nat))) ?_ (bf H).length ?_
    .rintro n4 ⟨ev,ed⟩ t4 ⟨al,rfl,y9,bC,bN,j4,eg,bS⟩;simp only at al y9 bC bN bS;subst al;by_cases c4:j4<(bf H).length
     .obtain⟨ba,oa,ha,_,a1,a2,a3⟩:=b8.at c4;obtain⟨bb,ob,dm,_,c1,c2,c3⟩:=b9.at c4;cases ha;cases dm;have dy:cF [true,true] [V.u (bf H)[j4].1,V.u (bf H)[j4].2] [V.u (bf H)[j4].1,V.u (bf H)[j4].2]=some true:=by simp[cF,nr]
      simp (disch:=omega) only[go_sem,y9,bC,bN,bS,c4,a3,c3,dy,dD];exact⟨n4-1,Q,j4+1,Q,rfl⟩
     simp (disch:=omega) only[go_sem,y9,bC,bN,bS,c4,ad.cl,p];rw[<- C];refine((DB aB L.Uk (L.ar.ok L.Uk)).gw ww4).mono ?_;rintro _ x5 ⟨⟨h5,d1⟩,ww5⟩;have af:=ad.T9 d1;simp (disch:=omega) only[go_sem,y9,af.cl,aM];rw[<- ah];refine((EU h5 L.abM).gw ww5).mono ?_;rintro _ x6 ⟨⟨b3,rfl,h6,d2⟩,ww6⟩;have ay:=af.T9 d2;obtain⟨qc,ec,dQ⟩:∃q e,eO (bf (cz (xJ H' S S') (eV (sh S S') 0))) b3=.slice q g.O.length e:=by
      rw[<- L.len];unfold eO;by_cases c:bf (cz (xJ H' S S') (eV (sh S S') 0))=[]
      .rw[Ti c,c];exact⟨_,_,rfl⟩
      rw[Tg c];exact⟨_,_,rfl⟩
     rw[dQ];have ao:W[0]?=some (.acK (A' .heap) 0):=by rw[ah];exact aM
     simp (disch:=omega) only[go_sem,y9,af.cl,ay.cl,ao,p,ap,dD]
     try rw[<- C]
     have hH:=Qe h6 (L.Y3.ok L.abM);rw[show dC (gL (j9 S' S.ms.length (Ca S))).Tm%18446744073709551616=0 from rfl]at hH;refine(hH.gw ww6).mono ?_;rintro _ x7 ⟨⟨rfl,g7⟩,ww7⟩;have bl:=ay.ext g7.ext ww6;have h7:=Wd.ext h6 g7.ext ww7;have N:W[1]?=some (.acK (B' .TA) 0):=by rw[C];exact p
     simp (disch:=omega) only[go_sem,y9,af.cl,ay.cl,bl.cl,ao,N,ap,dD];refine((lQ (Uo.drop h7) (L.Y3.ok L.abM)).gw ww7).mono ?_;rintro cv x8 ⟨⟨dk,g8⟩,ww8⟩;obtain⟨q8,e8,rfl⟩:=dk.is;have dn:(gL (j9 S' S.ms.length (Ca S))).Tm.length=0:=rfl;have da:=bl.ext g8.ext ww7;simp (disch:=omega) only[go_sem,y9,dn,af.cl,ay.cl,bl.cl,da.cl,ao,N,ap,dD]
    simp (disch:=omega) only[go_sem,r9,K];exact⟨0,Q,rfl⟩
   simp (disch:=omega) only[go_sem,t3,t9];exact⟨0,Q,rfl,A,H,B1,gU S,rfl,b6,h2,ax,lR.refl aS.Uk aS.ar aS.ms,by show S.TW+1≤_;omega,Q⟩
  simp (disch:=omega) only[go_sem];exact⟨0,Q,rfl,A,B,_,_,m0,_,_,G4,U⟩
 obtain rfl:=m2 ho;simp (disch:=omega) only[go_sem]
end
end
end
end Go.Proofs.YtlgmpheammbacaaGreatDoor
