import Derived.Test.YtlgmpheammbacaaGreatDoorPyn
set_option linter.all false
set_option maxRecDepth 1000000
set_option maxHeartbeats 8000000
attribute [local irreducible] AM.T.get AM.T.set
namespace Go.Proofs.YtlgmpheammbacaaGreatDoor
open AM Go
noncomputable section
section
variable {σ:St} {A:Tu -> Nat} {H H':aa} {fl pl fc:Nat -> List Nat} {S:AS}
theorem ky(H:aa)(l:Int)(a n:Nat):(H.aC l).eZ a n=H.eZ a n:=rfl
def FW(h:aw σ A H)(hg:T3 H)(a n:Nat)(hn:0<n)(hy:H.eZ a n=true):
  au G0 [] 33 [.acK (A .heap) 0,.u a,.u n] σ fun r s=>∃b,r=.tuple [.acL b 0 n 1,.i 0]∧HC s A H (fun _:Unit=>True) (fun _=>b) (fun _=>.row n fun i=>.int .u8 (H.mem (a-H.Tj+i))):=by
 refine ai g33 rfl ?_;obtain⟨fl,pl,fc,C⟩:=hg.UB;have f:=C.aC 1;obtain⟨v,W,⟨B,c⟩,o⟩:=kL h hg.lock;subst c;have d:¬(n:Int)=0:=Q;obtain⟨v,s2,⟨c,S,g⟩,p⟩:=B.dF (px B f a n);rw[ky,hy]at c;subst c;have m:(H.aC 1).In a n:=by
  unfold aa.eZ at hy;cases l:H.hU a with
  |none=>rw[l]at hy;cases hy
  |some x=>
   obtain⟨P,w⟩:=x;rw[l]at hy;have j:=abP hy;simp only at j;obtain⟨L,N,U⟩:=C.rm l;exact f.F2 (P:=P) (w:=w) L N hn Q
 have q5:=g.cell (s:=.heap) trivial (i:=5) (Q:5<7);rw[show(H.aC 1).cell A .heap 5=.acK (A .Ud) 0 from rfl]at q5;obtain⟨v,X,⟨c,z⟩,q⟩:=gG g;subst c z;obtain⟨v,O,⟨b,c,F,T,K,E⟩,t⟩:=Ny g f.ok hn m;subst c;have I:HC O A (H.aC 1) (fun _:Unit=>True) (fun _=>b) (fun _=>.row n fun i=>.int .u8 (H.mem (a-H.Tj+i))):=Wd.box (lu F) E fun i hi e=>by have:=g.lt hi;omega
 obtain⟨v,Y,⟨R,G,k,c⟩,y⟩:=HC.call (Γ:=G0) (Γ':=G0) (M:=[]) (H':=H) (P:=fun v D=>A=D∧v=.tuple []) (fun _ _ h=>h) (fun _ h=>nomatch h) I fun s hs=>(fg hs rfl).mono fun v V ⟨j,J⟩=>⟨A,by rw[ff hg.lock]at j;exact j,rfl,J⟩
 subst k c;simp only[go_sem];refine ab o ?_;simp only[go_sem,d];refine ab p ?_;simp only[go_sem,d,q5];refine ab q ?_;simp only[go_sem,d,q5];refine ab t ?_;simp only[go_sem,b7];refine⟨.inr fi,ab y ?_⟩;simp only[go_sem];exact⟨b,rfl,G⟩
def mM.T6{a:Nat}(f:mM H a H'):H'.cJ H:=by
 cases f with
 |no h=>exact aa.cJ.refl H
 |yR c b=>exact b.T6
def mM.Ty{a:Nat}(f:mM H a H'){b s:Nat}:aV H' b s↔aV H b s∧b≠a:=by
 cases f with
 |no h=>exact⟨fun c=>⟨c,fun e=>h s (e▸c)⟩,fun c=>c.1⟩
 |yR g d=>exact d.Ty b s
def mM.bytes{a:Nat}(f:mM H a H'){b s:Nat}(d:aV H' b s){i:Nat}(hi:i<s):H'.mem (b-H.Tj+i)=H.mem (b-H.Tj+i):=by
 cases f with
 |no h=>rfl
 |yR e c=>exact c.bytes b s d i hi
def fh(l:List Nat):∀{H:aa},T3 H->T3 (cz H l)∧(cz H l).cJ H∧(∀b s,aV (cz H l) b s↔aV H b s∧b∉l)∧∀b s,aV (cz H l) b s->∀i,i<s->(cz H l).mem (b-H.Tj+i)=H.mem (b-H.Tj+i):=by
 induction l with
 |nil=>intro H g;exact⟨g,aa.cJ.refl H,fun b s=>by simp[cz],fun _ _ _ _ _=>rfl⟩
 |cons a r p=>
  intro H g;obtain⟨f,m⟩:=g.Vf a;obtain⟨n,h,k,o⟩:=p m;have sm:=f.T6;refine⟨n,⟨h.Th.trans sm.Th,h.Tj.trans sm.Tj,h.Tl.trans sm.Tl,h.TB.trans sm.TB⟩,?_,?_⟩
  .intro b s;show aV (cz (jR H a) r) b s↔_;rw[k,f.Ty,U8];constructor
   .rintro⟨⟨c,d⟩,h3⟩;exact⟨c,fun e=>e.elim d h3⟩
   rintro⟨c,d⟩;exact⟨⟨c,fun e=>d (.inl e)⟩,fun e=>d (.inr e)⟩
  intro b s j i hi;have c:=o b s j i hi;rw[sm.Tj]at c;show(cz (jR H a) r).mem _=_;rw[c];exact f.bytes ((k b s).1 j).1 hi
def Cj{x a:Nat}(ha:0<a):(x+a-1)/a*a=if x%a=0 then x else x-x%a+a:=by
 have hd:=XJ x a;have e:=Wt x ha;obtain⟨q,d⟩:=acH (x/a);rw[<- d,UF]at hd;have b:(q+1)*a=q*a+a:=by rw[UW,WH]
 have s2:(q+1+1)*a=q*a+a+a:=by rw[UW,WH,b]
 by_cases c:x%a=0
 .rw[Ti c,show(x+a-1)/a=q from ZJ Q Q];omega
 rw[Tg c,show(x+a-1)/a=q+1 from ZJ Q Q,b];omega
def AS.zn{m a:Nat}(ha:0<a){t:Nat×Nat}(h:S.Tm.getLast?=some t):S.Wj m a=if(if(t.1+S.Tz)%a=0 then t.1+S.Tz else t.1+S.Tz-(t.1+S.Tz)%a+a)+m≤t.1+t.2 then some (if(t.1+S.Tz)%a=0 then t.1+S.Tz else t.1+S.Tz-(t.1+S.Tz)%a+a)else none:=by rw[AS.vF h,Cj ha]
def AS.IV{m a p:Nat}(ha:0<a)(h:S.Wj m a=some p):∃t,S.Tm.getLast?=some t∧p%a=0∧t.1+S.Tz≤p∧p+m≤t.1+t.2:=by
 cases c:S.Tm.getLast? with
 |none=>unfold AS.Wj at h;rw[c]at h;cases h
 |some t=>
  rw[AS.vF c]at h;split at h
  .rename_i b;cases h;refine⟨t,rfl,Xl _ _,?_,b⟩;rw[Cj ha];have:=Wt (t.1+S.Tz) ha;have:=Nat.mod_le (t.1+S.Tz) a;split <;> omega
  cases h
def Pr(w d:Int):Prop:=1≤w∧w≤16∧0≤d∧d≤64
end
section
variable {σ σ':St}
theorem kE(p:Nat×Nat):Y4 .ptr (.ptr (some p)) (.ptr none)=some false:=rfl
def Wd.DL{ι:Type}(w:GW σ)(hw:Vv σ)(A:ι->Nat)(c:ι->cA):Wd σ (fun _:ι=>False) A c where
 gw:=w
 Ub:=hw
 V2 h:=h.elim
 inj _ _ h:=h.elim
 Ur _ h:=h.elim
 cut _ _ _ h:=h.elim
section
variable {ι κ:Type} {hasK:κ -> Prop} {AK:κ -> Nat} {cK:κ -> cA}
def Wd.pad(h:Wd σ hasK AK cK)(A:ι->Nat)(c:ι->cA):Wd σ (Sum.elim (fun _:ι=>False) hasK) (Sum.elim A AK) (Sum.elim c cK) where
 gw:=h.gw
 Ub:=h.Ub
 V2 {i} hi:=by
  rcases i with i|i
  .exact hi.elim
  exact h.V2 hi
 inj i j hi hj e:=by
  rcases i with i|i
  .exact hi.elim
  rcases j with j|j
  .exact hj.elim
  exact Uj _ (h.inj i j hi hj e)
 Ur i hi:=by
  rcases i with i|i
  .exact hi.elim
  exact h.Ur i hi
 cut i j o hi hj hne ho hg:=by
  rcases i with i|i
  .exact hi.elim
  rcases j with j|j
  .exact hj.elim
  exact h.cut i j o hi hj (fun e=>hne (Uj _ e)) ho hg
def Wd.ON{g:FuncId}{xs:List V}{P:V->(ι->Prop)->(ι->Nat)->(ι->cA)->Prop}(h:Wd σ hasK AK cK)(c:∀σ,GW σ->Vv σ->au G0 [] g xs σ fun v σ'=>∃a A' b,Wd σ' a A' b∧P v a A' b):
  au G0 [] g xs σ fun v σ'=>∃a A' b,Wd σ' (Sum.elim a hasK) (Sum.elim A' AK) (Sum.elim b cK)∧P v a A' b:=
 Wd.call (Γ:=G0) (Γ':=G0) (M:=[]) (fun _ _ h=>h) (fun _ h=>nomatch h) (h.pad (fun _=>0) fun _=>.map []) fun s w=>c s w.gw w.Ub
def Wd.Rp{g:FuncId}{xs:List V}{P:V->Prop}(h:Wd σ hasK AK cK)(a:∀σ,GW σ->Vv σ->au G0 [] g xs σ fun v σ'=>P v∧Vv σ'):
  au G0 [] g xs σ fun v σ'=>P v∧Wd σ' hasK AK cK:=by
 refine(Wd.ON (ι:=Empty) (P:=fun v _ _ _=>P v) h fun s w hw=>((a s w hw).gw w).mono ?_).mono ?_
 .rintro v e ⟨⟨b,c⟩,w'⟩;exact⟨_,(fun _=>0),(fun _=>.map []),Wd.DL w' c _ _,b⟩
 rintro v e ⟨d,f,i,W,b⟩;exact⟨b,W.right⟩
def Wd.Mg(h:Wd σ hasK AK cK){b l o:Int}(d:0≤b)(m:b<18446744073709551616):
  au G0 [] 16 [Uu b l o] σ fun v s=>(¬dV b l o->v=.tuple [.ptr none,.i 1]∧Wd s hasK AK cK)∧
   (dV b l o->∃A,v=.tuple [.acK (A .heap) 0,.i 0]∧HC s A (di b.toNat l.toNat o.toNat) hasK AK cK):=by
 by_cases f:dV b l o
 .refine(Wd.ON (ι:=Tu) (P:=fun v a e k=>v=.tuple [.acK (e .heap) 0,.i 0]∧a=(di b.toNat l.toNat o.toNat).has∧k=fW (di b.toNat l.toNat o.toNat) e) h fun s w hw=>((mL (l:=l) (o:=o) d m w hw).mono ?_)).mono ?_
  .rintro v j ⟨_,p⟩;obtain⟨A,c,R⟩:=p f;exact⟨_,A,_,lu R,c,rfl,rfl⟩
  rintro v j ⟨a,e,k,W,c,rfl,rfl⟩;exact⟨fun h=>(h f).elim,fun _=>⟨e,c,W⟩⟩
 refine(Wd.Rp (P:=fun v=>v=.tuple [.ptr none,.i 1]) h fun s w hw=>((mL (l:=l) (o:=o) d m w hw).mono ?_)).mono ?_
 .rintro v j ⟨n,_⟩;obtain⟨c,g⟩:=n f;exact⟨c,hw.fQ (g.TE _ (hw.lt w))⟩
 rintro v j ⟨c,W⟩;exact⟨fun _=>⟨c,W⟩,fun h=>(f h).elim⟩
end
section
variable {κ:Type} {hasK:κ -> Prop} {AK:κ -> Nat} {cK:κ -> cA} {A:Tu -> Nat} {H:aa} {B:AI -> Nat} {S:AS}
def HC.Lg(h:HC σ A H hasK AK cK)(ok:H.OK){c:Nat}(n:c<18446744073709551616):
  au G0 [] 17 [.acK (A .heap) 0,.u c] σ fun r s=>if c=0 then r=.tuple [.ptr none,.i 1]∧HC s A H hasK AK cK else if H.Tp<c then r=.tuple [.ptr none,.i 3]∧HC s A H hasK AK cK else ∃b,r=.tuple [.acK b 0,.i 0]∧Uo s A H (fun _=>b) (ie c) hasK AK cK:=by
 by_cases l:c=0
 .simp only[Ti l];refine(HC.call (H':=H) (P:=fun v d=>v=.tuple [.ptr none,.i 1]∧d=A) (Γ:=G0) (Γ':=G0) (M:=[]) (fun _ _ h=>h) (fun _ h=>nomatch h) h fun s R=>(uM R ok n).mono ?_).mono ?_
  .intro v m a;simp only[Ti l]at a;exact⟨A,a.2,a.1,rfl⟩
  rintro v m ⟨d,W,g,rfl⟩;exact⟨g,W⟩
 simp only[Tg l];by_cases c1:H.Tp<c
 .simp only[Ti c1];refine(HC.call (H':=H) (P:=fun v d=>v=.tuple [.ptr none,.i 3]∧d=A) (Γ:=G0) (Γ':=G0) (M:=[]) (fun _ _ h=>h) (fun _ h=>nomatch h) h fun s R=>(uM R ok n).mono ?_).mono ?_
  .intro v m a;simp only[Tg l,Ti c1]at a;exact⟨A,a.2,a.1,rfl⟩
  rintro v m ⟨d,W,g,rfl⟩;exact⟨g,W⟩
 simp only[Tg c1];have p:Wd σ (Sum.elim (Sum.elim H.has fun _:AI=>False) hasK) (Sum.elim (Sum.elim A fun _=>0) AK) (Sum.elim (Sum.elim (fW H A) fun _=>.map []) cK):=by
  refine Wd.sub h (fun k=>match k with| .inl (.inl s)=>.inl s| .inl (.inr u)=>.inl .heap| .inr k=>.inr k) ?_ ?_ ?_ ?_
  .rintro((k|k)|k) hk
   .exact hk
   .exact hk.elim
   exact hk
  .rintro((k|k)|k) ((j|j)|j) hk hj e <;> simp_all
  .rintro((k|k)|k) hk
   .rfl
   .exact hk.elim
   rfl
  rintro((k|k)|k) hk
  .exact .inl rfl
  .exact hk.elim
  exact .inl rfl
 refine(Wd.call (Γ:=G0) (Γ':=G0) (M:=[]) (P:=fun v f d o=>∃b,v=.tuple [.acK b 0,.i 0]∧f=Sum.elim H.has (ie c).has∧d=Sum.elim A (fun _=>b)∧o=Sum.elim (fW H A) ((ie c).X5 (A .heap) fun _=>b)) (fun _ _ h=>h) (fun _ h=>nomatch h) p fun s w=>(uM (jl w.left) ok n).mono ?_).mono ?_
 .intro v m a;simp only[Tg l,Tg c1]at a;obtain⟨b,g,R⟩:=a;exact⟨_,_,_,R,b,g,rfl,rfl,rfl⟩
 rintro v m ⟨f,d,o,W,b,g,rfl,rfl,rfl⟩;exact⟨b,g,W⟩
end
def It(l:List (Nat×Nat))(n:Nat):((List.range n).map fun j=>fy l (0+j)).all V.Tr=true:=by rw[X8];intro v a;obtain⟨j,_,rfl⟩:=V3.1 a;rfl
def Hx{ι:Type}[DecidableEq ι]{has:ι->Prop}{A:ι->Nat}{c:ι->cA}{B:AI->Nat}{S:AS}(W:Wd σ has A c)(v:S.OK)(m:σ.cell (B .TA) 2=some (S.dp B))(x:S.Vz=true->Row σ (B .Tm) (S.Tm.length*2) (fy S.Tm)){i0:ι}(hs:¬has i0):
  au G0 [] 19 [.acK (B .TA) 0] σ fun r s=>∃b,r=eO S.Tm b∧aH σ s∧σ.next≤b∧(S.Tm≠[]->To s b (S.Tm.length*2) (fy S.Tm))∧
   Wd s (fun i=>has i∨(i=i0∧S.Tm≠[])) (cu A i0 b) (cu c i0 (.row (S.Tm.length*2) (fy S.Tm))):=by
 by_cases d:S.Tm=[]
 .obtain⟨q,z,o⟩:∃q z,S.dp B=.slice q 0 z:=by
   unfold AS.dp;by_cases c:S.Vz=true
   .rw[Ti c,d];exact⟨_,_,rfl⟩
   rw[Tg c];exact⟨_,_,rfl⟩
  rw[o]at m;refine(yV m).mono ?_;rintro r s ⟨rfl,rfl⟩;refine⟨s.next,by unfold eO;rw[Ti d],aH.refl _,Tx _,fun h=>(h d).elim,?_⟩;have l:∀i,has i->i≠i0:=fun i h e=>hs (e▸h)
  refine W.sub id ?_ (fun _ _ _ _ e=>e) ?_ ?_
  .rintro k (a|⟨_,a⟩)
   .exact a
   exact(a d).elim
  .rintro k (a|⟨_,a⟩)
   .rw[aA (l k a)];rfl
   exact(a d).elim
  rintro k (a|⟨_,a⟩)
  .rw[aA (l k a)];exact .inl rfl
  exact(a d).elim
 have g:0<S.Tm.length:=List.length_pos_iff.2 d;have u:S.Vz=true:=by
  cases h:S.Vz with
  |true=>rfl
  |false=>exact(d (v.nil h)).elim
 have o:S.dp B=.acL (B .Tm) 0 S.Tm.length 2:=by unfold AS.dp;rw[Ti u]
 rw[o]at m;have p:=(x u).load (off:=0) (k:=S.Tm.length*2) Q;refine(zq m g v.Ue p (It _ _)).mono ?_;rintro r s ⟨rfl,rfl⟩;have w:((List.range (S.Tm.length*2)).map fun j=>fy S.Tm (0+j)).length=S.Tm.length*2:=by simp
 have f:∀i,i<S.Tm.length*2->Tn ((List.range (S.Tm.length*2)).map fun j=>fy S.Tm (0+j)) i=fy S.Tm i:=by intro i hi;unfold Tn;rw[U7,X0,YC hi];simp
 refine⟨σ.next,by unfold eO;rw[Tg d],aH.new _ _,Tx _,fun _=>?_,?_⟩
 .have L:=To.cg σ ((List.range (S.Tm.length*2)).map fun j=>fy S.Tm (0+j));rw[w]at L;exact L.congr (Tx _) f
 have t:=W.cells hs ((List.range (S.Tm.length*2)).map fun j=>fy S.Tm (0+j));rw[w]at t;refine t.sub id ?_ (fun _ _ _ _ e=>e) (fun _ _=>rfl) ?_
 .rintro k (a|⟨a,_⟩)
  .exact .inl a
  exact .inr a
 intro k a;by_cases n:k=i0
 .subst n;right;exact⟨_,_,_,_,aF,aF,Tx _,f⟩
 left;rw[aA n];exact(aA n).symm
end
section
variable {σ σ':St}
def OY{b l:Int}{k:Nat}(j:k≤8):au G0 [] 44 [Uu b l k] σ fun v s=>v=.u ((4096*2^k:Nat):Int)∧s=σ.ag [.u b,.i l,.i k]:=by
 refine ai g44 rfl ?_;have e:=m7 σ b l k;generalize hs:σ.ag [.u b,.i l,.i k]=d at e;have h:d.cell σ.next 2=some (.i k):=e.cell (i:=2) Q;have m:2^k≤256:=by
  have:(2:Nat)^k≤2^8:=Vb Q Q
  simpa using this
 have g:jc .u64 (4096:Int) (k:Int)=((4096*2^k:Nat):Int):=gP (a:=4096) Q Q;have f:IntKind.u64.wrap (k:Int)=(k:Int):=bm Q;have c:(0:Int)≤(k:Int):=Q;simp only[go_sem,Uu,aj,fC,hs,h,aT,c,f,g]
def Ad{b l o:Int}(ac:0≤b)(hb:b<18446744073709551616)(hw:GW σ):au G0 [] 63 [Uu b l o] σ fun v s=>v=.bool (decide (dV b l o))∧aH σ s:=by
 refine ai g63 rfl ?_;have q:=m7 σ b l o;have g:aH σ (σ.ag [.u b,.i l,.i o]):=aH.new σ _;have D:GW (σ.ag [.u b,.i l,.i o]):=hw.new _ rfl;generalize hs:σ.ag [.u b,.i l,.i o]=c at q g D;have p:c.cell σ.next 0=some (.u b):=q.cell (i:=0) Q;have d:c.cell σ.next 1=some (.i l):=q.cell (i:=1) Q;have e:c.cell σ.next 2=some (.i o):=q.cell (i:=2) Q;have w:c.load σ.next 0 3=some [.u b,.i l,.i o]:=q.load (off:=0) (k:=3) Q;by_cases j:o<0
 .have hn:¬dV b l o:=fun h=>by have:=h.o0;omega
  simp only[go_sem,Uu,aj,fC,hs,p,d,e,j,hn];exact g
 by_cases c1:8<o
 .have hn:¬dV b l o:=fun h=>by have:=h.o8;omega
  simp only[go_sem,Uu,aj,fC,hs,p,d,e,j,c1,hn];exact g
 by_cases E:l<1
 .have hn:¬dV b l o:=fun h=>by have:=h.l1;omega
  simp only[go_sem,Uu,aj,fC,hs,p,d,e,j,c1,E,hn];exact g
 by_cases H:64<l
 .have hn:¬dV b l o:=fun h=>by have:=h.l64;omega
  simp only[go_sem,Uu,aj,fC,hs,p,d,e,j,c1,E,H,hn];exact g
 obtain⟨k,rfl⟩:∃k:Nat,o=(k:Int):=⟨o.toNat,Q⟩
 obtain⟨m,rfl⟩:∃m:Nat,l=(m:Int):=⟨l.toNat,Q⟩
 obtain⟨n,rfl⟩:∃n:Nat,b=(n:Int):=⟨b.toNat,Q⟩
 have T:2^k≤256:=by
  have:(2:Nat)^k≤2^8:=Vb Q Q
  simpa using this
 have U:0<2^k:=Ye Q;have ad:m*2^k≤64*256:=Nat.mul_le_mul Q T;have R:jc .i64 (m:Int) (k:Int)=((m*2^k:Nat):Int):=oU Q Q;have S:IntKind.u64.wrap (k:Int)=(k:Int):=bm Q;have A:(0:Int)≤(k:Int):=Q;have x:((m*2^k:Nat):Int)=(m:Int)*2^k:=by simp
 have y:((4096*2^k:Nat):Int)=4096*2^k:=by simp
 have z:((4096*2^k*m:Nat):Int)=4096*2^k*(m:Int):=by simp
 have a:dV n m k↔m*2^k≤1024∧n≠0∧n%(4096*2^k)=0∧4096*2^k*m+n≤9223372036854775808:=by
  constructor
  .intro h;have d:=h.aU;have e:=h.al;have w:=h.Uv;have Z:=h.b0;simp only[TZ]at d e w;rw[<- x]at d;rw[<- y]at e;rw[<- z]at w;exact⟨Q,Q,Q,Q⟩
  rintro⟨d,e,w,Z⟩;refine⟨Q,Q,Q,Q,?_,Q,?_,?_⟩ <;> simp only[TZ]
  .rw[<- x];omega
  .rw[<- y];omega
  rw[<- z];omega
 by_cases O:(1024:Int)<((m*2^k:Nat):Int)
 .have hn:¬dV n m k:=fun h=>by have:=(a.1 h).1;omega
  simp only[go_sem,Uu,aj,fC,hs,p,d,e,j,c1,E,H,aT,A,S,R,O,hn];exact g
 have L:((4096*2^k:Nat):Int)≠0:=Q;obtain⟨v,s2,⟨hv,N⟩,M⟩:=OY (σ:=c) (b:=(n:Int)) (l:=(m:Int)) (k:=k) Q;subst hv;have t:aH c s2:=by rw[N];exact aH.new _ _
 have B:=q.Ui D t;have F:s2.cell σ.next 0=some (.u n):=B.cell (i:=0) Q;have G:s2.cell σ.next 1=some (.i m):=B.cell (i:=1) Q;have f:=g.trans t;have C:V5 G0 [] 44 [.agg [.u n,.i m,.i k]] c (.u ((4096*2^k:Nat):Int)) s2:=M;simp only[go_sem,Uu,aj,fC,hs,p,d,e,w,j,c1,E,H,aT,A,S,R,O];refine ab C ?_;by_cases r:(n:Int)=0
 .have hn:¬dV n m k:=fun h=>by have:=(a.1 h).2.1;omega
  simp only[go_sem,F,G,r,hn];rw[r]at hn;simp only[hn,decide_false];exact⟨trivial,f⟩
 have J:(n:Int).tmod ((4096*2^k:Nat):Int)=((n%(4096*2^k):Nat):Int):=aW _ _;by_cases I:((n%(4096*2^k):Nat):Int)=0
 .by_cases P:(9223372036854775808:Int)<(n:Int)
  .have hn:¬dV n m k:=fun h=>by have:=(a.1 h).2.2.2;omega
   simp only[go_sem,F,G,r,aZ,L,J,I,P,TV,Ug,Uq,hn];exact f
  have V:IntKind.u64.wrap (m:Int)=(m:Int):=bm Q;have af:4096*2^k*m≤4096*256*64:=Nat.mul_le_mul (Xu _ T) Q;have K:m*(4096*2^k)=4096*2^k*m:=UF _ _;have W:IntKind.u64.wrap ((m:Int)*((4096*2^k:Nat):Int))=((4096*2^k*m:Nat):Int):=by rw[<- K];exact gV Q
  have X:IntKind.u64.wrap ((n:Int)+((4096*2^k*m:Nat):Int))=((n+4096*2^k*m:Nat):Int):=bD Q;have Y:decide (((n+4096*2^k*m:Nat):Int)≤9223372036854775808)=decide (dV n m k):=by
   rw[Zw,a];constructor
   .intro h;exact⟨Q,Q,Q,Q⟩
   rintro⟨_,_,_,h⟩;omega
  simp only[go_sem,F,G,r,aZ,L,J,I,P,V,W,X,Y,TV,Ug,Uq];exact f
 have hn:¬dV n m k:=fun h=>by have:=(a.1 h).2.2.1;omega
 simp only[go_sem,F,G,r,aZ,L,J,I,TV,Ug,Uq,hn];exact f
def Gg(b l o w d:Int):Prop:=Pr w d∧dV b l o
instance (w d:Int):Decidable (Pr w d):=by unfold Pr;exact inferInstance
instance (b l o w d:Int):Decidable (Gg b l o w d):=by unfold Gg;exact inferInstance
end
section
attribute [local go_sem] bJ bO bM bP bI bo bj bV bD bK cH bg cU bq bG cX cZ br bH cY cB UR UK aj az aD TH TK TZ bm bF aW aO aI bz aX bt aY dM aR bU dN aZ bc aT bA
variable {σ σ' s:St}
structure Cf (b l k:Nat):Prop where
 k8:k≤8
 b0:0<b
 Uv:b+l*(4096*2^k)≤9223372036854775808
 aU:l*2^k≤1024
abbrev XQ(b l k:Nat):V:=.agg [.u b,.i l,.i k]
structure OfP (b k r:Nat) (x:Nat × Nat):Prop where
 pow:cQ x.2=true
 lo:16≤x.2
 hi:x.2≤4096*2^k
 al:x.1%x.2=0
 Tj:b≤x.1
 Uv:x.1-b<r*(4096*2^k)
theorem Qv{b l k r p w:Nat}(c:Cf b l k)(E:r≤l)(h:OfP b k r (p,w)):au G0 [] 265 [XQ b l k,.i r,.agg [.u p,.u w]] σ fun v s=>v=.bool true∧aH σ s:=by
 refine ai g265 rfl ?_;obtain⟨j,C,q,t,D,y⟩:=h;simp only at j C q t D y;have A:=c.k8;have G:(2:Nat)^k≤2^8:=Vb Q A;have ht:=c.Uv;have n:r*(4096*2^k)≤l*(4096*2^k):=UG _ E;have e:IntKind.u64.wrap ((r:Int)*((4096*2^k:Nat):Int))=((r*(4096*2^k):Nat):Int):=gV Q;obtain⟨R,z⟩:=acH (4096*2^k);obtain⟨I,m⟩:∃R,R=r*(4096*2^k):=⟨_,rfl⟩;have o:=fun σ=>ZW (σ:=σ) (b:=b) (l:=l) A
 rw[<- m]at y n e;rw[<- z]at e q;rw[<- z]at o;have B:r≤1024:=by have:l*1≤l*2^k:=Xu _ (abA);have:=c.aU;omega
 simp (maxSteps:=9^9) (disch:=omega) only[go_sem,XQ];refine(tf (x:=w) Q).mono ?_;rintro _ J ⟨rfl,a⟩;have F:=a.next;simp (maxSteps:=9^9) (disch:=omega) only[go_sem,j,a.cell,a.load];refine(o _).mono ?_;rintro _ s2 ⟨rfl,d⟩;have H:=d.next;simp only[bg]at F;simp (maxSteps:=9^9) (disch:=omega) only[go_sem,j,t,a.cell,a.load,d.cell,d.load];refine(o _).mono ?_;rintro _ K ⟨rfl,f⟩;simp (maxSteps:=9^9) (disch:=omega) only[go_sem,e,a.cell,a.load,d.cell,d.load,f.cell,f.load];exact Gr.g.trans (a.trans (d.trans f))
def gK(x:Nat×Nat):List V:=[.u x.1,.u x.2]
theorem ik(x:Nat×Nat):(gK x).length=2:=rfl
abbrev U6(σ:St)(l:List (Nat×Nat))(v:V):Prop:=Ls σ 2 l.length (fl gK l) v
def U6.at{l:List (Nat×Nat)}{v:V}(h:U6 σ l v){i:Nat}(hi:i<l.length):∃b o,v=.acL b o l.length 2∧b<σ.next∧σ.cell b (o+i*2)=some (.u l[i].1)∧σ.cell b (o+i*2+1)=some (.u l[i].2)∧σ.load b (o+i*2) 2=some [.u l[i].1,.u l[i].2]:=by obtain⟨b,o,e,c,a,d⟩:=h.get ik Q hi;exact⟨b,o,e,c,a 0 Q,a 1 Q,d⟩
def oY{p n:Nat}{b:Nat×Nat}:decide (p<b.1+b.2∧b.1<p+n)=Vg p n b:=by unfold Vg;exact Bool.decide_and _ _
def Low(l:List (Nat×Nat)):Prop:=∀x∈l,x.1+x.2≤9223372036854775808
def Jz{l:List (Nat×Nat)}{f:Nat×Nat->Bool}{i:Nat}(hi:i<l.length)(h:(l.take i).any f=false):(l.take (i+1)).any f=f l[i]:=by rw[X1 hi,List.any_append,h];simp
def Fz{l:List (Nat×Nat)}{v:V}{p w:Nat}(C:U6 σ l v)(E:Low l)(I:l.length≤1000000)(hp:p+w≤9223372036854775808):
  au G0 [] 239 [.u p,.u w,v] σ fun r s=>r=.bool (l.any (Vg p w))∧aH σ s:=by
 refine ai g239 rfl ?_;obtain⟨q,e,F⟩:=C.is;simp (disch:=omega) only[go_sem];refine bW (fun n fr t=>fr.defers=[]∧fr.tmps.get 0=some (.u p)∧fr.tmps.get 1=some (.u w)∧fr.tmps.get 2=some v∧aH σ t∧
  ∃i:Nat,i+n=l.length∧fr.tmps.get 7=some (.i i)∧(l.take i).any (Vg p w)=false) ?_ l.length ?_
 .rintro n ⟨K,ds⟩ t ⟨hd,z,A,h,g,i,hi,m,j⟩;simp only at hd z A h m;subst hd;by_cases c:i<l.length
  .obtain⟨b,o,k,H,c1,G,y⟩:=C.at c;rw[k]at h;have J:=E _ (Wm c);have f:=Jz c j;have D:bZ [V.u 0,V.u 0] [(0,1,V.u p),(1,1,V.u w)]=some [.u p,.u w]:=rfl;simp (disch:=omega) only[go_sem,z,A,h,m,aG,D,g.load,y];refine(Bq (a:=p) (b:=w) (c:=l[i].1) (d:=l[i].2) Q Q).mono ?_;rintro _ s ⟨rfl,B⟩;rw[oY];cases x:Vg p w l[i]with
   |true=>
    rw[x]at f;have:l.any (Vg p w)=true:=aay.2 ⟨_,Wm c,x⟩;simp (disch:=omega) only[go_sem,this];exact g.trans B
   |false=>
    rw[x]at f;simp (disch:=omega) only[go_sem,z,A,h,m];exact⟨n-1,Q,Uj some k.symm,g.trans B,i+1,Q,rfl,f⟩
  have:l.any (Vg p w)=false:=by rw[<- j,VZ Q]
  rw[F]at h;simp (disch:=omega) only[go_sem,h,m,this];exact g
 simp (disch:=omega) only[go_sem];exact⟨aH.refl _,0,Q,rfl,Y⟩
def Ce{b l k p:Nat}(hp:p<18446744073709551616)(h:b≤p)(c:p-b<9223372036854775808):au G0 [] 266 [XQ b l k,.u p] σ fun r s=>r=.i ((p-b)/4096:Nat)∧aH σ s:=by refine ai g266 rfl ?_;have e:IntKind.u64.wrap ((p:Int)-b)=((p-b:Nat):Int):=bK h hp;have a:IntKind.u64.wrap (((p-b:Nat):Int).tdiv 4096)=(((p-b)/4096:Nat):Int):=bI Q;simp (disch:=omega) only[go_sem,XQ,e,a];exact Gr.g
structure Yt (b k r:Nat) (l:List (Nat × Nat)):Prop where
 of:∀ x∈l,OfP b k r x
 YQ:Low l
 Xv:∀ i j (hi:i<l.length) (hj:j<i),Vg l[i].1 l[i].2 l[j]=false∧¬ (l[i].2<4096∧l[j].2<4096∧l[i].2≠l[j].2∧(l[i].1-b) / 4096=(l[j].1-b) / 4096)
def kZ{b l k:Nat}(h:dV b l k):Cf b l k:=by
 have d:=h.o8;have f:=h.b0;have a:=h.Uv;have c:=h.aU;rw[TZ]at a c;refine⟨Q,Q,?_,?_⟩
 .have e:(4096*2^k*(l:Int)+b)=((b+l*(4096*2^k):Nat):Int):=by push_cast;rw[Int.mul_comm];omega
  rw[e]at a;omega
 have e:((l:Int)*2^k)=((l*2^k:Nat):Int):=by push_cast;rfl
 rw[e]at c;omega
def JJ{b l k:Nat}(d:dV b l k)(hw:GW σ)(e:b<18446744073709551616):au G0 [] 63 [XQ b l k] σ fun v s=>v=.bool true∧aH σ s:=
 (Ad (σ:=σ) (b:=b) (l:=l) (o:=k) Q Q hw).mono fun v s ⟨a,c⟩=>⟨by rw[a,UR d],c⟩
theorem zL{b l k r:Nat}{L:List (Nat×Nat)}{v:V}(hm:dV b l k)(w:GW σ)(hr:r≤l)(hL:U6 σ L v)(hf:L.length≤1000000)(hs:Yt b k r L):
  au G0 [] 236 [XQ b l k,.i r,v] σ fun v s=>v=.i (-1)∧aH σ s:=by
 refine ai g236 rfl ?_;have c:=kZ hm;have ht:=c.Uv;have ar:=c.b0;have ao:r≤1024:=by have:l*1≤l*2^k:=Xu _ (abA);have:=c.aU;omega
 obtain⟨q,e,hv⟩:=hL.is;have w1:GW (σ.ag [.u b,.i l,.i k]):=w.new _ rfl;have af:b<18446744073709551616:=Q;have L1:U6 (σ.ag [.u b,.i l,.i k]) L v:=hL.ext (aH.new σ _).ext;simp (maxSteps:=9^9) (disch:=omega) only[go_sem,XQ];refine(JJ hm w1 af).mono ?_;rintro _ s1 ⟨rfl,y⟩;have n1:=y.next;simp only[bg]at n1;simp (maxSteps:=9^9) (disch:=omega) only[go_sem,y.cell,y.load];refine bW (fun n fr t=>fr.defers=[]∧fr.tmps.get 1=some (.i r)∧fr.tmps.get 2=some v∧fr.tmps.get 3=some (.acK σ.next 0)∧aH s1 t∧∃i:Nat,i+n=L.length∧fr.tmps.get 7=some (.i i)) ?_ L.length ?_
 .rintro n ⟨tm,ds⟩ t ⟨hd,F,H,G,g,i,hi,E⟩;simp only at hd F H G E;subst hd;have ng:=g.next;by_cases Y:i<L.length
  .obtain⟨bb,o,D,av,c1,K,z⟩:=hL.at Y;have x:=H;rw[D]at x;have O:=hs.of _ (Wm Y);have ah:=hs.YQ _ (Wm Y);rcases hxx:L[i]with⟨W,x2⟩;simp only[hxx]at z c1 K O ah;have ax:=(Gr.g (σ:=σ)).trans (y.trans g);simp (maxSteps:=9^9) (disch:=omega) only[go_sem,F,x,G,E,y.cell,y.load,g.load,g.cell,z,bG,bq];refine(Qv c hr O).mono ?_;rintro _ s2 ⟨rfl,B⟩;have n2:=B.next;simp (maxSteps:=9^9) (disch:=omega) only[go_sem,F,x,G,E,y.cell,y.load,g.load,g.cell,B.load,B.cell,z];refine bW (fun m fr t=>fr.defers=[]∧fr.tmps.get 1=some (.i r)∧fr.tmps.get 2=some v∧fr.tmps.get 3=some (.acK σ.next 0)∧fr.tmps.get 7=some (.i i)∧aH s2 t∧∃j:Nat,j+m=i∧fr.tmps.get 8=some (.i j)) ?_ i ?_
   .rintro m ⟨tm,ds⟩ t' ⟨hd,F,H,G,E,A,j,hj,I⟩;simp only at hd F H G E I;subst hd;have aB:=A.next;by_cases cj:j<i
    .obtain⟨ap,o',al,am,M,N,f⟩:=hL.at (Q:j<L.length);obtain⟨e1,e2⟩:=V.slice.inj (D.symm.trans al) |>.1 |> XP |> Prod.mk.inj;subst e1 e2;have x:=H;rw[D]at x;have J:=hs.of _ (Wm (Q:j<L.length));have T:=hs.YQ _ (Wm (Q:j<L.length));obtain⟨U,S⟩:=hs.Xv i j Y cj;rcases hyy:L[j]with⟨R,X⟩;simp only[hyy,hxx]at f M N J T U S;have ac:=O.Tj;have ad:=J.Tj;simp only at ac ad;simp (maxSteps:=9^9) (disch:=omega) only[go_sem,F,x,G,E,I,y.load,g.load,B.load,A.load,z,f];refine(Bq (a:=W) (b:=x2) (c:=R) (d:=X) Q Q).mono ?_;rintro _ s3 ⟨rfl,C⟩;have n3:=C.next;rw[show decide (W<R+X∧R<W+x2)=false from(oY (b:=(R,X))).trans U];by_cases p1:x2<4096
     .by_cases p2:X<4096
      .by_cases p3:x2=X
       .simp (maxSteps:=9^9) (disch:=omega) only[go_sem,F,x,G,E,I,y.load,g.load,B.load,A.load,C.load,y.cell,g.cell,B.cell,A.cell,C.cell,z,f,c1,K,M,N,bq];exact⟨m-1,Q,Uj some D.symm,A.trans C,j+1,Q,rfl⟩
       simp (maxSteps:=9^9) (disch:=omega) only[go_sem,F,x,G,E,I,y.load,g.load,B.load,A.load,C.load,y.cell,g.cell,B.cell,A.cell,C.cell,z,f,c1,K,M,N,bq];refine(Ce (b:=b) (p:=W) Q Q Q).mono ?_;rintro _ s4 ⟨rfl,P⟩;have n4:=P.next;simp (maxSteps:=9^9) (disch:=omega) only[go_sem,F,x,G,E,I,y.load,g.load,B.load,A.load,C.load,P.load,y.cell,g.cell,B.cell,A.cell,C.cell,P.cell,z,f,c1,K,M,N];refine(Ce (b:=b) (p:=R) Q Q Q).mono ?_;rintro _ s5 ⟨rfl,Z⟩;have n5:=Z.next;have ay:¬(W-b)/4096=(R-b)/4096:=fun h=>S ⟨p1,p2,p3,h⟩
       simp (maxSteps:=9^9) (disch:=omega) only[go_sem,F,x,G,E,I,y.load,g.load,B.load,A.load,C.load,P.load,Z.load,y.cell,g.cell,B.cell,A.cell,C.cell,P.cell,Z.cell,z,f,c1,K,M,N];exact⟨m-1,Q,Uj some D.symm,A.trans (C.trans (P.trans Z)),j+1,Q,rfl⟩
      simp (maxSteps:=9^9) (disch:=omega) only[go_sem,F,x,G,E,I,y.load,g.load,B.load,A.load,C.load,y.cell,g.cell,B.cell,A.cell,C.cell,z,f,c1,K,M,N,bq];exact⟨m-1,Q,Uj some D.symm,A.trans C,j+1,Q,rfl⟩
     simp (maxSteps:=9^9) (disch:=omega) only[go_sem,F,x,G,E,I,y.load,g.load,B.load,A.load,C.load,y.cell,g.cell,B.cell,A.cell,C.cell,z,f,c1,K,M,N,bq];exact⟨m-1,Q,Uj some D.symm,A.trans C,j+1,Q,rfl⟩
    simp (maxSteps:=9^9) (disch:=omega) only[go_sem,F,H,G,E,I];exact⟨n-1,Q,g.trans (B.trans A),i+1,Q,rfl⟩
   simp (maxSteps:=9^9) (disch:=omega) only[go_sem,F,G,E];exact⟨H,aH.refl _,0,Q,rfl⟩
  rw[hv]at H;simp (maxSteps:=9^9) (disch:=omega) only[go_sem,H,E];exact Gr.g.trans (y.trans g)
 simp (maxSteps:=9^9) (disch:=omega) only[go_sem];exact⟨aH.refl _,0,Q,rfl⟩
def sC(b n h:Nat)(L:List (Nat×Nat)):Prop:=∀u,(u+1)*n≤h->L.any (Vg (b+u*n) n)=true
def rr(p w:Nat)(y:Nat×Nat):Bool:=Vg p 4096 y && decide (y.2=w)
def z8(b h w:Nat)(L:List (Nat×Nat)):Prop:=∀x,4096*x<h->¬(L.any (rr (b+4096*x) w)=true∧dC (L.filter (Vg (b+4096*x) 4096))<4096)
def CE{n h u:Nat}(hd:n∣h)(hu:u*n<h):(u+1)*n≤h:=by obtain⟨q,rfl⟩:=hd;rw[UF n]at hu⊢;exact UG _ (Nat.lt_of_mul_lt_mul_right hu)
def aca{l:List (Nat×Nat)}{f:Nat×Nat->Bool}{i:Nat}(hi:i<l.length):(l.take (i+1)).any f=((l.take i).any f ||f l[i]):=by rw[X1 hi,List.any_append];simp
def Jq{l:List (Nat×Nat)}{f:Nat×Nat->Bool}{i:Nat}(hi:i<l.length):dC ((l.take (i+1)).filter f)=dC ((l.take i).filter f)+if f l[i]=true then l[i].2 else 0:=by rw[X1 hi,abh];unfold dC;rw[WA,List.sum_append];by_cases c:f l[i]=true <;> simp[c]
def yL{l:List (Nat×Nat)}{f:Nat×Nat->Bool}{m:Nat}(h:∀x∈l,x.2≤m):dC (l.filter f)≤l.length*m:=by
 induction l with
 |nil=>simp[dC]
 |cons a l d=>
  have b:=d fun x hx=>h x (VO _ hx)
  have e:=h a (VY ..);rw[TH,WS];by_cases c:f a=true
  .rw[List.filter_cons_of_pos c];unfold dC at b⊢;rw[Xr,List.sum_cons];omega
  rw[List.filter_cons_of_neg c];omega
theorem FY{b l k r w:Nat}{L:List (Nat×Nat)}{v:V}(hm:dV b l k)(hw:GW σ)(hr:r≤l)(hL:U6 σ L v)(hf:L.length≤1000000)(hs:Yt b k r L)(hp:cQ w=true)(bi:16≤w)(aS:w≤4096*2^k)(U:max w 4096∣r*(4096*2^k)):
  au G0 [] 235 [XQ b l k,.i r,v,.u w] σ fun v s=>(∃t,v=.bool t∧(t=true↔sC b (max w 4096) (r*(4096*2^k)) L∧(w<4096->z8 b (r*(4096*2^k)) w L)))∧aH σ s:=by
 refine ai g235 rfl ?_;have c:=kZ hm;have ht:=c.Uv;have bk:=c.b0;have hk:=c.k8;have bu:(2:Nat)^k≤2^8:=Vb Q hk;have be:r≤1024:=by have:l*1≤l*2^k:=Xu _ (abA);have:=c.aU;omega
 have ao:r*(4096*2^k)≤l*(4096*2^k):=UG _ hr;have rk:=fun σ=>ZW (σ:=σ) (b:=b) (l:=l) hk
 have rs:=fun σ (w:GW σ) (hL:U6 σ L v)=>zL (σ:=σ) hm w hr hL hf hs
 have Y:=hs.YQ;have Z:∀x∈L,x.2≤1048576:=fun x hx=>by have:=(hs.of x hx).hi;omega
 obtain⟨R,hR⟩:=acH (4096*2^k);rw[<- hR]at aS U ao ht⊢;rw[<- hR]at rk;obtain⟨h,hh⟩:=acH (r*R);obtain⟨Uv,al⟩:=acH (l*R);rw[<- hh]at U ao⊢;rw[<- al]at ao ht;have e1:IntKind.u64.wrap ((r:Int)*(R:Int))=(h:Int):=by rw[hh];exact gV Q
 clear hh al;obtain⟨q,e,hv⟩:=hL.is;have w1:GW (σ.ag [.u b,.i l,.i k]):=hw.new _ rfl;have ay:b<18446744073709551616:=Q;have L1:U6 (σ.ag [.u b,.i l,.i k]) L v:=hL.ext (aH.new σ _).ext;simp (maxSteps:=9^9) (disch:=omega) only[go_sem,XQ];refine((JJ hm w1 ay).gw w1).mono ?_;rintro _ s1 ⟨⟨rfl,g1⟩,w2⟩;have n1:=g1.next;simp only[bg]at n1;simp (maxSteps:=9^9) (disch:=omega) only[go_sem,g1.cell,g1.load];refine(rs s1 w2 (L1.ext g1.ext)).mono ?_;rintro _ s2 ⟨rfl,g2⟩;have n2:=g2.next;have d0:¬((-1:Int)≠-1):=fun h=>h rfl
 simp (maxSteps:=9^9) (disch:=omega) only[go_sem,g1.cell,g1.load,g2.cell,g2.load,d0];refine(tf (x:=w) Q).mono ?_;rintro _ s3 ⟨rfl,g3⟩;have n3:=g3.next;simp (maxSteps:=9^9) (disch:=omega) only[go_sem,g1.cell,g1.load,g2.cell,g2.load,g3.cell,g3.load,hp];refine(rk _).mono ?_;rintro _ s4 ⟨rfl,g4⟩;have n4:=g4.next;have X:=g1.trans (g2.trans (g3.trans g4));have nA:=X.next;obtain⟨n,hn⟩:=acH (max w 4096);rw[<- hn]at U⊢;by_cases c9:w<4096
 .have ax:n=4096:=Q;simp (maxSteps:=9^9) (disch:=omega) only[go_sem,X.cell,X.load];refine(rk _).mono ?_;rintro _ s5 ⟨rfl,g5⟩;have n5:=g5.next;have gB:=X.trans g5;simp (maxSteps:=9^9) (disch:=omega) only[go_sem,X.cell,X.load,gB.cell,gB.load,e1];refine bW (fun m fr t=>fr.defers=[]∧fr.tmps.get 2=some v∧fr.tmps.get 3=some (.u w)∧fr.tmps.get 4=some (.acK σ.next 0)∧fr.tmps.get 9=some (.u n)∧fr.tmps.get 10=some (.u h)∧aH (σ.ag [.u b,.i l,.i k]) t∧
   ∃u o:Nat,o=u*n∧o+m=h∧fr.tmps.get 11=some (.u o)∧∀x,x<u->L.any (Vg (b+x*n) n)=true) ?_ h ?_
  .rintro m ⟨tm,ds⟩ t ⟨hd,M,F,G,t9,j,g,u,o,S,aL,I,D⟩;simp only at hd M F G t9 j I;subst hd;have ng:=g.next;by_cases co:o<h
   .have aM:=CE U (u:=u) Q;have aP:(u+1)*n=o+n:=by rw[WS,S]
    simp (maxSteps:=9^9) (disch:=omega) only[go_sem,M,F,G,t9,j,I,g.cell,g.load];refine(Fz (p:=b+o) (w:=n) (L1.ext g.ext) Y hf Q).mono ?_;rintro _ s6 ⟨rfl,g6⟩;cases ac:L.any (Vg (b+o) n)with
    |false=>
     simp (maxSteps:=9^9) (disch:=omega) only[go_sem,M,F,G,t9,j,I];refine⟨⟨false,rfl,fun h=>(nomatch h),fun h=>?_⟩,Gr.g.trans (g.trans g6)⟩;have:=h.1 u Q;rw[<- S,ac]at this;exact this
    |true=>
     simp (maxSteps:=9^9) (disch:=omega) only[go_sem,M,F,G,t9,j,I];refine⟨m-n,Q,g.trans g6,u+1,o+n,Q,Q,rfl,fun x hx=>?_⟩;rcases ZM.1 hx with hx|rfl
     .exact D x hx
     rw[<- S];exact ac
   have am:sC b n h L:=fun x hx=>D x (by
    rcases Vm x u with af|af
    .exact af
    exfalso;have:(u+1)*n≤(x+1)*n:=UG _ Q;rw[WS, <- S]at this;omega)
   simp (maxSteps:=9^9) (disch:=omega) only[go_sem,M,F,G,t9,j,I];refine bW (fun m fr t=>fr.defers=[]∧fr.tmps.get 2=some v∧fr.tmps.get 3=some (.u w)∧fr.tmps.get 4=some (.acK σ.next 0)∧fr.tmps.get 10=some (.u h)∧aH (σ.ag [.u b,.i l,.i k]) t∧
    ∃x:Nat,4096*x+m=h∧fr.tmps.get 12=some (.u (4096*x:Nat))∧∀y,y<x->¬(L.any (rr (b+4096*y) w)=true∧dC (L.filter (Vg (b+4096*y) 4096))<4096)) ?_ h ?_
   .rintro m ⟨tm,ds⟩ t ⟨hd,M,F,G,j,g,x,bd,C,D⟩;simp only at hd M F G j C;subst hd;have ng:=g.next;by_cases cx:4096*x<h
    .have ba:4096*x+4096≤h:=by obtain⟨z,hz⟩:=U;rw[ax]at hz;omega
     obtain⟨o,S⟩:=acH (4096*x);rw[<- S]at C cx ba bd;simp (maxSteps:=9^9) (disch:=omega) only[go_sem,M,F,G,j,C];refine bW (fun m fr t=>fr.defers=[]∧fr.tmps.get 2=some v∧fr.tmps.get 3=some (.u w)∧fr.tmps.get 4=some (.acK σ.next 0)∧fr.tmps.get 10=some (.u h)∧fr.tmps.get 12=some (.u o)∧aH (σ.ag [.u b,.i l,.i k]) t∧
      ∃i:Nat,i+m=L.length∧fr.tmps.get 15=some (.i i)∧fr.tmps.get 13=some (.bool ((L.take i).any (rr (b+o) w)))∧fr.tmps.get 14=some (.u (dC ((L.take i).filter (Vg (b+o) 4096))))) ?_ L.length ?_
     .rintro m' ⟨tm,ds⟩ t' ⟨hd,M,F,G,j,C,N,i,bs,O,H,K⟩;simp only at hd M F G j C H K O;subst hd;have bv:=N.next;by_cases ci:i<L.length
      .obtain⟨bb,oo,ad,bl,c1,c2,W⟩:=U6.at (L1.ext N.ext) ci;have J:=M;rw[ad]at J;have aC:=Y _ (Wm ci);have aJ:=Z _ (Wm ci);have E:=aca (f:=rr (b+o) w) ci;have P:=Jq (f:=Vg (b+o) 4096) ci;have ap:=yL (l:=L.take i) (f:=Vg (b+o) 4096) (m:=1048576) fun x hx=>Z x (X9 hx)
       rw[Va]at ap;have av:=oY (p:=b+o) (n:=4096) (b:=L[i]);generalize (L.take i).any (rr (b+o) w)=A at H E;generalize dC ((L.take i).filter (Vg (b+o) 4096))=B at K P ap;rcases hxx:L[i]with⟨x1,x2⟩;simp only[hxx]at W c1 c2 E P aC aJ av;rw[show rr (b+o) w (x1,x2)=(Vg (b+o) 4096 (x1,x2) && decide (x2=w))from rfl]at E;have f1:bZ [V.u 0,V.u 0] [(0,1,V.u (b+o:Nat)),(1,1,V.u 4096)]=some [.u (b+o:Nat),.u 4096]:=rfl;simp (maxSteps:=9^9) (disch:=omega) only[go_sem,J,F,G,j,C,O,N.cell,N.load,W,aG,f1];refine(Bq (a:=b+o) (b:=4096) (c:=x1) (d:=x2) Q Q).mono ?_;rintro _ s7 ⟨rfl,T⟩;have n7:=T.next;rw[av];cases ah:Vg (b+o) 4096 (x1,x2)with
       |false=>
        rw[ah,Zk,Bool.or_false]at E;rw[ah,Tg (by decide)]at P;simp (maxSteps:=9^9) (disch:=omega) only[go_sem,J,F,G,j,C,H,K,O,N.cell,N.load,T.cell,T.load,W];exact⟨m'-1,Q,Uj some ad.symm,N.trans T,i+1,Q,rfl,by rw[E],by rw[P];rfl⟩
       |true=>
        rw[ah,WL]at E;rw[ah,Ti rfl]at P;have ar:IntKind.u64.wrap ((B:Int)+(x2:Int))=((B+x2:Nat):Int):=bD Q;cases A with
        |true=>
         rw[aaw]at E;simp (maxSteps:=9^9) (disch:=omega) only[go_sem,J,F,G,j,C,H,K,O,N.cell,N.load,T.cell,T.load,W,c1,c2,ar];exact⟨m'-1,Q,Uj some ad.symm,N.trans T,i+1,Q,rfl,by rw[E],by rw[P]⟩
        |false=>
         rw[Bool.false_or]at E;by_cases cw:x2=w
         .rw[UR cw]at E;simp (maxSteps:=9^9) (disch:=omega) only[go_sem,J,F,G,j,C,H,K,O,N.cell,N.load,T.cell,T.load,W,c1,c2,ar];exact⟨m'-1,Q,Uj some ad.symm,N.trans T,i+1,Q,rfl,by rw[E],by rw[P]⟩
         rw[UK cw]at E;simp (maxSteps:=9^9) (disch:=omega) only[go_sem,J,F,G,j,C,H,K,O,N.cell,N.load,T.cell,T.load,W,c1,c2,ar];exact⟨m'-1,Q,Uj some ad.symm,N.trans T,i+1,Q,rfl,by rw[E],by rw[P]⟩
      rw[VZ Q]at H K;have J:=M;rw[hv]at J;have ap:=yL (l:=L) (f:=Vg (b+o) 4096) (m:=1048576) Z;cases hA:L.any (rr (b+o) w)with
      |false=>
       rw[hA]at H;simp (maxSteps:=9^9) (disch:=omega) only[go_sem,J,F,G,j,C,H,K,O];exact⟨m-4096,Q,Uj some hv.symm,N,x+1,Q,by rw[S,Nat.mul_succ],fun y hy=>by
        rcases ZM.1 hy with hy|rfl
        .exact D y hy
        rw[<- S,hA];exact fun h=>nomatch h.1⟩
      |true=>
       rw[hA]at H;by_cases cs:dC (L.filter (Vg (b+o) 4096))<4096
       .simp (maxSteps:=9^9) (disch:=omega) only[go_sem,J,F,G,j,C,H,K,O];refine⟨⟨false,rfl,fun h=>(nomatch h),fun h=>?_⟩,Gr.g.trans N⟩;exact(h.2 c9 x Q (by rw[<- S];exact⟨hA,cs⟩)).elim
       simp (maxSteps:=9^9) (disch:=omega) only[go_sem,J,F,G,j,C,H,K,O];exact⟨m-4096,Q,Uj some hv.symm,N,x+1,Q,by rw[S,Nat.mul_succ],fun y hy=>by
        rcases ZM.1 hy with hy|rfl
        .exact D y hy
        rw[<- S];exact fun h=>cs h.2⟩
     simp (maxSteps:=9^9) (disch:=omega) only[go_sem,M,F,G,j,C];exact⟨g,0,Q,rfl,rfl,rfl⟩
    simp (maxSteps:=9^9) (disch:=omega) only[go_sem,M,F,G,j,C];exact⟨⟨true,rfl,fun _=>⟨am,fun _ y hy=>D y Q⟩,fun _=>rfl⟩,Gr.g.trans g⟩
   simp (maxSteps:=9^9) (disch:=omega) only[go_sem,M,F,G,j];exact⟨g,0,Q,rfl,fun y hy=>absurd hy Q⟩
  simp (maxSteps:=9^9) (disch:=omega) only[go_sem];exact⟨by rw[show(4096:Int)=(n:Int)from Q],gB,0,0,Q,Q,rfl,fun x hx=>absurd hx Q⟩
 have ax:n=w:=Q;simp (maxSteps:=9^9) (disch:=omega) only[go_sem,X.cell,X.load];refine(rk _).mono ?_;rintro _ s5 ⟨rfl,g5⟩;have n5:=g5.next;have gB:=X.trans g5;simp (maxSteps:=9^9) (disch:=omega) only[go_sem,X.cell,X.load,gB.cell,gB.load,e1];refine bW (fun m fr t=>fr.defers=[]∧fr.tmps.get 2=some v∧fr.tmps.get 3=some (.u w)∧fr.tmps.get 4=some (.acK σ.next 0)∧fr.tmps.get 9=some (.u n)∧fr.tmps.get 10=some (.u h)∧aH (σ.ag [.u b,.i l,.i k]) t∧
  ∃u o:Nat,o=u*n∧o+m=h∧fr.tmps.get 11=some (.u o)∧∀x,x<u->L.any (Vg (b+x*n) n)=true) ?_ h ?_
 .rintro m ⟨tm,ds⟩ t ⟨hd,M,F,G,t9,j,g,u,o,S,aL,I,D⟩;simp only at hd M F G t9 j I;subst hd;have ng:=g.next;by_cases co:o<h
  .have aM:=CE U (u:=u) Q;have aP:(u+1)*n=o+n:=by rw[WS,S]
   simp (maxSteps:=9^9) (disch:=omega) only[go_sem,M,F,G,t9,j,I,g.cell,g.load];refine(Fz (p:=b+o) (w:=n) (L1.ext g.ext) Y hf Q).mono ?_;rintro _ s6 ⟨rfl,g6⟩;cases ac:L.any (Vg (b+o) n)with
   |false=>
    simp (maxSteps:=9^9) (disch:=omega) only[go_sem,M,F,G,t9,j,I];refine⟨⟨false,rfl,fun h=>(nomatch h),fun h=>?_⟩,Gr.g.trans (g.trans g6)⟩;have:=h.1 u Q;rw[<- S,ac]at this;exact this
   |true=>
    simp (maxSteps:=9^9) (disch:=omega) only[go_sem,M,F,G,t9,j,I];refine⟨m-n,Q,g.trans g6,u+1,o+n,Q,Q,rfl,fun x hx=>?_⟩;rcases ZM.1 hx with hx|rfl
    .exact D x hx
    rw[<- S];exact ac
  have am:sC b n h L:=fun x hx=>D x (by
   rcases Vm x u with af|af
   .exact af
   exfalso;have:(u+1)*n≤(x+1)*n:=UG _ Q;rw[WS, <- S]at this;omega)
  simp (maxSteps:=9^9) (disch:=omega) only[go_sem,M,F,G,t9,j,I];exact⟨⟨true,rfl,fun _=>⟨am,fun aB=>absurd aB Q⟩,fun _=>rfl⟩,Gr.g.trans g⟩
 simp (maxSteps:=9^9) (disch:=omega) only[go_sem];exact⟨by rw[show(w:Int)=(n:Int)from Q],gB,0,0,Q,Q,rfl,fun x hx=>absurd hx Q⟩
def jd(b k r w:Nat)(L:List (Nat×Nat)):Prop:=sC b (max w 4096) (r*(4096*2^k)) L∧(w<4096->z8 b (r*(4096*2^k)) w L)
def Gs{b l k r w:Nat}{L:List (Nat×Nat)}{v:V}{d:Bool}(o:dV b l k)(hw:GW σ)(p:r≤l)(m:U6 σ L v)(n:L.length≤1000000)(hs:Yt b k r L)(hp:cQ w=true)(a:16≤w)(f:w≤4096*2^k)(e:max w 4096∣r*(4096*2^k)):
  au G0 [] 234 [XQ b l k,.i r,v,.u w,.bool d] σ fun v s=>(∃t,v=.bool t∧(t=true↔jd b k r w L∧(l≤r∨d=true)))∧aH σ s:=by
 refine ai g234 rfl ?_;have q:GW (σ.ag [.u b,.i l,.i k]):=hw.new _ rfl;have j:U6 (σ.ag [.u b,.i l,.i k]) L v:=m.ext (aH.new σ _).ext;simp (disch:=omega) only[go_sem,XQ];refine(FY o q p j n hs hp a f e).mono ?_;rintro _ x ⟨⟨t,rfl,ht⟩,g1⟩;cases t with
 |false=>
  simp (disch:=omega) only[go_sem];exact⟨⟨false,rfl,fun h=>(nomatch h),fun h=>ht.2 h.1⟩,Gr.g.trans g1⟩
 |true=>
  by_cases c:l≤r
  .simp (disch:=omega) only[go_sem,g1.cell];exact⟨⟨true,rfl,fun _=>⟨ht.1 rfl,.inl c⟩,fun _=>rfl⟩,Gr.g.trans g1⟩
  simp (disch:=omega) only[go_sem,g1.cell];refine⟨⟨d,rfl,fun h=>⟨ht.1 rfl,.inr h⟩,fun h=>?_⟩,Gr.g.trans g1⟩;rcases h.2 with h|h
  .omega
  exact h
structure Hd where
 p:Nat
 s:Nat
 q:Option (Nat × Nat)
 n:Nat
 e:Nat
def Hd.U3(x:Hd):Nat×Nat:=(x.p,x.s)
def j6(x:Hd):List V:=[.u x.p,.u x.s,.slice x.q x.n x.e]
theorem xx(x:Hd):(j6 x).length=3:=rfl
abbrev VF(σ:St)(l:List Hd)(v:V):Prop:=Ls σ 3 l.length (fl j6 l) v
def VF.at{l:List Hd}{v:V}(h:VF σ l v){i:Nat}(hi:i<l.length):∃b o,v=.acL b o l.length 3∧b<σ.next∧σ.cell b (o+i*3)=some (.u l[i].p)∧σ.cell b (o+i*3+1)=some (.u l[i].s)∧
  σ.load b (o+i*3) 3=some [.u l[i].p,.u l[i].s,.slice l[i].q l[i].n l[i].e]∧σ.load b (o+i*3) 2=some [.u l[i].p,.u l[i].s]:=by
 obtain⟨b,o,f,c,a,d⟩:=h.get xx Q hi;refine⟨b,o,f,c,a 0 Q,a 1 Q,d,iP (n:=2) (fun j g=>?_) rfl Q⟩;rw[a j Q];rcases(by omega:j=0∨j=1)with rfl|rfl <;> rfl
def Nl.Tj{z n:Nat}{vs:List V}{v:V}{a:St}(h:Nl a s z n vs v)(e:TP σ a):Nl σ s z n vs v:=
 ⟨h.len,h.UH.imp id fun⟨b,d,c,R⟩=>⟨b,d,V4 e.next c,R⟩⟩
abbrev Vn(b l k r:Nat)(v:V):V:=.agg [.u b,.i l,.i k,.i r,v]
def IZ{b l k r:Nat}(a:dV b l k)(d:r≤l):r*(4096*2^k)≤9223372036854775808∧r≤1024:=by have c:=kZ a;have e:r*(4096*2^k)≤l*(4096*2^k):=UG _ d;have f:=c.Uv;have g:l*1≤l*2^k:=Xu _ (abA);have h:=c.aU;omega
def PM{b l k r:Nat}{v:V}(e:dV b l k)(p:r≤l):au G0 [] 99 [Vn b l k r v] σ fun x s=>x=.u (r*(4096*2^k):Nat)∧aH σ s:=by
 refine ai g99 rfl ?_;have o:=(kZ e).k8;obtain⟨q,t⟩:=IZ e p;have a:IntKind.u64.wrap ((r:Int)*((4096*2^k:Nat):Int))=((r*(4096*2^k):Nat):Int):=gV Q;have d:(σ.ag [.u b,.i l,.i k,.i r,v]).load σ.next 0 3=some [.u b,.i l,.i k]:=
  iP (n:=3) (fun j w=>by rw[Vk,br (m:=σ.next) rfl];rcases(by omega:j=0∨j=1∨j=2)with rfl|rfl|rfl <;> rfl) rfl Q
 obtain⟨R,h⟩:=acH (4096*2^k);have f:=fun σ=>ZW (σ:=σ) (b:=b) (l:=l) o
 rw[<- h]at a f⊢;simp (disch:=omega) only[go_sem,d];refine(f _).mono ?_;rintro _ y ⟨rfl,c⟩;simp (disch:=omega) only[go_sem,a,c.cell,d];exact Gr.g.trans c
def wY{b l k r:Nat}{L:List Hd}{v:V}(w:GW σ)(H:VF σ L v)(Ue:L.length≤1000000):
  au G0 [] 98 [Vn b l k r v] σ fun x s=>Nl σ s 2 L.length (fl gK (L.map Hd.U3)) x∧TP σ s:=by
 refine ai g98 rfl ?_;obtain⟨q,e,S⟩:=H.is;have G:GW (σ.ag [.u b,.i l,.i k,.i r,v]):=w.new _ rfl;have h:TP σ (σ.ag [.u b,.i l,.i k,.i r,v]):=(aH.new σ _).ext;have f:(σ.ag [.u b,.i l,.i k,.i r,v]).cell σ.next 4=some v:=br (m:=σ.next) rfl;have A:(σ.ag [.u b,.i l,.i k,.i r,v]).next=σ.next+1:=rfl;simp (disch:=omega) only[go_sem];generalize R:σ.ag [.u b,.i l,.i k,.i r,v]=d at G h f A;refine bW (fun n fr t=>fr.defers=[]∧fr.tmps.get 1=some (.acK σ.next 0)∧GW t∧TP d t∧
  ∃i x,i+n=L.length∧fr.tmps.get 4=some (.i (i:Nat))∧fr.tmps.get 3=some x∧Nl d t 2 i (fl gK ((L.take i).map Hd.U3)) x) ?_ L.length ?_
 .rintro n ⟨X,ds⟩ t ⟨hd,D,U,g,i,x,hi,F,E,N⟩;simp only at hd D E F;subst hd;by_cases c:i<L.length
  .obtain⟨J,o,B,O,c1,W,P,z⟩:=H.at c;have y:∃j a,dj (t.ag [.u L[i].p,.u L[i].s]) 2 16 x (.acL t.next 0 1 2)=some (j,a)∧Nl d a 2 (i+1) (fl gK ((L.take (i+1)).map Hd.U3)) j∧TP d a∧GW a:=by
    rw[show fl gK ((L.take (i+1)).map Hd.U3)=fl gK ((L.take i).map Hd.U3)++[.u L[i].p,.u L[i].s] by
     rw[X1 c,WA];unfold fl;rw[Yo];rfl]
    exact N.push g G U Q rfl rfl (by unfold aq;omega) (by unfold aq;omega)
   obtain⟨j,a,ha,I,M,T⟩:=y;have K:bZ (bL [V.u 0,.u 0] 1) [(0,2,V.agg [V.u L[i].p,.u L[i].s])]=some [.u L[i].p,.u L[i].s]:=rfl;have C:d.cell σ.next 4=some (.acL J o L.length 3):=by rw[f,B]
   simp (disch:=omega) only[go_sem,D,E,F,g.cell,g.load,h.load,C,z,aG,K,ha];exact⟨n-1,Q,T,M,i+1,j,Q,rfl,rfl,I⟩
  rw[S]at f;simp (disch:=omega) only[go_sem,D,E,F,g.cell,f];rw[VZ Q]at N;obtain rfl:i=L.length:=Q;exact⟨N.Tj h,h.trans g⟩
 simp (disch:=omega) only[go_sem];exact⟨G,TP.refl _,0,_,Q,rfl,rfl,Nl.nil⟩
def _root_.AM.To.set{id n j:Nat}{l:List V}{x:V}(h:To s id n (Tn l))(g:l.length=n)(w:GW s)(f:j<n)(hx:[x].all V.Tr=true):
  ∃s',s.store id j [x]=some s'∧To s' id n (Tn (l.set j x))∧GW s'∧VL id s s':=by
 obtain⟨s',a,b,d,e⟩:=h.store w (off:=j) (vs:=[x]) (by simp;omega) hx;refine⟨s',a,b.congr (Tx _) fun i hi=>?_,d,e⟩;unfold UO Tn;by_cases c:i=j
 .subst c;rw[Ti ⟨Tx _,Y⟩,Yf];simp[U7,List.getElem?_set_self (Q:i<l.length)]
 rw[Tg (by simp;omega)];simp[U7,abj (Q:j≠i)]
def _root_.AM.To.lj{id n:Nat}{l:List V}(h:To s id n (Tn l))(a:l.length=n):s.load id 0 n=some l:=by subst a;rw[h.load (off:=0) Q,uQ]
def _root_.AM.To.bC{id n j:Nat}{l:List V}(h:To s id n (Tn l))(b:l.length=n)(a:j<n):s.cell id j=l[j]?:=by rw[h.cell a,UQ Q];exact Uj some (iD (UQ Q))
def _root_.AM.VL.cell{id a off:Nat}(p:VL id σ s)(h:a≠id):s.cell a off=σ.cell a off:=kK (p.TE a h)
def _root_.AM.VL.load{id a off k:Nat}(p:VL id σ s)(h:a≠id):s.load a off k=σ.load a off k:=kH (p.TE a h)
def _root_.AM.VL.ext{id:Nat}(h:VL id σ' s)(e:TP σ σ')(hi:σ.next≤id):TP σ s:=
 ⟨by rw[h.next];exact e.next,fun a ha=>(h.TE a Q).trans (e.TE a ha),fun g hg=>by unfold St.row;rw[h.TX];exact e.row g hg⟩
def Nl.put{z n id:Nat}{vs:List V}{v:V}{s2:St}(h:Nl σ s z n vs v)(p:VL id s s2)(hi:id<σ.next):Nl σ s2 z n vs v:=by refine⟨h.len,h.UH.imp (fun h=>h) ?_⟩;rintro⟨b,f,a,g,m,y,t,d,e,c⟩;exact⟨b,f,a,g,m,y,t,d,by rw[p.TE _ Q];exact e,c⟩
def Nl.Tr{z n:Nat}{vs:List V}{v:V}(h:Nl σ s z n vs v):[v].all V.Tr=true:=by rcases h.UH with⟨_,rfl⟩|⟨b,rfl,_⟩ <;> rfl
def Ls.Tr{z n:Nat}{vs:List V}{v:V}(h:Ls σ z n vs v):[v].all V.Tr=true:=by obtain⟨q,e,rfl⟩:=h.is;rfl
abbrev jx(e:Int)(p a:Nat)(f:V):V:=.agg [.i e,.u p,.acJ,.u 0,.u 0,.i 0,.i 0,.u a,f]
abbrev Un:List V:=[.u 0,.i 0,.i 0,.i 0,.acJ]
def zm{b l k r:Nat}{v f:V}{e:Int}(w:GW σ)(K:dV b l k)(L:r≤l)(hv:[v].all V.Tr=true):au G0 [] 141 [Vn b l k r v,jx e 0 (r*(4096*2^k)) f,.i e] σ fun x s=>x=.tuple [Vn b l k r v,.bool true]∧TP σ s:=by
 refine ai g141 rfl ?_;have A:=fun σ=>PM (σ:=σ) (v:=v) K L
 obtain⟨H,J⟩:=acH (r*(4096*2^k));rw[<- J]at A⊢;obtain⟨B,n⟩:∃y:List V,y=[.i e,.u (0:Nat),.acJ,.u 0,.u 0,.i 0,.i 0,.u H,f]:=⟨_,rfl⟩;obtain⟨o,c⟩:∃y:List V,y=[.u b,.i l,.i k,.i r,v]:=⟨_,rfl⟩;obtain⟨d,a⟩:=acH (((σ.ag o).ag B).new (.acM 5 Un .nil));have C:GW d:=by rw[a];exact((w.new _ rfl).new _ rfl).new _ rfl
 have G:TP σ d:=by rw[a];exact(Gr.g).ext
 have O:d.next=σ.next+3:=by rw[a];rfl
 have D:To d (σ.next+2) 5 (Tn Un):=by
  rw[a];refine(To.fx _ Un 5 (.inl Y)).congr (Tx _) fun i hi=>?_
  rw[show Un.length=5 from rfl,WR hi];rfl
 have q:d.load σ.next 0 5=some o:=by
  rw[a,kH (mY _ (by simp only[bg];omega)),bG (m:=σ.next+1) Q]
  haveI:Ln o 5:=⟨by rw[c];rfl⟩
  exact bH (m:=σ.next) rfl
 have t:∀j,d.cell (σ.next+1) j=B[j]?:=fun j=>by rw[a,kK (mY _ (by simp only[bg];omega))];exact br (m:=σ.next+1) rfl
 rw[c]at q;have p:[V.u b,.i l,.i k,.i r,v].all V.Tr=true:=hv;rw[n,c]at a;simp only[n]at t;simp (disch:=omega) only[go_sem,<- a,q,t];refine((A _).gw C).mono ?_;rintro _ s2 ⟨⟨rfl,h⟩,w2⟩;have E:=D.Ui C h;have P:=h.next;obtain⟨N,I,F,R,z⟩:=E.store w2 (off:=0) (vs:=[V.u b,.i l,.i k,.i r,v]) Y p;have M:N.load (σ.next+2) 0 5=some [.u b,.i l,.i k,.i r,v]:=by rw[F.load (off:=0) Q];rfl
 simp (disch:=omega) only[go_sem,q,t,h.cell,h.load,I,M,z.cell];exact z.ext (G.trans h.ext) Q
def cV{v:V}(h:v.Tr=true):v.cells=[v]:=by cases v <;> first|rfl|cases h
def Lk{vs:List V}{v:V}{n:Nat}(w:GW σ)(l:Ls σ 1 n vs v)(F:vs.all V.Tr=true)(Ue:n≤100000000):au G0 [] 185 [v] σ fun x s=>Nl σ s 1 n vs x∧TP σ s:=by
 refine ai g185 rfl ?_;obtain⟨q,e,p⟩:=l.is;have d:=l.len;rw[Um]at d;have hd:(0:Int)≤0∧(0:Int)≤(n:Int)∧(n:Int).toNat*1≤aq∧(n:Int)<9223372036854775808:=by unfold aq;omega
 simp (disch:=omega) only[go_sem,p,hd];have z:GW (σ.new (.acM ((n:Int).toNat*1) [.int .u8 0] .nil)):=w.new _ rfl;have k:TP σ (σ.new (.acM ((n:Int).toNat*1) [.int .u8 0] .nil)):=(aH.new σ _).ext;have j:Nl σ (σ.new (.acM ((n:Int).toNat*1) [.int .u8 0] .nil)) 1 0 [] (.acL σ.next 0 0 1):=
  ⟨rfl,.inr ⟨_,rfl,Tx _,(AM.newRow σ [.int .u8 0] _ (.inl Y)).congr Q fun i hi=>absurd hi Q⟩⟩
 rw[TZ]at z k j;generalize σ.new (.acM (n*1) [.int .u8 0] .nil)=M at z k j⊢;refine bW (fun m fr t=>fr.defers=[]∧fr.tmps.get 0=some v∧GW t∧TP σ t∧
  ∃i x,i+m=n∧fr.tmps.get 4=some (.i (i:Nat))∧fr.tmps.get 3=some x∧Nl σ t 1 i (vs.take i) x) ?_ n ?_
 .rintro m ⟨O,ds⟩ t ⟨hd,h,I,g,i,x,hi,u,r,N⟩;simp only at hd h r u;subst hd;by_cases c:i<n
  .obtain⟨J,o,f,D,E⟩:=l.UH Q;have a:=E i Q;rw[UQ Q]at a;have b:vs[i].Tr=true:=X8.1 F _ (Wm _);obtain⟨G,L,ha,A,C,H⟩:=N.push (y:=1) (x:=[vs[i]]) g w I Q rfl (by simpa using b) (by unfold aq;omega) (by unfold aq;omega);rw[<- X1 Q]at A;have B:bZ (bL [V.int .u8 0] 1) [(0,1,vs[i])]=some [vs[i]]:=by simp[bZ,bL,cV b]
   rw[f]at h;have K:(0:Int)≤(i:Int)∧(i:Int)<(n:Int):=Q;simp (disch:=omega) only[go_sem,h,r,u,g.cell,Um,a,aG,B,ha];exact⟨m-1,Q,Uj some f.symm,H,C,i+1,G,Q,rfl,rfl,A⟩
  rw[p]at h;simp (disch:=omega) only[go_sem,h,r,u];obtain rfl:i=n:=Q;rw[VZ Q]at N;exact⟨N,g⟩
 simp (disch:=omega) only[go_sem];exact⟨Uj some p.symm,z,k,0,_,Q,rfl,rfl,j⟩
def dx{m id off:Nat}{o:AM.Obj}[e:NX σ m](h:id≠m):(σ.new o).cell id off=σ.cell id off:=kK (mY _ (by rw[e.eq];exact h))
def dv{m id off k:Nat}{o:AM.Obj}[e:NX σ m](h:id≠m):(σ.new o).load id off k=σ.load id off k:=kH (mY _ (by rw[e.eq];exact h))
attribute [local go_sem] dx dv
def Iu{b l k r:Nat}{L:List Hd}{v:V}(w:GW σ)(hL:VF σ L v)(Ue:L.length≤1000000):
  au G0 [] 144 [Vn b l k r v,.i (-1)] σ fun y s=>(∃x,y=Vn b l k r x∧Nl σ s 3 L.length (fl j6 L) x)∧TP σ s:=by
 refine ai g144 rfl ?_;obtain⟨q,e,hv⟩:=hL.is;obtain⟨C,f⟩:∃vl:List V,vl=[.u b,.i l,.i k,.i r,v]:=⟨_,rfl⟩;obtain⟨G,a⟩:∃vl:List V,vl=[.u b,.i l,.i k,.i r,.acJ]:=⟨_,rfl⟩;obtain⟨A,d⟩:=acH (((σ.ag C).new (.acM 5 Un .nil)).Ts 5 Un G);have S:G.all V.Tr=true:=by rw[a];rfl
 have w1:GW A:=by rw[d];exact((w.new _ rfl).new _ rfl).Ts (by rw[a];simp) S
 have e1:TP σ A:=by rw[d];exact(Gr.g).ext
 have n1:A.next=σ.next+3:=by rw[d];rfl
 have L4:To A (σ.next+1) 5 (Tn Un):=by
  rw[d];refine To.Ui ?_ ((w.new _ rfl).new _ rfl) (aH.Ts _ _ _ _);refine(To.fx (σ.ag C) Un 5 (.inl Y)).congr (Tx _) fun i hi=>?_
  rw[show Un.length=5 from rfl,WR hi];rfl
 have L5:To A (σ.next+2) 5 (Tn G):=by rw[d];exact To.Ts _ 5 Un G (by rw[a];rfl)
 have H:To A σ.next 5 (Tn C):=by rw[d];have L:=To.cg σ C;rw[show C.length=5 by rw[f];rfl]at L;exact(L.Ui (w.new _ rfl) (aH.new _ _)).Ui ((w.new _ rfl).new _ rfl) (aH.Ts _ _ _ _)
 have k3:(σ.ag C).load σ.next 0 3=some [.u b,.i l,.i k]:=
  iP (n:=3) (fun j hj=>by rw[Vk,br (m:=σ.next) rfl,f];rcases(by omega:j=0∨j=1∨j=2)with rfl|rfl|rfl <;> rfl) rfl Q
 have f1:bZ Un [(0,3,V.agg [.u b,.i l,.i k]),(3,1,V.i r),(4,1,V.acJ)]=some G:=by rw[a];rfl
 have R:=a▸f1;have h:=d;rw[f]at k3;rw[f,a]at h;simp (disch:=omega) only[go_sem,k3,aG,R,ZF,<- h];refine bW (fun n fr t=>fr.defers=[]∧fr.tmps.get 1=some (.i (-1))∧fr.tmps.get 2=some (.acK σ.next 0)∧fr.tmps.get 4=some (.acK (σ.next+1) 0)∧fr.tmps.get 5=some (.acK (σ.next+2) 0)∧
  GW t∧TP σ t∧A.next≤t.next∧To t σ.next 5 (Tn C)∧To t (σ.next+1) 5 (Tn Un)∧
  ∃i x,i+n=L.length∧fr.tmps.get 6=some (.i (i:Nat))∧To t (σ.next+2) 5 (Tn [.u b,.i l,.i k,.i r,x])∧Nl A t 3 i (fl j6 (L.take i)) x) ?_ L.length ?_
 .rintro n ⟨tm,ds⟩ t ⟨hd,t1,t2,t4,t5,wt,g,X,H,E,i,x,hi,t6,B,N⟩;simp only at hd t1 t2 t4 t5 t6;subst hd;have k4:t.cell σ.next 4=some v:=by rw[H.bC (by rw[f];rfl) Q,f];rfl
  have c5:t.cell (σ.next+2) 4=some x:=by rw[B.bC rfl Q];rfl
  by_cases c:i<L.length
  .obtain⟨bb,o,Z,ad,c1,c2,W,af⟩:=hL.at c;obtain⟨J,s',ha,I,g',w',ah,T⟩:=N.O4 (σ:=σ) (y:=40) (x:=[.u L[i].p,.u L[i].s,.slice L[i].q L[i].n L[i].e]) Q X g w wt Q rfl rfl (by unfold aq;omega) (by unfold aq;omega);have hN:fl j6 (L.take i)++[.u L[i].p,.u L[i].s,.slice L[i].q L[i].n L[i].e]=fl j6 (L.take (i+1)):=by rw[X1 c];unfold fl;rw[Yo];rfl
   rw[hN]at I;have F:=T _ _ _ B Q;obtain⟨s3,D,M,w3,z⟩:=F.set rfl w' (j:=4) (x:=J) Q I.Tr;have f2:bZ (bL [V.u 0,.u 0,.acJ] 1) [(0,3,V.agg [.u L[i].p,.u L[i].s,.slice L[i].q L[i].n L[i].e])]=some [.u L[i].p,.u L[i].s,.slice L[i].q L[i].n L[i].e]:=rfl;have ac:t.cell σ.next 4=some (.acL bb o L.length 3):=by rw[k4,Z]
   have dm:((i:Int)≠-1):=Q;have P:s'.cell (σ.next+2) 4=some x:=by rw[F.bC rfl Q];rfl
   have gl:=g.next;have U:J.cells=[J]:=cV (by simpa using I.Tr);simp (disch:=omega) only[go_sem,t1,t2,t4,t5,t6,ac,c5,g.load,W,aG,f2,ha,D,dm,U,P,bq];refine⟨n-1,Q,w3,z.ext g' Q,by rw[z.next];omega,(T _ _ _ H Q).put z Q,(T _ _ _ E Q).put z Q,i+1,J,Q,rfl,M,I.put z Q⟩
  rw[hv]at k4;have O:=B.lj rfl;obtain⟨s3,D,K,w3,z⟩:=E.store wt (off:=0) (vs:=[.u b,.i l,.i k,.i r,x]) Y N.Tr;have k5:s3.load (σ.next+1) 0 5=some [.u b,.i l,.i k,.i r,x]:=by rw[K.load (off:=0) Q];rfl
  simp (disch:=omega) only[go_sem,t2,t4,t5,t6,k4,O,D,k5];obtain rfl:i=L.length:=Q;rw[VZ Q]at N;exact⟨⟨x,rfl,(N.put z Q).Tj e1⟩,z.ext g Q⟩
 simp (disch:=omega) only[go_sem];exact⟨w1,e1,H,L4,0,_,Q,rfl,by rw[<- a];exact L5,Nl.nil⟩
end
section
attribute [local go_sem] bJ bO bM bP bI bo bj bV bD bK dx dv cH bg cU bq bG cX cZ br bH cY cB UR UK aj az aD TH TK TZ bm bF aW aO aI bz aX bt aY dM aR bU dN aZ bc aT bA
variable {σ σ' s:St}
def Nl.ne{z n id:Nat}{vs:List V}{v:V}(h:Nl σ s z n vs v)(w:GW s)(Vp:id<σ.next∨s.next≤id):∀m,v≠.acL id 0 m z:=by
 intro m a;rcases h.UH with⟨_,rfl⟩|⟨b,rfl,d,g,k,y,t,_,c,_⟩
 .cases a
 cases a;have:=w.UL c;omega
def Nl.PH{z n id:Nat}{vs:List V}{v:V}{s2:St}(h:Nl σ s z n vs v)(p:VL id s s2)(a:∀m,v≠.acL id 0 m z):Nl σ s2 z n vs v:=by refine⟨h.len,h.UH.imp (fun h=>h) ?_⟩;rintro⟨b,c,d,g,m,y,t,i,j,f⟩;exact⟨b,c,d,g,m,y,t,i,by rw[p.TE _ (fun e=>a n (by rw[c,e]))];exact j,f⟩
def Nl.cells{z n:Nat}{vs:List V}{v:V}(h:Nl σ s z n vs v):v.cells=[v]:=cV (by simpa using h.Tr)
def WB{b l k r:Nat}{v:V}(h:[v].all V.Tr=true):[V.u b,.i l,.i k,.i r,v].all V.Tr=true:=h
def PZ{b l k r:Nat}{L:List Hd}{v:V}{x:Hd}(w:GW σ)(hL:VF σ L v)(Ue:L.length≤1000000):
  au G0 [] 184 [Vn b l k r v,.agg (j6 x)] σ fun y s=>(∃u,y=Vn b l k r u∧Nl σ s 3 (L++[x]).length (fl j6 (L++[x])) u)∧TP σ s:=by
 refine ai g184 rfl ?_;obtain⟨U,A⟩:∃S:List V,S=[.u b,.i l,.i k,.i r,v]:=⟨_,rfl⟩;obtain⟨xv,C⟩:∃S:List V,S=[.u x.p,.u x.s,.slice x.q x.n x.e]:=⟨_,rfl⟩;obtain⟨f,a⟩:=acH (((σ.ag U).ag xv).new (.acM 5 Un .nil));have w1:GW f:=by rw[a];exact((w.new _ rfl).new _ rfl).new _ rfl
 have K:TP σ f:=by rw[a];exact(Gr.g).ext
 have n1:f.next=σ.next+3:=by rw[a];rfl
 have L4:To f (σ.next+2) 5 (Tn Un):=by
  rw[a];refine(To.fx ((σ.ag U).ag xv) Un 5 (.inl Y)).congr (Tx _) fun i hi=>?_
  rw[show Un.length=5 from rfl,WR hi];rfl
 have k1:f.load σ.next 0 5=some [.u b,.i l,.i k,.i r,v]:=by rw[a,A,dv (m:=σ.next+2) Q,bG (m:=σ.next+1) Q];exact bH (m:=σ.next) rfl
 have k2:f.load (σ.next+1) 0 3=some [.u x.p,.u x.s,.slice x.q x.n x.e]:=by rw[a,C,dv (m:=σ.next+2) Q];exact bH (m:=σ.next+1) rfl
 have d:=a;rw[A,C]at d;simp (disch:=omega) only[go_sem,j6,<- d,k1];refine((Iu w1 (hL.ext K) Ue).gw w1).mono ?_;rintro _ s ⟨⟨⟨u,rfl,N⟩,e2⟩,ws⟩;have n2:=e2.next;have W:=WB (b:=b) (l:=l) (k:=k) (r:=r) N.Tr;obtain⟨s2,c⟩:=acH (s.Ts 5 Un [.u b,.i l,.i k,.i r,u]);have B:(s.new (.acM 5 Un .nil)).store s.next 0 [.u b,.i l,.i k,.i r,u]=some s2:=by rw[c];exact aQ Y W
 have w2:GW s2:=by rw[c];exact ws.Ts Y W
 have D:TP s s2:=by rw[c];exact(aH.Ts _ _ _ _).ext
 have n3:s2.next=s.next+1:=by rw[c];rfl
 have T:To s2 s.next 5 (Tn [.u b,.i l,.i k,.i r,u]):=by rw[c];exact To.Ts _ 5 Un _ rfl
 have c5:s2.cell s.next 4=some u:=by rw[T.bC rfl Q];rfl
 have G:To s2 (σ.next+2) 5 (Tn Un):=by obtain⟨m,z,t,hm,ho,hc⟩:=L4;exact⟨m,z,t,hm,by rw[D.TE _ Q,e2.TE _ Q];exact ho,hc⟩
 obtain⟨R,s3,ha,o,e4,w3,n4,O,X⟩:=((N.Tj K).Ui ws D).tM (y:=40) (x:=[.u x.p,.u x.s,.slice x.q x.n x.e]) (K.trans (e2.trans D)) w w2 Q rfl rfl (by unfold aq;omega) (by unfold aq;omega);have H:=X _ _ _ T (N.ne ws (.inr (Tx _)));have E:=X _ _ _ G (N.ne ws (.inl Q));obtain⟨s4,h4,I,w4,P⟩:=H.set rfl w3 (j:=4) (x:=R) Q o.Tr;have F:=E.put P Q;obtain⟨s5,h5,J,w5,Z⟩:=F.store w4 (off:=0) (vs:=[.u b,.i l,.i k,.i r,R]) Y (WB o.Tr);have k4:=I.lj rfl;have k5:s5.load (σ.next+2) 0 5=some [.u b,.i l,.i k,.i r,R]:=by rw[J.load (off:=0) Q];rfl
 have f2:bZ (bL [V.u 0,.u 0,.acJ] 1) [(0,3,V.agg [.u x.p,.u x.s,.slice x.q x.n x.e])]=some [.u x.p,.u x.s,.slice x.q x.n x.e]:=rfl;have M:=o.cells;simp (disch:=omega) only[go_sem,B,c5,e2.load,D.load,k2,aG,f2,ha,M,h4,k4,h5,k5,Yp,Yq];have hN:fl j6 L++[.u x.p,.u x.s,.slice x.q x.n x.e]=fl j6 (L++[x]):=by unfold fl;rw[Yo];rfl
 rw[hN]at o;refine⟨⟨_,rfl,?_⟩,Z.ext (P.ext e4 Q) Q⟩;rw[UN];refine(o.PH P fun m h=>?_).PH Z fun m h=>?_ <;> (rw[O]at h;have:=(Prod.mk.inj (XP (V.slice.inj h).1)).1;omega)
def _root_.AM.To.ext{id n:Nat}{f:Nat->V}(h:To σ id n f)(w:GW σ)(e:TP σ s):To s id n f:=by obtain⟨m,z,t,c,a,b⟩:=h;exact⟨m,z,t,c,by rw[e.TE _ (w.UL a)];exact a,b⟩
def _root_.AM.To.bN{id n j k:Nat}{l:List V}(h:To s id n (Tn l))(d:l.length=n)(b:j+k≤n):s.load id j k=some ((l.drop j).take k):=by rw[h.load b];refine Uj some (Z3 (by simp;omega) fun i a c=>?_);simp only[YX,abl,List.getElem_take,List.getElem_drop];exact iD (UQ (by simp at a;omega))
attribute [local go_sem] VG Wa VU WZ
def _root_.AM.To.zero(w:GW σ)(z:List V)(a:z≠[]):To (σ.new (.acM z.length z .nil)) σ.next z.length (Tn z):=
 (To.fx σ z z.length (.inl a)).congr (Tx _) fun i hi=>by rw[WR hi];rfl
abbrev VA:List V:=[.u 0,.u 0]
structure Zm (σ s:St) (bv sv xv:List V):Prop where
 w:GW s
 ex:TP σ s
 n:σ.next+5≤s.next
 q5:To s σ.next 5 (Tn bv)
 q9:To s (σ.next+1) 9 (Tn sv)
 o8:To s (σ.next+2) 5 (Tn Un)
 o9:To s (σ.next+3) 2 (Tn VA)
 x:To s (σ.next+4) 2 (Tn xv)
def Zm.ext{s':St}{bv sv xv:List V}(h:Zm σ s bv sv xv)(e:TP s s')(w:GW s'):Zm σ s' bv sv xv:=
 ⟨w,h.ex.trans e,V4 h.n e.next,h.q5.ext h.w e,h.q9.ext h.w e,h.o8.ext h.w e,h.o9.ext h.w e,h.x.ext h.w e⟩
def Zm.put{s':St}{id:Nat}{bv sv xv:List V}(h:Zm σ s bv sv xv)(p:VL id s s')(w:GW s')(Vp:σ.next+5≤id):Zm σ s' bv sv xv:=
 ⟨w,p.ext h.ex (by have:=h.n;omega),by rw[p.next];exact h.n,h.q5.put p Q,h.q9.put p Q,h.o8.put p Q,h.o9.put p Q,h.x.put p Q⟩
def yF(w:GW σ){bv sv xv:List V}(h:bv.length=5)(i:sv.length=9)(f:xv.length=2)(hx:xv.all V.Tr=true):
  Zm σ (((((σ.ag bv).ag sv).new (.acM 5 Un .nil)).new (.acM 2 VA .nil)).Ts 2 VA xv) bv sv xv:=by
 have e:GW (σ.ag bv):=w.new _ rfl;have c:GW ((σ.ag bv).ag sv):=e.new _ rfl;have a:GW (((σ.ag bv).ag sv).new (.acM 5 Un .nil)):=c.new _ rfl;have b:GW ((((σ.ag bv).ag sv).new (.acM 5 Un .nil)).new (.acM 2 VA .nil)):=a.new _ rfl;have b0:=To.cg σ bv;rw[h]at b0;have d:=To.cg (σ.ag bv) sv;rw[i]at d;have o8:=To.zero c Un Y;have o9:=To.zero a VA Y;exact⟨b.Ts Q hx,(Gr.g).ext,Tx _,((((b0.ext e (Gr.g).ext).ext c (Gr.g).ext).ext a (Gr.g).ext).ext b (Gr.g).ext),((d.ext c (Gr.g).ext).ext a (Gr.g).ext).ext b (Gr.g).ext,(o8.ext a (Gr.g).ext).ext b (Gr.g).ext,o9.ext b (Gr.g).ext,To.Ts _ 2 VA xv f⟩
def Nl.bls{L:List Hd}{v:V}(h:Nl σ s 2 L.length (fl gK (L.map Hd.U3)) v)(w:GW s):U6 s (L.map Hd.U3) v:=by have:=h.ls w;unfold U6;rw[Wz];exact this
theorem Ha{b l k r w:Nat}{L:List Hd}{v f:V}{d:Bool}(hw:GW σ)(B:dV b l k)(C:r≤l)(p:VF σ L v)(Ue:L.length≤1000000)(hs:Yt b k r (L.map Hd.U3))(hp:cQ w=true)(j:16≤w)(F:w≤4096*2^k)(A:max w 4096∣r*(4096*2^k))(T:jd b k r w (L.map Hd.U3))(hd:l≤r∨d=true):
  au G0 [] 182 [Vn b l k r v,jx 2 0 (r*(4096*2^k)) f,.u w,.bool d] σ fun y s=>y=.tuple [Vn b l k r v,.agg [.u (0:Nat),.u w],.bool true]∧TP σ s:=by
 refine ai g182 rfl ?_;have R:bZ VA [(0,1,V.u (0:Nat)),(1,1,V.u w)]=some [.u (0:Nat),.u w]:=rfl;have c:=yF (σ:=σ) hw (bv:=[.u b,.i l,.i k,.i r,v]) (sv:=[.i 2,.u (0:Nat),.acJ,.u 0,.u 0,.i 0,.i 0,.u (r*(4096*2^k):Nat),f]) (xv:=[.u (0:Nat),.u w]) rfl rfl rfl rfl;simp (maxSteps:=9^9) (disch:=omega) only[go_sem,aG,R];generalize St.Ts _ 2 _ _=s1 at c⊢;have q:=p.ext c.ex;refine((wY c.w q Ue).gw c.w).mono ?_;rintro u s2 ⟨⟨N,O⟩,w2⟩;have m:=c.ext O w2;have S:=N.bls w2;have Z:=IZ B C;simp (maxSteps:=9^9) (disch:=omega) only[go_sem,m.q5.bC rfl,m.q5.bN rfl];refine((Gs (d:=d) B w2 C S (by rw[Wz];exact Ue) hs hp j F A).gw w2).mono ?_;rintro _ s3 ⟨⟨⟨t,rfl,ht⟩,g3⟩,w3⟩;obtain rfl:t=true:=ht.2 ⟨T,hd⟩;have g:=m.ext g3.ext w3;simp (maxSteps:=9^9) (disch:=omega) only[go_sem,g.q5.bC rfl,g.q5.bN rfl,g.q9.bN rfl];refine((zm w3 B C (p.Tr)).gw w3).mono ?_;rintro _ H ⟨⟨rfl,P⟩,w4⟩;have o:=g.ext P w4;have h:=WB (b:=b) (l:=l) (k:=k) (r:=r) p.Tr;have e:=aQ (σ:=H) (z:=Un) (n:=5) (vs:=[V.u b,.i l,.i k,.i r,v]) Y h;have a:=o.ext (aH.Ts H 5 Un [V.u b,.i l,.i k,.i r,v]).ext (w4.Ts Y h);generalize H.Ts 5 Un [V.u b,.i l,.i k,.i r,v]=s5 at e a;obtain⟨s6,D,K,X,G⟩:=a.o8.store a.w (off:=0) (vs:=[.u b,.i l,.i k,.i r,v]) Y h;obtain⟨J,E,M,w7,I⟩:=(a.o9.put G Q).store X (off:=0) (vs:=[.u (0:Nat),.u w]) Y rfl;have U:J.load (σ.next+2) 0 5=some [.u b,.i l,.i k,.i r,v]:=by rw[(K.put I Q).load (off:=0) Q];rfl
 have W:J.load (σ.next+3) 0 2=some [.u (0:Nat),.u w]:=by rw[M.load (off:=0) Q];rfl
 simp (maxSteps:=9^9) (disch:=omega) only[go_sem,o.q5.bC rfl,o.q5.bN rfl,e,a.q5.bN rfl,a.x.bN rfl,D,E,U,W,G.load];exact I.ext (G.ext a.ex Q) Q
end
section
attribute [local go_sem] bJ bO bM bP bI bo bj bV bD bK VG Wa VU WZ dx dv cH bg cU bq bG cX cZ br bH cY cB UR UK aj az aD TH TK TZ bm bF aW aO aI bz aX bt aY dM aR bU dN aZ bc aT bA
variable {σ σ' s:St}
def om(L:List (Nat×Nat))(x:Nat×Nat):fl gK L++[.u x.1,.u x.2]=fl gK (L++[x]):=by unfold fl;rw[Yo];rfl
theorem Ig{b l k r f w p:Nat}{L:List Hd}{v:V}{d:Bool}{q:Option (Nat×Nat)}{e:Nat}(hw:GW σ)(J:dV b l k)(hr:r≤l)(D:f≤l)(hL:VF σ L v)(Ue:L.length<1000000)(hs:Yt b k r (L.map Hd.U3))(hp:cQ w=true)(Z:16≤w)(ag:w≤4096*2^k)(ac:max w 4096∣r*(4096*2^k))(am:¬(jd b k r w (L.map Hd.U3)∧(l≤r∨d=true)))(h1:jd b k r w (L.map Hd.U3)->f=r+1)(h2:¬jd b k r w (L.map Hd.U3)->f=r)(ad:Yt b k f (L.map Hd.U3++[(p,w)])):
  au G0 [] 182 [Vn b l k r v,jx 0 p (f*(4096*2^k)) (.slice q w e),.u w,.bool d] σ fun y s=>y=.tuple [Vn b l k f v,.agg [.u p,.u w],.bool true]∧TP σ s:=by
 refine ai g182 rfl ?_;have al:=(kZ J).k8;have av:(2:Nat)^k≤2^8:=Vb Q al;have rh:=fun σ=>PM (σ:=σ) (v:=v) J D
 obtain⟨z1,z2⟩:=IZ J hr;obtain⟨z3,z4⟩:=IZ J D;obtain⟨H,hH⟩:=acH (f*(4096*2^k));rw[<- hH]at rh z3⊢;have ar:w≤1048576:=Q;have f1:bZ VA [(0,1,V.u p),(1,1,V.u w)]=some [.u p,.u w]:=rfl;have f2:bZ (bL VA 1) [(0,2,V.agg [.u p,.u w])]=some [.u p,.u w]:=rfl;have B:=yF (σ:=σ) hw (bv:=[.u b,.i l,.i k,.i r,v]) (sv:=[.i 0,.u p,.acJ,.u 0,.u 0,.i 0,.i 0,.u H,.slice q w e]) (xv:=[.u p,.u w]) rfl rfl rfl rfl;simp (maxSteps:=9^9) (disch:=omega) only[go_sem,aG,f1];generalize St.Ts _ 2 _ _=s1 at B⊢;have ah:=hL.ext B.ex;refine((wY B.w ah Q).gw B.w).mono ?_;rintro u s2 ⟨⟨N,e2⟩,w2⟩;have M:=B.ext e2 w2;have hB:=N.bls w2;simp (maxSteps:=9^9) (disch:=omega) only[go_sem,M.q5.bC rfl,M.q5.bN rfl];refine((Gs (d:=d) J w2 hr hB (by rw[Wz];omega) hs hp Z ag ac).gw w2).mono ?_;rintro _ F ⟨⟨⟨t,rfl,ht⟩,g3⟩,w3⟩;obtain rfl:t=false:=by
  cases t with
  |false=>rfl
  |true=>exact(am (ht.1 rfl)).elim
 have h3:=M.ext g3.ext w3;have fb:=fun r=>WB (b:=b) (l:=l) (k:=k) (r:=r) hL.Tr
 have af:=aQ (σ:=F) (z:=Un) (n:=5) (vs:=[V.u b,.i l,.i k,.i r,v]) Y (fb r);have S:=w3.Ts (n:=5) (z:=Un) (vs:=[V.u b,.i l,.i k,.i r,v]) Y (fb r);have W:=(aH.Ts F 5 Un [V.u b,.i l,.i k,.i r,v]).ext;have h4:=h3.ext W S;have L4:=To.Ts F 5 Un [V.u b,.i l,.i k,.i r,v] rfl;have n4:(F.Ts 5 Un [V.u b,.i l,.i k,.i r,v]).next=F.next+1:=rfl;generalize F.Ts 5 Un [V.u b,.i l,.i k,.i r,v]=s4 at af S W h4 L4 n4;have N4:=(N.Ui w2 g3.ext).Ui w3 W;simp (maxSteps:=9^9) (disch:=omega) only[go_sem,h3.q5.bC rfl,h3.q5.bN rfl,af,h4.q5.bC rfl,h4.q5.bN rfl];refine((FY J S hr ((hB.ext g3.ext).ext W) (by rw[Wz];omega) hs hp Z ag ac).gw S).mono ?_;rintro _ s5 ⟨⟨⟨t,rfl,ht⟩,g5⟩,w5⟩;have h5:=h4.ext g5.ext w5;have L5:=L4.ext S g5.ext;have N5:=N4.Ui S g5.ext;have n3:=h3.n;have n5:=g5.next;have o:=N.ne w2 (id:=F.next) (.inr g3.next);have e5:TP s1 s5:=e2.trans (g3.ext.trans (W.trans g5.ext));cases t
 .have er:=h2 fun h=>nomatch ht.2 h
  subst er;have O:=h5;have I:=L5;have N6:=N5;have e6:=e5;have G:=w5;have n6:F.next<s5.next:=Q;simp (maxSteps:=9^9) (disch:=omega) only[go_sem,h5.q9.bC rfl,L5.bN rfl];generalize s5=s6 at O I N6 e6 G n6⊢;refine((rh _).gw G).mono ?_;rintro _ s7 ⟨⟨rfl,m⟩,w7⟩;have a:=O.ext m.ext w7;have g:=I.ext G m.ext;have N7:=N6.Ui G m.ext;have e7:=e6.trans m.ext;have n7:=m.next;obtain⟨v',s8,ha,U,e8,A,n8,ap,hC⟩:=N7.tM (y:=16) (x:=[.u p,.u w]) e7 B.w w7 Q rfl rfl (by unfold aq;omega) (by unfold aq;omega);have C:=B.ext e8 A;have K:=hC _ _ _ g o;rw[om _ (p,w)]at U;have B8:U6 s8 (L.map Hd.U3++[(p,w)]) v':=by have:=U.ls A;unfold U6;rw[UN,Wz];exact this
  simp (maxSteps:=9^9) (disch:=omega) only[go_sem,O.q9.bC rfl,I.bN rfl,a.q5.bC rfl,a.q5.bN rfl,a.q9.bC rfl,a.x.bN rfl,g.bN rfl,g.bC rfl,aG,f2,ha];refine((zL J A D B8 (by rw[UN,Wz];simp;omega) ad).gw A).mono ?_;rintro _ s9 ⟨⟨rfl,X⟩,w9⟩;have c:=C.ext X.ext w9;have T:=K.ext A X.ext;obtain⟨sA,P,LA,wA,E⟩:=c.o8.store c.w (off:=0) (vs:=[.u b,.i l,.i k,.i f,v]) Y (fb f);obtain⟨sB,R,LB,wB,pB⟩:=(c.o9.put E Q).store wA (off:=0) (vs:=[.u p,.u w]) Y rfl;have kA:sB.load (σ.next+2) 0 5=some [.u b,.i l,.i k,.i f,v]:=by rw[(LA.put pB Q).load (off:=0) Q];rfl
  have kB:sB.load (σ.next+3) 0 2=some [.u p,.u w]:=by rw[LB.load (off:=0) Q];rfl
  simp (maxSteps:=9^9) (disch:=omega) only[go_sem,a.q5.bC rfl,a.q5.bN rfl,a.x.bN rfl,g.bN rfl,g.bC rfl,C.q5.bC rfl,C.q5.bN rfl,C.x.bN rfl,K.bN rfl,K.bC rfl,c.q5.bC rfl,c.q5.bN rfl,c.x.bN rfl,T.bN rfl,T.bC rfl,P,R,kA,kB,E.load,E.cell];exact pB.ext (E.ext c.ex Q) Q
 have er:=h1 (ht.1 rfl);obtain⟨s6,ao,I,G,p6⟩:=L5.set rfl w5 (j:=3) (x:=.i f) Q rfl;have ew:IntKind.i64.wrap ((r:Int)+1)=(f:Int):=by rw[er];exact bJ Q
 have O:=h5.put p6 G Q;simp only[Yp,Yq]at I;have N6:=N5.PH p6 o;have e6:=p6.ext e5 (by have:=e2.next;have:=g3.next;omega);have n6:F.next<s6.next:=by rw[p6.next];omega
 simp (maxSteps:=9^9) (disch:=omega) only[go_sem,h5.q5.bC rfl,ew,ao,O.q9.bC rfl,I.bN rfl];refine((rh _).gw G).mono ?_;rintro _ s7 ⟨⟨rfl,m⟩,w7⟩;have a:=O.ext m.ext w7;have g:=I.ext G m.ext;have N7:=N6.Ui G m.ext;have e7:=e6.trans m.ext;have n7:=m.next;obtain⟨v',s8,ha,U,e8,A,n8,ap,hC⟩:=N7.tM (y:=16) (x:=[.u p,.u w]) e7 B.w w7 Q rfl rfl (by unfold aq;omega) (by unfold aq;omega);have C:=B.ext e8 A;have K:=hC _ _ _ g o;rw[om _ (p,w)]at U;have B8:U6 s8 (L.map Hd.U3++[(p,w)]) v':=by have:=U.ls A;unfold U6;rw[UN,Wz];exact this
 simp (maxSteps:=9^9) (disch:=omega) only[go_sem,O.q9.bC rfl,I.bN rfl,a.q5.bC rfl,a.q5.bN rfl,a.q9.bC rfl,a.x.bN rfl,g.bN rfl,g.bC rfl,aG,f2,ha];refine((zL J A D B8 (by rw[UN,Wz];simp;omega) ad).gw A).mono ?_;rintro _ s9 ⟨⟨rfl,X⟩,w9⟩;have c:=C.ext X.ext w9;have T:=K.ext A X.ext;obtain⟨sA,P,LA,wA,E⟩:=c.o8.store c.w (off:=0) (vs:=[.u b,.i l,.i k,.i f,v]) Y (fb f);obtain⟨sB,R,LB,wB,pB⟩:=(c.o9.put E Q).store wA (off:=0) (vs:=[.u p,.u w]) Y rfl;have kA:sB.load (σ.next+2) 0 5=some [.u b,.i l,.i k,.i f,v]:=by rw[(LA.put pB Q).load (off:=0) Q];rfl
 have kB:sB.load (σ.next+3) 0 2=some [.u p,.u w]:=by rw[LB.load (off:=0) Q];rfl
 simp (maxSteps:=9^9) (disch:=omega) only[go_sem,a.q5.bC rfl,a.q5.bN rfl,a.x.bN rfl,g.bN rfl,g.bC rfl,C.q5.bC rfl,C.q5.bN rfl,C.x.bN rfl,K.bN rfl,K.bC rfl,c.q5.bC rfl,c.q5.bN rfl,c.x.bN rfl,T.bN rfl,T.bC rfl,P,R,kA,kB,E.load,E.cell];exact pB.ext (E.ext c.ex Q) Q
def kC{n a:Nat}(hn:n<18446744073709551616)(ha:a<18446744073709551616):16≤aE n a:=by
 obtain⟨b,c,e⟩:=iQ hn ha;rw[e];have:(2:Nat)^4≤2^b:=Vb Q c
 simpa using this
def Bm(σ:St)(vs:List V)(j k:Nat)(h:j+k≤vs.length):(σ.ag vs).load σ.next j k=some ((vs.drop j).take k):=(To.cg σ vs).bN rfl h
def oX{b l k n a:Nat}(hw:GW σ)(j:dV b l k)(hn:n<18446744073709551616)(ha:a<18446744073709551616):
  au G0 [] 89 [XQ b l k,.u n,.u a] σ fun y s=>y=(if cQ a=false then .tuple [.u (0:Nat),.i (1:Nat)]else if 4096*2^k<aE n a then .tuple [.u (0:Nat),.i (3:Nat)]else .tuple [.u (aE n a),.i (0:Nat)])∧aH σ s:=by
 refine ai g89 rfl ?_;have c:=kZ j;have f:b<18446744073709551616:=by have:=c.Uv;omega
 have m:GW (σ.ag [.u b,.i l,.i k]):=hw.new _ rfl;have o:=kC hn ha;simp (disch:=omega) only[go_sem,XQ];refine((JJ j m f).gw m).mono ?_;rintro _ t ⟨⟨rfl,d⟩,w2⟩;have p:=d.next;simp only[bg]at p;simp (disch:=omega) only[go_sem,d.cell,d.load];refine(tf ha).mono ?_;rintro _ s2 ⟨rfl,e⟩;have r:=e.next;cases q:cQ a with
 |false=>
  simp (disch:=omega) only[go_sem,d.cell,d.load,e.cell,e.load];exact⟨Y,Gr.g.trans (d.trans e)⟩
 |true=>
  simp (disch:=omega) only[go_sem,d.cell,d.load,e.cell,e.load];refine(LD c.k8 hn ha).mono ?_;rintro _ v ⟨rfl,h⟩;by_cases c1:4096*2^k<aE n a
  .simp only[Ti c1];simp (disch:=omega) only[go_sem];exact⟨Y,Gr.g.trans (d.trans (e.trans h))⟩
  simp only[Tg c1];simp (disch:=omega) only[go_sem];exact⟨Y,Gr.g.trans (d.trans (e.trans h))⟩
abbrev pJ(op:Int)(p a b:Nat)(d:Bool)(x:V):V:=.agg [.i op,.u p,.u a,.u b,.bool d,x]
structure Zj (σ s:St) (bv cv sv:List V):Prop where
 w:GW s
 ex:TP σ s
 n:σ.next+4≤s.next
 q5:To s σ.next 5 (Tn bv)
 q6:To s (σ.next+1) 6 (Tn cv)
 q9:To s (σ.next+2) 9 (Tn sv)
 o:To s (σ.next+3) 5 (Tn Un)
def Zj.ext{s':St}{bv cv sv:List V}(h:Zj σ s bv cv sv)(e:TP s s')(w:GW s'):Zj σ s' bv cv sv:=
 ⟨w,h.ex.trans e,V4 h.n e.next,h.q5.ext h.w e,h.q6.ext h.w e,h.q9.ext h.w e,h.o.ext h.w e⟩
def Zj.put{s':St}{id:Nat}{bv cv sv:List V}(h:Zj σ s bv cv sv)(p:VL id s s')(w:GW s')(Vp:σ.next+4≤id):Zj σ s' bv cv sv:=
 ⟨w,p.ext h.ex (by have:=h.n;omega),by rw[p.next];exact h.n,h.q5.put p Q,h.q6.put p Q,h.q9.put p Q,h.o.put p Q⟩
def lU(w:GW σ){bv cv sv:List V}(f:bv.length=5)(h:cv.length=6)(i:sv.length=9):Zj σ ((((σ.ag bv).ag cv).ag sv).new (.acM 5 Un .nil)) bv cv sv:=by have e:GW (σ.ag bv):=w.new _ rfl;have b:GW ((σ.ag bv).ag cv):=e.new _ rfl;have a:GW (((σ.ag bv).ag cv).ag sv):=b.new _ rfl;have b0:=To.cg σ bv;rw[f]at b0;have c:=To.cg (σ.ag bv) cv;rw[h]at c;have d:=To.cg ((σ.ag bv).ag cv) sv;rw[i]at d;exact⟨a.new _ rfl,(Gr.g (σ:=σ)).ext,Tx _,((b0.ext e (Gr.g).ext).ext b (Gr.g).ext).ext a (Gr.g).ext,(c.ext b (Gr.g).ext).ext a (Gr.g).ext,d.ext a (Gr.g).ext,To.zero a Un Y⟩
def JR(σ s:St)(b l k r:Nat)(v:V)(L:List Hd)(o:Option (Nat×Nat×Nat))(y:V):Prop:=match o with
 |none=>y=.tuple [Vn b l k r v,.bool true]
 |some (r',p,w)=>∃u q n e,y=.tuple [Vn b l k r' u,.bool true]∧Nl σ s 3 (L++[Hd.mk p w q n e]).length (fl j6 (L++[Hd.mk p w q n e])) u
def CI{b l k r n a op P A B e:Nat}{L:List Hd}{v f x:V}{d:Bool}(hw:GW σ)(q:dV b l k)(F:r≤l)(hv:[v].all V.Tr=true)(hn:n<18446744073709551616)(ha:a<18446744073709551616)(p:(cQ a=false∧e=1)∨(cQ a=true∧4096*2^k<aE n a∧e=3)):
  au G0 [] 139 [Vn b l k r v,pJ op P A B d x,jx e 0 (r*(4096*2^k)) f,.u n,.u a] σ fun y s=>JR σ s b l k r v L none y∧TP σ s:=by
 refine ai g139 rfl ?_;have c:=lU (σ:=σ) hw (bv:=[.u b,.i l,.i k,.i r,v]) (cv:=[.i op,.u P,.u A,.u B,.bool d,x]) (sv:=[.i e,.u (0:Nat),.acJ,.u 0,.u 0,.i 0,.i 0,.u (r*(4096*2^k):Nat),f]) rfl rfl rfl;simp (disch:=omega) only[go_sem,Bm σ [.u b,.i l,.i k,.i r,v] 0 3 Y];generalize St.new _ (.acM 5 _ .nil)=J at c⊢;refine((oX c.w q hn ha).gw c.w).mono ?_;rintro _ s2 ⟨⟨rfl,C⟩,w2⟩;have j:=c.ext C.ext w2;have D:(if cQ a=false then V.tuple [.u (0:Nat),.i (1:Nat)]else if 4096*2^k<aE n a then .tuple [.u (0:Nat),.i (3:Nat)]else .tuple [.u (aE n a),.i (0:Nat)])=.tuple [.u (0:Nat),.i e]:=by
  rcases p with⟨h,rfl⟩|⟨h,g,rfl⟩
  .rw[Ti h]
  rw[Tg (by rw[h];decide),Ti g]
 have E:0<e:=by rcases p with⟨_,rfl⟩|⟨_,_,rfl⟩ <;> omega
 rw[D];simp (disch:=omega) only[go_sem,j.q5.bN rfl,j.q9.bN rfl];refine((zm (e:=e) w2 q F hv).gw w2).mono ?_;rintro _ K ⟨⟨rfl,z⟩,w3⟩;have g:=j.ext z w3;obtain⟨I,m,t,M,H⟩:=g.o.store w3 (off:=0) (vs:=[.u b,.i l,.i k,.i r,v]) Y (WB hv);have G:I.load (σ.next+3) 0 5=some [.u b,.i l,.i k,.i r,v]:=by rw[t.load (off:=0) Q];rfl
 simp (disch:=omega) only[go_sem,m,G];exact⟨rfl,H.ext g.ex Q⟩
def zv{b l k r n a:Nat}(j:dV b l k)(m:r≤l)(hn:n<18446744073709551616)(ha:a<18446744073709551616)(d:¬4096*2^k<aE n a):max (aE n a) 4096∣r*(4096*2^k)∧cQ (aE n a)=true:=by
 obtain⟨e,i,h⟩:=iQ hn ha;rw[h]at d⊢;have f:4096*2^k=2^(12+k):=by rw[X3]
 constructor
 .refine WE ?_ (aaL _ r);rw[f]at d⊢;have g:e≤12+k:=by
   rcases Vm (12+k) e with c|c
   .exact(d (Y0 Q c)).elim
   exact c
  rcases Nat.le_total e 12 with c|c
  .rw[aaO (show 2^e≤2^12 from Vb Q c)];exact XN 2 (show 12≤12+k from Q)
  rw[ZN (show 2^12≤2^e from Vb Q c)];exact XN 2 g
 unfold cQ;rw[ab6,Nat.mod_self,UR (Nat.pos_iff_ne_zero.1 (Yg e))];rfl
theorem IM{b l k r n a op P A B:Nat}{L:List Hd}{v x:V}{d:Bool}{f:V}(hw:GW σ)(E:dV b l k)(U:r≤l)(S:VF σ L v)(Ue:L.length<1000000)(hs:Yt b k r (L.map Hd.U3))(hn:n<18446744073709551616)(ha:a<18446744073709551616)(hp:cQ a=true)(c:¬4096*2^k<aE n a)(T:jd b k r (aE n a) (L.map Hd.U3))(hd:l≤r∨d=true):
  au G0 [] 139 [Vn b l k r v,pJ op P A B d x,jx 2 0 (r*(4096*2^k)) f,.u n,.u a] σ fun y s=>JR σ s b l k r v L none y∧TP σ s:=by
 refine ai g139 rfl ?_;have j:(if cQ a=false then V.tuple [.u (0:Nat),.i (1:Nat)]else if 4096*2^k<aE n a then .tuple [.u (0:Nat),.i (3:Nat)]else .tuple [.u (aE n a),.i (0:Nat)])=.tuple [.u (aE n a),.i (0:Nat)]:=by rw[Tg (by rw[hp];decide),Tg c]
 have e:=kC hn ha;obtain⟨m,p⟩:=zv E U hn ha c;obtain⟨w,q⟩:=acH (aE n a);rw[<- q]at j e c m p T;have z:=lU (σ:=σ) hw (bv:=[.u b,.i l,.i k,.i r,v]) (cv:=[.i op,.u P,.u A,.u B,.bool d,x]) (sv:=[.i 2,.u (0:Nat),.acJ,.u 0,.u 0,.i 0,.i 0,.u (r*(4096*2^k):Nat),f]) rfl rfl rfl;simp (maxSteps:=9^9) (disch:=omega) only[go_sem,Bm σ [.u b,.i l,.i k,.i r,v] 0 3 Y];generalize St.new _ (.acM 5 _ .nil)=s1 at z⊢;refine((oX z.w E hn ha).gw z.w).mono ?_;rintro _ s2 ⟨⟨rfl,g2⟩,w2⟩;have h:=z.ext g2.ext w2;rw[<- q,j];simp (maxSteps:=9^9) (disch:=omega) only[go_sem,h.q5.bN rfl,h.q6.bC rfl,h.q9.bN rfl];refine((Ha (f:=f) w2 E U (S.ext h.ex) Q hs p e Q m T hd).gw w2).mono ?_;rintro _ t ⟨⟨rfl,e3⟩,w3⟩;have O:=h.ext e3 w3;have n3:=O.n;have N:=WB (b:=b) (l:=l) (k:=k) (r:=r) S.Tr;have J:GW (t.new (.acM 5 Un .nil)):=w3.new _ rfl;have K:GW ((t.new (.acM 5 Un .nil)).new (.acM 2 VA .nil)):=J.new _ rfl;have R:=O.ext (s':=(t.new (.acM 5 Un .nil)).new (.acM 2 VA .nil)) (Gr.g).ext K;have M:=(To.zero w3 Un Y).ext J (Gr.g (s:=(t.new (.acM 5 Un .nil)).new (.acM 2 VA .nil))).ext;have D:=To.zero J VA Y;rw[cH]at D;generalize F:(t.new (.acM 5 Un .nil)).new (.acM 2 VA .nil)=s5 at K R M D;obtain⟨s6,G,ac,X,W⟩:=M.store K (off:=0) (vs:=[.u b,.i l,.i k,.i r,v]) Y N;obtain⟨s7,H,ad,Z,p7⟩:=(D.put W Q).store X (off:=0) (vs:=[.u (0:Nat),.u w]) Y rfl;have C:=(R.put W X Q).put p7 Z Q;obtain⟨s8,I,L8,w8,p8⟩:=C.o.store Z (off:=0) (vs:=[.u b,.i l,.i k,.i r,v]) Y N;have k8:s8.load (σ.next+3) 0 5=some [.u b,.i l,.i k,.i r,v]:=by rw[L8.load (off:=0) Q];rfl
 simp (maxSteps:=9^9) (disch:=omega) only[go_sem,F,G,H,C.q9.bC rfl,C.q5.bN rfl,I,k8];exact⟨rfl,p8.ext C.ex Q⟩
theorem IT{b l k r c n a op P A B p:Nat}{L:List Hd}{v x:V}{d:Bool}{q:Option (Nat×Nat)}{e:Nat}{vs:List V}(hw:GW σ)(R:dV b l k)(hr:r≤l)(ac:c≤l)(Z:VF σ L v)(Ue:L.length<1000000)(hs:Yt b k r (L.map Hd.U3))(hn:n<18446744073709551616)(ha:a<18446744073709551616)(hp:cQ a=true)(h:¬4096*2^k<aE n a)(ao:op≠2)(H:¬(jd b k r (aE n a) (L.map Hd.U3)∧(l≤r∨d=true)))(h1:jd b k r (aE n a) (L.map Hd.U3)->c=r+1)(C:¬jd b k r (aE n a) (L.map Hd.U3)->c=r)(J:Yt b k c (L.map Hd.U3++[(p,aE n a)]))(F:Ls σ 1 (aE n a) vs (.slice q (aE n a) e))(hf:vs.all V.Tr=true):
  au G0 [] 139 [Vn b l k r v,pJ op P A B d x,jx 0 p (c*(4096*2^k)) (.slice q (aE n a) e),.u n,.u a] σ fun y s=>JR σ s b l k r v L (some (c,p,aE n a)) y∧TP σ s:=by
 refine ai g139 rfl ?_;have E:(if cQ a=false then V.tuple [.u (0:Nat),.i (1:Nat)]else if 4096*2^k<aE n a then .tuple [.u (0:Nat),.i (3:Nat)]else .tuple [.u (aE n a),.i (0:Nat)])=.tuple [.u (aE n a),.i (0:Nat)]:=by rw[Tg (by rw[hp];decide),Tg h]
 have t:=kC hn ha;have ap:(2:Nat)^k≤2^8:=Vb Q (kZ R).k8;obtain⟨G,I⟩:=zv R hr hn ha h;obtain⟨w,K⟩:=acH (aE n a);rw[<- K]at E t h G I H h1 C J F⊢;have O:=lU (σ:=σ) hw (bv:=[.u b,.i l,.i k,.i r,v]) (cv:=[.i op,.u P,.u A,.u B,.bool d,x]) (sv:=[.i 0,.u p,.acJ,.u 0,.u 0,.i 0,.i 0,.u (c*(4096*2^k):Nat),.slice q w e]) rfl rfl rfl;simp (maxSteps:=9^9) (disch:=omega) only[go_sem,Bm σ [.u b,.i l,.i k,.i r,v] 0 3 Y];generalize St.new _ (.acM 5 _ .nil)=s1 at O⊢;refine((oX O.w R hn ha).gw O.w).mono ?_;rintro _ s2 ⟨⟨rfl,g2⟩,w2⟩;have z:=O.ext g2.ext w2;rw[<- K,E];simp (maxSteps:=9^9) (disch:=omega) only[go_sem,z.q5.bN rfl,z.q6.bC rfl,z.q9.bN rfl];refine((Ig (p:=p) (q:=q) (e:=e) w2 R hr ac (Z.ext z.ex) Ue hs I t Q G H h1 C J).gw w2).mono ?_;rintro _ f ⟨⟨rfl,e3⟩,w3⟩;have h3:=z.ext e3 w3;have n3:=h3.n;have fb:=fun v hv=>WB (b:=b) (l:=l) (k:=k) (r:=c) (v:=v) hv
 have w4:GW (f.new (.acM 5 Un .nil)):=w3.new _ rfl;have w5:GW ((f.new (.acM 5 Un .nil)).new (.acM 2 VA .nil)):=w4.new _ rfl;have h5:=h3.ext (s':=(f.new (.acM 5 Un .nil)).new (.acM 2 VA .nil)) (Gr.g).ext w5;have LA:To ((f.new (.acM 5 Un .nil)).new (.acM 2 VA .nil)) f.next 5 (Tn Un):=(To.zero w3 Un Y).ext w4 (Gr.g (s:=(f.new (.acM 5 Un .nil)).new (.acM 2 VA .nil))).ext;have LB:To ((f.new (.acM 5 Un .nil)).new (.acM 2 VA .nil)) (f.next+1) 2 (Tn VA):=To.zero w4 VA Y;generalize ad:(f.new (.acM 5 Un .nil)).new (.acM 2 VA .nil)=s5 at w5 h5 LA LB;obtain⟨s6,af,W,w6,p6⟩:=LA.store w5 (off:=0) (vs:=[.u b,.i l,.i k,.i c,v]) Y (fb _ Z.Tr);obtain⟨s7,ag,m,S,p7⟩:=(LB.put p6 Q).store w6 (off:=0) (vs:=[.u p,.u w]) Y rfl;have j:=(h5.put p6 w6 Q).put p7 S Q;have M:s7.load f.next 0 5=some [.u b,.i l,.i k,.i c,v]:=by rw[(W.put p7 Q).load (off:=0) (k:=5) Q];rfl
 have N:s7.load (f.next+1) 0 2=some [.u p,.u w]:=by rw[m.load (off:=0) (k:=2) Q];rfl
 have ar:f.next+1<s7.next:=m.lt S;have al:¬((op:Int)=2):=Q;simp (maxSteps:=9^9) (disch:=omega) only[go_sem,ad,af,ag,j.q9.bC rfl,j.q6.bC rfl,j.q5.bN rfl,M,N];refine((Lk S (F.ext j.ex) hf Q).gw S).mono ?_;rintro y s8 ⟨⟨N8,e8⟩,w8⟩;obtain⟨U,T,rfl⟩:=(N8.ls w8).is;have D:=j.ext e8 w8;have f3:bZ [V.u 0,.u 0,.acJ] [(0,2,V.agg [.u p,.u w]),(2,1,.slice U w T)]=some [.u p,.u w,.slice U w T]:=rfl;simp (maxSteps:=9^9) (disch:=omega) only[go_sem,aG,f3];refine((PZ (x:=Hd.mk p w U w T) w8 (Z.ext D.ex) Q).gw w8).mono ?_;rintro _ s9 ⟨⟨⟨u,rfl,N9⟩,e9⟩,w9⟩;have h9:=D.ext e9 w9;obtain⟨sA,ah,X,wA,pA⟩:=h9.o.store w9 (off:=0) (vs:=[.u b,.i l,.i k,.i c,u]) Y (fb _ N9.Tr);have kA:sA.load (σ.next+3) 0 5=some [.u b,.i l,.i k,.i c,u]:=by rw[X.load (off:=0) (k:=5) Q];rfl
 simp (maxSteps:=9^9) (disch:=omega) only[go_sem,j.q9.bC rfl,D.q9.bC rfl,M,N,e8.load,ah,kA];have am:=D.n;refine⟨⟨u,U,w,T,rfl,?_⟩,pA.ext h9.ex Q⟩;exact(N9.put pA Q).Tj D.ex
end
end
end Go.Proofs.YtlgmpheammbacaaGreatDoor
