import Derived.Test.YtlgmpheammbacaaGreatDoorPym
set_option linter.all false
set_option maxRecDepth 1000000
attribute [local irreducible] AM.T.get AM.T.set
namespace Go.Proofs.YtlgmpheammbacaaGreatDoor
open AM Go
noncomputable section
section
variable {σ σ':St} {A:Tu -> Nat} {H:aa} {B:AI -> Nat} {S:AS}
def gU(S:AS):AS:={ S with Wk:=true,ms:=S.ms++[⟨S.TW,S.Tm.length,S.Tz,S.TI⟩],Wv:=true,TW:=S.TW+1 }
def Mh(l:List Mk):∀(i n:Nat),(∀m∈l,m.n≠n)->dR .int (.i n) (l.map Mk.e) i=some none:=by
 induction l with
 |nil=>intro i n _;rfl
 |cons m r a=>
  intro i n h;have b:=h m (VY ..);have e:kg .int (.i (n:Int)) (.i (m.n:Int))=some false:=by unfold kg;simp;omega
  rw[Xr];show dR .int (.i n) ((.i m.n,_) ::r.map Mk.e) i=some none;unfold dR;rw[e];exact a (i+1) n fun x hx=>h x (VO _ hx)
abbrev Wg(σ:St)(A:Tu->Nat)(H:aa)(B:AI->Nat)(S:AS)(l:List V)(b n:Nat)(f:Nat->V)(b' n':Nat)(f':Nat->V):Prop:=
 Wd σ (Sum.elim (Sum.elim (Sum.elim H.has S.has) fun _:Unit=>True) fun _:Unit=>True) (Sum.elim (Sum.elim (Sum.elim A B) fun _=>b) fun _=>b') (Sum.elim (Sum.elim (Sum.elim (fW H A) (S.Dh l)) fun _=>.row n f) fun _=>.row n' f')
section
variable {l:List V} {b n b' n':Nat} {f f':Nat -> V}
def Wg.c(h:Wg σ A H B S l b n f b' n' f'){k:Nat}(a:k<11):σ.cell (B .TA) k=some (Tn l k):=Wd.cell h (i:=.inl (.inl (.inr .TA))) trivial rfl a
def Wg.x(h:Wg σ A H B S l b n f b' n' f'){k:Nat}(a:k<n):σ.cell b k=some (f k):=Wd.cell h (i:=.inl (.inr ())) trivial rfl a
def Wg.y(h:Wg σ A H B S l b n f b' n' f'){k:Nat}(a:k<n'):σ.cell b' k=some (f' k):=Wd.cell h (i:=.inr ()) trivial rfl a
def Wg.store(h:Wg σ A H B S l b n f b' n' f')(d:l.length=11){k:Nat}{v:V}(c:k<11)(a:v.Tr=true):∃s,σ.store (B .TA) k [v]=some s∧Wg s A H B S (l.set k v) b n f b' n' f'∧s.next=σ.next:=by
 obtain⟨s,e,W,hn⟩:=Wd.Mq h (i:=Sum.inl (Sum.inl (Sum.inr AI.TA))) trivial (n:=11) (l:=l) rfl d c a;refine⟨s,e,W.sub id (fun _ h=>h) (fun _ _ _ _ e=>e) (fun _ _=>rfl) ?_,hn⟩;rintro(((i|i)|i)|i) hi
 .left;show _=cu _ _ _ _;rw[aA (by intro h;cases h)];rfl
 .cases i with
  |TA=>left;exact aF.symm
  |_=>left;show _=cu _ _ _ _;rw[aA (by intro h;cases h)];rfl
 .left;show _=cu _ _ _ _;rw[aA (by intro h;cases h)];rfl
 left;show _=cu _ _ _ _;rw[aA (by intro h;cases h)];rfl
def Wg.mark(h:Wg σ A H B S l b n f b' n' f')(hi:S.Wk=true)(s:S.Wv=false->S.ms=[])(C:S.ms.length≤10000000000000)(m:Mk):
  ∃g,g={ σ with Tq:=σ.Tq.set (B .T1) (.map (S.ms.map Mk.e++[m.e])) }∧σ.Tq.get (B .T1)=some (.map (S.ms.map Mk.e))∧
   (∀k,k<11->g.cell (B .TA) k=some (Tn l k)∧(g.ag [.i m.n]).cell (B .TA) k=some (Tn l k))∧
   (∀k,k<n->g.cell b k=some (f k)∧(g.ag [.i m.n]).cell b k=some (f k))∧
   (∀k,k<n'->g.cell b' k=some (f' k)∧(g.ag [.i m.n]).cell b' k=some (f' k))∧
   ∃c t,AM.dj (g.ag [.i m.n]) 1 8 (S.gY B) (.acL g.next 0 1 1)=some (.acL c 0 (S.ms.length+1) 1,t)∧
    Wg t A H (fun i=>if i=.cE then c else B i) { S with ms:=S.ms++[m],Wv:=true } l b n f b' n' f':=by
 have p:S.T1=some (S.ms.map Mk.e):=by unfold AS.T1;rw[Ti hi]
 have a:S.has .T1:=by show S.T1.isSome=true;rw[p];rfl
 have r:=Wd.map h (i:=Sum.inl (Sum.inl (Sum.inr AI.T1))) a (es:=S.ms.map Mk.e) (by show cA.map (S.T1.getD [])=_;rw[p];rfl);have q:=Wd.mE h (i:=Sum.inl (Sum.inl (Sum.inr AI.T1))) a (es:=S.ms.map Mk.e) (es':=S.ms.map Mk.e++[m.e]) (by show cA.map (S.T1.getD [])=_;rw[p];rfl);have u:=q.new (.acM [V.i m.n].length [] (ofList [V.i m.n])) rfl;refine⟨_,rfl,r,?_,?_,?_,?_⟩
 .intro k o;exact⟨Wd.cell q (i:=.inl (.inl (.inr .TA))) trivial (n:=11) (f:=Tn l) (by rw[aA (by intro h;cases h)];rfl) o,Wd.cell u (i:=.inl (.inl (.inr .TA))) trivial (n:=11) (f:=Tn l) (by rw[aA (by intro h;cases h)];rfl) o⟩
 .intro k o;exact⟨Wd.cell q (i:=.inl (.inr ())) trivial (n:=n) (f:=f) (by rw[aA (by intro h;cases h)];rfl) o,Wd.cell u (i:=.inl (.inr ())) trivial (n:=n) (f:=f) (by rw[aA (by intro h;cases h)];rfl) o⟩
 .intro k o;exact⟨Wd.cell q (i:=.inr ()) trivial (n:=n') (f:=f') (by rw[aA (by intro h;cases h)];rfl) o,Wd.cell u (i:=.inr ()) trivial (n:=n') (f:=f') (by rw[aA (by intro h;cases h)];rfl) o⟩
 obtain⟨c,t,ha,y⟩:=Wd.push q (i0:=Sum.inl (Sum.inl (Sum.inr AI.cE))) (xl:=S.ms.length) (esz:=1) (bytes:=8) (f:=fun i=>.i (S.cE.getD i 0)) (vs:=[V.i m.n]) (sl:=S.gY B) (by
  unfold AS.gY;have d:S.cE.length=S.ms.length:=by unfold AS.cE;simp
  by_cases c:S.Wv=true
  .rw[Ti c,d];refine .inl ⟨c,rfl,?_⟩;rw[aA (by intro h;cases h),Um, <- d];rfl
  rw[Tg c];refine .inr ⟨c,rfl,?_⟩;rw[s (by simpa using c)];rfl) Q rfl (by unfold aq;omega) (by unfold aq;omega) rfl
 refine⟨c,t,ha,y.sub id ?_ (fun _ _ _ _ e=>e) ?_ ?_⟩
 .rintro(((i|i)|i)|i) hh
  .exact .inl hh
  .cases i with
   |cE=>exact .inr rfl
   |T1=>exact .inl a
   |_=>exact .inl hh
  .exact .inl hh
  exact .inl hh
 .rintro(((i|i)|i)|i) hh
  .show _=cu _ _ _ _;rw[aA (by intro h;cases h)];rfl
  .cases i with
   |cE=>exact aF.symm
   |_=>show _=cu _ _ _ _;rw[aA (by intro h;cases h)];rfl
  .show _=cu _ _ _ _;rw[aA (by intro h;cases h)];rfl
  show _=cu _ _ _ _;rw[aA (by intro h;cases h)];rfl
 rintro(((i|i)|i)|i) hh
 .left;show _=cu _ _ _ _;rw[aA (by intro h;cases h),aA (by intro h;cases h)];rfl
 .cases i with
  |cE=>
   right;have d:S.cE.length=S.ms.length:=by unfold AS.cE;simp
   refine⟨_,_,(AS.cE { S with ms:=S.ms++[m],Wv:=true }).length,fun i=>.i ((AS.cE { S with ms:=S.ms++[m],Wv:=true }).getD i 0),aF ..,rfl,(by unfold AS.cE;simp),?_⟩;intro j x;have z:j<S.ms.length+1:=by unfold AS.cE at x;simpa using x
   have v:AS.cE { S with ms:=S.ms++[m],Wv:=true }=S.cE++[(m.n:Int)]:=by unfold AS.cE;simp
   simp only;rw[v,Um];by_cases w:j<S.ms.length
   .rw[Ti w];simp[U7,Wh (Q:j<S.cE.length)]
   rw[Tg w,(Q:j=S.ms.length),Yf];simp[U7, <- d,Tn]
  |T1=>
   left;show _=cu _ _ _ _;rw[aA (by intro h;cases h)];refine WY ?_ aF.symm;show cA.map (AS.T1 { S with ms:=S.ms++[m],Wv:=true } |>.getD [])=_;unfold AS.T1;simp[hi]
  |_=>left;show _=cu _ _ _ _;rw[aA (by intro h;cases h),aA (by intro h;cases h)];rfl
 .left;show _=cu _ _ _ _;rw[aA (by intro h;cases h),aA (by intro h;cases h)];rfl
 left;show _=cu _ _ _ _;rw[aA (by intro h;cases h),aA (by intro h;cases h)];rfl
end
def Ec(kk:Kk)(mv a b:V)(σ:St):Option (V×St):=match mv with
 | .map (some r)=>match σ.Tq.get r with
  |some (.map es)=>match dR kk a es 0 with
   |none=>none
   |some none=>some (.undef, { σ with Tq:=σ.Tq.set r (.map (es++[(a,b)])) })
   |some (some (i,_))=>some (.undef, { σ with Tq:=σ.Tq.set r (.map (es.set i (a,b))) })
  |_=>none
 |_=>none
theorem Aj{kk:Kk}{m k v:AM.Tt}{tm:T V}:AM.bp (.mapUpdate kk m k v) tm σ=Ec kk (m.eval tm) (k.eval tm) (v.eval tm) σ:=rfl
def chH{n:Nat}{z:List V}{es:List (T4×St)}{d:T4}(b:jh z z=true)(hn:z.length=n):eN σ.next z 0 0 ((d,σ.new (.acM n z .nil)) ::es)=true:=by
 have hg:(σ.new (.acM n z .nil)).Tq.get σ.next=some (.acM n z .nil):=by simp only[St.new,T.aJ,TT]
 have a:∀(es:List (T4×St)) (m:Nat),0<m->eN σ.next z 0 m es=true:=by
  intro es;induction es with
  |nil=>intro m _;rfl
  |cons e r c=>
   intro m f;simp only[eN,(Q:¬m≤0),Ul,WL];exact c (m+1) Q
 simp only[eN,Tx,TT,hg,b,hn,aaV,WL];exact a es 1 Q
def PG(h:AR σ A H B S)(hS:S.OK)(hm:S.Wk=false->S.ms=[])(hl:∀m∈S.ms,m.n<S.TW)(al:S.TW<10000000000000)(ap:S.ms.length≤10000000000000):
  au G0 [] 40 [.acK (B .TA) 0] σ fun r s=>∃B',r=.i S.TW∧AR s A H B' (gU S)∧B' .TA=B .TA:=by
 refine ai g40 rfl ?_;obtain⟨ar,O⟩:∃ar,B .TA=ar:=⟨_,rfl⟩;have L:=To.cg σ [.acK ar 0];have W0:AH (σ.ag [.acK ar 0]) A H B S (S.Up (A .heap) B):=Wd.new (AR.h h) _ rfl;have W1:Vj (σ.ag [.acK ar 0]) A H B S (S.Up (A .heap) B) σ.next 1 (Tn [.acK ar 0]):=Wd.box W0 L fun i hi e=>by have:=Wd.lt h hi;omega
 obtain⟨v,t,⟨g,w,X⟩,av⟩:=Q2 O W1 hm;have b0:=Vj.bx W1 (k:=0) Q;rw[O];generalize ah:σ.next=K at *;have e1:(V.acK ar 0).cells=[V.acK ar 0]:=rfl;have ac:(σ.ag [.acK ar 0]).cell K 0=some (.acK ar 0):=b0;simp only[go_sem,e1,TH,TK,ah,ac];refine ab av ?_;obtain⟨j,a⟩:∃j:AS,j={ S with Wk:=true }:=⟨_,rfl⟩;rw[<- a]at X;obtain⟨p,E⟩:=acH ([V.i 0,V.i 0,V.u 0,V.u 0]);obtain⟨o,l⟩:=acH ([V.i S.TW,V.i S.Tm.length,V.u S.Tz,V.u S.TI]);have ay:=aQ (σ:=t) (z:=p) (vs:=o) (n:=4) (by rw[l];simp) (by rw[l];rfl);have C:Vj (t.new (.acM 4 p .nil)) A H g j (j.Up (A .heap) g) K 1 (Tn [.acK ar 0]):=Wd.new X _ rfl;have L2:=To.Ts t 4 p o (by rw[l];rfl);have Z:Vj (t.Ts 4 p o) A H g j (j.Up (A .heap) g) K 1 (Tn [.acK ar 0]):=Wd.Ts X (by rw[l];simp) (by rw[l];rfl);have M:Wg (t.Ts 4 p o) A H g j (j.Up (A .heap) g) K 1 (Tn [.acK ar 0]) t.next 4 (Tn o):=Wd.box Z L2 fun i hi e=>by have:=Wd.lt X hi;omega
 have b1:(t.new (.acM 4 p .nil)).cell K 0=some (.acK ar 0):=Vj.bx C (k:=0) Q;have k2:=Vj.c C (k:=2) Q;have k3:=Vj.c C (k:=3) Q;have k4:=Vj.c C (k:=4) Q;have J:=Vj.c C (k:=10) Q;rw[w]at k2 k3 k4 J;obtain⟨q,z,hV⟩:∃q z,j.dp g=.slice q S.Tm.length z:=by
  rw[a];unfold AS.dp;by_cases c:S.Vz=true
  .rw[Ti c];exact⟨_,_,rfl⟩
  rw[Tg c];have:=hS.nil (by simpa using c);exact⟨none,0,by rw[this];rfl⟩
 rw[show Tn (j.Up (A .heap) g) 2=j.dp g from rfl,hV]at k2;rw[show Tn (j.Up (A .heap) g) 3=.u S.Tz by rw[a];rfl]at k3;rw[show Tn (j.Up (A .heap) g) 4=.u S.TI by rw[a];rfl]at k4;rw[show Tn (j.Up (A .heap) g) 10=.i S.TW by rw[a];rfl]at J;have f1:bZ p [(0,1,V.i S.TW),(1,1,V.i S.Tm.length),(2,1,V.u S.Tz),(3,1,V.u S.TI)]=some o:=by rw[E,l];rfl
 have zl:p.length=4:=by rw[E];rfl
 have vl:o.length=4:=by rw[l];rfl
 have zz:jh p p=true:=by rw[E];rfl
 have ch:=chH (σ:=t) (n:=4) (z:=p) (d:=[]) (es:=[([],t.Ts 4 p o)]) zz zl;obtain⟨m,F⟩:∃m:Mk,m=⟨S.TW,S.Tm.length,S.Tz,S.TI⟩:=⟨_,rfl⟩;have am:m.e=(.i S.TW,.agg o):=by rw[F,l];rfl
 have ao:m.n=S.TW:=by rw[F]
 obtain⟨s3,ax,P,c3,x3,y3,bs,s5,N,W5⟩:=Wg.mark M (by rw[a]) (by
  intro h;rw[a]at h⊢;have:=hS.Ww h;unfold AS.cE at this;simpa using this) (by rw[a];exact ap) m
 have D:=fun k (hk:k<11)=>Wg.c M (k:=k) hk
 have b2:(t.Ts 4 p o).cell K 0=some (.acK ar 0):=Wg.x M (k:=0) Q;have y2:=Wg.y M (k:=0) Q;have aC:=Wd.load M (i:=.inr ()) trivial (n:=4) (f:=Tn o) rfl (off:=0) (k:=4) Q;have W:(t.Ts 4 p o).load t.next 0 4=some o:=by refine WY aC ?_;rw[l];rfl
 rw[show Tn o 0=.i S.TW by rw[l];rfl]at y2;have j2:=D 2 Q;have j3:=D 3 Q;have j4:=D 4 Q;have j8:=D 8 Q;have I:=D 10 Q;rw[w]at j2 j3 j4 j8 I;rw[show Tn (j.Up (A .heap) g) 2=j.dp g from rfl,hV]at j2;rw[show Tn (j.Up (A .heap) g) 3=.u S.Tz by rw[a];rfl]at j3;rw[show Tn (j.Up (A .heap) g) 4=.u S.TI by rw[a];rfl]at j4;rw[show Tn (j.Up (A .heap) g) 8=.map (some (g .T1)) by rw[a];unfold AS.Up AS.fF AS.T1;simp[Tn]]at j8;rw[show Tn (j.Up (A .heap) g) 10=.i S.TW by rw[a];rfl]at I;have aB:Ec .int (.map (some (g .T1))) (.i S.TW) (.agg o) (t.Ts 4 p o)=some (.undef,s3):=by
  unfold Ec;simp only[P];rw[Mh _ 0 S.TW (fun x hx=>by
   have:=hl x (by rw[a]at hx;exact hx);omega)]
  rw[ax,am]
 generalize aM:t.Ts 4 p o=s2 at *;have G:Tn [V.acK ar 0] 0=.acK ar 0:=rfl;have U:Tn o 0=.i S.TW:=by rw[l];rfl
 obtain⟨p1,p2⟩:=x3 0 Q;obtain⟨u1,u2⟩:=y3 0 Q;obtain⟨w1,w2⟩:=c3 8 Q;obtain⟨w3,w4⟩:=c3 9 Q;rw[G]at p1 p2;rw[U]at u1 u2;rw[w,show Tn (j.Up (A .heap) g) 9=j.gY g from rfl]at w3 w4;rw[w,show Tn (j.Up (A .heap) g) 8=.map (some (g .T1)) by rw[a];unfold AS.Up AS.fF AS.T1;simp[Tn]]at w1 w2;have g1:bZ (bL [V.i 0] 1) [(0,1,V.i S.TW)]=some [V.i S.TW]:=rfl;rw[ao]at N p2 u2 w2 w4;have p5:=Wg.x W5 (k:=0) Q;rw[G]at p5;obtain⟨s6,R,Y,aJ⟩:=Wg.store W5 (by rfl) (k:=9) (v:=.acL bs 0 (j.ms.length+1) 1) Q rfl;have p6:=Wg.x Y (k:=0) Q;rw[G]at p6;have y6:=Wg.y Y (k:=0) Q;have c6:=Wg.c Y (k:=10) Q;obtain⟨s7,T,W7,aL⟩:=Wg.store Y (by simp[AS.Up]) (k:=10) (v:=.i (S.TW+1:Nat)) Q rfl;have y7:=Wg.y W7 (k:=0) Q;rw[U]at y6 y7;have af:(if AI.TA=AI.cE then bs else g AI.TA)=ar:=w;rw[af]at R T c6;have ad:s6.cell ar 10=some (.i S.TW):=by rw[c6,a];rfl
 have eu:IntKind.i64.wrap ((S.TW:Int)+1)=((S.TW+1:Nat):Int):=bj (b:=1) Q;simp only[go_sem,e1,<- E,zl,vl,TH,TK,b1,k2,k3,k4,J,aG,f1,aj,ay,b2,j2,j3,j4,j8,I,y2,W,Aj,aB,ch,p1,p2,u1,u2,w1,w2,w3,w4,g1,N,aD,az,R,T,ad,p5,p6,y6,y7,eu];refine⟨fun i=>if i=AI.cE then bs else g i,AH.ar ?_,w⟩;subst a F;have W8:=Wd.left (Wd.left W7);have e:AS.Up (gU S) (A .heap) (fun i=>if i=AI.cE then bs else g i)=(((AS.Up { S with Wk:=true } (A .heap) g).set 9 (.acL bs 0 (S.ms.length+1) 1)).set 10 (.i (S.TW+1:Nat))):=by simp[AS.Up,gU,AS.dp,AS.fF,AS.gY,AS.T1,AS.cE,AS.XD]
 rw[e];exact W8
end
section
variable {σ σ':St} {A:Tu -> Nat} {H H':aa} {B:AI -> Nat} {S S':AS}
abbrev Uo{κ:Type}(σ:St)(A:Tu->Nat)(H:aa)(B:AI->Nat)(S:AS)(hasK:κ->Prop)(AK:κ->Nat)(cK:κ->cA):Prop:=
 Wd σ (Sum.elim (Sum.elim H.has S.has) hasK) (Sum.elim (Sum.elim A B) AK) (Sum.elim (Sum.elim (fW H A) (S.X5 (A .heap) B)) cK)
section
variable {κ:Type} {hasK:κ -> Prop} {AK:κ -> Nat} {cK:κ -> cA}
def Uo.call{g:FuncId}{xs:List V}{P:V->(Tu->Nat)->(AI->Nat)->Prop}(h:Uo σ A H B S hasK AK cK)(d:∀σ,AR σ A H B S->au G0 [] g xs σ fun v σ'=>∃A' B',AR σ' A' H' B' S'∧P v A' B'):
  au G0 [] g xs σ fun v σ'=>∃A' B',Uo σ' A' H' B' S' hasK AK cK∧P v A' B':=by
 refine(Wd.call (Γ:=G0) (Γ':=G0) (M:=[]) (P:=fun v c A' f=>∃a b,c=Sum.elim H'.has S'.has∧A'=Sum.elim a b∧f=Sum.elim (fW H' a) (S'.X5 (a .heap) b)∧P v a b) (fun _ _ h=>h) (fun _ h=>nomatch h) h fun s w=>(d s w).mono ?_).mono ?_
 .rintro v i ⟨A',B',R,e⟩;exact⟨_,_,_,R,A',B',rfl,rfl,rfl,e⟩
 rintro v i ⟨c,A',f,w,a,b,rfl,rfl,rfl,e⟩;exact⟨a,b,w,e⟩
end
def E4(mv:V)(σ:St):Option (V×St):=match mv with
 | .map none=>some (.tuple [],σ)
 | .map (some r)=>match σ.Tq.get r with|some (.map _)=>some (.tuple [], { σ with Tq:=σ.Tq.set r (.map []) })|_=>none
 |_=>none
theorem GF{m:AM.Tt}{tm:T V}:AM.bp (.YL m) tm σ=E4 (m.eval tm) σ:=rfl
def zd(kk:Kk)(z:V)(ok:Bool)(mv b:V)(σ:St):Option V:=match (match mv with
   | .map none=>some []
   | .map (some r)=>match σ.Tq.get r with|some (.map a)=>some a|_=>none
   |_=>none:Option (List (V×V)))with
  |none=>none
  |some a=>match dR kk b a 0 with
   |none=>none
   |some r=>match r with
    |none=>some (if ok then .tuple [z,.bool false]else z)
    |some (_,v)=>some (if ok then .tuple [v,.bool true]else v)
theorem yX{kk:Kk}{z:V}{ok:Bool}{m k:AM.Tt}{tm:T V}:AM.eT (.lookup kk z ok m k) tm σ=zd kk z ok (m.eval tm) (k.eval tm) σ:=rfl
def Qk(kk:Kk)(mv a:V)(σ:St):Option (V×St):=match mv with
  | .map (some r)=>match σ.Tq.get r with
   |some (.map es)=>match dR kk a es 0 with
    |none=>none
    |some none=>some (.tuple [], { σ with Tq:=σ.Tq.set r (.map es) })
    |some (some (i,_))=>some (.tuple [], { σ with Tq:=σ.Tq.set r (.map (es.eraseIdx i)) })
   |_=>none
  |_=>none
def gL(S:AS):AS:={ S with Tm:=[],Tz:=0,TI:=0,ms:=[],Wv:=false }
def My(h:AR σ A H B S)(hg:T3 H)(F:S.OK):
  au G0 [] 43 [.acK (B .TA) 0] σ fun r s=>AR s A (cz H (eV S 0)) B (gL S):=by
 refine ai g43 rfl ?_;obtain⟨v,I,z,j⟩:=Gj h hg F (n:=0) (VK _);rw[VU]at z;obtain⟨s2,p,C,_⟩:=(AR.h z).store (by rfl) (k:=3) (v:=.u 0) Q rfl;obtain⟨m,q,l,_⟩:=C.store (by simp[AS.Up]) (k:=4) (v:=.u 0) Q rfl;have G:=l.c (k:=8) Q;have x:m.cell (B .TA) 8=some (S.fF B):=by rw[G];rfl
 have w:∃y,E4 (S.fF B) m=some (.tuple [],y)∧AH y A (cz H (eV S 0)) B { S with Tm:=[],Tz:=0,TI:=0,ms:=[],Wv:=false } (((AS.Up { S with Tm:=[] } (A .heap) B).set 3 (.u 0)).set 4 (.u 0)):=by
  unfold AS.fF AS.T1;by_cases c:S.Wk=true
  .rw[Ti c];simp only[Option.isSome_some,TT];have f:S.T1=some (S.ms.map Mk.e):=by unfold AS.T1;rw[Ti c]
   have b:AS.has { S with Tm:=[] } .T1:=by show S.T1.isSome=true;rw[f];rfl
   have g:=Wd.map l (i:=(Sum.inr AI.T1:Tu ⊕ AI)) b (es:=S.ms.map Mk.e) (by show cA.map (S.T1.getD [])=_;rw[f];rfl);have W:=Wd.mE l (i:=(Sum.inr AI.T1:Tu ⊕ AI)) b (es:=S.ms.map Mk.e) (es':=[]) (by show cA.map (S.T1.getD [])=_;rw[f];rfl);have d:m.Tq.get (B .T1)=some (.map (S.ms.map Mk.e)):=g;refine⟨_,by unfold E4;simp only[d];rfl,W.sub id ?_ (fun _ _ _ _ e=>e) (fun _ _=>rfl) ?_⟩
   .rintro(i|i) a
    .exact a
    cases i with
    |cE=>exact nomatch (show false=true from a)
    |T1=>exact b
    |_=>exact a
   rintro(i|i) a
   .left;show _=cu _ _ _ _;rw[aA (by intro h;cases h)];rfl
   cases i with
   |cE=>exact nomatch (show false=true from a)
   |T1=>
    left;refine WY ?_ aF.symm;show cA.map ((AS.T1 { S with Tm:=[],Tz:=0,TI:=0,ms:=[],Wv:=false }).getD [])=_;unfold AS.T1;simp[c]
   |_=>left;show _=cu _ _ _ _;rw[aA (by intro h;cases h)];rfl
  rw[Tg c];refine⟨m,rfl,l.sub id ?_ (fun _ _ _ _ e=>e) (fun _ _=>rfl) ?_⟩
  .rintro(i|i) a
   .exact a
   cases i with
   |cE=>exact nomatch (show false=true from a)
   |T1=>
    exfalso;have:(AS.T1 { S with Tm:=[],Tz:=0,TI:=0,ms:=[],Wv:=false }).isSome=true:=a;unfold AS.T1 at this;simp[c]at this
   |_=>exact a
  rintro(i|i) a
  .exact .inl rfl
  cases i with
  |cE=>exact nomatch (show false=true from a)
  |T1=>
   exfalso;have:(AS.T1 { S with Tm:=[],Tz:=0,TI:=0,ms:=[],Wv:=false }).isSome=true:=a;unfold AS.T1 at this;simp[c]at this
  |_=>exact .inl rfl
 obtain⟨y,o,D⟩:=w;obtain⟨J,t,E,_⟩:=D.store (by simp[AS.Up]) (k:=9) (v:=.acJ) Q rfl;rw[show((0:Nat):Int)=0 from rfl]at j;simp only[go_sem];refine ab j ?_;simp only[go_sem,az,aD,TH,TK,p,q,x,GF,o,t];refine AH.ar ?_;have e:AS.Up (gL S) (A .heap) B=((((AS.Up { S with Tm:=[] } (A .heap) B).set 3 (.u 0)).set 4 (.u 0)).set 9 (.acJ)):=by by_cases c:S.Vz=true <;> simp[AS.Up,gL,AS.dp,AS.fF,AS.gY,AS.T1,AS.cE,AS.XD,c]
 rw[e];exact E
end
section
variable {σ σ':St} {A:Tu -> Nat} {H H':aa} {B:AI -> Nat} {S S':AS} {fl pl fc:Nat -> List Nat}
theorem Gz{kk:Kk}{m k:AM.Tt}{tm:T V}:AM.bp (.delete kk m k) tm σ=Qk kk (m.eval tm) (k.eval tm) σ:=rfl
def FD(pre:List Mk):∀(m:Mk) (a:List Mk) (i:Nat),(∀x∈pre,x.n≠m.n)->dR .int (.i m.n) ((pre++m ::a).map Mk.e) i=some (some (i+pre.length,m.e.2)):=by
 induction pre with
 |nil=>
  intro m a i _;show dR .int (.i m.n) ((.i m.n,m.e.2) ::a.map Mk.e) i=_;unfold dR;rw[show kg .int (.i (m.n:Int)) (.i (m.n:Int))=some true by unfold kg;simp];rfl
 |cons x r b=>
  intro m a i h;have c:=h x (VY ..);show dR .int (.i m.n) ((.i x.n,x.e.2) ::(r++m ::a).map Mk.e) i=_;unfold dR;rw[show kg .int (.i (m.n:Int)) (.i (x.n:Int))=some false by unfold kg;simp;omega];simp only;rw[b m a (i+1) fun y hy=>h y (VO _ hy)];simp;omega
def Oy(l:List Mk):∀(i:Nat) (n:Int),(∀m∈l,(m.n:Int)≠n)->dR .int (.i n) (l.map Mk.e) i=some none:=by
 induction l with
 |nil=>intro i n _;rfl
 |cons m r a=>
  intro i n h;have b:=h m (VY ..);show dR .int (.i n) ((.i m.n,m.e.2) ::r.map Mk.e) i=some none;unfold dR;rw[show kg .int (.i n) (.i (m.n:Int))=some false by unfold kg;simp;omega];exact a (i+1) n fun x hx=>h x (VO _ hx)
def DK{a:Type}(l:List a)(x:a)(k:Nat)(h:l.length=k):(l++[x]).eraseIdx k=l:=by subst h;rw[List.eraseIdx_append_of_length_le (Tx _),Yf];simp
structure xZ (S:AS):Prop where
 Yz:S.ms.Pairwise fun a b=>a.n<b.n∧a.Tm≤b.Tm
 lt:∀ m∈S.ms,m.n<S.TW
 le:∀ m∈S.ms,m.Tm≤S.Tm.length
 nil:S.Wk=false -> S.ms=[]
 Zf:∀ m∈S.ms,m.Tz≤8388608∧m.TI<18446744073709551616
def j9(S:AS)(i:Nat)(m:Mk):AS:={ S with Tm:=S.Tm.take m.Tm,Tz:=m.Tz,TI:=m.TI,ms:=S.ms.take i }
def D0(h:AR σ A H B S)(p:xZ S){n:Int}(j:∀m∈S.ms,(m.n:Int)≠n):
  au G0 [] 42 [.acK (B .TA) 0,.i n] σ fun r s=>r=.i 9∧AR s A H B S:=by
 refine ai g42 rfl ?_;have k8:=(AR.h h).c (k:=8) Q;rw[show Tn (S.Up (A .heap) B) 8=S.fF B from rfl]at k8;have o:∀z,zd .int z true (S.fF B) (.i n) σ=some (.tuple [z,.bool false]):=by
  intro z;unfold AS.fF;cases hi:S.Wk with
  |false=>
   have:S.T1=none:=by unfold AS.T1;rw[hi];rfl
   rw[this];have g:dR .int (.i n) [] 0=some none:=rfl;unfold zd;simp[g]
  |true=>
   have b:S.T1=some (S.ms.map Mk.e):=by unfold AS.T1;rw[Ti hi]
   have f:S.has .T1:=by show S.T1.isSome=true;rw[b];rfl
   have d:=Wd.map h (i:=(Sum.inr AI.T1:Tu ⊕ AI)) f (es:=S.ms.map Mk.e) (by show cA.map (S.T1.getD [])=_;rw[b];rfl);have a:σ.Tq.get (B .T1)=some (.map (S.ms.map Mk.e)):=d;rw[b];unfold zd;simp only[Option.isSome_some,TT,a,Oy _ 0 n j]
 have l:=aQ (σ:=σ) (z:=[.i 0,.i 0,.u 0,.u 0]) (vs:=[.i 0,.i 0,.u 0,.u 0]) (n:=4) Y rfl;have W:AR (σ.Ts 4 [.i 0,.i 0,.u 0,.u 0] [.i 0,.i 0,.u 0,.u 0]) A H B S:=Wd.Ts h Y rfl;simp only[go_sem,k8,yX,o,aj,TH,TK,l];exact W
theorem HN(h:AR σ A H B S)(hg:T3 H)(hS:S.OK)(hm:xZ S){i:Nat}{pre af:List Mk}{m:Mk}(y:S.ms=pre++m ::af)(bl:S.ms.length≤10000000000000):
  au G0 [] 42 [.acK (B .TA) 0,.i m.n] σ fun r s=>r=.i 0∧AR s A (cz H (eV S m.Tm)) B (j9 S pre.length m):=by
 refine ai g42 rfl ?_;have G:m∈S.ms:=by rw[y];simp
 have k8:=(AR.h h).c (k:=8) Q;rw[show Tn (S.Up (A .heap) B) 8=S.fF B from rfl]at k8;have hi:S.Wk=true:=by
  cases hh:S.Wk with
  |true=>rfl
  |false=>rw[hm.nil hh]at G;cases G
 have w:S.T1=some (S.ms.map Mk.e):=by unfold AS.T1;rw[Ti hi]
 have p:S.has .T1:=by show S.T1.isSome=true;rw[w];rfl
 have al:=Wd.map h (i:=(Sum.inr AI.T1:Tu ⊕ AI)) p (es:=S.ms.map Mk.e) (by show cA.map (S.T1.getD [])=_;rw[w];rfl);have T:σ.Tq.get (B .T1)=some (.map (S.ms.map Mk.e)):=al;have o:=hm.Yz;rw[y,Xt]at o;have am:∀x∈pre,x.n<m.n:=fun x hx=>(o.2.2 x hx m (VY ..)).1
 have bs:∀x∈af,m.n<x.n:=fun x hx=>((aaD.1 o.2.1).1 x hx).1
 obtain⟨t,d⟩:=acH ([V.i m.n,V.i m.Tm,V.u m.Tz,V.u m.TI]);have hl:∀z,zd .int z true (S.fF B) (.i m.n) σ=some (.tuple [.agg t,.bool true]):=by intro z;unfold AS.fF;rw[w];unfold zd;simp only[Option.isSome_some,TT,T,y];rw[FD pre m af 0 fun x hx=>by have:=am x hx;omega];rw[d];rfl
 have vl:t.length=4:=by rw[d];rfl
 obtain⟨z0,av⟩:=acH ([V.i 0,V.i 0,V.u 0,V.u 0]);have bd:=aQ (σ:=σ) (z:=z0) (vs:=t) (n:=4) (by rw[d];simp) (by rw[d];rfl);have W:AR (σ.Ts 4 z0 t) A H B S:=Wd.Ts h (by rw[d];simp) (by rw[d];rfl);have L:=To.Ts σ 4 z0 t (by rw[d];rfl);have W1:Uo (σ.Ts 4 z0 t) A H B S (fun _:Unit=>True) (fun _=>σ.next) (fun _=>.row 4 (Tn t)):=Wd.box W L fun i hi e=>by have:=Wd.lt h hi;omega
 have y1:=L.cell (i:=1) Q;rw[show Tn t 1=.i m.Tm by rw[d];rfl]at y1;have zl:z0.length=4:=by rw[av];rfl
 obtain⟨v,s2,⟨A2,B2,R2,rfl,rfl⟩,aS⟩:=Uo.call (P:=fun _ A' B'=>A=A'∧B=B') W1 fun s R=>(Gj R hg hS (hm.le m G)).mono fun v s' R'=>⟨A,B,R',rfl,rfl⟩
 obtain⟨H2,aC⟩:=acH (cz H (eV S m.Tm));rw[<- aC]at R2⊢;have K:Vj s2 A H2 B { S with Tm:=S.Tm.take m.Tm } (AS.Up { S with Tm:=S.Tm.take m.Tm } (A .heap) B) σ.next 4 (Tn t):=by unfold Uo at R2;rw[AS.Bl]at R2;exact R2
 have y2:=Vj.bx K (k:=2) Q;have y3:=Vj.bx K (k:=3) Q;rw[show Tn t 2=.u m.Tz by rw[d];rfl]at y2;rw[show Tn t 3=.u m.TI by rw[d];rfl]at y3;obtain⟨s3,ba,R3,_⟩:=Vj.store K (by rfl) (k:=3) (v:=.u m.Tz) Q rfl;have aB:=Vj.bx R3 (k:=3) Q;rw[show Tn t 3=.u m.TI by rw[d];rfl]at aB;obtain⟨s4,bb,R4,_⟩:=Vj.store R3 (by simp[AS.Up]) (k:=4) (v:=.u m.TI) Q rfl;have R5:=Wd.left R4;have q:S.cE.length=S.ms.length:=by unfold AS.cE;simp
 have C:S.Wv=true:=by
  cases hh:S.Wv with
  |true=>rfl
  |false=>
   have:=hS.Ww hh;rw[this]at q;have:0<S.ms.length:=List.length_pos_of_mem G;rw[<- q]at this;exact absurd this Y
 have k9:=Vj.c R4 (k:=9) Q;have bk:s4.cell (B .TA) 9=some (.acL (B .cE) 0 S.ms.length 1):=by rw[k9];show some (S.gY B)=_;unfold AS.gY;rw[Ti C,q]
 simp only[go_sem,k8,yX,hl,aj,TH,TK,<- av,vl,zl,bd,y1];refine ab aS ?_;simp only[go_sem,y2,y3,az,TH,TK,ba,bb,aB,bk];have Z:∀i j (hi:i<S.ms.length) (g:j<S.ms.length),i<j->(S.ms[i]).n<(S.ms[j]).n:=fun i j hi g aJ=>(aaE.1 hm.Yz i j hi g aJ).1
 have X:pre.length<S.ms.length:=by rw[y];simp
 have N:S.ms[pre.length]=m:=by
  have:S.ms[pre.length]?=some m:=by rw[y];simp
  rw[UQ X]at this;exact XP this
 have ao:∀k (hk:k<S.ms.length),S.cE.getD k 0=((S.ms[k]).n:Int):=by intro k hk;unfold AS.cE;rw[U7,X0,UQ hk];rfl
 have O:(AS.Up { S with Tm:=S.Tm.take m.Tm } (A .heap) B)=[.acK (A .heap) 0,.u S.TD,AS.dp { S with Tm:=S.Tm.take m.Tm } B,.u S.Tz,.u S.TI,.int .u32 S.XD,.int .i32 0,.int .u32 0,S.fF B,S.gY B,.i S.TW]:=rfl;have aP:S.fF B=.map (some (B .T1)):=by unfold AS.fF;rw[w];rfl
 have be:S.gY B=.acL (B .cE) 0 S.ms.length 1:=by unfold AS.gY;rw[Ti C,q]
 generalize E:(((AS.Up { S with Tm:=S.Tm.take m.Tm } (A .heap) B).set 3 (V.u m.Tz)).set 4 (V.u m.TI))=J at *;have l8:Tn J 8=.map (some (B .T1)):=by rw[<- E,O,aP];rfl
 have l9:Tn J 9=.acL (B .cE) 0 S.ms.length 1:=by rw[<- E,O,be];rfl
 have ac:J.length=11:=by rw[<- E,O];rfl
 refine bW (fun(k:Nat) (fr:AM.Fr) (s:St)=>fr.defers=[]∧fr.tmps.get 0=some (.acK (B .TA) 0)∧fr.tmps.get 1=some (.i m.n)∧fr.tmps.get 7=some (.i k)∧pre.length≤k∧k≤S.ms.length∧
  Wd s (Sum.elim H2.has S.has) (Sum.elim A B) (cu (Sum.elim (fW H2 A) (AS.Dh { S with Tm:=S.Tm.take m.Tm } J)) (Sum.inr AI.T1) (.map ((S.ms.take k).map Mk.e)))) ?_ S.ms.length ?_
 .rintro k ⟨tm,ds⟩ s ⟨hd,t0,t1,t7,bu,bv,R⟩;simp only at hd t0 t1 t7;subst hd;have q8:=Wd.cell R (i:=(Sum.inr AI.TA:Tu ⊕ AI)) trivial (n:=11) (f:=Tn J) (by rw[aA (by intro h;cases h)];rfl) (k:=8) Q;have q9:=Wd.cell R (i:=(Sum.inr AI.TA:Tu ⊕ AI)) trivial (n:=11) (f:=Tn J) (by rw[aA (by intro h;cases h)];rfl) (k:=9) Q;have ax:s.cell (B .TA) 8=some (.map (some (B .T1))):=by rw[<- l8];exact q8
  have ad:s.cell (B .TA) 9=some (.acL (B .cE) 0 S.ms.length 1):=by rw[<- l9];exact q9
  have ay:∀j (g:j<S.ms.length),s.cell (B .cE) j=some (.i (S.ms[j]).n):=by intro j g;have:=Wd.cell R (i:=(Sum.inr AI.cE:Tu ⊕ AI)) C (n:=S.cE.length) (f:=fun i=>.i (S.cE.getD i 0)) (by rw[aA (by intro h;cases h)];rfl) (k:=j) Q;simp only[ao j g]at this;exact this
  by_cases c:pre.length<k
  .obtain⟨k,rfl⟩:∃j,k=j+1:=⟨k-1,Q⟩
   have D:k<S.ms.length:=Q;have d1:(0:Int)<((k+1:Nat):Int):=Q;have e1:IntKind.i64.wrap (((k+1:Nat):Int)-1)=(k:Int):=bV (a:=k+1) (b:=1) Q Q;have d2:(0:Int)≤(k:Int)∧(k:Int)<(S.ms.length:Int):=Q;have d3:(m.n:Int)≤((S.ms[k]).n:Int):=by
    rcases Vm pre.length k with c2|c2
    .have:=Z _ _ X D c2;rw[N]at this;omega
    have e:k=pre.length:=Q;subst e;rw[N];omega
   have U:=Wd.map R (i:=(Sum.inr AI.T1:Tu ⊕ AI)) p (es:=(S.ms.take (k+1)).map Mk.e) aF;have F:s.Tq.get (B .T1)=some (.map ((S.ms.take (k+1)).map Mk.e)):=U;have W:=Wd.mE R (i:=(Sum.inr AI.T1:Tu ⊕ AI)) p (es:=(S.ms.take (k+1)).map Mk.e) (es':=(S.ms.take k).map Mk.e) aF;have ah:Qk .int (.map (some (B .T1))) (.i (S.ms[k]).n) s=some (.tuple [], { s with Tq:=s.Tq.set (B .T1) (.map ((S.ms.take k).map Mk.e)) }):=by
    unfold Qk;simp only[F];have bi:S.ms.take (k+1)=S.ms.take k++S.ms[k] :: []:=by rw[List.take_add_one,UQ D];rfl
    rw[bi,FD (S.ms.take k) (S.ms[k]) [] 0 (by
     intro x hx;obtain⟨j,g,rfl⟩:=Zn hx;rw[Va]at g;rw[List.getElem_take];have:=Z j k Q D Q;omega)]
    have ap:(S.ms.take k).length=k:=by rw[Va];omega
    simp only[Vk,ap];congr 4;rw[WA];exact Uj AM.Obj.map (DK ((S.ms.take k).map Mk.e) (S.ms[k]).e k ((Wz _).trans ap))
   have qk:=ay k D;simp only[go_sem,t0,t1,t7,d1,e1,d2,Us,TZ,Um,ad,ax,qk,d3,Gz,ah,ge_iff_le];refine⟨k,Q,rfl,Q,Q,W.sub id (fun _ h=>h) (fun _ _ _ _ e=>e) (fun _ _=>rfl) ?_⟩;intro j g;left;by_cases M:j=Sum.inr AI.T1
   .subst M;rw[aF];exact aF.symm
   rw[aA M];refine WY ?_ (aA M).symm;exact(aA M).symm
  have ek:k=pre.length:=Q;subst ek;obtain⟨s1,aU,W,_⟩:=Wd.Mq R (i:=(Sum.inr AI.TA:Tu ⊕ AI)) trivial (n:=11) (l:=J) (by rw[aA (by intro h;cases h)];rfl) ac (k:=9) (v:=.acL (B .cE) 0 pre.length 1) Q rfl;have I:s.store (B .TA) 9 [.acL (B .cE) 0 pre.length 1]=some s1:=aU;have e2:=pt (esz:=1) (id:=B .cE) (off:=0) (len:=S.ms.length) (k:=.i64) (i:=(pre.length:Int)) Q Q;rw[TZ]at e2;have ag:AR s1 A H2 B (j9 S pre.length m):=by
   refine AH.ar ?_;have e:AS.Up (j9 S pre.length m) (A .heap) B=J.set 9 (.acL (B .cE) 0 pre.length 1):=by rw[<- E];have aM:min pre.length S.ms.length=pre.length:=Q;simp[AS.Up,j9,AS.dp,AS.fF,AS.gY,AS.T1,AS.cE,AS.XD,hi,C,aM]
   rw[e];refine W.sub id ?_ (fun _ _ _ _ e=>e) (fun _ _=>rfl) ?_
   .rintro(j|j) g
    .exact g
    cases j with
    |T1=>exact p
    |_=>exact g
   rintro(j|j) g
   .left;refine WY ?_ (aA (by intro h;cases h)).symm;exact(aA (by intro h;cases h)).symm
   cases j with
   |TA=>left;exact aF.symm
   |Tm=>left;refine WY ?_ (aA (by intro h;cases h)).symm;exact(aA (by intro h;cases h)).symm
   |T1=>
    left;refine WY ?_ (aA (by intro h;cases h)).symm;refine WY ?_ aF.symm;show cA.map ((AS.T1 (j9 S pre.length m)).getD [])=_;unfold AS.T1 j9;simp[hi]
   |cE=>
    right;refine⟨S.cE.length,(fun i=>.i (S.cE.getD i 0)),(AS.cE (j9 S pre.length m)).length,(fun i=>.i ((AS.cE (j9 S pre.length m)).getD i 0)),?_,rfl,?_,?_⟩
    .refine WY (aA (by intro h;cases h)) ?_;exact aA (by intro h;cases h)
    .unfold AS.cE j9;simp;omega
    intro j g;have aL:j<pre.length:=by unfold AS.cE j9 at g;simp only[Wz,Va]at g;omega
    unfold AS.cE j9;simp[U7,YD,aL]
  rcases Wi pre.length with c0|c0
  .have d1:¬((0:Int)<(pre.length:Int)):=Q;simp only[go_sem,t0,t1,t7,d1,ad,e2,aD,TH,TK,I];exact ag
  obtain⟨k,hk⟩:∃j,pre.length=j+1:=⟨pre.length-1,Q⟩
  have d1:(0:Int)<(pre.length:Int):=Q;have e1:IntKind.i64.wrap ((pre.length:Int)-1)=(k:Int):=by rw[hk];exact bV (a:=k+1) (b:=1) Q Q
  have d2:(0:Int)≤(k:Int)∧(k:Int)<(S.ms.length:Int):=Q;have d3:¬(m.n:Int)≤((S.ms[k]'Q).n:Int):=by have:=Z k pre.length Q X Q;rw[N]at this;omega
  have qk:=ay k Q;simp only[go_sem,t0,t1,t7,d1,e1,d2,Us,TZ,Um,ad,ax,qk,d3,ge_iff_le,e2,aD,TH,TK,I];exact ag
 simp only[go_sem];refine⟨Q,R5.sub id (fun _ h=>h) (fun _ _ _ _ e=>e) (fun _ _=>rfl) ?_⟩;intro j g;left;by_cases M:j=Sum.inr AI.T1
 .subst M;rw[aF,ZI];show _=cA.map (S.T1.getD []);rw[w];rfl
 rw[aA M];rfl
def jz(H:aa)(x:Nat):List (Nat×Nat):=
 if(H.Tf x).kind=2 then [(H.Tk x,4096*2^(H.Tf x).Th.toNat)]
 else if(H.Tf x).kind=4 then((List.range (256/2^(H.Tf x).TQ.toNat)).filter fun q=>decide ((H.Tf x).Uc q=1)).map fun q=>(H.Tk x+q*(16*2^(H.Tf x).TQ.toNat),16*2^(H.Tf x).TQ.toNat)
 else []
def gi(H:aa)(n:Nat):List (Nat×Nat):=(List.range n).flatMap (jz H)
def bf(H:aa):List (Nat×Nat):=gi H H.np
def gu(H:aa)(n:Nat):gi H (n+1)=gi H n++jz H n:=by unfold gi;rw[List.range_succ,Yo];simp
def GO(H:aa)(x:Nat):(jz H x).length≤256:=by
 unfold jz;split
 .simp
 split
 .rw[Wz];refine V4 (abn _ _) ?_;rw[YE];exact aaK _ _
 simp
def nq(H:aa)(n:Nat):(gi H n).length≤256*n:=by
 induction n with
 |zero=>exact Tx _
 |succ n a=>rw[gu,UN];have:=GO H n;omega
def H5(l:List (Nat×Nat))(b:Nat×Nat){j:Nat}(c:j<(l++[b]).length*2):(if j<l.length*2 then fy l j else Tn [.u b.1,.u b.2] (j-l.length*2))=fy (l++[b]) j:=by
 rw[UN,YF]at c;by_cases a:j<l.length*2
 .rw[Ti a];unfold fy;simp[U7,Wh (Q:j/2<l.length)]
 rw[Tg a];unfold fy;simp only[U7,WM (Q:l.length≤j/2),(Q:j/2-l.length=0)];rcases(by omega:j=l.length*2∨j=l.length*2+1)with rfl|rfl
 .rw[Ti Q];simp[Tn]
 rw[Tg Q];simp[Tn]
def eO(l:List (Nat×Nat))(b:Nat):V:=if l=[]then .acJ else .acL b 0 l.length 2
abbrev LH(σ:St)(A:Tu->Nat)(H:aa)(l:List (Nat×Nat))(b:Nat):Prop:=HC σ A H (fun _:Unit=>l≠[]) (fun _=>b) (fun _=>.row (l.length*2) (fy l))
abbrev LW{κ:Type}(σ:St)(A:Tu->Nat)(H:aa)(l:List (Nat×Nat))(b:Nat)(hasK:κ->Prop)(BK:κ->Nat)(cK:κ->cA):Prop:=
 Wd σ (Sum.elim (Sum.elim H.has fun _:Unit=>l≠[]) hasK) (Sum.elim (Sum.elim A fun _=>b) BK) (Sum.elim (Sum.elim (fW H A) fun _=>.row (l.length*2) (fy l)) cK)
def LW.push{κ:Type}[DecidableEq κ]{hasK:κ->Prop}{BK:κ->Nat}{cK:κ->cA}{l:List (Nat×Nat)}{b:Nat}(h:LW σ A H l b hasK BK cK)(x:Nat×Nat)(g:l.length≤1000000000):
  ∃b' s,AM.dj (σ.ag [.u x.1,.u x.2]) 2 16 (eO l b) (.acL σ.next 0 1 2)=some (eO (l++[x]) b',s)∧LW s A H (l++[x]) b' hasK BK cK:=by
 obtain⟨b',s,ha,W⟩:=Wd.push h (i0:=Sum.inl (Sum.inr ())) (xl:=l.length) (esz:=2) (bytes:=16) (f:=fy l) (vs:=[.u x.1,.u x.2]) (sl:=eO l b) (by
   unfold eO;by_cases c:l=[]
   .rw[Ti c];exact .inr ⟨fun h=>h c,rfl,by rw[c];rfl⟩
   rw[Tg c];exact .inl ⟨c,rfl,rfl⟩) Q rfl (by unfold aq;omega) (by unfold aq;omega) rfl
 have a:l++[x]≠[]:=by simp
 refine⟨b',s,?_,W.sub id ?_ (fun _ _ _ _ e=>e) ?_ ?_⟩
 .rw[ha];unfold eO;rw[Tg a,UN];rfl
 .rintro((i|i)|i) hi
  .exact .inl hi
  .exact .inr rfl
  exact .inl hi
 .rintro((i|i)|i) hi
  .show _=cu _ _ _ _;rw[aA (by intro h;cases h)];rfl
  .exact aF.symm
  show _=cu _ _ _ _;rw[aA (by intro h;cases h)];rfl
 rintro((i|i)|i) hi
 .left;show _=cu _ _ _ _;rw[aA (by intro h;cases h)];rfl
 .right;refine⟨_,_,(l++[x]).length*2,fy (l++[x]),aF ..,rfl,(by rw[UN,YF];omega),?_⟩;intro j d;exact H5 l x d
 left;show _=cu _ _ _ _;rw[aA (by intro h;cases h)];rfl
def Af(h:aw σ A H)(hI:Tv H fl pl fc (fun _=>False)):
  au G0 [] 77 [.acK (A .heap) 0] σ fun r s=>∃b,r=eO (bf H) b∧LH s A H (bf H) b:=by
 refine ai g77 rfl ?_;have ok:=hI.ok;have h5:=h.cell (s:=.heap) trivial (i:=5) (Q:5<7);rw[show H.cell A .heap 5=.acK (A .Ud) 0 from rfl]at h5;obtain⟨v,s1,⟨hv,ao⟩,am⟩:=ju h;subst hv ao;simp only[go_sem,h5];refine ab am ?_;simp only[go_sem];have aB:=ka ok;have ar:=mS ok;refine bW (fun(n:Nat) (fr:AM.Fr) (s:St)=>fr.defers=[]∧fr.tmps.get 0=some (.acK (A .heap) 0)∧fr.tmps.get 4=some (.acK (A .map) 0)∧∃(i b:Nat),fr.tmps.get 5=some (.i i)∧fr.tmps.get 3=some (eO (gi H i) b)∧i+n=H.np∧LH s A H (gi H i) b) ?_ H.np ?_
 .rintro n ⟨tm,ds⟩ s ⟨hd,l,o,i,b,p,d,hi,R⟩;simp only at hd l o p d;subst hd;have ay:=nq H i;obtain⟨v,s2,⟨hv,ap⟩,B⟩:=oK (HC.Wx R) ok;subst hv ap;by_cases c:i<H.np
  .have T:(i:Int)<(H.np:Int):=Q;obtain⟨v,F,⟨hv,g3,R3⟩,C⟩:=Wd.dF R (nD (HC.Wx R) ok c);subst hv;obtain⟨z,hz⟩:=acH ([V.i 0,V.i 0,V.i 0,V.i 0,V.i 0,V.i 0,V.i 0,V.u 0,V.u 0,V.u 0,V.u 0]);obtain⟨x,hx⟩:=acH (H.Tf i);rw[<- hx]at C;have zl:z.length=11:=by rw[hz];rfl
   have xf:x.cells.all V.Tr=true:=rfl;have P:=aQ (σ:=F) (z:=z) (vs:=x.cells) (n:=11) (Vt (bB.aL x)) xf;have R4:LH (F.Ts 11 z x.cells) A H (gi H i) b:=Wd.Ts R3 (by rw[bB.aL];omega) xf;have L4:=To.Ts F 11 z x.cells (bB.aL x);have R5:LW (F.Ts 11 z x.cells) A H (gi H i) b (fun _:Unit=>True) (fun _=>F.next) (fun _=>.row 11 (Tn x.cells)):=Wd.box R4 L4 fun j y e=>by have:=Wd.lt R3 y;omega
   have h2:=(HC.Wx R4).cell (s:=.heap) trivial (i:=2) (Q:2<7);rw[show H.cell A .heap 2=.u H.Tj from rfl]at h2;have k0:=L4.cell (i:=0) Q;have k1:=L4.cell (i:=1) Q;have k2:=L4.cell (i:=2) Q;rw[show Tn x.cells 0=.i x.kind from rfl]at k0;rw[show Tn x.cells 1=.i x.Th from rfl]at k1;rw[show Tn x.cells 2=.i x.TQ from rfl]at k2;have e1:IntKind.u64.wrap (i:Int)=(i:Int):=bm Q;have e2:IntKind.u64.wrap ((i:Int)*4096)=((i*4096:Nat):Int):=gV (b:=4096) Q;have e3:IntKind.u64.wrap ((H.Tj:Int)+((i*4096:Nat):Int))=(H.Tk i:Int):=by rw[bD Q];unfold aa.Tk;rw[UF]
   have e9:IntKind.i64.wrap ((i:Int)+1)=((i+1:Nat):Int):=bj (a:=i) (b:=1) Q;have X:H.Tk i≤9223372036854775808:=by unfold aa.Tk;omega
   generalize aP:F.Ts 11 z x.cells=s4 at *;obtain⟨a,ha⟩:=acH (H.Tk i);rw[<- ha]at e3 X;by_cases q2:x.kind=2
   .have J:jz H i=[(a,4096*2^x.Th.toNat)]:=by unfold jz;rw[<- hx,Ti q2,ha]
    obtain⟨k,av,g⟩:=hI.pg i c (fun h=>h);have M:x.Th=(k:Int):=by rw[hx];exact g.Th
    have al:k≤8:=V4 g.le ok.VI;have aJ:2^k≤256:=by have:=Vb (n:=2) Q al;omega
    rw[M,TZ]at J;rw[M]at k1;have dk:(0:Int)≤(k:Int):=Q;have e4:jc .u64 4096 (k:Int)=((4096*2^k:Nat):Int):=gP (a:=4096) Q Q;obtain⟨b',s5,N,R6⟩:=LW.push R5 (a,4096*2^k) Q;have f1:bZ [V.u 0,V.u 0] [(0,1,V.u a),(1,1,V.u (4096*2^k:Nat))]=some [V.u a,.u (4096*2^k:Nat)]:=rfl;have W:bZ (bL [V.u 0,.u 0] 1) [(0,2,V.agg [V.u a,.u (4096*2^k:Nat)])]=some [V.u a,.u (4096*2^k:Nat)]:=rfl;simp only[go_sem,l,o,p,d];refine ab B ?_;simp only[go_sem,l,o,p,d,T];refine ab C ?_;simp only[go_sem,l,o,p,d,<- hz,zl,aj,bB.aL,P,h2,e1,e2,e3,k0,q2,k1,aT,dk,e4,aG,f1,W,N,e9];exact⟨n-1,Q,i+1,b',rfl,by rw[gu,J],Q,by rw[gu,J];exact Wd.left R6⟩
   by_cases q4:x.kind=4
   .obtain⟨cl,sl⟩:=hI.sl i c (fun h=>h) (by rw[<- hx];exact q4);have af:=sl.c8;have L:x.TQ=(cl:Int):=by rw[hx];exact sl.TQ
    rw[L]at k2;have hw:=w8 af;obtain⟨w,E⟩:=acH (16*2^cl);obtain⟨t,O⟩:=acH (256/2^cl);obtain⟨w1,w2,w3,w4,w5⟩:=hw;rw[<- E, <- O]at w1;rw[<- E]at w2 w3;rw[<- O]at w4 w5;have J:jz H i=((List.range t).filter fun q=>decide (x.Uc q=1)).map fun q=>(a+q*w,w):=by unfold jz;rw[<- hx,Tg q2,Ti q4,L,TZ, <- O, <- E, <- ha]
    have dk:(0:Int)≤(cl:Int):=Q;have aC:2^cl≤128:=Q;have e4:jc .u64 16 (cl:Int)=(w:Int):=by rw[E];exact gP (a:=16) Q Q
    have e5:IntKind.u64.wrap ((4096:Int).tdiv (w:Int))=(t:Int):=by
     have ag:4096/w=t:=by rw[<- w1];exact Yd _ Q
     have:=iw (a:=4096) (b:=w) Q;rw[ag]at this;exact this
    have cw:(w:Int)≠0:=Q;have ad:¬((4:Int)=2):=by decide
    simp only[go_sem,l,o,p,d];refine ab B ?_;simp only[go_sem,l,o,p,d,T];refine ab C ?_;simp only[go_sem,l,o,p,d,<- hz,zl,aj,bB.aL,P,h2,e1,e2,e3,k0,q4,ad,k2,aT,dk,e4,bc,cw,TV,Ug,e5];have ah:∀q,(((List.range q).filter fun q=>decide (x.Uc q=1)).map fun q=>(a+q*w,w)).length≤q:=fun q=>by rw[Wz];exact V4 (abn _ _) (Vt YE)
    refine bW (fun(m:Nat) (fr:AM.Fr) (s:St)=>fr.defers=[]∧fr.tmps.get 0=some (.acK (A .heap) 0)∧fr.tmps.get 4=some (.acK (A .map) 0)∧fr.tmps.get 5=some (.i i)∧fr.tmps.get 6=some (.acK F.next 0)∧fr.tmps.get 8=some (.u a)∧fr.tmps.get 9=some (.u w)∧fr.tmps.get 57=some (.u t)∧
     ∃q b,fr.tmps.get 58=some (.u (q:Nat))∧q+m=t∧fr.tmps.get 3=some (eO (gi H i++((List.range q).filter fun q=>decide (x.Uc q=1)).map fun q=>(a+q*w,w)) b)∧
     LW s A H (gi H i++((List.range q).filter fun q=>decide (x.Uc q=1)).map fun q=>(a+q*w,w)) b (fun _:Unit=>True) (fun _=>F.next) (fun _=>.row 11 (Tn x.cells))) ?_ t ?_
    .rintro m ⟨tm,ds⟩ s ⟨hd,l,o,p,t6,t8,t9,G,q,b,I,hq,d,R⟩;simp only at hd l o p t6 t8 t9 G I d;subst hd;have ax:=ah q;by_cases cq:q<t
     .have dq:(q:Int)<(t:Int):=Q;have c5:(64:Int)≠0:=by decide
      have W:IntKind.u64.wrap ((q:Int).tdiv 64)=((q/64:Nat):Int):=iw (b:=64) Q;have f3:((q:Int).tmod 64)=((q%64:Nat):Int):=aW q 64;have y:q/64<4:=Q;have Z:q%64<64:=Wt _ Q;obtain⟨j,Y⟩:=acH (q/64);obtain⟨S,ac⟩:∃m,m=q%64:=⟨_,rfl⟩;rw[<- Y]at y W;rw[<- ac]at Z f3;have c6:(0:Int)≤(j:Int)∧(j:Int)<((4:Nat):Int):=Q;have h1:s.cell F.next (7+j)=some (.u (x.bw j)):=by have:=Wd.cell R (i:=.inr ()) trivial (n:=11) (f:=Tn x.cells) rfl (k:=7+j) Q;refine WY this ?_;rw[<- rQ x y];rcases(by omega:j=0∨j=1∨j=2∨j=3)with h|h|h|h <;> rw[h] <;> rfl
      have c7:(0:Int)≤(S:Int):=Q;have f4:nE .u64 ((x.bw j:Nat):Int) (S:Int)=((x.bw j/2^S:Nat):Int):=gM rfl Q;have f5:=rq (w:=x.bw j) (n:=S) (by rw[hx];exact sl.Uf j);have K:x.Uc q=x.bw j/2^S%2:=by simp[bB.Uc, <- Y, <- ac]
      have U:IntKind.u64.wrap ((q:Int)+1)=((q+1:Nat):Int):=bD (a:=q) (b:=1) Q;have D:((List.range (q+1)).filter fun q=>decide (x.Uc q=1))=((List.range q).filter fun q=>decide (x.Uc q=1))++(if x.Uc q=1 then [q]else []):=by rw[List.range_succ,abh];congr 1;by_cases cb:x.Uc q=1 <;> simp[cb]
      by_cases cb:x.Uc q=1
      .have f6:((x.bw j/2^S%2:Nat):Int)=1:=by rw[<- K,cb];rfl
       have aM:q*w≤4096:=by have:q*w≤t*w:=UG _ Q;rw[UF t,w1]at this;exact this
       have g2:IntKind.u64.wrap ((q:Int)*(w:Int))=((q*w:Nat):Int):=gV Q;have g3:IntKind.u64.wrap ((a:Int)+((q*w:Nat):Int))=((a+q*w:Nat):Int):=bD Q;obtain⟨b',s5,N,R6⟩:=LW.push R (a+q*w,w) (by rw[UN];omega);have g1:bZ [V.u 0,V.u 0] [(0,1,V.u (a+q*w:Nat)),(1,1,V.u w)]=some [V.u (a+q*w:Nat),.u w]:=rfl;have g4:bZ (bL [V.u 0,.u 0] 1) [(0,2,V.agg [V.u (a+q*w:Nat),.u w])]=some [V.u (a+q*w:Nat),.u w]:=rfl;simp only[go_sem,l,o,p,d,t6,t8,t9,G,I,dq,bc,aZ,TV,c5,Ug,W,f3,c6,Us,TZ,Um,h1,bA,c7,f4,f5,f6,g2,g3,aG,g1,g4,N,U];refine⟨m-1,Q,q+1,b',rfl,Q,?_,?_⟩
       .rw[D,Ti cb,WA, <- Xj];rfl
       rw[D,Ti cb,WA, <- Xj];exact R6
      have f6:¬((x.bw j/2^S%2:Nat):Int)=1:=by rw[<- K];omega
      simp only[go_sem,l,o,p,d,t6,t8,t9,G,I,dq,bc,aZ,TV,c5,Ug,W,f3,c6,Us,TZ,Um,h1,bA,c7,f4,f5,f6,U];refine⟨m-1,Q,q+1,b,rfl,Q,?_,?_⟩
      .rw[D,Tg cb,Wr]
      rw[D,Tg cb,Wr];exact R
     have dq:¬(q:Int)<(t:Int):=Q;have eq:q=t:=Q;subst eq;rw[<- J]at d R;simp only[go_sem,l,o,p,d,t6,t8,t9,G,I,dq,e9];exact⟨n-1,Q,i+1,b,rfl,by rw[gu],Q,by rw[gu];exact Wd.left R⟩
    simp only[go_sem];have e0:gi H i++((List.range 0).filter fun q=>decide (x.Uc q=1)).map (fun q=>(a+q*w,w))=gi H i:=by simp
    exact⟨l,o,p,0,b,rfl,Q,by rw[e0];exact d,by rw[e0];exact R5⟩
   have J:jz H i=[]:=by unfold jz;rw[<- hx,Tg q2,Tg q4]
   simp only[go_sem,l,o,p,d];refine ab B ?_;simp only[go_sem,l,o,p,d,T];refine ab C ?_;simp only[go_sem,l,o,p,d,<- hz,zl,aj,bB.aL,P,h2,e1,e2,e3,k0,q2,q4,e9];exact⟨n-1,Q,i+1,b,rfl,by rw[gu,J,Wr],Q,by rw[gu,J,Wr];exact R4⟩
  have T:¬(i:Int)<(H.np:Int):=Q;have ei:i=H.np:=Q;subst ei;simp only[go_sem,l,o,p,d];refine ab B ?_;simp only[go_sem,l,o,p,d,T];exact⟨b,rfl,R⟩
 simp only[go_sem];refine⟨0,0,rfl,rfl,Q,?_⟩;refine Wd.sub (HC.of (κ:=Unit) h (fun _=>0) (fun _=>.map [])) id ?_ (fun _ _ _ _ e=>e) ?_ ?_
 .rintro(j|j) y
  .exact y
  exact(y rfl).elim
 .rintro(j|j) y
  .rfl
  exact(y rfl).elim
 rintro(j|j) y
 .exact .inl rfl
 exact(y rfl).elim
def gJ(m:Tv H fl pl fc (fun _=>False)){x:Nat}(hx:x<H.np){a s:Nat}:(a,s)∈jz H x↔cW H x a s:=by
 obtain⟨k,o,g⟩:=m.pg x hx (fun h=>h);have f:=g.Th;unfold jz cW;by_cases j:(H.Tf x).kind=2
 .rw[Ti j,VP,f,TZ];constructor
  .intro h;cases h;exact .inl ⟨j,k,rfl,rfl,rfl⟩
  rintro(⟨_,r,e,rfl,rfl⟩|⟨d,_⟩)
  .have:r=k:=Q;rw[this]
  omega
 rw[Tg j];by_cases d:(H.Tf x).kind=4
 .obtain⟨c,sl⟩:=m.sl x hx (fun h=>h) d;rw[Ti d,sl.TQ,TZ];constructor
  .intro h;obtain⟨q,i,e⟩:=V3.1 h;rw[aaC,Ws]at i;cases e;exact .inr ⟨d,c,q,rfl,i.1,abP i.2,rfl,rfl⟩
  rintro(⟨b,_⟩|⟨_,n,q,e,i,p,rfl,rfl⟩)
  .exact(j b).elim
  have:n=c:=Q;subst this;exact V3.2 ⟨q,by rw[aaC,Ws];exact⟨i,UR p⟩,rfl⟩
 rw[Tg d];constructor
 .intro h;cases h
 rintro(⟨b,_⟩|⟨l,_⟩)
 .exact(j b).elim
 exact(d l).elim
def oc{x a s:Nat}(h:(a,s)∈jz H x)(d:Tv H fl pl fc (fun _=>False))(hx:x<H.np):H.Tk x≤a∧a<H.Tk x+4096:=by
 rcases(gJ d hx).1 h with⟨_,k,_,rfl,_⟩|⟨f,c,q,g,j,_,rfl,_⟩
 .omega
 obtain⟨b,sl⟩:=d.sl x hx (fun h=>h) f;have e:b=c:=by have:=sl.TQ;omega
 subst e;have w:=(w8 sl.c8).1;have i:=aK b;have:(q+1)*(16*2^b)≤(256/2^b)*(16*2^b):=UG _ Q;rw[UW,WH,UF (256/2^b),w]at this;generalize q*(16*2^b)=u at *;generalize 2^b=z at *;omega
def jD(d:Tv H fl pl fc (fun _=>False)):(bf H).Pairwise fun a b=>a.1<b.1:=by
 unfold bf;have:∀n,n≤H.np->(gi H n).Pairwise fun a b=>a.1<b.1:=by
  intro n;induction n with
  |zero=>intro _;exact List.Pairwise.nil
  |succ n h=>
   intro hn;rw[gu,Xt];refine⟨h Q,?_,?_⟩
   .unfold jz;split
    .exact Z7 ..
    split
    .rw[Z6];refine List.Pairwise.imp ?_ (List.Pairwise.filter _ (List.pairwise_lt_range (n:=256/2^(H.Tf n).TQ.toNat)));intro a b c;have i:=aK (H.Tf n).TQ.toNat;have:a*(16*2^(H.Tf n).TQ.toNat)<b*(16*2^(H.Tf n).TQ.toNat):=aaP c Q;show H.Tk n+a*(16*2^(H.Tf n).TQ.toNat)<H.Tk n+b*(16*2^(H.Tf n).TQ.toNat);omega
    exact List.Pairwise.nil
   rintro⟨a,s⟩ ha ⟨b,t⟩ g;unfold gi at ha;obtain⟨x,hx,ha⟩:=abo.1 ha;rw[Ws]at hx;have e:=oc ha d Q;have f:=oc g d Q;unfold aa.Tk at e f;show a<b;omega
 exact this _ (Tx _)
end
section
variable {σ σ':St} {A:Tu -> Nat} {H H':aa} {fl pl fc:Nat -> List Nat}
section
variable {κ:Type} {hasK:κ -> Prop} {BK:κ -> Nat} {cK:κ -> cA} {l:List (Nat × Nat)} {b:Nat}
def LW.call{g:FuncId}{xs:List V}{P:V->Prop}(h:LW σ A H l b hasK BK cK)(c:∀σ,aw σ A H->au G0 [] g xs σ fun v σ'=>aw σ' A H'∧P v):
  au G0 [] g xs σ fun v σ'=>LW σ' A H' l b hasK BK cK∧P v:=by
 have d:Wd σ (Sum.elim H.has (Sum.elim (fun _:Unit=>l≠[]) hasK)) (Sum.elim A (Sum.elim (fun _=>b) BK)) (Sum.elim (fW H A) (Sum.elim (fun _=>.row (l.length*2) (fy l)) cK)):=by
  refine Wd.sub h (fun k=>match k with| .inl s=>.inl (.inl s)| .inr (.inl u)=>.inl (.inr u)| .inr (.inr k)=>.inr k) ?_ ?_ ?_ ?_
  .rintro(k|k|k) a <;> exact a
  .rintro(k|k|k) (j|j|j) a m e <;> simp_all
  .rintro(k|k|k) a <;> rfl
  rintro(k|k|k) a <;> exact .inl rfl
 refine(HC.call (Γ:=G0) (Γ':=G0) (M:=[]) (H':=H') (P:=fun v f=>A=f∧P v) (fun _ _ h=>h) (fun _ h=>nomatch h) d fun s hs=>(c s hs).mono fun v o ⟨d,i⟩=>⟨A,d,rfl,i⟩).mono ?_;rintro v s ⟨f,W,rfl,n⟩;refine⟨Wd.sub W (fun k=>match k with| .inl (.inl s)=>.inl s| .inl (.inr u)=>.inr (.inl u)| .inr k=>.inr (.inr k)) ?_ ?_ ?_ ?_,n⟩
 .rintro((k|k)|k) a <;> exact a
 .rintro((k|k)|k) ((j|j)|j) a m e <;> simp_all
 .rintro((k|k)|k) a <;> rfl
 rintro((k|k)|k) a <;> exact .inl rfl
def LW.Ty{g:FuncId}{xs:List V}(h:HC σ A H hasK BK cK)(c:∀σ,aw σ A H->au G0 [] g xs σ fun r s=>∃b,r=eO (bf H) b∧LH s A H (bf H) b):
  au G0 [] g xs σ fun r s=>∃b,r=eO (bf H) b∧LW s A H (bf H) b hasK BK cK:=by
 have l:Wd σ (Sum.elim (Sum.elim H.has fun _:Unit=>False) hasK) (Sum.elim (Sum.elim A fun _=>0) BK) (Sum.elim (Sum.elim (fW H A) fun _=>.map []) cK):=by
  refine Wd.sub h (fun k=>match k with| .inl (.inl s)=>.inl s| .inl (.inr u)=>.inl .heap| .inr k=>.inr k) ?_ ?_ ?_ ?_
  .rintro((k|k)|k) hk
   .exact hk
   .exact hk.elim
   exact hk
  .rintro((k|k)|k) ((j|j)|j) hk hj e <;> simp_all
  .rintro((k|k)|k) hk
   .rfl
   .exact hk.elim
   rfl
  rintro((k|k)|k) hk
  .exact .inl rfl
  .exact hk.elim
  exact .inl rfl
 refine(Wd.call (Γ:=G0) (Γ':=G0) (M:=[]) (P:=fun v a f i=>∃b,v=eO (bf H) b∧a=(Sum.elim H.has fun _:Unit=>bf H≠[])∧f=(Sum.elim A fun _=>b)∧i=(Sum.elim (fW H A) fun _=>.row ((bf H).length*2) (fy (bf H)))) (fun _ _ h=>h) (fun _ h=>nomatch h) l fun s w=>(c s (jl w.left)).mono ?_).mono ?_
 .rintro v m ⟨b,d,W⟩;exact⟨_,_,_,W,b,d,rfl,rfl,rfl⟩
 rintro v m ⟨a,f,i,w,b,d,rfl,rfl,rfl⟩;exact⟨b,d,w⟩
end
def gk(H:aa)(n:Nat):Nat:=((List.range n).filter fun x=>decide ((H.Tf x).kind=0∨(H.Tf x).kind=1)).length
def Cw(H:aa)(n:Nat):gk H (n+1)=gk H n+if(H.Tf n).kind=0∨(H.Tf n).kind=1 then 1 else 0:=by unfold gk;rw[List.range_succ,abh,UN];by_cases c:(H.Tf n).kind=0∨(H.Tf n).kind=1 <;> simp[c]
def Hj(H:aa)(n:Nat):gk H n≤n:=by unfold gk;exact V4 (abn _ _) (Vt YE)
def ns(H:aa):V:=.agg [.u (H.Tp*H.Tl:Nat),.u (dC (bf H)%18446744073709551616:Nat),.i (bf H).length,.i (gk H H.np)]
def SC{n:Nat}{z:List V}{d:T4}{s:St}(a:jh z z=true)(hn:z.length=n):eN σ.next z 2 0 [(d,σ.new (.acM n z .nil)),(d,σ.new (.acM n z .nil)),(d,σ.new (.acM n z .nil)),(d,s)]=true:=by
 have hg:(σ.new (.acM n z .nil)).Tq.get σ.next=some (.acM n z .nil):=by simp only[St.new,T.aJ,TT]
 simp only[eN,hg,a,hn,aaV,WL];rfl
def HC.box{κ:Type}[DecidableEq κ]{hasK:κ->Prop}{BK:κ->Nat}{cK:κ->cA}{b n:Nat}{f:Nat->V}(h:HC σ A H hasK BK cK)(L:To σ b n f)(c:∀i,(Sum.elim H.has hasK) i->(Sum.elim A BK) i≠b):
  HC σ A H (Sum.elim hasK fun _:Unit=>True) (Sum.elim BK fun _=>b) (Sum.elim cK fun _=>.row n f):=by
 refine Wd.sub (Wd.box h L c) (fun k=>match k with| .inl s=>.inl (.inl s)| .inr (.inl k)=>.inl (.inr k)| .inr (.inr u)=>.inr u) ?_ ?_ ?_ ?_
 .rintro(k|k|k) a <;> exact a
 .rintro(k|k|k) (j|j|j) a d e <;> simp_all
 .rintro(k|k|k) a <;> rfl
 rintro(k|k|k) a <;> exact .inl rfl
abbrev SW(σ:St)(A:Tu->Nat)(H:aa)(l:List (Nat×Nat))(bl r0 bs:Nat)(zf:Nat->V)(lv:List V):Prop:=
 LW σ A H l bl (Sum.elim (fun _:Unit=>True) fun _:Unit=>True) (Sum.elim (fun _=>r0) fun _=>bs) (Sum.elim (fun _=>.row 4 zf) fun _=>.row 4 (Tn lv))
section
variable {l:List (Nat × Nat)} {bl r0 bs:Nat} {zf:Nat -> V} {lv:List V}
def SW.c(h:SW σ A H l bl r0 bs zf lv){k:Nat}(a:k<4):σ.cell bs k=some (Tn lv k):=Wd.cell h (i:=.inr (.inr ())) trivial rfl a
def SW.Wx(h:SW σ A H l bl r0 bs zf lv):aw σ A H:=jl h.left.left
def SW.store(h:SW σ A H l bl r0 bs zf lv)(c:lv.length=4){k:Nat}{v:V}(b:k<4)(a:v.Tr=true):∃s,σ.store bs k [v]=some s∧SW s A H l bl r0 bs zf (lv.set k v):=by
 obtain⟨s,e,W,hn⟩:=Wd.Mq h (i:=Sum.inr (Sum.inr ())) trivial (n:=4) (l:=lv) rfl c b a;refine⟨s,e,W.sub id (fun _ h=>h) (fun _ _ _ _ e=>e) (fun _ _=>rfl) ?_⟩;rintro((i|i)|(i|i)) hi
 .left;show _=cu _ _ _ _;rw[aA (by intro h;cases h)];rfl
 .left;show _=cu _ _ _ _;rw[aA (by intro h;cases h)];rfl
 .left;show _=cu _ _ _ _;rw[aA (by intro h;cases h)];rfl
 left;exact aF.symm
end
def rA(h:aw σ A H)(hg:T3 H):
  au G0 [] 30 [.acK (A .heap) 0] σ fun r s=>r=ns H∧aw s A H:=by
 refine ai g30 rfl ?_;obtain⟨fl,pl,fc,hI⟩:=hg.UB;have ok:=hI.ok;obtain⟨z,q⟩:=acH ([V.u 0,V.u 0,V.i 0,V.i 0]);have zl:z.length=4:=by rw[q];rfl
 have zz:jh z z=true:=by rw[q];rfl
 have L0:=To.fx σ z 4 (.inl (by rw[q];simp));have W0:HC (σ.new (.acM 4 z .nil)) A H (fun _:Unit=>True) (fun _=>σ.next) (fun _=>.row 4 fun i=>z.getD (i%z.length) .undef):=Wd.box (lu (h.new _ rfl)) L0 fun i hi e=>by have:=(h.row i hi);have:=Wd.lt (lu h) hi;omega
 obtain⟨v,W,⟨A1,W1,aP,o⟩,aS⟩:=HC.call (Γ:=G0) (Γ':=G0) (M:=[]) (H':=H.aC 1) (P:=fun v A'=>A=A'∧v=.tuple []) (fun _ _ h=>h) (fun _ h=>nomatch h) W0 fun s hs=>(kL hs hg.lock).mono fun v s' ⟨h1,h2⟩=>⟨A,h1,rfl,h2⟩
 subst aP o;obtain⟨G,J⟩:=acH (H.aC 1);have ac:=hI.aC 1;have U:=ac.ok;rw[<- J]at W1 ac U;have I:HC (W.new (.acM 4 z .nil)) A G (fun _:Unit=>True) (fun _=>σ.next) (fun _=>.row 4 fun i=>z.getD (i%z.length) .undef):=Wd.new W1 _ rfl;obtain⟨v,s2,⟨o,ag⟩,aU⟩:=gG (HC.Wx I);subst o ag;obtain⟨v,s2,⟨o,ag⟩,O⟩:=tC (HC.Wx I) U;subst o ag;have q5:=(HC.Wx I).cell (s:=.heap) trivial (i:=5) (Q:5<7);rw[show G.cell A .heap 5=.acK (A .Ud) 0 from rfl]at q5;have q2:=(HC.Wx I).cell (s:=.heap) trivial (i:=2) (Q:2<7);rw[show G.cell A .heap 2=.u H.Tj by rw[J];rfl]at q2;have bx:=mS ok;have bY:=tn H;have ap:G.Ut=H.Tj+H.Tp*H.Tl:=by rw[J];rfl
 have e1:IntKind.u64.wrap ((G.Ut:Int)-(H.Tj:Int))=((H.Tp*H.Tl:Nat):Int):=by rw[ap,bK Q Q];congr 1;omega
 obtain⟨vs,l⟩:=acH ([V.u (H.Tp*H.Tl:Nat),V.u 0,V.i 0,V.i 0]);have vl:vs.length=4:=by rw[l];rfl
 have f1:bZ z [(0,1,V.u (H.Tp*H.Tl:Nat))]=some vs:=by rw[q,l];rfl
 have m:=aQ (σ:=W) (z:=z) (vs:=vs) (n:=4) (by rw[l];simp) (by rw[l];rfl);have W2:HC (W.Ts 4 z vs) A G (fun _:Unit=>True) (fun _=>σ.next) (fun _=>.row 4 fun i=>z.getD (i%z.length) .undef):=Wd.Ts W1 (by rw[l];simp) (by rw[l];rfl);have L2:=To.Ts W 4 z vs (by rw[l];rfl);have ch:=SC (σ:=W) (n:=4) (z:=z) (d:=[(69,[V.acK (A .heap) 0])]) (s:=W.Ts 4 z vs) zz zl;have p5:=(HC.Wx W2).cell (s:=.heap) trivial (i:=5) (Q:5<7);rw[show G.cell A .heap 5=.acK (A .Ud) 0 from rfl]at p5;have p2:=(HC.Wx W2).cell (s:=.heap) trivial (i:=2) (Q:2<7);rw[show G.cell A .heap 2=.u H.Tj by rw[J];rfl]at p2;simp only[go_sem,<- q,zl];refine ab aS ?_;simp only[go_sem,<- q,zl,q5,q2];refine ab aU ?_;simp only[go_sem,<- q,zl,q5,q2];refine ab O ?_;simp only[go_sem,<- q,zl,q5,q2,e1,aG,f1,aj,vl,m,ch,p5,p2];have W3:HC (W.Ts 4 z vs) A G (Sum.elim (fun _:Unit=>True) fun _:Unit=>True) (Sum.elim (fun _=>σ.next) fun _=>W.next) (Sum.elim (fun _=>.row 4 fun i=>z.getD (i%z.length) .undef) fun _=>.row 4 (Tn vs)):=HC.box W2 L2 fun i hi e=>by have:=Wd.lt W1 hi;omega
 obtain⟨v,s4,⟨bl,o,W4⟩,ba⟩:=LW.Ty W3 fun s hs=>Af hs ac
 subst o;refine ab ba ?_;obtain⟨zf,bk⟩:∃zf:Nat->V,zf=fun i=>z.getD (i%z.length) .undef:=⟨_,rfl⟩
 rw[<- bk]at W4;obtain⟨r0,av⟩:=acH (σ.next);obtain⟨bs,ao⟩:=acH (W.next);rw[<- av, <- ao]at W4;obtain⟨g,af⟩:=acH (bf H);have e2:bf G=g:=by rw[J,af];rfl
 rw[e2]at W4;rw[e2];have bT:=ka ok;have bN:g.length≤262144:=by rw[af];have:=nq H H.np;unfold bf;omega
 obtain⟨zc,al⟩:∃zc,eO g bl=.slice zc g.length (if g=[]then 0 else 2)∧(g≠[]->zc=some (bl,0)):=by
  unfold eO;by_cases c:g=[]
  .subst c;exact⟨none,rfl,fun h=>absurd rfl h⟩
  rw[Tg c,Tg c];exact⟨_,rfl,fun _=>rfl⟩
 obtain⟨al,aB⟩:=al;rw[al];simp only[go_sem,<- av,<- ao];refine bW (fun(n:Nat) (fr:AM.Fr) (s:St)=>fr.defers=[(69,[V.acK (A .heap) 0])]∧fr.tmps.get 0=some (.acK (A .heap) 0)∧fr.tmps.get 2=some (.acK r0 0)∧fr.tmps.get 3=some (.acK bs 0)∧fr.tmps.get 33=some (.slice zc g.length (if g=[]then 0 else 2))∧fr.tmps.get 34=some (.i g.length)∧
  ∃i:Nat,fr.tmps.get 35=some (.i i)∧i+n=g.length∧SW s A G g bl r0 bs zf [.u (H.Tp*H.Tl:Nat),.u (dC (g.take i)%18446744073709551616:Nat),.i i,.i 0]) ?_ g.length ?_
 .rintro n ⟨tm,ds⟩ s ⟨hd,C,w,D,F,X,i,Z,hi,R⟩;simp only at hd C w D F X Z;subst hd;by_cases c:i<g.length
  .have N:g≠[]:=by intro e;rw[e]at c;exact absurd c Y
   have aJ:=aB N;subst aJ;rw[Tg N]at F;have d1:(i:Int)<(g.length:Int):=Q;have d2:(0:Int)≤(i:Int)∧(i:Int)<(g.length:Int):=Q;have e9:IntKind.i64.wrap ((i:Int)+1)=((i+1:Nat):Int):=bj (a:=i) (b:=1) Q;have K:=Wd.load R (i:=.inl (.inr ())) N (n:=g.length*2) (f:=fy g) rfl (off:=i*2) (k:=2) Q;obtain⟨t,ht⟩:∃t,g.getD i (0,0)=t:=⟨_,rfl⟩;rw[uK ht]at K;have E:s.load bl (i*2) 2=some [V.u t.1,.u t.2]:=K;have m:=aQ (σ:=s) (z:=[.u 0,.u 0]) (vs:=[.u t.1,.u t.2]) (n:=2) Y rfl;have L:=To.Ts s 2 [.u 0,.u 0] [.u t.1,.u t.2] rfl;have R1:SW (s.Ts 2 [.u 0,.u 0] [.u t.1,.u t.2]) A G g bl r0 bs zf _:=Wd.Ts R Y rfl;have l1:=L.cell (i:=1) Q;rw[show Tn [V.u t.1,.u t.2] 1=.u t.2 from rfl]at l1;have x1:=R1.c (k:=1) Q;have bw:(s.Ts 2 [.u 0,.u 0] [.u t.1,.u t.2]).cell bs 1=some (.u (dC (g.take i)%18446744073709551616:Nat)):=x1;have eu:IntKind.u64.wrap (((dC (g.take i)%18446744073709551616:Nat):Int)+(t.2:Int))=((dC (g.take (i+1))%18446744073709551616:Nat):Int):=by rw[yP c,ht, <- abd];unfold IntKind.wrap;simp[IntKind.bits,IntKind.signed,Int.emod]
   obtain⟨s5,be,R5⟩:=SW.store R1 (by rfl) (k:=1) (v:=.u (dC (g.take (i+1))%18446744073709551616:Nat)) Q rfl;have x2:s5.cell bs 2=some (.i i):=R5.c (k:=2) Q;obtain⟨s6,S,R6⟩:=SW.store R5 (by rfl) (k:=2) (v:=.i (i+1:Nat)) Q rfl;simp only[go_sem,C,w,D,F,X,Z,d1,d2,Us,TZ,E,aj,az,TH,TK,m,l1,bw,eu,be,x2,S,e9];exact⟨n-1,Q,by rw[Tg N],i+1,rfl,Q,R6⟩
  have d1:¬(i:Int)<(g.length:Int):=Q;have ei:i=g.length:=Q;subst ei;rw[ZI]at R;have y5:=(SW.Wx R).cell (s:=.heap) trivial (i:=5) (Q:5<7);rw[show G.cell A .heap 5=.acK (A .Ud) 0 from rfl]at y5;obtain⟨v,s7,⟨o,ah⟩,bb⟩:=ju (SW.Wx R);subst o ah;obtain⟨v,s7,⟨o,ah⟩,bd⟩:=oK (SW.Wx R) U;subst o ah;simp only[go_sem,C,w,D,F,X,Z,d1,y5];refine ab bb ?_;simp only[go_sem,C,w,D,F,X,Z,d1,y5];refine ab bd ?_;simp only[go_sem];refine bW (fun(n:Nat) (fr:AM.Fr) (s:St)=>fr.defers=[(69,[V.acK (A .heap) 0])]∧fr.tmps.get 0=some (.acK (A .heap) 0)∧fr.tmps.get 2=some (.acK r0 0)∧fr.tmps.get 3=some (.acK bs 0)∧fr.tmps.get 6=some (.acK (A .map) 0)∧fr.tmps.get 58=some (.i G.np)∧
   ∃i:Nat,fr.tmps.get 59=some (.i i)∧i+n=G.np∧SW s A G g bl r0 bs zf [.u (H.Tp*H.Tl:Nat),.u (dC g%18446744073709551616:Nat),.i g.length,.i (gk G i)]) ?_ G.np ?_
  .rintro n ⟨tm,ds⟩ s ⟨hd,C,w,D,t6,y,i,B,hi,R⟩;simp only at hd C w D t6 y B;subst hd;have bS:G.np=H.np:=by rw[J];rfl
   by_cases c:i<G.np
   .have d1:(i:Int)<(G.np:Int):=Q;obtain⟨v,s3,⟨o,g3,R3⟩,O⟩:=Wd.dF R (nD (SW.Wx R) U c);subst o;obtain⟨z,q⟩:=acH ([V.i 0,V.i 0,V.i 0,V.i 0,V.i 0,V.i 0,V.i 0,V.u 0,V.u 0,V.u 0,V.u 0]);obtain⟨x,hx⟩:=acH (G.Tf i);rw[<- hx]at O;have zl:z.length=11:=by rw[q];rfl
    have xf:x.cells.all V.Tr=true:=rfl;have m:=aQ (σ:=s3) (z:=z) (vs:=x.cells) (n:=11) (Vt (bB.aL x)) xf;have R4:SW (s3.Ts 11 z x.cells) A G g bl r0 bs zf _:=Wd.Ts R3 (by rw[bB.aL];omega) xf;have L4:=To.Ts s3 11 z x.cells (bB.aL x);have k0:=L4.cell (i:=0) Q;rw[show Tn x.cells 0=.i x.kind from rfl]at k0;have x3:(s3.Ts 11 z x.cells).cell bs 3=some (.i (gk G i)):=R4.c (k:=3) Q;have e9:IntKind.i64.wrap ((i:Int)+1)=((i+1:Nat):Int):=bj (a:=i) (b:=1) Q;have bC:=Hj G i;have e8:IntKind.i64.wrap ((gk G i:Int)+1)=((gk G i+1:Nat):Int):=bj (a:=gk G i) (b:=1) Q;have T:=Cw G i;rw[<- hx]at T;obtain⟨s6,S,R6⟩:=SW.store R4 (by rfl) (k:=3) (v:=.i (gk G i+1:Nat)) Q rfl;simp only[go_sem,C,w,D,t6,y,B,d1];refine ab O ?_;by_cases q0:x.kind=0
    .have hs:gk G (i+1)=gk G i+1:=by rw[T,Ti (.inl q0)]
     simp only[go_sem,C,w,D,t6,y,B,<- q,zl,aj,az,TH,TK,bB.aL,m,k0,q0,x3,e8,S,e9];exact⟨n-1,Q,i+1,rfl,Q,by rw[hs];exact R6⟩
    by_cases q1:x.kind=1
    .have hs:gk G (i+1)=gk G i+1:=by rw[T,Ti (.inr q1)]
     have aM:¬((1:Int)=0):=by decide
     simp only[go_sem,C,w,D,t6,y,B,<- q,zl,aj,az,TH,TK,bB.aL,m,k0,q1,aM,x3,e8,S,e9];exact⟨n-1,Q,i+1,rfl,Q,by rw[hs];exact R6⟩
    have hs:gk G (i+1)=gk G i:=by rw[T,Tg (by rintro(h|h);exact q0 h;exact q1 h)];rfl
    simp only[go_sem,C,w,D,t6,y,B,<- q,zl,aj,az,TH,TK,bB.aL,m,k0,q0,q1,e9];exact⟨n-1,Q,i+1,rfl,Q,by rw[hs];exact R4⟩
   have d1:¬(i:Int)<(G.np:Int):=Q;have ei:i=G.np:=Q;subst ei;obtain⟨lv,p⟩:=acH ([V.u (H.Tp*H.Tl:Nat),.u (dC g%18446744073709551616:Nat),.i g.length,.i (gk G G.np)]);rw[<- p]at R;have bu:lv.length=4:=by rw[p];rfl
   have K:=Wd.load R (i:=.inr (.inr ())) trivial (n:=4) (f:=Tn lv) rfl (off:=0) (k:=4) Q;have E:s.load bs 0 4=some lv:=by refine WY K ?_;rw[p];rfl
   obtain⟨s8,bi,R8,_⟩:=Wd.store R (i:=.inr (.inl ())) trivial (n:=4) (f:=zf) rfl (off:=0) (vs:=lv) Q (by rw[p];rfl);have ay:s.store r0 0 lv=some s8:=bi;have R9:LW s8 A G g bl (fun _:Unit=>True) (fun _=>r0) (fun _=>.row 4 (Tn lv)):=by
    refine R8.sub (fun k=>match k with| .inl j=>.inl j| .inr u=>.inr (.inl u)) ?_ ?_ ?_ ?_
    .rintro(j|j) hj
     .exact hj
     trivial
    .rintro(j|j) (k|k) hj hk e
     .exact Uj Sum.inl (ZQ e)
     .cases e
     .cases e
     rfl
    .rintro(j|j) hj <;> rfl
    rintro((j|j)|j) hj
    .left;show _=cu _ _ _ _;rw[aA (by intro h;cases h)];rfl
    .left;show _=cu _ _ _ _;rw[aA (by intro h;cases h)];rfl
    right;refine⟨_,_,4,Tn lv,aF,rfl,Tx _,?_⟩;intro j hj;unfold UO Tn;rw[Ti ⟨VK _,Q⟩,Zr]
   obtain⟨v,bv,⟨am,o⟩,ax⟩:=LW.call (H':=H) (P:=fun v=>v=.tuple []) R9 fun s hs=>(fg hs (by rw[J];rfl)).mono fun v s' ⟨h1,h2⟩=>⟨by rw[J,ff hg.lock]at h1;exact h1,h2⟩
   subst o;have ar:=Wd.load am (i:=.inr ()) trivial (n:=4) (f:=Tn lv) rfl (off:=0) (k:=4) Q;have ad:bv.load r0 0 4=some lv:=by refine WY ar ?_;rw[p];rfl
   simp only[go_sem,C,w,D,t6,y,B,d1,E,aj,bu,ay,b7];refine⟨.inr fi,ab ax ?_⟩;simp only[go_sem,w,ad];refine⟨?_,jl am.left.left⟩;rw[p,af,J];rfl
  simp only[go_sem];exact⟨C,w,D,0,rfl,Q,R⟩
 simp only[go_sem];refine⟨0,rfl,Q,?_⟩;rw[l]at W4;exact W4
end
section
variable {σ:St} {A:Tu -> Nat} {H H':aa} {S:AS} {fl pl fc:Nat -> List Nat}
def fV(H:aa)(k u:Nat):Prop:=(u+1)*2^k≤H.np∧∀y,y/2^k=u->eW H y
def sq{k u y n:Nat}(h:(u+1)*2^k≤n)(hy:y/2^k=u):y<n:=by
 have a:=aK k;have:y<(u+1)*2^k:=by rw[<- hy];exact Nat.lt_mul_of_div_lt (Nat.lt_succ_self _) a
 omega
def Tv.acm(h:Tv H fl pl fc (fun _=>False)):∀(k u:Nat),k≤H.Th->fV H k u->(∀y,y/2^k=u->∃j:Nat,(H.Tf y).Th=(j:Int)∧j<k)->False:=by
 intro k;induction k with
 |zero=>
  intro u _ n hs;obtain⟨j,_,x⟩:=hs u Y;omega
 |succ k I=>
  intro u J n hs;have r:=aK k;have b:∀w,w/2=u->w*2^k∈fl k:=by
   intro w hw;have d:(w+1)*2^k≤H.np:=by refine V4 (V4 (UG _ (Q:w+1≤(u+1)*2)) ?_) n.1;rw[XO,YZ,UF 2];exact Tx _
   have l:∀y,y/2^k=w->y/2^(k+1)=u:=fun y hy=>by rw[kX,hy,hw]
   have i:fV H k w:=⟨d,fun y hy=>n.2 y (l y hy)⟩
   have:∃y,y/2^k=w∧¬∃j:Nat,(H.Tf y).Th=(j:Int)∧j<k:=by
    refine Wq fun hn=>?_
    exact I w Q i fun y hy=>Wq fun D=>hn ⟨y,hy,D⟩
   obtain⟨y,hy,p⟩:=this;obtain⟨j,x,E⟩:=hs y (l y hy);have z:j=k:=by refine Wq fun F=>p ⟨j,x,Q⟩
   subst z;have v:=sq d hy;obtain⟨a,A,g⟩:=h.pg y v (fun h=>h);have o:a=j:=by have:=g.Th;omega
   subst o;have s:w*2^a/2^a=y/2^a:=by rw[WG _ r,hy]
   have t:w*2^a%2^a=0:=Xl _ _;obtain⟨_,G,m⟩:=g.all (w*2^a) s;rw[Ti t]at m;have c:=i.2 (w*2^a) (WG _ r);refine(h.Uy a Q _).2 ⟨sq d (WG _ r),fun h=>h,?_,G⟩;rcases c with f|f
   .exact f
   rw[m]at f;rcases g.Xy with e|e|⟨e,_⟩ <;> omega
  have B:=b (2*u) Q;have C:=b (2*u+1) Q;have q:u<64*H.nw k:=by unfold aa.nw aa.gm;have:u+1≤H.np/2^(k+1):=(ab8 (Ye Q)).2 n.1;omega
  exact(h.bits k Q u q).2 ⟨B,C⟩
def Tv.G8(h:Tv H fl pl fc (fun _=>False)){k u:Nat}(p:k≤H.Th)(m:fV H k u):∃j,k≤j∧j≤H.Th∧fl j≠[]:=by
 have:∃y,y/2^k=u∧¬∃j:Nat,(H.Tf y).Th=(j:Int)∧j<k:=by
  refine Wq fun hn=>?_
  exact h.acm k u p m fun y hy=>Wq fun o=>hn ⟨y,hy,o⟩
 obtain⟨y,hy,l⟩:=this;have n:=sq m.1 hy;obtain⟨j,d,g⟩:=h.pg y n (fun h=>h);have i:k≤j:=by refine Wq fun o=>l ⟨j,g.Th,Q⟩
 have s:=aK j;have b:d=0:=by
  have a:=(g.all y rfl).2.2;rcases m.2 y hy with f|f
  .rcases g.Xy with e|e|⟨e,_⟩
   .exact e
   .split at a <;> omega
   split at a <;> omega
  rcases g.Xy with e|e|⟨e,_⟩
  .exact e
  .split at a <;> omega
  split at a <;> omega
 subst b;refine⟨j,i,g.le,?_⟩;have q:y/2^j*2^j≤y:=Yr _ _;have hd:y/2^j*2^j/2^j=y/2^j:=WG _ s;obtain⟨_,r,c⟩:=g.all (y/2^j*2^j) hd;rw[Ti (Xl _ _)]at c;have:=(h.Uy j g.le (y/2^j*2^j)).2 ⟨Q,fun h=>h,c,r⟩;exact List.ne_nil_of_mem this
def Tv.EE(h:Tv H fl pl fc (fun _=>False)){k:Nat}(b:k≤H.Th):H.gF k=none↔∀u, ¬fV H k u:=by
 constructor
 .intro hn u g;obtain⟨j,c,d,f⟩:=h.G8 b g;unfold aa.gF at hn;rw[aaT]at hn;have:=oF hn j c Q;exact f (((h.Ve j d).M8 h.ok.Wc).1 this)
 intro a;cases ht:H.gF k with
 |none=>rfl
 |some x=>
  obtain⟨H',p⟩:=x;obtain⟨_,t⟩:=h.gF b ht;have i:=aK k;refine(a (p/2^k) ⟨?_,t.was⟩).elim;have e:p/2^k*2^k=p:=abq (WQ t.al);rw[UW,WH,e];exact t.le
def Tv.rE(h:Tv H fl pl fc (fun _=>False))(K:V9 H){x:Nat}(hx:x<H.np):eW H x↔∀a s,aV H a s->a+s≤H.Tk x∨H.Tk x+4096≤a:=by
 constructor
 .intro t a s d;obtain⟨f,U,V⟩:=h.b8 d;obtain⟨y,hy,d⟩:=d;refine Wq fun hn=>?_
  have J:¬(a+s≤H.Tk x)∧¬(H.Tk x+4096≤a):=⟨fun h=>hn (.inl h),fun h=>hn (.inr h)⟩
  obtain⟨c1,P⟩:=J;obtain⟨i,hi,E⟩:∃i,i<s∧(a-H.Tj+i)/4096=x:=by
   by_cases R:H.Tk x≤a
   .exact⟨0,Q,by unfold aa.Tk at *;omega⟩
   exact⟨H.Tk x-a,Q,by unfold aa.Tk at *;omega⟩
  obtain⟨z,j,S,B,T,G,_⟩:=h.fa hy d hi;have:z=x:=Q;subst this;exact G t
 intro p;obtain⟨k,I,g⟩:=h.pg x hx (fun h=>h);have F:=aK k;have b:=(g.all x rfl).2.2;rcases g.Xy with e|e|⟨e,B⟩
 .subst e;unfold eW;split at b
  .exact .inl b
  exact .inr Q
 .exfalso;subst e;have M:x/2^k*2^k≤x:=Yr _ _;have hd:x/2^k*2^k/2^k=x/2^k:=WG _ F;obtain⟨_,E,o⟩:=g.all (x/2^k*2^k) hd;rw[Ti (Xl _ _)]at o;have d:aV H (H.Tk (x/2^k*2^k)) (4096*2^k):=⟨x/2^k*2^k,Q,.inl ⟨o,k,E,rfl,rfl⟩⟩
  have N:x<x/2^k*2^k+2^k:=by have:=Nat.lt_div_mul_add (a:=x) F;omega
  rcases p _ _ d with f|f
  .unfold aa.Tk at f;generalize x/2^k*2^k=u at *;generalize 2^k=z at *;omega
  unfold aa.Tk at f;generalize x/2^k*2^k=u at *;omega
 exfalso;subst e B;rw[Ti (by simp[XM])]at b;have L:=K x hx b;obtain⟨c,sl⟩:=h.sl x hx (fun h=>h) b;have r:∃q,q<256/2^c∧q∉fc x:=by
  refine Wq fun hn=>?_
  have m:∀q,q<256/2^c->q∈fc x:=fun q l=>Wq fun v=>hn ⟨q,l,v⟩
  have D:256/2^c≤(fc x).length:=by
   have:=(List.nodup_range (n:=256/2^c)).length_le_of_subset (l₂:=fc x) fun q l=>m q (Ws.1 l)
   rw[YE]at this;exact this
  have:=sl.Ty;omega
 obtain⟨q,l,A⟩:=r;have C:=sl.Uc q l;rw[Tg A]at C;have d:aV H (H.Tk x+q*(16*2^c)) (16*2^c):=⟨x,hx,.inr ⟨b,c,q,sl.TQ,l,C,rfl,rfl⟩⟩;have w:=(w8 sl.c8).1;have O:=aK c;have:(q+1)*(16*2^c)≤(256/2^c)*(16*2^c):=UG _ Q;rw[UW,WH,UF (256/2^c),w]at this;rcases p _ _ d with f|f
 .generalize q*(16*2^c)=u at *;generalize 2^c=z at *;omega
 generalize q*(16*2^c)=u at *;generalize 2^c=z at *;omega
def lX(H:aa)(c:Nat):Prop:=∃x,x<H.np∧(H.Tf x).kind=4∧(H.Tf x).TQ=(c:Int)∧∃q,q<256/2^c∧(H.Tf x).Uc q=0
def Y2(H:aa)(b:Nat):Prop:=if b<12 then lX H (b-4)∨∃u,fV H 0 u else ∃u,fV H (b-12) u
def Tv.IH(h:Tv H fl pl fc (fun _=>False)){c:Nat}(i:c<8):0≤H.part c↔lX H c:=by
 constructor
 .intro v;obtain⟨p,f,r,y,u,s,t,_⟩:=h.oP i v;obtain⟨j,m,k,n,z⟩:=(h.U0 c i p).1 u;obtain⟨b,sl⟩:=h.sl p j m k;have e:b=c:=by have:=sl.TQ;omega
  subst e;have a:f∈fc p:=by rw[s];exact VY ..
  refine⟨p,j,k,n,f,sl.lt f a,?_⟩;rw[sl.Uc f (sl.lt f a),Ti a]
 rintro⟨x,hx,l,d,q,w,o⟩;obtain⟨b,sl⟩:=h.sl x hx (fun h=>h) l;have e:b=c:=by have:=sl.TQ;omega
 subst e;have a:q∈fc x:=by
  have:=sl.Uc q w;rw[o]at this;by_cases c:q∈fc x
  .exact c
  rw[Tg c]at this;omega
 have g:x∈pl b:=(h.U0 b i x).2 ⟨hx,fun h=>h,l,d,List.ne_nil_of_mem a⟩;refine Wq fun hn=>?_
 have:=(h.uO i hn).2;rw[this]at g;cases g
def Tv.F4(h:Tv H fl pl fc (fun _=>False)){k:Nat}(c:k≤H.Th)(d:Bool):
  ((H.dU k d).2=none↔(∀u, ¬fV H k u)∧(d=true∨H.Tl=H.TB))∧((H.dU k d).1.Tl=H.Tl+1↔(∀u, ¬fV H k u)∧(H.dU k d).2≠none):=by
 obtain⟨n,_⟩:=h.dU c d;have ht:=h.EE c;generalize (H.dU k d).1=G at n;generalize (H.dU k d).2=o at n;cases n with
 |TE a t=>
  have e:¬∀u, ¬fV H k u:=fun f=>by rw[ht.2 f]at a;cases a
  refine⟨⟨(fun h=>nomatch h),fun h=>absurd h.1 e⟩,⟨fun h=>?_,fun h=>absurd h.1 e⟩⟩;rw[t.T6.Tl]at h;omega
 |Yu a b i g t=>
  refine⟨⟨(fun h=>nomatch h),fun h=>?_⟩,⟨fun _=>⟨ht.1 a,Y⟩,fun _=>by rw[t.T6.Tl,g.Tl]⟩⟩;rcases h.2 with h|h
  .rw[b]at h;cases h
  omega
 |none a b=>
  exact⟨⟨fun _=>⟨ht.1 a,b⟩,fun _=>rfl⟩,⟨fun h=>Q,fun h=>absurd rfl h.2⟩⟩
def eR.Gx{k p:Nat}{d:Bool}(n:eR H k d H' (some p)):H'.Tl=if H.gF k=Option.none then H.Tl+1 else H.Tl:=by
 cases n with
 |TE h t=>rw[Tg (by rw[h];simp),t.T6.Tl]
 |Yu a b c g t=>rw[Ti a,t.T6.Tl,g.Tl]
def Tv.I5(h:Tv H fl pl fc (fun _=>False)){b:Nat}(B:4≤b)(w:¬H.Tp<2^b)(d:Bool):
  ((H.eD (2^b) d).2=none↔¬Y2 H b∧(d=true∨H.Tl=H.TB))∧((H.eD (2^b) d).1.Tl=H.Tl+1↔¬Y2 H b∧(H.eD (2^b) d).2≠none):=by
 unfold aa.eD Y2;rcases mI h.ok B w with⟨c,m,o,q,r⟩|⟨k,m,o,q,r⟩
 .have g:b<12:=by
   refine Wq fun hn=>?_
   have:2^12≤2^b:=Vb Q Q;omega
  have t:b-4=c:=by
   have e:(2:Nat)^b=2^(4+c):=by rw[o,X3]
   have:=(Nat.pow_right_inj Q).1 e;omega
  rw[Ti q,r,Ti g,t];have z:=h.IH m;have a:=h.Jw m d;have f:=h.F4 (VK H.Th) d;unfold aa.fR at a⊢;by_cases l:0≤H.part c
  .have i:=z.1 l;rw[Ti l]at a⊢;simp only[Xd];refine⟨⟨(fun h=>nomatch h),fun h=>absurd (.inl i) h.1⟩,⟨fun C=>?_,fun h=>absurd (.inl i) h.1⟩⟩;simp only at a;rcases a.2 with⟨_,s⟩|⟨D,_⟩
   .rw[s.Tl]at C;omega
   exact absurd l D
  have i:¬lX H c:=fun h=>l (z.2 h)
  rw[Tg l]at a⊢;have j:(¬(lX H c∨∃u,fV H 0 u))↔∀u, ¬fV H 0 u:=by
   constructor
   .intro h u hu;exact h (.inr ⟨u,hu⟩)
   rintro h (m|⟨u,hu⟩)
   .exact i m
   exact h u hu
  rw[j];obtain⟨n,_⟩:=h.dU (VK H.Th) d;cases y:(H.dU 0 d).2 with
  |some p=>
   rw[y]at a f n;simp only[Xd];simp only at a;have x:(H.dU 0 d).1.Tl=(((H.dU 0 d).1.born p c).Tz p c 0 1).Tl:=by
    rcases a.2 with⟨A,_⟩|⟨_,F,E,s⟩
    .exact absurd A l
    rw[s.Tl,E.Gx,n.Gx]
   rw[<- x];refine⟨⟨(fun h=>nomatch h),fun h=>?_⟩,⟨fun h=>⟨(f.2.1 h).1,Y⟩,fun h=>f.2.2 ⟨h.1,Y⟩⟩⟩;have:=f.1.2 h;cases this
  |none=>
   rw[y]at f;simp only[ZO];refine⟨⟨fun _=>f.1.1 rfl,fun _=>by trivial⟩,⟨fun h=>absurd rfl (f.2.1 h).2,fun h=>absurd rfl h.2⟩⟩
 have g:¬b<12:=by intro hn;have:2^b≤2^11:=Vb Q Q;omega
 have v:b-12=k:=by
  have e:(2:Nat)^b=2^(12+k):=by rw[o,X3]
  have:=(Nat.pow_right_inj Q).1 e;omega
 rw[Tg q,r,Tg g,v];have f:=h.F4 m d;have j:(¬∃u,fV H k u)↔∀u, ¬fV H k u:=⟨fun h u hu=>h ⟨u,hu⟩,fun h ⟨u,hu⟩=>h u hu⟩
 rw[j,aaT];refine⟨f.1,f.2.trans ?_⟩;rw[TV,TV,aaT]
def Vg(p n:Nat)(b:Nat×Nat):Bool:=decide (p<b.1+b.2) && decide (b.1<p+n)
def jJ{p n:Nat}{b:Nat×Nat}:Vg p n b=true↔p<b.1+b.2∧b.1<p+n:=by unfold Vg;rw[Vs,Xg,Xg]
def Tv.Ds(h:Tv H fl pl fc (fun _=>False))(q:V9 H){L:List (Nat×Nat)}(p:∀a s,(a,s)∈L↔aV H a s){k u:Nat}:
  fV H k u↔(u+1)*2^k≤H.np∧∀b∈L,Vg (H.Tj+u*(4096*2^k)) (4096*2^k) b=false:=by
 have r:=aK k;have e:u*(4096*2^k)=4096*(u*2^k):=by rw[<- YZ,UF u,YZ]
 have f:(u+1)*2^k=u*2^k+2^k:=by rw[UW,WH]
 rw[e];constructor
 .rintro⟨d,j⟩;refine⟨d,?_⟩;rintro⟨a,s⟩ t;have g:=(p a s).1 t;obtain⟨F,G,I⟩:=h.b8 g;cases i:Vg (H.Tj+4096*(u*2^k)) (4096*2^k) (a,s)with
  |false=>rfl
  |true=>
   exfalso;obtain⟨D,E⟩:=jJ.1 i;simp only at D E;obtain⟨x,hx,B,C⟩:∃x,x/2^k=u∧H.Tk x<a+s∧a<H.Tk x+4096:=by
    by_cases c:a≤H.Tj+4096*(u*2^k)
    .exact⟨u*2^k,WG _ r,by unfold aa.Tk;omega,by unfold aa.Tk;omega⟩
    refine⟨(a-H.Tj)/4096,?_,by unfold aa.Tk;omega,by unfold aa.Tk;omega⟩;have n:u*2^k≤(a-H.Tj)/4096:=by generalize u*2^k=w at *;omega
    have o:(a-H.Tj)/4096<(u+1)*2^k:=by rw[f];generalize u*2^k=w at *;generalize 2^k=z at *;omega
    exact ZJ n o
   have l:=sq d hx;rcases(h.rE q l).1 (j x hx) a s g with c|c <;> omega
 rintro⟨d,j⟩;refine⟨d,fun y hy=>?_⟩;have m:=sq d hy;refine(h.rE q m).2 fun a s g=>?_
 have i:=j (a,s) ((p a s).2 g);have A:¬(H.Tj+4096*(u*2^k)<a+s∧a<H.Tj+4096*(u*2^k)+4096*2^k):=fun v=>by rw[jJ.2 v]at i;cases i
 have n:u*2^k≤y:=by rw[<- hy];exact Yr _ _
 have o:y<u*2^k+2^k:=by rw[<- f, <- hy];exact Nat.lt_mul_of_div_lt (Nat.lt_succ_self _) r
 unfold aa.Tk;generalize u*2^k=w at *;generalize 2^k=z at *;omega
def Tv.wM(h:Tv H fl pl fc (fun _=>False)){x:Nat}(hx:x<H.np)(E:(H.Tf x).kind=4){a s:Nat}:(aV H a s∧Vg (H.Tk x) 4096 (a,s)=true)↔(a,s)∈jz H x:=by
 rw[gJ h hx];constructor
 .rintro⟨⟨y,hy,f⟩,hm⟩;obtain⟨n,o⟩:=jJ.1 hm;simp only at n o;rcases f with⟨B,k,F,rfl,rfl⟩|⟨p,c,q,d,A,t,rfl,rfl⟩
  .exfalso;obtain⟨i,r,g⟩:=h.pg y hy (fun h=>h);have e:i=k:=by have:=g.Th;omega
   subst e;have G:=aK i;obtain⟨rfl,l⟩:=g.Xi B;unfold aa.Tk at n o;have m:x/2^i=y/2^i:=by have e:=abq (WQ l);refine ZJ (by rw[e];omega) ?_;rw[UW,WH,e];generalize 2^i=z at *;omega
   rcases g.kinds m with e|e <;> omega
  obtain⟨b,sl⟩:=h.sl y hy (fun h=>h) p;have e:b=c:=by have:=sl.TQ;omega
  subst e;have w:=(w8 sl.c8).1;have v:=aK b;have:(q+1)*(16*2^b)≤(256/2^b)*(16*2^b):=UG _ Q;rw[UW,WH,UF (256/2^b),w]at this;have j:x=y:=by unfold aa.Tk at n o;generalize q*(16*2^b)=u at *;generalize 16*2^b=z at *;omega
  subst j;exact .inr ⟨p,b,q,d,A,t,rfl,rfl⟩
 intro f;refine⟨⟨x,hx,f⟩,jJ.2 ?_⟩;have C:=h.b8 ⟨x,hx,f⟩;have D:=oc ((gJ h hx).2 f) h hx;simp only;omega
def Kw(l:List Nat)(f:Nat->Nat)(w:Nat):((l.map fun q=>(f q,w)).map fun b:Nat×Nat=>b.2).sum=l.length*w:=by
 induction l with
 |nil=>simp
 |cons x r a=>simp only[Xr,List.sum_cons,a,TH,UW,WH];omega
def Tv.JK(h:Tv H fl pl fc (fun _=>False)){L:List (Nat×Nat)}(j:∀a s,(a,s)∈L↔aV H a s)(nd:L.Nodup){x c:Nat}(hx:x<H.np)(i:(H.Tf x).kind=4)(g:(H.Tf x).TQ=(c:Int)):
  ((L.filter (Vg (H.Tk x) 4096)).map fun b=>b.2).sum=((List.range (256/2^c)).filter fun q=>decide ((H.Tf x).Uc q=1)).length*(16*2^c):=by
 have f:(L.filter (Vg (H.Tk x) 4096)).Perm (jz H x):=by
  refine(ab3 (nd.filter _) ?_).2 ?_
  .have l:=jD h;unfold jz;rw[Tg Q,Ti i];refine List.Pairwise.imp (R:=fun a b=>a.1<b.1) (fun d e=>by rw[e]at d;omega) ?_;rw[Z6];refine List.Pairwise.imp ?_ (List.Pairwise.filter _ (List.pairwise_lt_range (n:=256/2^(H.Tf x).TQ.toNat)));intro a b d;have k:=aK (H.Tf x).TQ.toNat;have:a*(16*2^(H.Tf x).TQ.toNat)<b*(16*2^(H.Tf x).TQ.toNat):=aaP d Q;show H.Tk x+a*(16*2^(H.Tf x).TQ.toNat)<H.Tk x+b*(16*2^(H.Tf x).TQ.toNat);omega
  rintro⟨a,s⟩;rw[aaC,j,h.wM hx i]
 rw[(f.map fun b=>b.2).sum_nat];unfold jz;rw[Tg Q,Ti i,g,TZ];exact Kw _ _ _
def Tv.IC(h:Tv H fl pl fc (fun _=>False))(T:V9 H){L:List (Nat×Nat)}(B:∀a s,(a,s)∈L↔aV H a s)(nd:L.Nodup){c:Nat}(J:c<8):
  lX H c↔∃x,x<H.np∧(∃b∈L,Vg (H.Tk x) 4096 b=true∧b.2=16*2^c)∧((L.filter (Vg (H.Tk x) 4096)).map fun b=>b.2).sum<4096:=by
 have w:=(w8 J).1;have V:=aK c;have r:∀x,x<H.np->(H.Tf x).kind=4->(H.Tf x).TQ=(c:Int)->((((L.filter (Vg (H.Tk x) 4096)).map fun b=>b.2).sum<4096)↔∃q,q<256/2^c∧(H.Tf x).Uc q=0):=by
  intro x hx j d;rw[h.JK B nd hx j d];have m:=List.length_filter_lt_length_iff_exists (p:=fun q=>decide ((H.Tf x).Uc q=1)) (l:=List.range (256/2^c));rw[YE]at m;have A:∀q,(H.Tf x).Uc q=0∨(H.Tf x).Uc q=1:=fun q=>by unfold bB.Uc;omega
  constructor
  .intro hs;have:((List.range (256/2^c)).filter fun q=>decide ((H.Tf x).Uc q=1)).length<256/2^c:=by
    refine Wq fun hn=>?_
    have:=UG (16*2^c) (abu hn);rw[UF (256/2^c),w]at this;omega
   obtain⟨q,f,i⟩:=m.1 this;refine⟨q,Ws.1 f,?_⟩;rcases A q with e|e
   .exact e
   exact absurd (UR e) i
  rintro⟨q,f,i⟩;have:=m.2 ⟨q,Ws.2 f,by rw[i];simp⟩;have S:=UG (16*2^c) (Nat.succ_le_of_lt this);rw[UF (256/2^c),w,WS]at S;omega
 constructor
 .rintro⟨x,hx,j,d,f⟩;refine⟨x,hx,?_,(r x hx j d).2 f⟩;have U:=T x hx j;obtain⟨g,sl⟩:=h.sl x hx (fun h=>h) j;have e:g=c:=by have:=sl.TQ;omega
  subst e;have C:∃q,q<256/2^g∧q∉fc x:=by
   refine Wq fun hn=>?_
   have o:∀q,q<256/2^g->q∈fc x:=fun q f=>Wq fun E=>hn ⟨q,f,E⟩
   have K:256/2^g≤(fc x).length:=by
    have:=(List.nodup_range (n:=256/2^g)).length_le_of_subset (l₂:=fc x) fun q f=>o q (Ws.1 f)
    rw[YE]at this;exact this
   have:=sl.Ty;omega
  obtain⟨q,f,F⟩:=C;have i:=sl.Uc q f;rw[Tg F]at i;have D:cW H x (H.Tk x+q*(16*2^g)) (16*2^g):=.inr ⟨j,g,q,sl.TQ,f,i,rfl,rfl⟩;have:=(h.wM hx j).2 ((gJ h hx).2 D);exact⟨_,(B _ _).2 this.1,this.2,rfl⟩
 rintro⟨x,hx,⟨⟨a,s⟩,i,hm,hs⟩,hsum⟩;simp only at hs;subst hs;obtain⟨y,hy,D⟩:=(B _ _).1 i;have Y:=(w8 J).2.2.1;rcases D with⟨X,k,W,_,e⟩|⟨G,g,q,d,f,I,rfl,e⟩
 .have:=aK k;omega
 obtain⟨t,sl⟩:=h.sl y hy (fun h=>h) G;have O:t=g:=by have:=sl.TQ;omega
 subst O;have P:c=t:=by have R:2^c=2^t:=Q;exact(Nat.pow_right_inj Q).1 R
 subst P;obtain⟨M,N⟩:=jJ.1 hm;simp only at M N;have:(q+1)*(16*2^c)≤(256/2^c)*(16*2^c):=UG _ Q;rw[UW,WH,UF (256/2^c),w]at this;have v:x=y:=by unfold aa.Tk at M N;generalize q*(16*2^c)=u at *;generalize 16*2^c=z at *;omega
 subst v;exact⟨x,hx,G,d,(r x hx G d).1 hsum⟩
structure jt (H:aa) (S:AS):Prop where
 ok:S.OK
 ms:xZ S
 size:S.TD≤H.Tp
def jt.mark(h:jt H S):jt H (gU S):=by
 refine⟨⟨h.ok.Tm,h.ok.Tz,h.ok.TI,h.ok.TD,h.ok.nil,(fun d=>nomatch (show true=false from d)),h.ok.Ue⟩,⟨?_,?_,?_,(fun d=>nomatch (show true=false from d)),?_⟩,h.size⟩
 .show(S.ms++[_]).Pairwise _;rw[Xt];refine⟨h.ms.Yz,Z7 ..,?_⟩;intro a ha b e;rw[VP]at e;subst e;exact⟨h.ms.lt a ha,h.ms.le a ha⟩
 .intro m c;show m.n<S.TW+1;rcases VJ.1 c with c|c
  .have:=h.ms.lt m c;omega
  rw[VP]at c;subst c;simp
 .intro m c;show m.Tm≤S.Tm.length;rcases VJ.1 c with c|c
  .exact h.ms.le m c
  rw[VP]at c;subst c;exact Tx _
 intro m c;rcases VJ.1 c with c|c
 .exact h.ms.Zf m c
 rw[VP]at c;subst c;exact⟨h.ok.Tz,h.ok.TI⟩
def jt.aan(h:jt H S):jt H (gL S):=
 ⟨⟨(fun b c=>nomatch (show b∈[]from c)),VK _,abF _,h.ok.TD,fun _=>rfl,fun _=>rfl,VK _⟩,⟨List.Pairwise.nil,(fun m a=>nomatch (show m∈[]from a)),(fun m a=>nomatch (show m∈[]from a)),fun _=>rfl,(fun m a=>nomatch (show m∈[]from a))⟩,h.size⟩
def jt.Zg(h:jt H S){pre j:List Mk}{m:Mk}(e:S.ms=pre++m ::j):jt H (j9 S pre.length m):=by
 have c:m∈S.ms:=by rw[e];simp
 have hn:=h.ms.Zf m c;have g:S.ms.take pre.length=pre:=by rw[e];simp
 have d:∀x∈S.ms.take pre.length,x∈S.ms:=fun x hx=>X9 hx
 have a:=h.ms.Yz;rw[e,Xt]at a;have l:=h.ms.le m c;refine⟨⟨fun b k=>h.ok.Tm b (X9 k),hn.1,hn.2,h.ok.TD,fun f=>?_,fun f=>?_,?_⟩,⟨?_,fun x hx=>h.ms.lt x (d x hx),?_,fun f=>?_,fun x hx=>h.ms.Zf x (d x hx)⟩,h.size⟩
 .show S.Tm.take m.Tm=[];rw[h.ok.nil f];simp
 .have:=h.ok.Ww f;unfold AS.cE at this;rw[List.map_eq_nil_iff]at this;rw[this]at c;cases c
 .show(S.Tm.take m.Tm).length≤_;rw[Va];have:=h.ok.Ue;omega
 .show(S.ms.take pre.length).Pairwise _;rw[g];exact a.1
 .intro x hx;have i:x∈pre:=by rw[<- g];exact hx
  show x.Tm≤(S.Tm.take m.Tm).length;rw[Va];have:=(a.2.2 x i m (VY ..)).2;omega
 rw[h.ms.nil f]at c;cases c
def Tv.rm(h:Tv H fl pl fc (fun _=>False)){a P w:Nat}(b:H.hU a=some (P,w)):aV H P w∧P≤a∧a<P+w:=by
 unfold aa.hU at b;by_cases c:a<H.Tj∨H.Ut≤a
 .rw[Ti c]at b;cases b
 rw[Tg c]at b;obtain⟨x,hx⟩:=acH ((a-H.Tj)/4096);obtain⟨y,hy⟩:=acH ((a-H.Tj)%4096);have D:=od H;have j:x<H.np:=Q;have ha:a=H.Tk x+y:=by unfold aa.Tk;omega
 have q:y<4096:=Q;rw[<- hx, <- hy]at b;obtain⟨k,o,g⟩:=h.pg x j (fun e=>e);have t:=g.Th;by_cases n:(H.Tf x).kind=4
 .rw[Ti n]at b;obtain⟨d,s⟩:=h.sl x j (fun e=>e) n;have p:(H.Tf x).TQ.toNat=d:=by have:=s.TQ;omega
  rw[p]at b;have hw:=w8 s.c8;have F:=aK d;by_cases cb:(H.Tf x).Uc (y/(16*2^d))=1
  .rw[Ti cb,TC,TU]at b;obtain⟨rfl,rfl⟩:=b;have G:y/(16*2^d)<256/2^d:=by rw[Nat.div_lt_iff_lt_mul Q,UF,hw.1];exact q
   have B:y/(16*2^d)*(16*2^d)≤y:=Yr _ _;have C:y<y/(16*2^d)*(16*2^d)+16*2^d:=Nat.lt_div_mul_add Q;refine⟨⟨x,j,.inr ⟨n,d,_,s.TQ,G,cb,rfl,rfl⟩⟩,?_,?_⟩
   .rw[ha];omega
   rw[ha];omega
  rw[Tg cb]at b;cases b
 rw[Tg n]at b;by_cases l:(H.Tf x).kind=2∨(H.Tf x).kind=3
 .rw[Ti l,(Q:(H.Tf x).Th.toNat=k),TC,TU]at b;obtain⟨rfl,rfl⟩:=b;have v:=aK k;have hd:x/2^k*2^k/2^k=x/2^k:=WG _ v;obtain⟨_,E,i⟩:=g.all (x/2^k*2^k) hd;rw[Ti (Xl _ _)]at i;have m:o=2:=by
   have r:=(g.all x rfl).2.2;rcases g.Xy with f|f|⟨f,A⟩
   .split at r <;> omega
   .exact f
   subst A;rw[Ti (by simp[XM])]at r;omega
  rw[m]at i;have B:x/2^k*2^k≤x:=Yr _ _;have C:x<x/2^k*2^k+2^k:=Nat.lt_div_mul_add v;refine⟨⟨x/2^k*2^k,Q,.inl ⟨i,k,E,rfl,rfl⟩⟩,?_,?_⟩
  .rw[ha];unfold aa.Tk;omega
  rw[ha];unfold aa.Tk;generalize x/2^k*2^k=u at *;generalize 2^k=z at *;omega
 rw[Tg l]at b;cases b
def _root_.AM.aa.eZ(H:aa)(a n:Nat):Bool:=match H.hU a with
 |some x=>decide (n≤x.1+x.2-a)
 |none=>false
def px(j:aw σ A H)(h:Tv H fl pl fc (fun _=>False))(a n:Nat):
  au G0 [] 86 [.acK (A .heap) 0,.u a,.u n] σ fun r s=>r=.bool (H.eZ a n)∧aH σ s:=by
 refine ai g86 rfl ?_;obtain⟨v,f,⟨⟨P,w,C,t⟩,q,D⟩,d⟩:=j.dF (Dq j h a);subst C;have c:=aQ (σ:=f) (z:=[.u 0,.u 0]) (vs:=[.u P,.u w]) (n:=2) Y rfl;have L:=To.Ts f 2 [.u 0,.u 0] [.u P,.u w] rfl;have g:=q.trans (aH.Ts f 2 [.u 0,.u 0] [.u P,.u w]);have l:=L.cell (i:=0) Q;have l1:=L.cell (i:=1) Q;rw[show Tn [V.u P,.u w] 0=.u P from rfl]at l;rw[show Tn [V.u P,.u w] 1=.u w from rfl]at l1;simp only[go_sem];refine ab d ?_;cases b:H.hU a with
 |none=>
  have e:H.eZ a n=false:=by unfold aa.eZ;rw[b]
  rw[e];simp only[go_sem,aj,TH,TK,c,Option.isSome];exact g
 |some x=>
  have hx:=t x b;subst hx;obtain⟨y,E,F⟩:=h.rm b;have B:=h.b8 y;have k:=mS h.ok;have m:IntKind.u64.wrap ((P:Int)+(w:Int))=((P+w:Nat):Int):=bD Q;have o:IntKind.u64.wrap (((P+w:Nat):Int)-(a:Int))=((P+w-a:Nat):Int):=bK Q Q;have p:(decide ((n:Int)≤((P+w-a:Nat):Int)))=H.eZ a n:=by unfold aa.eZ;rw[b];exact Zw.mpr Q
  simp only[go_sem,aj,TH,TK,c,Option.isSome,l,l1,m,o,p];exact g
def MI{e:V}:au G0 [] 133 [e] σ fun v σ'=>v=.tuple []∧σ'=σ:=by refine ai g133 rfl ?_;obtain⟨v,σ',⟨b,hs⟩,a⟩:=qM (σ:=σ) (e:=e);subst b hs;simp only[go_sem];refine ab a ?_;simp only[go_sem]
def Ny(J:aw σ A H)(ok:H.OK){p n:Nat}(hn:0<n)(c:H.In p n):
  au G0 [] 87 [.acK (A .TY) 0,.u p,.u n] σ fun v s=>∃h,v=.tuple [.acL h 0 n 1,.i 0]∧aw s A H∧aH σ s∧σ.next≤h∧To s h n (fun i=>.int .u8 (H.mem (p-H.Tj+i))):=by
 refine ai g87 rfl ?_;have w:=aH.new σ (.acM 1 [.i 0] .nil);have k:=J.new (.acM 1 [.i 0] .nil) rfl;have q:=To.fx σ [.i 0] 1 (.inl Y);simp only[go_sem,TH,TK];obtain⟨le,l⟩:=acH (σ.next);rw[<- l]at q⊢;have N:∀s,H.has s->A s≠le:=fun s hs=>by have:=J.lt hs;omega
 obtain⟨C,G⟩:=acH (σ.new (.acM 1 [.i 0] .nil));have n1:C.next=le+1:=by rw[G,l];rfl
 rw[<- G]at w k q⊢;obtain⟨v,σ',⟨X,hs⟩,V⟩:=z9 k ok c.Tj (kJ ok c);subst X hs;refine ab V ?_;have W:=ke ok;have K:=c.Vd;have U:n≤1048576:=Q;have I:=aH.new σ' (.acM n [.int .u8 0] .nil);have P:=k.new (.acM n [.int .u8 0] .nil) rfl;have F:=To.fx σ' [.int .u8 0] n (.inl Y);have r:=q.Ui k.gw I;obtain⟨h,g⟩:=acH (σ'.next);have O:∀s,H.has s->A s≠h:=fun s hs=>by have:=k.lt hs;omega
 have R:(0:Int)≤(n:Int):=Q;have S:n≤aq:=by unfold aq;omega
 rw[<- g]at F;obtain⟨v,D,⟨t,o,L⟩,m⟩:=O2 P ok F O hn c;have T:(n:Int)<9223372036854775808:=Q;have d:=r.put o Q;obtain⟨E,z,M,w4,j⟩:=d.store t.gw (off:=0) (vs:=[.i 0]) Y rfl;have b:=M.cell (i:=0) Q;simp only[UO,Tx,WK,TH,TK,Vk,Nat.lt_add_one,TT,Yf,abi]at b;obtain⟨v5,ac,⟨Z,B⟩,y⟩:=MI (σ:=E) (e:=.acK le 0);subst B;have x:aH σ D:=by have f:=w.trans I;refine⟨by rw[o.next];exact f.next,o.TX.trans f.TX,fun a ha=>?_⟩;rw[o.TE a (by have:=w.next;omega)];exact f.TE a ha
 rw[g]at m;simp only[go_sem,TH,TK,R,S,T,Us,TZ,Um,Int.le_refl];refine ab m ?_;simp only[go_sem,TH,TK,az,z,b7];refine⟨.inl ⟨_,g133⟩,ab y ?_⟩;simp only[go_sem,b];refine⟨h,by rw[g],t.VW w4 N j (t.Ub.gR d),?_,Q,L.put j Q⟩;exact⟨by rw[j.next];exact x.next,j.TX.trans x.TX,fun a ha=>(j.TE a Q).trans (x.TE a ha)⟩
def Tv.vR(h:Tv H fl pl fc (fun _=>False)){P w:Nat}(d:aV H P w):w∣P-H.Tj∧w∣H.Tp:=by
 obtain⟨x,hx,d⟩:=d;rcases d with⟨m,k,p,rfl,rfl⟩|⟨n,c,q,i,r,o,rfl,rfl⟩
 .obtain⟨l,j,g⟩:=h.pg x hx (fun h=>h);have e:l=k:=by have:=g.Th;omega
  subst e;obtain⟨rfl,b⟩:=g.Xi m;refine⟨?_,?_⟩
  .rw[show H.Tk x-H.Tj=4096*x by unfold aa.Tk;omega];exact abx _ (WQ b)
  unfold aa.Tp;exact abx _ (XN 2 g.le)
 obtain⟨a,sl⟩:=h.sl x hx (fun h=>h) n;have e:a=c:=by have:=sl.TQ;omega
 subst e;have w:=(w8 sl.c8).1;have f:16*2^a∣4096:=⟨256/2^a,w.symm⟩;refine⟨?_,?_⟩
 .rw[show H.Tk x+q*(16*2^a)-H.Tj=4096*x+q*(16*2^a) by unfold aa.Tk;omega];exact ZL (WE f (abr _ _)) (aaL _ _)
 unfold aa.Tp;exact WE f (abr _ _)
def Tv.F2(h:Tv H fl pl fc (fun _=>False)){P w a n:Nat}(l:aV H P w)(u:P≤a)(hn:0<n)(v:a+n≤P+w):H.In a n:=by
 obtain⟨⟨b0,p⟩,⟨m,j⟩⟩:=h.vR l;obtain⟨x,y,z⟩:=h.b8 l;have t:=tn H;have s:=oS H;have k:0<m:=by
  rcases Wi m with e|e
  .rw[e]at j;omega
  exact e
 have c:(P-H.Tj)%H.Tp=w*(b0%m):=by rw[p,j,Nat.mul_mod_mul_left]
 have i:=Wt b0 k;have g:w*(b0%m)+w≤H.Tp:=by rw[j, <- Nat.mul_succ];exact Xu _ i
 have b:=XJ (P-H.Tj) H.Tp;rw[c]at b;obtain⟨d,hd⟩:=acH ((P-H.Tj)/H.Tp);obtain⟨r,o⟩:=acH (w*(b0%m));rw[<- hd, <- o]at b;rw[<- o]at g;have f:d<H.Tl:=by
  refine Wq fun q=>?_
  have:=Xu H.Tp (abu q);omega
 have ha:a-H.Tj=H.Tp*d+(r+(a-P)):=Q;have hx:r+(a-P)<H.Tp:=Q;refine⟨Q,?_,?_⟩
 .rw[ha,aab Q,aaJ hx];exact f
 rw[ha,Nat.mul_add_mod,WR hx];omega
end
end
end Go.Proofs.YtlgmpheammbacaaGreatDoor
