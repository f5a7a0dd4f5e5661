import Derived.Test.YtlgmpheammbacaaGreatDoorPyl
set_option linter.all false
set_option maxRecDepth 1000000
attribute [local irreducible] AM.T.get AM.T.set
namespace Go.Proofs.YtlgmpheammbacaaGreatDoor
open AM Go
noncomputable section
section
variable {σ σ' s:St}
section
variable {a b n:Nat}
def bJ(h:a+OfNat.ofNat n<9223372036854775808):IntKind.i64.wrap ((a:Int)+(no_index (OfNat.ofNat n):Int))=((a+OfNat.ofNat n:Nat):Int):=bj h
def bO(h:OfNat.ofNat n≤a)(b:a<9223372036854775808):IntKind.i64.wrap ((a:Int)-(no_index (OfNat.ofNat n):Int))=((a-OfNat.ofNat n:Nat):Int):=bV h b
def bM(h:a+OfNat.ofNat n<18446744073709551616):IntKind.u64.wrap ((a:Int)+(no_index (OfNat.ofNat n):Int))=((a+OfNat.ofNat n:Nat):Int):=bD h
def bP(h:OfNat.ofNat n≤a)(b:a<18446744073709551616):IntKind.u64.wrap ((a:Int)-(no_index (OfNat.ofNat n):Int))=((a-OfNat.ofNat n:Nat):Int):=bK h b
def bI(h:a<18446744073709551616):IntKind.u64.wrap ((a:Int).tdiv (no_index (OfNat.ofNat n):Int))=((a/OfNat.ofNat n:Nat):Int):=iw h
def bo:((a:Int).tmod (no_index (OfNat.ofNat n):Int))=((a%OfNat.ofNat n:Nat):Int):=aW a _
end
section
variable {z vs:List V} {n id off k:Nat}
theorem cH(σ:St)(o:AM.Obj):(σ.new o).next=σ.next+1:=(rfl)
theorem bg:(σ.ag vs).next=σ.next+1:=(rfl)
def cU:(σ.Ts n z vs).next=σ.next+1:=rfl
class NX (σ:St) (n:outParam Nat):Prop where
 eq:σ.next=n
instance (priority:=low):NX σ σ.next:=⟨rfl⟩
instance {m:Nat} [h:NX σ m]:NX (σ.ag vs) (m+1):=⟨by rw[bg,h.eq]⟩
instance {m:Nat} [h:NX σ m]:NX (σ.Ts n z vs) (m+1):=⟨by rw[cU,h.eq]⟩
instance {m:Nat} {o:AM.Obj} [h:NX σ m]:NX (σ.new o) (m+1):=⟨by rw[cH,h.eq]⟩
class Ln (l:List V) (n:Nat):Prop where
 eq:l.length=n
instance:Ln [] 0:=⟨rfl⟩
instance {a:V} {l:List V} {n:Nat} [h:Ln l n]:Ln (a :: l) (n+1):=⟨by rw[List.length_cons,h.eq]⟩
class Fl (l:List V):Prop where
 f:l.all V.Tr=true
instance:Fl []:=⟨rfl⟩
instance {k:IntKind} {x:Int} {l:List V} [h:Fl l]:Fl (.int k x :: l):=⟨h.f⟩
instance {x:Bool} {l:List V} [h:Fl l]:Fl (.bool x :: l):=⟨h.f⟩
instance {x:Option (Nat × Nat)} {l:List V} [h:Fl l]:Fl (.ptr x :: l):=⟨h.f⟩
instance {x:Option (Nat × Nat)} {i j:Nat} {l:List V} [h:Fl l]:Fl (.slice x i j :: l):=⟨h.f⟩
instance {x:Option Nat} {l:List V} [h:Fl l]:Fl (.map x :: l):=⟨h.f⟩
def mY(o:AM.Obj){a:Nat}(h:a≠σ.next):(σ.new o).Tq.get a=σ.Tq.get a:=by show(σ.Tq.set σ.next o).get a=_;rw[T.aJ,Tg h]
def FQ{a:Nat}(h:a≠σ.next):(σ.Ts n z vs).Tq.get a=σ.Tq.get a:=by show(T.set _ σ.next _).get a=_;rw[T.aJ,Tg h];exact mY _ h
def kK{a:Nat}(h:σ'.Tq.get a=σ.Tq.get a):σ'.cell a off=σ.cell a off:=by unfold St.cell;rw[h]
def kH{a:Nat}(h:σ'.Tq.get a=σ.Tq.get a):σ'.load a off k=σ.load a off k:=by unfold St.load;rw[h]
def bq{m:Nat}[e:NX σ m](h:id≠m):(σ.ag vs).cell id off=σ.cell id off:=kK (mY _ (by rw[e.eq];exact h))
def bG{m:Nat}[e:NX σ m](h:id≠m):(σ.ag vs).load id off k=σ.load id off k:=kH (mY _ (by rw[e.eq];exact h))
def cX{m:Nat}[e:NX σ m](h:id≠m):(σ.Ts n z vs).cell id off=σ.cell id off:=kK (FQ (by rw[e.eq];exact h))
def cZ{m:Nat}[e:NX σ m](h:id≠m):(σ.Ts n z vs).load id off k=σ.load id off k:=kH (FQ (by rw[e.eq];exact h))
def uQ(l:List V):((List.range l.length).map fun j=>Tn l (0+j))=l:=by
 refine Z3 Y fun i b a=>?_
 simp only[YX,abl,Vk,Tn];rw[U7,UQ a];rfl
def iD{l:List V}{i:Nat}{v:V}(h:l[i]?=some v):Tn l i=v:=by unfold Tn;rw[U7,h];rfl
def br{m:Nat}[e:NX σ m](hi:id=m):(σ.ag vs).cell id off=vs[off]?:=by
 obtain rfl:id=σ.next:=by rw[e.eq];exact hi
 by_cases h:off<vs.length
 .rw[(To.cg σ vs).cell h,iD (UQ h),UQ h]
 rw[Xk Q];show(match (σ.Tq.set σ.next _).get σ.next with|some (.cells _ _ n z t)=>Vw n z t off|_=>none)=none;rw[T.aJ,Ti rfl];simp only[Vw,Tg h]
def bH{m:Nat}[e:NX σ m][l:Ln vs n](hi:id=m):(σ.ag vs).load id 0 n=some vs:=by
 obtain rfl:id=σ.next:=by rw[e.eq];exact hi
 obtain rfl:=l.eq;rw[(To.cg σ vs).load (off:=0) Q,uQ]
def cY{m:Nat}[e:NX σ m][l:Ln vs n](hi:id=m)(a:off<n):(σ.Ts n z vs).cell id off=vs[off]?:=by
 obtain rfl:id=σ.next:=by rw[e.eq];exact hi
 obtain rfl:=l.eq;rw[(To.Ts σ _ z vs rfl).cell a,iD (UQ a),UQ a]
def cB{m:Nat}[e:NX σ m][l:Ln vs n][f:Fl vs](hi:id=m):(σ.new (.acM n z .nil)).store id 0 vs=some (σ.Ts n z vs):=by
 obtain rfl:id=σ.next:=by rw[e.eq];exact hi
 exact aQ (Vt l.eq) f.f
def _root_.AM.aH.cell{m:Nat}[e:NX σ m](g:aH σ s)(h:id<m):s.cell id off=σ.cell id off:=kK (g.TE _ (by rw[e.eq];exact h))
def _root_.AM.aH.load{m:Nat}[e:NX σ m](g:aH σ s)(h:id<m):s.load id off k=σ.load id off k:=kH (g.TE _ (by rw[e.eq];exact h))
class Gr (σ s:St):Prop where
 g:aH σ s
instance:Gr σ σ:=⟨aH.refl σ⟩
instance [h:Gr σ s]:Gr σ (s.ag vs):=⟨h.g.trans (aH.new s _)⟩
instance [h:Gr σ s]:Gr σ (s.Ts n z vs):=⟨h.g.trans (aH.Ts s _ _ _)⟩
instance {o:AM.Obj} [h:Gr σ s]:Gr σ (s.new o):=⟨h.g.trans (aH.new s _)⟩
end
section
variable {Γ:T AF} {M:List fK} {d:Option Nat} {op:TL} {g:Option (Nat × Bool)} {lo hi h n:Nat} {r:List dY} {fr:AM.Fr} {tr:List (T V × V)} {es:List (T4 × St)} {K:AM.Fr -> List (T V × V) -> List (T4 × St) -> Prop} {tm:T V} {v:V}
def vt:TL->List V
 | .alloc z=>z
 |_=>[]
theorem aO{z:List V}:vt (.alloc z)=z:=(rfl)
theorem aI{z:List V}:bh (.alloc z)=true:=(rfl)
def vu{op:TL}(h:bh op=true):op=.alloc (vt op):=by cases op <;> first|rfl|cases h
def JE(t:Bool)(a b:St):St:=if t=true then a else b
theorem bz{a b:St}:JE true a b=a:=(rfl)
theorem aX{a b:St}:JE false a b=b:=(rfl)
@[congr] theorem PB{t c:Bool}{a b:St}(h:mk t=c):JE t a b=JE c a b:=by rw[<- h];rfl
def DO(t:Bool)(a b:Bool):Bool:=if t=true then a else b
theorem bt{a b:Bool}:DO true a b=a:=(rfl)
theorem aY{a b:Bool}:DO false a b=b:=(rfl)
@[congr] theorem Pk{t c:Bool}{a b:Bool}(h:mk t=c):DO t a b=DO c a b:=by rw[<- h];rfl
theorem dM:Wy Γ M (⟨⟨d,op,g⟩,lo,hi⟩ ::r) h fr σ tr es K =
  WC (eJ g fr.tmps) (WC (bh op) (Wy Γ M r (h+1) ⟨gI fr.tmps d (.acK h 0),fr.defers⟩ σ ((fr.tmps,.acK h 0) ::tr) es K)
   (AM.wpOp Γ M op fr.tmps fr.defers σ fun v ds σ'=>Wy Γ M r h ⟨gI fr.tmps d v,ds⟩ σ' ((fr.tmps,v) ::tr) (if cM op=true then(ds,σ') ::es else es) K))
   (WC (bh op) False (Wy Γ M r h ⟨gI fr.tmps d .undef,fr.defers⟩ σ ((fr.tmps,.undef) ::tr) (if cM op=true then(fr.defers,σ) ::es else es) K)):=(rfl)
theorem aR:eJ none tm=true:=(rfl)
def bU:Vx (⟨⟨d,op,g⟩,lo,hi⟩ ::r) σ=JE (bh op) (Vx r (σ.new (.acM (vt op).length (vt op) .nil))) (Vx r σ):=by
 cases ha:bh op with
 |true=>rw[vu ha];rfl
 |false=>rw[wH ha];rfl
def dN:dP es (⟨⟨d,op,g⟩,lo,hi⟩ ::r) n ((tm,v) ::tr)=DO (bh op) (eN n (vt op) hi 0 es && dP es r (n+1) tr)
  (DO (bQ op) ((DO (eJ g tm) (fG op tm v lo hi 0 es) true) && dP es r n tr) (dP es r n tr)):=by
 cases ha:bh op with
 |true=>rw[vu ha,CX];rfl
 |false=>
  cases a:bQ op with
  |false=>rw[FB ha a];rfl
  |true=>
   cases g with
   |none=>rw[Gd a];rfl
   |some x=>obtain⟨t,b⟩:=x;rw[Dl a];cases eJ (some (t,b)) tm <;> rfl
end
section
variable {id n:Nat} {f:Nat -> V}
end
end
section
attribute [local go_sem] bJ bO bM bP bI bo bj bV bD bK cH bg cU bq bG cX cZ br bH cY cB UR UK aj az aD TH TK TZ bm bF
section
variable {σ σ' s:St}
def Bq{a b c d:Nat}(f:a+b<18446744073709551616)(h:c+d<18446744073709551616):
  au G0 [] 178 [.agg [.u a,.u b],.agg [.u c,.u d]] σ fun v s=>v=.bool (decide (a<c+d∧c<a+b))∧aH σ s:=by
 refine ai g178 rfl ?_;by_cases c1:a<c+d <;> by_cases e:c<a+b <;>
  simp (disch:=omega) only[go_sem] <;> exact Gr.g
def Hb{x:Nat}:(decide (x≠0) && decide (x &&& (x-1)=0))=cQ x:=by unfold cQ;rfl
def tf{x:Nat}(hx:x<18446744073709551616):au G0 [] 137 [.u x] σ fun v s=>v=.bool (cQ x)∧aH σ s:=by
 refine ai g137 rfl ?_;rw[<- Hb];by_cases c1:x=0
 .subst c1;simp (disch:=omega) only[go_sem];exact Gr.g
 have c:=aar hx (b:=x-1) Q;simp (disch:=omega) only[go_sem,FU,c];refine⟨?_,Gr.g⟩;by_cases a:x &&& (x-1)=0
 .rw[a];simp[c1]
 rw[UK Q,UK a]
def yG{s a j:Nat}(f:4≤j)(h:s≤2^j)(i:a≤2^j)(b:j=4∨2^(j-1)<max s a):aE s a=2^j:=by
 have c:(2:Nat)^4≤2^j:=Vb Q f;unfold aE kf;rw[Tg Q];obtain⟨m,g⟩:=acH (max (max s a) 16);rw[<- g];have e:UP (m-1)=j:=by
  unfold UP;rw[Tg Q];have d:2^(j-1)≤m-1:=by
   rcases b with rfl|b
   .show 8≤m-1;omega
   omega
  have k:(m-1).log2<j:=(Nat.log2_lt Q).2 Q;have l:j-1≤(m-1).log2:=(Nat.le_log2 Q).2 d;omega
 rw[e]
def Ey{s a:Nat}(h:9223372036854775808<max s a)(hs:s<18446744073709551616)(ha:a<18446744073709551616):aE s a=18446744073709551616:=
 (yG (j:=64) Q Q Q (.inr Q))
def ZW{b l:Int}{k:Nat}(c:k≤8):au G0 [] 44 [.agg [.u b,.i l,.i k]] σ fun v s=>v=.u ((4096*2^k:Nat):Int)∧aH σ s:=by refine ai g44 rfl ?_;have f:(2:Nat)^k≤2^8:=Vb Q c;have e:=gP (a:=4096) (n:=k) Q Q;have d:(0:Int)≤k:=Q;simp (disch:=omega) only[go_sem,aT];exact⟨Uj _ e,Gr.g⟩
def LD{b l:Int}{k s a:Nat}(h:k≤8)(hs:s<18446744073709551616)(ha:a<18446744073709551616):
  au G0 [] 36 [.agg [.u b,.i l,.i k],.u s,.u a] σ fun v t=>v=.u ((if 4096*2^k<aE s a then 0 else aE s a:Nat):Int)∧aH σ t:=by
 refine ai g36 rfl ?_;have F:(2:Nat)^k≤2^8:=Vb Q h;simp (disch:=omega) only[go_sem];refine bW (fun n fr t=>fr.defers=[]∧fr.tmps.get 1=some (.u s)∧fr.tmps.get 2=some (.u a)∧fr.tmps.get 3=some (.acK σ.next 0)∧t=σ.ag [.u b,.i l,.i k]∧
  ∃j,j+n=64∧4≤j∧fr.tmps.get 7=some (.u (2^j%18446744073709551616:Nat))∧(j=4∨2^(j-1)<max s a)) ?_ 60 ?_
 .rintro n ⟨tm,ds⟩ t ⟨hd,d,e,f,rfl,j,E,A,c,B⟩;simp only at hd d e f c;subst hd;obtain⟨x,hx⟩:=acH (2^j%18446744073709551616);rw[<- hx]at c;by_cases z:j=64
  .subst z;have q:x=0:=hx;have D:=Ey (s:=s) (a:=a) Q hs ha;subst q;simp (disch:=omega) only[go_sem,c,d,e,f];refine(ZW h).mono ?_;rintro _ t ⟨rfl,g⟩;simp (disch:=omega) only[go_sem,c];rw[Ti Q];exact⟨rfl,Gr.g.trans g⟩
  have m:2^j<2^64:=Y0 Q Q;rw[WR m]at hx;have y:0<2^j:=Yg j;have p:2^(j+1)=x*2:=by rw[hx,XO]
  by_cases c1:x<s∨x<a
  .have w:IntKind.u64.wrap ((x:Int)*2)=((2^(j+1)%18446744073709551616:Nat):Int):=by rw[p,NB];omega
   rcases c1 with c1|c1
   .simp (disch:=omega) only[go_sem,c,d,e,f,w];exact⟨n-1,Q,j+1,Q,Q,rfl,.inr (by rw[Zq];omega)⟩
   by_cases C:x<s <;> simp (disch:=omega) only[go_sem,c,d,e,f,w] <;>
    exact⟨n-1,Q,j+1,Q,Q,rfl,.inr (by rw[Zq];omega)⟩
  have o:aE s a=x:=by rw[hx];exact yG A Q Q B
  simp (disch:=omega) only[go_sem,c,d,e,f];refine(ZW h).mono ?_;rintro _ t ⟨rfl,g⟩;rw[o];by_cases r:4096*2^k<x
  .simp (disch:=omega) only[go_sem,c,Ti r];exact⟨rfl,Gr.g.trans g⟩
  simp (disch:=omega) only[go_sem,c,Tg r];exact Gr.g.trans g
 simp (disch:=omega) only[go_sem];exact⟨4,rfl,Q,rfl,.inl rfl⟩
end
section
variable {σ σ' s:St}
structure TP (σ s:St):Prop where
 next:σ.next≤s.next
 TE:∀ a,a<σ.next -> s.Tq.get a=σ.Tq.get a
 row:∀ g,g<σ.next -> s.row g=σ.row g
def TP.refl(σ:St):TP σ σ:=⟨Tx _,fun _ _=>rfl,fun _ _=>rfl⟩
def TP.trans(h:TP σ σ')(k:TP σ' s):TP σ s:=
 ⟨V4 h.next k.next,fun a ha=>(k.TE a (YY ha h.next)).trans (h.TE a ha),fun g hg=>(k.row g (YY hg h.next)).trans (h.row g hg)⟩
def _root_.AM.aH.ext(g:aH σ s):TP σ s:=⟨g.next,g.TE,fun k _=>by unfold St.row;rw[g.TX]⟩
section
variable {id off k m:Nat}
def TP.cell[e:NX σ m](g:TP σ s)(h:id<m):s.cell id off=σ.cell id off:=kK (g.TE _ (by rw[e.eq];exact h))
def TP.load[e:NX σ m](g:TP σ s)(h:id<m):s.load id off k=σ.load id off k:=kH (g.TE _ (by rw[e.eq];exact h))
end
def TP.Xv(h:TP σ s)(w:GW σ)(w':GW s){b:Nat}{o:AM.Obj}(l:σ.next≤b)(k:s.Tq.get b=some o)(hg:o.TG≠0){a:Nat}{q:AM.Obj}(ha:a<σ.next)(d:σ.Tq.get a=some q)(i:q.Ty=true):a∉s.row o.TG:=by
 intro j;obtain⟨f,m⟩:=w'.mem b o k hg;have c:s.Tq.get a=some q:=by rw[h.TE a ha,d]
 have e:=w'.TG _ a q j c i;obtain⟨n,g⟩:=w.mem a q d (by rw[e];exact hg);rw[e]at g;rw[h.row _ g]at f;have:=w.lt _ _ f;omega
section
variable {ι:Type} {has:ι -> Prop} {A:ι -> Nat} {c:ι -> cA}
def Wd.ext(h:Wd σ has A c)(e:TP σ s)(w:GW s):Wd s has A c where
 gw:=w
 Ub:=h.Ub.fQ (e.TE _ (h.Ub.lt h.gw))
 V2:=h.V2
 inj:=h.inj
 Ur i hi:=(h.Ur i hi).Vl (e.TE _ (h.lt hi))
 cut i j o hi hj hne ho hg:=by
  have a:σ.Tq.get (A i)=some o:=by rw[<- e.TE _ (h.lt hi)];exact ho
  rw[e.row _ (h.gw.mem _ _ a hg).2];exact h.cut i j o hi hj hne a hg
end
end
section
variable {σ σ' s:St}
def iP{b o n:Nat}{vs:List V}(h:∀i,i<n->σ.cell b (o+i)=vs[i]?)(k:vs.length=n)(hn:0<n):σ.load b o n=some vs:=by
 have a:=h 0 hn;rw[UQ Q]at a;unfold St.cell at a h;unfold St.load;split at a
 .rename_i g r m z t e;simp only[e]at h⊢;rw[rB (f:=fun j=>Tn vs (j-o)) n o (fun i d c=>by
   have:=h (i-o) Q;rw[(Q:o+(i-o)=i)]at this;rw[this];rw[UQ Q];exact(Uj some (iD (UQ Q))).symm)]
  refine Uj some (Z3 (by simp[k]) fun i d c=>?_);simp only[YX,abl];exact iD (by rw[(Q:o+i-o=i)];exact UQ c)
 cases a
structure Ls (σ:St) (z n:Nat) (vs:List V) (v:V):Prop where
 is:∃ q e,v=.slice q n e
 len:vs.length=n*z
 UH:0<n -> ∃ b o,v=.slice (some (b,o)) n z∧b<σ.next∧∀ i,i<n*z -> σ.cell b (o+i)=vs[i]?
def Ls.ext{z n:Nat}{vs:List V}{v:V}(h:Ls σ z n vs v)(e:TP σ s):Ls s z n vs v:=
 ⟨h.is,h.len,fun hn=>let ⟨b,o,d,a,c⟩:=h.UH hn;⟨b,o,d,YY a e.next,fun i hi=>by rw[e.cell a];exact c i hi⟩⟩
def fl{α:Type}(enc:α->List V)(l:List α):List V:=l.flatMap enc
section
variable {α:Type} {enc:α -> List V} {z:Nat} (hz:∀ a,(enc a).length=z)
include hz
def tv(l:List α):(fl enc l).length=l.length*z:=by
 unfold fl;induction l with
 |nil=>simp
 |cons a l b=>rw[List.flatMap_cons,UN,hz,b,TH,WS];omega
def OL:∀(l:List α) (i j:Nat) (h:i<l.length),j<z->(fl enc l)[i*z+j]?=(enc l[i])[j]?:=by
 intro l;induction l with
 |nil=>intro i j h;simp at h
 |cons a l c=>
  intro i j h b;show(enc a++fl enc l)[i*z+j]?=_;cases i with
  |zero=>rw[Wh (by rw[hz];omega)];simp
  |succ i=>
   rw[WM (by rw[hz,WS];omega),hz,show(i+1)*z+j-z=i*z+j by rw[WS];omega];exact c i j (by simpa using h) b
def zW:∀(l:List α) (i:Nat),(fl enc l).take (i*z)=fl enc (l.take i):=by
 intro l;induction l with
 |nil=>intro i;simp[fl]
 |cons a l b=>
  intro i;cases i with
  |zero=>simp[fl]
  |succ i=>
   show(enc a++fl enc l).take _=_;rw[Wa,WS,aaI,List.take_append,hz,VZ (by rw[hz];omega),(Q:z+i*z-z=i*z),b];rfl
def Ls.get{l:List α}{v:V}(h:Ls σ z l.length (fl enc l) v)(hp:0<z){i:Nat}(hi:i<l.length):
  ∃b o,v=.acL b o l.length z∧b<σ.next∧(∀j,j<z->σ.cell b (o+i*z+j)=(enc l[i])[j]?)∧σ.load b (o+i*z) z=some (enc l[i]):=by
 obtain⟨b,o,f,c,d⟩:=h.UH Q;have g:i*z+z≤l.length*z:=by rw[<- WS];exact UG _ hi
 have a:∀j,j<z->σ.cell b (o+i*z+j)=(enc l[i])[j]?:=fun j e=>by rw[Yb,d _ Q,OL hz l i j hi e]
 exact⟨b,o,f,c,a,iP a (hz _) hp⟩
end
structure Nl (σ s:St) (z n:Nat) (vs:List V) (v:V):Prop where
 len:vs.length=n*z
 UH:(n=0∧v=.slice none 0 0)∨∃ b,v=.slice (some (b,0)) n z∧σ.next≤b∧Row s b (n*z) (Tn vs)
def Nl.nil{z:Nat}:Nl σ s z 0 [] (.acJ):=⟨Y,.inl ⟨rfl,rfl⟩⟩
def Nl.ls{z n:Nat}{vs:List V}{v:V}(h:Nl σ s z n vs v)(w:GW s):Ls s z n vs v:=by
 rcases h.UH with⟨rfl,rfl⟩|⟨b,rfl,c,R⟩
 .exact⟨⟨_,_,rfl⟩,h.len,fun h=>(XK _ h).elim⟩
 refine⟨⟨_,_,rfl⟩,h.len,fun hn=>⟨b,0,rfl,?_,fun i hi=>?_⟩⟩
 .obtain⟨g,m,y,t,_,a,_⟩:=R;exact w.UL a
 rw[Vk,R.cell hi,UQ (by rw[h.len];exact hi)];exact Uj some (iD (UQ (by rw[h.len];exact hi)))
def Nl.Ui{z n:Nat}{vs:List V}{v:V}{s2:St}(h:Nl σ s z n vs v)(w:GW s)(e:TP s s2):Nl σ s2 z n vs v:=by refine⟨h.len,h.UH.imp id ?_⟩;rintro⟨b,i,c,g,m,y,t,f,a,d⟩;exact⟨b,i,c,g,m,y,t,f,by rw[e.TE _ (w.UL a)];exact a,d⟩
def HM{vs:List V}{z:Nat}(h:vs.length=1*z):(σ.ag vs).load σ.next 0 (1*z)=some vs:=by rw[<- h,(To.cg σ vs).load (off:=0) Q,uQ]
def Nl.tM{z n y:Nat}{vs x:List V}{v:V}(h:Nl σ s z n vs v)(e:TP σ s)(w0:GW σ)(w:GW s)(hz:z≠0)(hx:x.length=z)(hf:x.all V.Tr=true)(hy:(n+1)*y≤aq)(hn:n+1≤aq):
  ∃Z s',dj (s.ag x) z y v (.acL s.next 0 1 z)=some (Z,s')∧Nl σ s' z (n+1) (vs++x) Z∧TP σ s'∧GW s'∧s.next≤s'.next∧Z=.acL (s.next+1) 0 (n+1) z∧∀id n' f,To s id n' f->(∀m,v≠.acL id 0 m z)->To s' id n' f:=by
 have J:=HM (σ:=s) (vs:=x) (z:=z) Q;have q:GW (s.ag x):=w.new _ rfl;have j:TP σ (s.ag x):=e.trans (aH.new s _).ext;have d:(vs++x).length=(n+1)*z:=by rw[UN,h.len,hx,WS]
 rcases h.UH with⟨rfl,rfl⟩|⟨b,rfl,hb,R⟩
 .have Y:vs=[]:=aaz (by rw[h.len];simp);subst Y;have ha:dj (s.ag x) z y (.acJ) (.acL s.next 0 1 z)=some (.acL ((s.ag x).next) 0 1 z,(s.ag x).ag x):=by simp only[dj,hz,false_or,Option.isSome_none,U5,and_false,Ul,Nat.one_ne_zero,J,dc];rw[Ti ⟨hy,hn,hf⟩];rfl
  refine⟨_,_,ha,⟨d,.inr ⟨_,rfl,V4 j.next (Tx _),?_⟩⟩,j.trans (aH.new _ _).ext,q.new _ rfl,by show s.next≤s.next+1+1;omega,rfl,fun id n' f L _=>(L.Ui w (aH.new s _)).Ui q (aH.new _ _)⟩;have L:=(To.cg (s.ag x) x).row;exact L.congr Q fun _ _=>rfl
 have R1:Row (s.ag x) b (n*z) (Tn vs):=aH.row (aH.new s _) w R;obtain⟨v0,s',ha⟩:=lM R1 (esz:=z) (bytes:=y) (k:=1) (xl:=n) (vs:=x) Q hy hn hf;obtain⟨g,m,zz,t,TE,hg,Ur,hv,W,N,r⟩:=kF ha;have w2:=q.dc ha;subst hv;have K:dj (s.ag x) z y (.acL b 0 n z) (.acL s.next 0 1 z)=some (.acL ((s.ag x).next) 0 (n+1) z,s'):=by simp only[dj,hz,false_or,TV,Uq,false_and,Ul,Nat.one_ne_zero,J,ha]
 have ac:b<(s.ag x).next:=q.UL hg;have E:g≠0->σ.next≤g∧b∈(s.ag x).row g:=fun c=>by
  obtain⟨D,_⟩:=q.mem b _ hg c;refine⟨?_,D⟩;rcases Vm g σ.next with p|p
  .have I:(s.ag x).row g=σ.row g:=j.row g p;have H:b∈(s.ag x).row g:=D;rw[I]at H;have:=w0.lt _ _ H;omega
  exact p
 have B:∀a,a<σ.next->s'.Tq.get a=(s.ag x).Tq.get a:=by
  intro a l;have S:=j.next;have F:g≠0->a∈(s.ag x).row g->∀o,(s.ag x).Tq.get a=some o->o.Ty=false:=by
   intro c hm o u;cases J:o.Ty with
   |false=>rfl
   |true=>
    have e3:=q.TG _ _ _ hm u J;rw[j.TE a l]at u;have:=(w0.mem a o u (by rw[e3];exact c)).2;have:=(E c).1;omega
  rw[r,Tg Q];by_cases c1:g≠0∧a∈((s.ag x).row g).drop 8
  .rw[Ti c1,Tg Q,Ti (YG c1.2)];cases u:(s.ag x).Tq.get a with
   |none=>rfl
   |some o=>
    have:=F c1.1 (YG c1.2) o u;cases o <;> first|rfl|cases this
  rw[Tg c1,Tg Q];by_cases p:g≠0∧a∈(s.ag x).row g
  .rw[Ti p];cases u:(s.ag x).Tq.get a with
   |none=>rfl
   |some o=>
    have:=F p.1 p.2 o u;cases o <;> first|rfl|cases this
  rw[Tg p]
 have C:∀k,k<σ.next->s'.row k=(s.ag x).row k:=by
  intro k O;have S:=j.next;unfold St.row;rw[N,T.aJ,Tg];by_cases c:g=0
  .rw[Ti c];omega
  rw[Tg c];have:=(E c).1;omega
 refine⟨_,_,K,⟨d,.inr ⟨_,rfl,j.next,?_⟩⟩,⟨by have:=j.next;omega,fun a l=>(B a l).trans (j.TE a l),fun k O=>(C k O).trans (j.row k O)⟩,w2,by rw[W];show s.next≤s.next+1+1;omega,rfl,?_⟩
 rotate_left
 .intro id n' f L U;have L1:=L.Ui w (aH.new s (.acM x.length [] (ofList x)));obtain⟨m',z',t',P,X,M⟩:=L1;have A:(s.ag x).Tq.get id=some (.acM m' z' t'):=X;have h1:id≠b:=fun e=>U n (by rw[e])
  have h2:id≠(s.ag x).next:=by have:=q.UL A;omega
  have h3:¬(g≠0∧id∈(s.ag x).row g):=fun⟨D,I⟩=>D (q.TG _ _ _ I A rfl).symm
  exact⟨m',z',t',P,by rw[r,Tg h2,Tg (fun k=>h3 ⟨k.1,YG k.2⟩),Tg h1,Tg h3];exact A,M⟩
 have G:TE=vs:=by
  have D:=R1.load (off:=0) (k:=n*z) Q;have I:(s.ag x).load b 0 (n*z)=some TE:=by simp only[St.load,hg,Ur]
  rw[I,TC]at D;rw[D, <- h.len,uQ]
 refine⟨_,_,_,_,?_,by rw[r,Ti rfl],fun i hi=>?_⟩
 .rw[G,d];omega
 rw[cT,G,UQ (by rw[d];exact hi)];exact Uj some (iD (UQ (by rw[d];exact hi))).symm
def Nl.push{z n y:Nat}{vs x:List V}{v:V}(h:Nl σ s z n vs v)(e:TP σ s)(w0:GW σ)(w:GW s)(hz:z≠0)(hx:x.length=z)(g:x.all V.Tr=true)(hy:(n+1)*y≤aq)(hn:n+1≤aq):
  ∃a s',dj (s.ag x) z y v (.acL s.next 0 1 z)=some (a,s')∧Nl σ s' z (n+1) (vs++x) a∧TP σ s'∧GW s':=by
 obtain⟨a,s',b,c,d,f,_⟩:=h.tM e w0 w hz hx g hy hn;exact⟨a,s',b,c,d,f⟩
def Nl.O4{a:St}{z n y:Nat}{vs x:List V}{v:V}(h:Nl a s z n vs v)(t:σ.next≤a.next)(hs:a.next≤s.next)(e:TP σ s)(w0:GW σ)(w:GW s)(hz:z≠0)(hx:x.length=z)(u:x.all V.Tr=true)(hy:(n+1)*y≤aq)(hn:n+1≤aq):
  ∃g s',dj (s.ag x) z y v (.acL s.next 0 1 z)=some (g,s')∧Nl a s' z (n+1) (vs++x) g∧TP σ s'∧GW s'∧s.next≤s'.next∧∀id n' f,To s id n' f->id<a.next->To s' id n' f:=by
 have k:Nl σ s z n vs v:=⟨h.len,h.UH.imp (fun h=>h) fun⟨b,c,d,R⟩=>⟨b,c,V4 t d,R⟩⟩
 obtain⟨g,s',l,j,o,p,q,i,r⟩:=k.tM e w0 w hz hx u hy hn;refine⟨g,s',l,⟨j.len,?_⟩,o,p,q,fun id n' f L A=>r id n' f L fun m c=>?_⟩
 .rcases j.UH with⟨h,_⟩|⟨b,c,_,R⟩
  .omega
  refine .inr ⟨b,c,?_,R⟩;rw[i]at c;cases c;omega
 rcases h.UH with⟨_,rfl⟩|⟨b,rfl,d,_⟩
 .cases c
 cases c;omega
end
end
section
variable {σ σ':St}
def fW(H:aa)(A:Tu->Nat):Tu->cA:=fun s=>.row (H.size s) (H.cell A s)
abbrev HC{κ:Type}(σ:St)(A:Tu->Nat)(H:aa)(hasK:κ->Prop)(B:κ->Nat)(cK:κ->cA):Prop:=Wd σ (Sum.elim H.has hasK) (Sum.elim A B) (Sum.elim (fW H A) cK)
section
variable {κ:Type} {A:Tu -> Nat} {H H':aa} {hasK:κ -> Prop} {B:κ -> Nat} {cK:κ -> cA}
def HC.Wx(h:HC σ A H hasK B cK):aw σ A H:=jl h.left
def HC.call{Γ Γ':T AF}{M:List fK}{g:FuncId}{xs:List V}{P:V->(Tu->Nat)->Prop}(d:∀g x,Γ.get g=some x->Γ'.get g=some x)(f:∀m∈M,Γ.get m.g=none)(h:HC σ A H hasK B cK)(b:∀σ,aw σ A H->au Γ [] g xs σ fun v σ'=>∃A',aw σ' A' H'∧P v A'):
  au Γ' M g xs σ fun v σ'=>∃A',HC σ' A' H' hasK B cK∧P v A':=by
 refine(Wd.call (P:=fun v a A' e=>a=H'.has∧e=fW H' A'∧P v A') d f h fun s w=>(b s (jl w)).mono ?_).mono ?_
 .rintro v i ⟨A',R,c⟩;exact⟨_,A',_,lu R,rfl,rfl,c⟩
 rintro v i ⟨a,A',e,w,rfl,rfl,c⟩;exact⟨A',w,c⟩
def Wd.Qh{ι:Type}{has:ι->Prop}{A:ι->Nat}{c a:ι->cA}(h:Wd σ has A c)(b:∀i,has i->a i=c i∨∃n f n' f',c i=.row n f∧a i=.row n' f'∧n'≤n∧∀j,j<n'->f j=f' j):Wd σ has A a:=
 h.sub id (fun _ h=>h) (fun _ _ _ _ e=>e) (fun _ _=>rfl) b
end
inductive AI where
 |TA | Tm | cE | T1
 deriving DecidableEq
structure Mk where
 n:Nat
 Tm:Nat
 Tz:Nat
 TI:Nat
def Mk.e(m:Mk):V×V:=(.i m.n,.agg [.i m.n,.i m.Tm,.u m.Tz,.u m.TI])
structure AS where
 TD:Nat
 Vz:Bool
 Tm:List (Nat × Nat)
 Tz:Nat
 TI:Nat
 Wk:Bool
 ms:List Mk
 Wv:Bool
 TW:Nat
def AS.XD(S:AS):Int:=if S.Wk=true then 1 else 0
def AS.T1(S:AS):Option (List (V×V)):=if S.Wk=true then some (S.ms.map Mk.e)else none
def AS.cE(S:AS):List Int:=S.ms.map fun m=>(m.n:Int)
namespace AS
def has(S:AS):AI->Prop
 | .TA=>True
 | .Tm=>S.Vz=true
 | .cE=>S.Wv=true
 | .T1=>S.T1.isSome=true
def dp(S:AS)(B:AI->Nat):V:=if S.Vz=true then .acL (B .Tm) 0 S.Tm.length 2 else .acJ
def gY(S:AS)(B:AI->Nat):V:=if S.Wv=true then .acL (B .cE) 0 S.cE.length 1 else .acJ
def fF(S:AS)(B:AI->Nat):V:=if S.T1.isSome=true then .map (some (B .T1))else .map none
end AS
def fy(l:List (Nat×Nat))(i:Nat):V:=.u ((if i%2=0 then(l.getD (i/2) (0,0)).1 else(l.getD (i/2) (0,0)).2:Nat):Int)
def AS.X5(S:AS)(hp:Nat)(B:AI->Nat):AI->cA
 | .TA=>.row 11 (Tn [.acK hp 0,.u S.TD,S.dp B,.u S.Tz,.u S.TI,.int .u32 S.XD,.int .i32 0,.int .u32 0,S.fF B,S.gY B,.i S.TW])
 | .Tm=>.row (S.Tm.length*2) (fy S.Tm)
 | .cE=>.row S.cE.length fun i=>.i (S.cE.getD i 0)
 | .T1=>.map (S.T1.getD [])
abbrev AR(σ:St)(A:Tu->Nat)(H:aa)(B:AI->Nat)(S:AS):Prop:=HC σ A H S.has B (S.X5 (A .heap) B)
structure AS.OK (S:AS):Prop where
 Tm:∀ b,b∈S.Tm -> b.1+b.2≤9223372036854775808∧b.2≤8388608
 Tz:S.Tz≤8388608
 TI:S.TI<18446744073709551616
 TD:S.TD≤1048576
 nil:S.Vz=false -> S.Tm=[]
 Ww:S.Wv=false -> S.cE=[]
 Ue:S.Tm.length≤5000000000000
def tg{a:Nat}(h:cQ a=true):∃j,a=2^j:=by
 unfold cQ at h;simp only[Vs,Xg]at h;obtain⟨c,d⟩:=h;refine⟨a.log2,?_⟩;have e:2^a.log2≤a:=Nat.log2_self_le c;have b:a<2^(a.log2+1):=Nat.lt_log2_self;refine aax fun f=>?_
 have b1:a.testBit a.log2=true:=by rw[abC,Xg];have:a/2^a.log2=1:=ZJ Q (by rw[XO]at b;omega);rw[this]
 have b2:(a-1).testBit a.log2=true:=by rw[abC,Xg];have:(a-1)/2^a.log2=1:=ZJ Q (by rw[XO]at b;omega);rw[this]
 have:(a &&& (a-1)).testBit a.log2=true:=by rw[Nat.testBit_and,b1,b2];rfl
 rw[d,Nat.zero_testBit]at this;cases this
theorem CF{y j:Nat}(hy:y<18446744073709551616)(hj:j<64):mX .u64 (y:Int) ((2^j-1:Nat):Int)=((y/2^j*2^j:Nat):Int):=by
 have hp:=aK j;have hk2:2^j<2^64:=Y0 Q hj;have e:(BitVec.ofInt IntKind.u64.bits (y:Int) &&& ~~~ BitVec.ofInt IntKind.u64.bits ((2^j-1:Nat):Int)).toNat=y/2^j*2^j:=by
  rw[BitVec.toNat_and,BitVec.toNat_not,CR y Q,CR (2^j-1) Q,show IntKind.u64.bits=64 from rfl];apply ab7;intro i;rw[Nat.testBit_and,(Q:2^64-1-(2^j-1)=2^64-(2^j-1+1)),Nat.testBit_two_pow_sub_succ Q,aaR,Nat.testBit_div_two_pow,Nat.testBit_two_pow_sub_one];by_cases c:i<j
  .rw[UR c,UK (Q:¬i ≥ j)];simp
  rw[UK c,UR (Q:i ≥ j),(Q:i-j+j=i)];by_cases c64:i<64
  .simp[c64]
  have:y.testBit i=false:=Nat.testBit_lt_two_pow (YY hy (Vb Q Q:2^64≤2^i));rw[this];simp
 unfold mX;rw[e];have:y/2^j*2^j≤y:=Yr _ _;exact bm Q
def AS.Wj(S:AS)(m a:Nat):Option Nat:=match S.Tm.getLast? with
 |none=>none
 |some t=>if(t.1+S.Tz+a-1)/a*a+m≤t.1+t.2 then some ((t.1+S.Tz+a-1)/a*a)else none
def dX(H:aa)(S:AS)(n a:Nat)(d:Bool):aa×AS×Nat×Nat:=
 if cQ a=false then(H,S,0,1)
 else if H.Tp<max n 1∨H.Tp<a then(H,S,0,3)
 else match S.Wj (max n 1) a with
  |some p=>(H, { S with Tz:=p+max n 1-(S.Tm.getLast?.getD (0,0)).1,TI:=(S.TI+max n 1)%18446744073709551616 },p,0)
  |none=>if(H.held.df (max (max n 1) S.TD) a d).2.2=0 then
    ((H.held.df (max (max n 1) S.TD) a d).1.aC 0,
     { S with Vz:=true,Tm:=S.Tm++[((H.held.df (max (max n 1) S.TD) a d).2.1,(((H.held.df (max (max n 1) S.TD) a d).1.aC 0).eL (H.held.df (max (max n 1) S.TD) a d).2.1).getD 0)],Tz:=max n 1,TI:=(S.TI+max n 1)%18446744073709551616 },
     (H.held.df (max (max n 1) S.TD) a d).2.1,0)
   else((H.held.df (max (max n 1) S.TD) a d).1.aC 0,S,0,(H.held.df (max (max n 1) S.TD) a d).2.2)
structure T3 (H:aa):Prop where
 UB:rZ H
 V0:V9 H
 lock:H.lock=0
section
variable {A:Tu -> Nat} {H:aa} {B:AI -> Nat} {S:AS}
def JH(e:aw σ A H):au G0 [] 120 [.acK (A .heap) 0] σ fun r s=>r=.agg [.u H.Tj,.i H.TB,.i H.Th]∧aH σ s:=by refine ai g120 rfl ?_;have f:=aH.new σ (.acM 3 [.u 0,.i 0,.i 0] .nil);have d:=e.new (.acM 3 [.u 0,.i 0,.i 0] .nil) rfl;have c:=d.load (s:=.heap) trivial (off:=2) (k:=3) (Q:2+3≤7);rw[show((List.range 3).map fun j=>H.cell A .heap (2+j))=[V.u H.Tj,.i H.TB,.i H.Th]from rfl]at c;have b:=aQ (σ:=σ) (z:=[.u 0,.i 0,.i 0]) (vs:=[V.u H.Tj,.i H.TB,.i H.Th]) (n:=3) Y rfl;have L:=To.Ts σ 3 [.u 0,.i 0,.i 0] [V.u H.Tj,.i H.TB,.i H.Th] rfl;have a:=L.load (off:=0) (k:=3) Q;rw[show((List.range 3).map fun j=>Tn [V.u H.Tj,.i H.TB,.i H.Th] (0+j))=[V.u H.Tj,.i H.TB,.i H.Th]from rfl]at a;simp only[go_sem,TH,TK,c,aj,b,a];exact aH.Ts _ _ _ _
def Oo(e:aw σ A H)(ok:H.OK):au G0 [] 60 [.acK (A .heap) 0] σ fun r s=>r=.u H.Tp∧aH σ s:=by
 refine ai g60 rfl ?_;obtain⟨v,h,⟨rfl,d⟩,f⟩:=JH e;have g:=ok.VI;have hz:=Es ok;have b:(0:Int)≤(H.Th:Int):=Q;have c:jc .u64 4096 (H.Th:Int)=(H.Tp:Int):=by unfold aa.Tp at hz;exact gP (a:=4096) (n:=H.Th) Q Q
 simp only[go_sem];refine ab f ?_;simp only[go_sem,aT,b,c];exact d
end
end
section
variable {σ σ':St} {A:Tu -> Nat} {H:aa} {B:AI -> Nat} {S:AS}
def Wd.dF{ι:Type}{has:ι->Prop}{A:ι->Nat}{c:ι->cA}{Γ:T AF}{g:FuncId}{xs:List V}{P:V->Prop}(h:Wd σ has A c)(r:au Γ [] g xs σ fun v σ'=>P v∧aH σ σ'):au Γ [] g xs σ fun v σ'=>P v∧aH σ σ'∧Wd σ' has A c:=by refine(r.gw h.gw).mono ?_;rintro v σ' ⟨⟨b,a⟩,h3⟩;exact⟨b,a,h.Ui a h3⟩
def yk(σ:St)(vs:List V):(σ.ag vs).load σ.next 0 vs.length=some vs:=by have L:=To.cg σ vs;rw[L.load (off:=0) (k:=vs.length) Q];congr 1;apply Z3 Y;intro i b a;simp[Tn,U7,UQ a]
def Wd.push{ι:Type}[DecidableEq ι]{has:ι->Prop}{A:ι->Nat}{c:ι->cA}(h:Wd σ has A c){i0:ι}{xl esz bytes:Nat}{f:Nat->V}{vs:List V}{sl:V}(hs:(has i0∧sl=.acL (A i0) 0 xl esz∧c i0=.row (xl*esz) f)∨(¬has i0∧sl=.acJ∧xl=0))(hz:0<esz)(hv:vs.length=esz)(n:(xl+1)*bytes≤aq)(o:xl+1≤aq)(l:vs.all V.Tr=true):
  ∃b s,AM.dj (σ.ag vs) esz bytes sl (.acL σ.next 0 1 esz)=some (.acL b 0 (xl+1) esz,s)∧Wd s (fun i=>has i∨i=i0) (cu A i0 b) (cu c i0 (.row (xl*esz+esz) fun j=>if j<xl*esz then f j else Tn vs (j-xl*esz))):=by
 have g:Wd (σ.ag vs) has A c:=h.new _ rfl;have a:=yk σ vs;rw[hv]at a;rcases hs with⟨hi,rfl,e⟩|⟨hi,rfl,rfl⟩
 .obtain⟨s,ha,hn,W⟩:=g.append hi e (esz:=esz) (bytes:=bytes) (k:=1) (xl:=xl) (vs:=vs) rfl n o l;refine⟨(σ.ag vs).next,s,?_,?_⟩
  .unfold AM.dj;simp only[WH,a];rw[Tg (by rintro(h|⟨h,_⟩);omega;exact h rfl),Tg Q];exact ha
  rw[hv]at W;refine W.sub id ?_ (fun _ _ _ _ e=>e) (fun _ _=>rfl) fun _ _=>.inl rfl
  rintro k (m|rfl)
  .exact m
  exact hi
 refine⟨(σ.ag vs).next,(σ.ag vs).ag vs,?_,?_⟩
 .unfold AM.dj;simp only[WH,a];rw[Tg (by rintro(h|⟨_,h⟩);omega;cases h),Tg Q];unfold AM.dc;rw[Ti ⟨n,o,l⟩];simp only[TT]
 have W:=g.cells hi vs;refine W.sub id (fun _ h=>h) (fun _ _ _ _ e=>e) (fun _ _=>rfl) ?_;rintro k m;by_cases d:k=i0
 .subst d;right;refine⟨_,_,_,_,aF ..,aF ..,Q,?_⟩;intro j p;rw[Tg Q,aaS,Zr]
 left;rw[aA d];exact(aA d).symm
def AS.Dh(S:AS)(l:List V):AI->cA
 | .TA=>.row 11 (Tn l)
 | .Tm=>.row (S.Tm.length*2) (fy S.Tm)
 | .cE=>.row S.cE.length fun i=>.i (S.cE.getD i 0)
 | .T1=>.map (S.T1.getD [])
def AS.Up(S:AS)(hp:Nat)(B:AI->Nat):List V:=[.acK hp 0,.u S.TD,S.dp B,.u S.Tz,.u S.TI,.int .u32 S.XD,.int .i32 0,.int .u32 0,S.fF B,S.gY B,.i S.TW]
def AS.Bl(S:AS)(hp:Nat)(B:AI->Nat):S.X5 hp B=S.Dh (S.Up hp B):=by funext i;cases i <;> rfl
abbrev AH(σ:St)(A:Tu->Nat)(H:aa)(B:AI->Nat)(S:AS)(l:List V):Prop:=HC σ A H S.has B (S.Dh l)
def AR.h(h:AR σ A H B S):AH σ A H B S (S.Up (A .heap) B):=by unfold AR HC at h;rw[AS.Bl]at h;exact h
def AH.ar(h:AH σ A H B S (S.Up (A .heap) B)):AR σ A H B S:=by unfold AR HC;rw[AS.Bl];exact h
variable {l:List V}
def AH.c(h:AH σ A H B S l){k:Nat}(a:k<11):σ.cell (B .TA) k=some (Tn l k):=h.cell (i:=.inr .TA) trivial rfl a
def AH.store(h:AH σ A H B S l)(d:l.length=11){k:Nat}{v:V}(b:k<11)(a:v.Tr=true):∃s,σ.store (B .TA) k [v]=some s∧AH s A H B S (l.set k v)∧s.next=σ.next:=by
 obtain⟨s,e,W,hn⟩:=Wd.store h (i:=(Sum.inr AI.TA:Tu ⊕ AI)) trivial (n:=11) (f:=Tn l) rfl (off:=k) (vs:=[v]) (by show k+1≤11;omega) (by simp[a]);refine⟨s,e,W.sub id (fun _ h=>h) (fun _ _ _ _ e=>e) (fun _ _=>rfl) ?_,hn⟩;rintro(i|i) hi
 .left;show _=cu _ _ _ (Sum.inl i);rw[aA (by intro h;cases h)];rfl
 cases i with
 |TA=>
  right;refine⟨_,_,11,Tn (l.set k v),aF ..,rfl,Tx _,?_⟩;intro j g;unfold UO Tn;by_cases c:k=j
  .subst c;rw[Ti Y];simp[U7,d,b]
  rw[Tg (by simp;omega)];simp[U7,abj c]
 |_=>left;show _=cu _ _ _ (Sum.inr _);rw[aA (by intro h;cases h)];rfl
def AH.push(h:AH σ A H B S l)(a:S.OK)(b:Nat×Nat):∃b' s,AM.dj (σ.ag [.u b.1,.u b.2]) 2 16 (S.dp B) (.acL σ.next 0 1 2)=some (.acL b' 0 (S.Tm.length+1) 2,s)∧
  AH s A H (fun i=>if i=.Tm then b' else B i) { S with Vz:=true,Tm:=S.Tm++[b] } l:=by
 obtain⟨b',s,ha,W⟩:=Wd.push h (i0:=.inr .Tm) (xl:=S.Tm.length) (esz:=2) (bytes:=16) (f:=fy S.Tm) (vs:=[.u b.1,.u b.2]) (sl:=S.dp B) (by
   unfold AS.dp;by_cases c:S.Vz=true
   .rw[Ti c];exact .inl ⟨c,rfl,rfl⟩
   rw[Tg c];refine .inr ⟨c,rfl,?_⟩;rw[a.nil (by simpa using c)];rfl) Q rfl (by have:=a.Ue;unfold aq;omega) (by have:=a.Ue;unfold aq;omega) rfl
 refine⟨b',s,ha,W.sub id ?_ (fun _ _ _ _ e=>e) ?_ ?_⟩
 .rintro(i|i) hi
  .exact .inl hi
  cases i with
  |Tm=>exact .inr rfl
  |_=>exact .inl hi
 .rintro(i|i) hi
  .show _=cu _ _ _ (Sum.inl i);rw[aA (by intro h;cases h)];rfl
  cases i with
  |Tm=>exact(aF ..).symm
  |_=>show _=cu _ _ _ (Sum.inr _);rw[aA (by intro h;cases h)];rfl
 rintro(i|i) hi
 .left;show _=cu _ _ _ (Sum.inl i);rw[aA (by intro h;cases h)];rfl
 cases i with
 |Tm=>
  right;refine⟨_,_,(S.Tm++[b]).length*2,fy (S.Tm++[b]),aF ..,rfl,(by rw[UN,YF];omega),?_⟩;intro j g;rw[UN,YF]at g;by_cases d:j<S.Tm.length*2
  .rw[Ti d];unfold fy;simp[U7,Wh (Q:j/2<S.Tm.length)]
  rw[Tg d];unfold fy;simp only[U7,WM (Q:S.Tm.length≤j/2),(Q:j/2-S.Tm.length=0)];rcases(by omega:j=S.Tm.length*2∨j=S.Tm.length*2+1)with rfl|rfl
  .rw[Ti Q];simp[Tn]
  rw[Tg Q];simp[Tn]
 |_=>left;show _=cu _ _ _ (Sum.inr _);rw[aA (by intro h;cases h)];rfl
def BO(a b:Nat):AM.kS true (.u (a:Int)) [.u (b:Int)]=some (.u ((max a b:Nat):Int)):=by
 simp only[AM.kS,TT];by_cases c:a<b
 .rw[aaO Q];simp[show(a:Int)<(b:Int)from Q]
 rw[ZN Q];simp[show ¬(a:Int)<(b:Int)from Q]
end
section
variable {σ σ':St} {A:Tu -> Nat} {H:aa} {B:AI -> Nat} {S:AS} {H':aa} {fl pl fc:Nat -> List Nat}
def AR.c0(h:AR σ A H B S):σ.cell (B .TA) 0=some (.acK (A .heap) 0):=(AR.h h).c (k:=0) Q
def AR.c1(h:AR σ A H B S):σ.cell (B .TA) 1=some (.u S.TD):=(AR.h h).c (k:=1) Q
def AR.c2(h:AR σ A H B S):σ.cell (B .TA) 2=some (S.dp B):=(AR.h h).c (k:=2) Q
def AR.c3(h:AR σ A H B S):σ.cell (B .TA) 3=some (.u S.Tz):=(AR.h h).c (k:=3) Q
def AR.c4(h:AR σ A H B S):σ.cell (B .TA) 4=some (.u S.TI):=(AR.h h).c (k:=4) Q
def vA(H:aa)(S:AS)(m a:Nat)(d:Bool):aa×AS×Nat×Nat:=
 if(H.held.df (max m S.TD) a d).2.2=0 then
    ((H.held.df (max m S.TD) a d).1.aC 0,
     { S with Vz:=true,Tm:=S.Tm++[((H.held.df (max m S.TD) a d).2.1,(((H.held.df (max m S.TD) a d).1.aC 0).eL (H.held.df (max m S.TD) a d).2.1).getD 0)],Tz:=m,TI:=(S.TI+m)%18446744073709551616 },
     (H.held.df (max m S.TD) a d).2.1,0)
   else((H.held.df (max m S.TD) a d).1.aC 0,S,0,(H.held.df (max m S.TD) a d).2.2)
def xj(hg:T3 H)(hS:S.OK){m a:Nat}(hm:m<18446744073709551616)(ha:a<18446744073709551616){d:Bool}:
  ∀(s:St),AR s A H B S->∀(fr:AM.Fr) (K:fA),fr.defers=[]->fr.tmps.get 0=some (.acK (B .TA) 0)->fr.tmps.get 1=some (.u m)->fr.tmps.get 2=some (.u a)->fr.tmps.get 3=some (.bool d) →
   (∀Tw s' A' B',Tw.defers=[]->AR s' A' (vA H S m a d).1 B' (vA H S m a d).2.1->A' .heap=A .heap->B' .TA=B .TA->Tw.tmps.get 8=some (.u (vA H S m a d).2.2.1)->Tw.tmps.get 9=some (.i (vA H S m a d).2.2.2)->K .ret Tw s') →
   wp G0 [] (Vp (Vr (Vr (Vr (Vr (Vr c18.body)))))) fr s K:=by
 rintro s R ⟨tm,ds⟩ K t I J L N j;simp only at t I J L N;subst t;rw[lE];obtain⟨fl,pl,fc,hI⟩:=hg.UB;have hx:max m S.TD<18446744073709551616:=by have:=hS.TD;omega
 obtain⟨v,s1,⟨O,U,f,l⟩,C⟩:=HC.call (Γ:=G0) (Γ':=G0) (M:=[]) (fun _ _ h=>h) (fun _ h=>nomatch h) R fun s hs=>CS hs hI hg.lock hx ha d
 subst l;have y:=hI.aC 1;have b:=(y.df hx ha d).1;have z:=(y.df hx ha d).2;unfold vA at j;rw[show H.aC 1=H.held from rfl]at b z;generalize hq:H.held.df (max m S.TD) a d=q at *;obtain⟨n,p,e⟩:=q;simp only at j U C b z;have g:AR s1 O (n.aC 0) B S:=by unfold AR;rw[f];exact U
 have m1:=BO m S.TD;simp only[Vr,c18];simp only[go_sem,I,J,L,N,R.c0,R.c1,kh,m1];refine ab C ?_;have k0:s1.cell (B .TA) 0=some (.acK (A .heap) 0):=by rw[<- f];exact g.c0
 have k1:=g.c1;by_cases c:e=0
 .subst c;rw[Ti rfl]at j;have c1:¬(((0:Nat):Int)≠0):=Q;simp only[go_sem,I,J,L,N,k0,k1,kh,m1,c1];have am:∀x,S.dp x=S.dp x:=fun _=>rfl
  obtain⟨al,ax,ah,X⟩:=b;have Y:=X.aC 0;obtain⟨v,s2,⟨T,R2,r,l⟩,D⟩:=HC.call (Γ:=G0) (Γ':=G0) (M:=[]) (P:=fun v A'=>A' .heap=O .heap∧v=match (n.aC 0).eL p with|some w=>.tuple [.u w,.i 0]|none=>.tuple [.u 0,.i 1]) (fun _ _ h=>h) (fun _ h=>nomatch h) U fun s hs=>(yE hs Y rfl p).mono fun v s' ⟨h1,h2⟩=>⟨O,h1,rfl,h2⟩
  rw[f]at D;obtain⟨w,x,hw,ag⟩:∃(w:Nat) (x:Int),((n.aC 0).eL p).getD 0=w∧v=.tuple [.u w,.i x]:=by
   cases hh:(n.aC 0).eL p with
   |some w=>rw[hh]at l;exact⟨w,0,rfl,l⟩
   |none=>rw[hh]at l;exact⟨0,1,rfl,l⟩
  subst ag;rw[hw]at j;have o:AR s2 T (n.aC 0) B S:=by unfold AR;rw[r,f];exact R2
  obtain⟨b3,s3,Z,R3⟩:=AH.push (AR.h o) hS (p,w);obtain⟨s4,ac,R4,ao⟩:=R3.store (by rfl) (k:=2) (v:=.acL b3 0 (S.Tm.length+1) 2) Q rfl;obtain⟨s5,ad,R5,ap⟩:=R4.store (by simp[AS.Up]) (k:=3) (v:=.u m) Q rfl;have g5:=R5.c (k:=4) Q;obtain⟨s6,af,R6,av⟩:=R5.store (by simp[AS.Up]) (k:=4) (v:=.u ((S.TI+m)%18446744073709551616:Nat)) Q rfl;have q2:s2.cell (B .TA) 2=some (S.dp B):=o.c2;have E:s3.store (B .TA) 2 [.acL b3 0 (S.Tm.length+1) 2]=some s4:=ac;have F:s4.store (B .TA) 3 [.u m]=some s5:=ad;have G:s5.store (B .TA) 4 [.u ((S.TI+m)%18446744073709551616:Nat)]=some s6:=af;have W:s5.cell (B .TA) 4=some (.u S.TI):=g5;have eu:IntKind.u64.wrap ((S.TI:Int)+(m:Int))=(((S.TI+m)%18446744073709551616:Nat):Int):=by rw[<- abd];unfold IntKind.wrap;simp[IntKind.bits,IntKind.signed,Int.emod]
  have f1:bZ [V.u 0,.u 0] [(0,1,V.u p),(1,1,V.u w)]=some [V.u p,.u w]:=rfl;have f2:bZ (bL [V.u 0,.u 0] 1) [(0,2,V.agg [V.u p,.u w])]=some [V.u p,.u w]:=rfl;refine⟨by rw[R.c0,R.c1];simp only[dD,ZZ],?_⟩;refine ab D ?_;simp only[go_sem,I,J,L,N,q2,TH,TK,aj,aD,az,aG,f1,f2,Z,E,F,G,W,eu];refine j _ s6 T (fun i=>if i=AI.Tm then b3 else B i) rfl ?_ (r.trans f) rfl ?_ ?_
  .refine AH.ar ?_;have e:AS.Up { S with Vz:=true,Tm:=S.Tm++[(p,w)],Tz:=m,TI:=(S.TI+m)%18446744073709551616 } (T .heap) (fun i=>if i=AI.Tm then b3 else B i)=((((S.Up (T .heap) B).set 2 (.acL b3 0 (S.Tm.length+1) 2)).set 3 (.u m)).set 4 (.u ((S.TI+m)%18446744073709551616:Nat))):=by simp[AS.Up,AS.dp,AS.fF,AS.gY,AS.T1,AS.cE,AS.XD]
   rw[e];exact R6
  .simp only[go_sem]
  simp only[go_sem];rfl
 rw[Tg c]at j;have c1:((e:Nat):Int)≠0:=Q;simp only[go_sem,I,J,L,N,k0,k1,kh,m1,c1,TV,Ug];refine⟨by rw[R.c0,R.c1];simp only[dD,ZZ],?_⟩;refine j _ s1 O B rfl g f rfl ?_ ?_
 .simp only[go_sem];rfl
 simp only[go_sem]
def xh{κ:Type}{hasK:κ->Prop}{a:κ->Nat}{cK:κ->cA}(h:HC σ A H hasK a cK)(ok:H.OK):
  au G0 [] 60 [.acK (A .heap) 0] σ fun r s=>r=.u H.Tp∧HC s A H hasK a cK:=
 (Wd.dF h (Oo h.Wx ok)).mono fun _ _ ⟨b,_,c⟩=>⟨b,c⟩
def K8{l:List (Nat×Nat)}{t:Nat×Nat}(h:l.getLast?=some t):0<l.length∧l.getD (l.length-1) (0,0)=t:=by
 rw[ab2]at h;have a:0<l.length:=by
  rcases Wi l.length with z|z
  .rw[Xk Q]at h;cases h
  exact z
 exact⟨a,by rw[U7,h];rfl⟩
def uK{l:List (Nat×Nat)}{i:Nat}{t:Nat×Nat}(h:l.getD i (0,0)=t):((List.range 2).map fun j=>fy l (i*2+j))=[V.u t.1,.u t.2]:=by show [fy l (i*2+0),fy l (i*2+1)]=_;unfold fy;rw[Ti Q,Tg Q,(Q:(i*2+0)/2=i),(Q:(i*2+1)/2=i),h]
def AS.vF{S:AS}{m a:Nat}{t:Nat×Nat}(h:S.Tm.getLast?=some t):S.Wj m a=if(t.1+S.Tz+a-1)/a*a+m≤t.1+t.2 then some ((t.1+S.Tz+a-1)/a*a)else none:=by unfold AS.Wj;rw[h]
def Dx(h:AR σ A H B S)(hg:T3 H)(K:S.OK){n a:Nat}(hn:n<18446744073709551616)(ha:a<18446744073709551616)(d:Bool):
  au G0 [] 18 [.acK (B .TA) 0,.u n,.u a,.bool d] σ fun r s=>∃A' B',AR s A' (dX H S n a d).1 B' (dX H S n a d).2.1∧A' .heap=A .heap∧B' .TA=B .TA∧r=.tuple [.u (dX H S n a d).2.2.1,.i (dX H S n a d).2.2.2]:=by
 refine ai g18 rfl ?_;refine lD 5 ?_;rw[fT,fT,fT,fT,fT,fT];obtain⟨fl,pl,fc,hI⟩:=hg.UB;have ok:=hI.ok;unfold dX;by_cases N:(a:Int)=0
 .have M:cQ a=false:=by rw[(Q:a=0)];rfl
  rw[Ti M];simp only[go_sem,N];exact⟨A,B,h,rfl,rfl,rfl⟩
 have J:IntKind.u64.wrap ((a:Int)-1)=((a-1:Nat):Int):=bK (b:=1) Q ha;have e2:=aar (a:=a) (b:=a-1) ha Q;by_cases c1:a &&& (a-1)=0
 .have M:cQ a=true:=by unfold cQ;simp;exact⟨Q,c1⟩
  rw[Tg (by rw[M];simp)];have o:¬(((a &&& (a-1):Nat):Int)≠0):=by rw[c1];simp
  have m1:=BO n 1;rw[show((1:Nat):Int)=1 from rfl]at m1;have y:max n 1<18446744073709551616:=Q;obtain⟨m,hm⟩:∃m,max n 1=m:=⟨_,rfl⟩;rw[hm]at m1 y⊢;have hz:=ke ok;obtain⟨v,s1,⟨hv,R1⟩,I⟩:=xh h ok;subst hv;have D:AR s1 A H B S:=R1;obtain⟨v,s2,⟨hv,R2⟩,X⟩:=xh R1 ok;subst hv;have l:AR s2 A H B S:=R2;by_cases c2:H.Tp<m
  .rw[Ti (.inl c2)];have C:(H.Tp:Int)<(m:Int):=Q;simp only[go_sem,N,J,e2,o,h.c0,kh,m1];refine ab I ?_;simp only[go_sem,C,D.c0];exact⟨A,B,R1,rfl,rfl,rfl⟩
  have C:¬(H.Tp:Int)<(m:Int):=Q;by_cases c3:H.Tp<a
  .rw[Ti (.inr c3)];have w:(H.Tp:Int)<(a:Int):=Q;simp only[go_sem,N,J,e2,o,h.c0,kh,m1];refine ab I ?_;simp only[go_sem,C,D.c0];refine ab X ?_;simp only[go_sem,w];exact⟨A,B,R2,rfl,rfl,rfl⟩
  rw[Tg Q];have w:¬(H.Tp:Int)<(a:Int):=Q;simp only[go_sem,N,J,e2,o,h.c0,kh,m1];refine ab I ?_;simp only[go_sem,C,D.c0];refine ab X ?_;cases O:S.Tm.getLast? with
  |none=>
   have W:S.Tm=[]:=abm.mp O;have R:∃q z,S.dp B=.slice q 0 z:=by
    unfold AS.dp;by_cases c:S.Vz=true
    .rw[Ti c,W];exact⟨_,_,rfl⟩
    rw[Tg c];exact⟨_,_,rfl⟩
   obtain⟨q,z,R⟩:=R;have k2:s2.cell (B .TA) 2=some (.slice q 0 z):=by rw[<- R];exact l.c2
   have g:S.Wj m a=none:=by unfold AS.Wj;rw[O]
   have c4:¬((0:Int)<((0:Nat):Int)):=Q;simp only[go_sem,w,k2,c4];refine xj hg K y ha (d:=d) _ l _ _ rfl ?_ ?_ ?_ ?_ ?_
   .simp only[go_sem]
   .simp only[go_sem]
   .simp only[go_sem]
   .simp only[go_sem]
   rintro⟨tm,ds⟩ s' A' B' x R' F G t8 t9;simp only at x t8 t9;subst x;simp only[go_sem,t8,t9];rw[g];exact⟨A',B',R',F,G,rfl⟩
  |some t=>
   obtain⟨hk,ht⟩:=K8 O;have hC:S.Vz=true:=by
    cases hh:S.Vz with
    |true=>rfl
    |false=>rw[K.nil hh]at hk;exact absurd hk Y
   have R:S.dp B=.acL (B .Tm) 0 S.Tm.length 2:=by unfold AS.dp;rw[Ti hC]
   have k2:s2.cell (B .TA) 2=some (.acL (B .Tm) 0 S.Tm.length 2):=by rw[<- R];exact l.c2
   have ao:=K.Ue;have U:s2.load (B .Tm) ((S.Tm.length-1)*2) 2=some [V.u t.1,.u t.2]:=by have:=Wd.load l (i:=(Sum.inr AI.Tm:Tu ⊕ AI)) hC (n:=S.Tm.length*2) (f:=fy S.Tm) rfl (off:=(S.Tm.length-1)*2) (k:=2) Q;rw[uK ht]at this;exact this
   have c4:(0:Int)<(S.Tm.length:Int):=Q;have e4:IntKind.i64.wrap ((S.Tm.length:Int)-1)=((S.Tm.length-1:Nat):Int):=bV (b:=1) Q Q;have c5:(0:Int)≤((S.Tm.length-1:Nat):Int)∧((S.Tm.length-1:Nat):Int)<(S.Tm.length:Int):=Q;obtain⟨P,Z⟩:=t;have ac:=aQ (σ:=s2) (z:=[.u 0,.u 0]) (vs:=[.u P,.u Z]) (n:=2) Y rfl;have L:=To.Ts s2 2 [.u 0,.u 0] [.u P,.u Z] rfl;have R3:AR (s2.Ts 2 [.u 0,.u 0] [.u P,.u Z]) A H B S:=Wd.Ts l Y rfl;have l0:=L.cell (i:=0) Q;have l1:=L.cell (i:=1) Q;rw[show Tn [V.u P,.u Z] 0=.u P from rfl]at l0;rw[show Tn [V.u P,.u Z] 1=.u Z from rfl]at l1;have a3:=R3.c3;have ap:P+Z≤9223372036854775808:=(K.Tm (P,Z) (by
    have:S.Tm.getLast?=some (P,Z):=O;exact Zp this)).1
   have ay:=K.Tz;obtain⟨j,hj⟩:=tg M;have T:j<64:=by
    refine aax fun c=>?_
    have:2^64≤2^j:=Vb Q Q;omega
   have w1:IntKind.u64.wrap ((P:Int)+(S.Tz:Int))=((P+S.Tz:Nat):Int):=bD Q;have w2:IntKind.u64.wrap (((P+S.Tz:Nat):Int)+(a:Int))=((P+S.Tz+a:Nat):Int):=bD Q;have w3:IntKind.u64.wrap (((P+S.Tz+a:Nat):Int)-1)=((P+S.Tz+a-1:Nat):Int):=bK (b:=1) Q Q;have w4:mX .u64 ((P+S.Tz+a-1:Nat):Int) ((a-1:Nat):Int)=(((P+S.Tz+a-1)/a*a:Nat):Int):=by rw[hj];exact CF Q T
   have ag:P+S.Tz≤(P+S.Tz+a-1)/a*a:=by have:=XJ (P+S.Tz+a-1) a;have h2:=Wt (P+S.Tz+a-1) (Q:0<a);rw[UF]at this;omega
   have af:(P+S.Tz+a-1)/a*a≤P+S.Tz+a-1:=Yr _ _;have g:=AS.vF (S:=S) (m:=m) (a:=a) O;simp only at g;obtain⟨p,ah⟩:=acH ((P+S.Tz+a-1)/a*a);rw[<- ah]at w4 ag af g;have w5:IntKind.u64.wrap ((p:Int)+(m:Int))=((p+m:Nat):Int):=bD Q;have w6:IntKind.u64.wrap ((P:Int)+(Z:Int))=((P+Z:Nat):Int):=bD Q;have w7:IntKind.u64.wrap (((p+m:Nat):Int)-(P:Int))=((p+m-P:Nat):Int):=bK Q Q;by_cases c6:p+m≤P+Z
   .have E:((p+m:Nat):Int)≤((P+Z:Nat):Int):=Q;rw[g,Ti c6];obtain⟨s4,al,R4,av⟩:=(AR.h R3).store (by rfl) (k:=3) (v:=.u (p+m-P:Nat)) Q rfl;have g4:=R4.c (k:=4) Q;have ad:s4.cell (B .TA) 4=some (.u S.TI):=g4;obtain⟨s5,am,R5,ax⟩:=R4.store (by simp[AS.Up]) (k:=4) (v:=.u ((S.TI+m)%18446744073709551616:Nat)) Q rfl;have eu:IntKind.u64.wrap ((S.TI:Int)+(m:Int))=(((S.TI+m)%18446744073709551616:Nat):Int):=by rw[<- abd];unfold IntKind.wrap;simp[IntKind.bits,IntKind.signed,Int.emod]
    simp only[go_sem,w,k2,c4,e4,c5,Us,U,TZ,aj,az,TH,TK,ac,l0,l1,a3,w1,w2,w3,J,w4,w5,w6,E,al,ad,eu,am,w7];refine⟨A,B,AH.ar ?_,rfl,rfl,rfl⟩;have e:AS.Up { S with Tz:=p+m-P,TI:=(S.TI+m)%18446744073709551616 } (A .heap) B=(((S.Up (A .heap) B).set 3 (.u (p+m-P:Nat))).set 4 (.u ((S.TI+m)%18446744073709551616:Nat))):=by simp[AS.Up,AS.dp,AS.fF,AS.gY,AS.T1,AS.cE,AS.XD]
    rw[e];exact R5
   have E:¬((p+m:Nat):Int)≤((P+Z:Nat):Int):=Q;rw[Tg c6]at g;rw[g];simp only[go_sem,w,k2,c4,e4,c5,Us,U,TZ,aj,az,TH,TK,ac,l0,l1,a3,w1,w2,w3,J,w4,w5,w6,E];refine xj hg K y ha (d:=d) _ R3 _ _ rfl ?_ ?_ ?_ ?_ ?_
   .simp only[go_sem]
   .simp only[go_sem]
   .simp only[go_sem]
   .simp only[go_sem]
   rintro⟨tm,ds⟩ s' A' B' x R' F G t8 t9;simp only at x t8 t9;subst x;simp only[go_sem,t8,t9];exact⟨A',B',R',F,G,rfl⟩
 have M:cQ a=false:=by unfold cQ;simp;exact fun _=>c1
 rw[Ti M];have o:((a &&& (a-1):Nat):Int)≠0:=Q;simp only[go_sem,N,J,e2,o,TV,Ug];exact⟨A,B,h,rfl,rfl,rfl⟩
structure jA (H H':aa) (d:Bool) (p s:Nat):Prop where
 Ty:∀ a w,aV H' a w↔aV H a w∨(a=p∧w=s)
 new:∀ a w,aV H a w -> a+w≤p∨p+s≤a
 bytes:Zl H H'
 V0:V9 H -> V9 H'
 Tj:H'.Tj=H.Tj
 Th:H'.Th=H.Th
 TB:H'.TB=H.TB
 Tl:H'.Tl=H.Tl∨(d=false∧H.Tl<H.TB∧H'.Tl=H.Tl+1)
 al:p%s=0
 lo:H.Tj≤p
 hi:p+s≤H'.Tj+4096*H'.np
def eR.Tl{k p:Nat}{d:Bool}(n:eR H k d H' (some p)):H'.Tl=H.Tl∨(d=false∧H.Tl<H.TB∧H'.Tl=H.Tl+1):=by
 cases n with
 |TE h t=>exact .inl t.T6.Tl
 |Yu c a b g t=>exact .inr ⟨a,b,by rw[t.T6.Tl,g.Tl]⟩
def Qt(ok:H.OK){x k:Nat}(d:k≤H.Th)(h:x%2^k=0):H.Tk x%(4096*2^k)=0:=by
 have c:=ok.fU;have a:4096*2^k∣H.Tj:=by refine WE ?_ (WQ c);unfold aa.Tp;exact abx _ (XN 2 d)
 have b:4096*2^k∣4096*x:=abx _ (WQ h);exact Yc (by unfold aa.Tk;exact ZL a b)
def eR.ZT(h:Tv H fl pl fc (fun _=>False)){k p:Nat}{d:Bool}(c:k≤H.Th)(n:eR H k d H' (some p)):jA H H' d (H.Tk p) (4096*2^k):=by obtain⟨b1,b2,b3,f,g,b⟩:=n.Tj;have:=b p rfl;refine⟨fun a w=>n.Ty,fun a w e=>n.VS h e,n.bytes h,n.V0,b1,b2,b3,n.Tl,Qt h.ok c n.is.1,by unfold aa.Tk;omega,?_⟩;rw[b1];unfold aa.Tk;generalize 2^k=z at *;omega
def BJ.ZT(h:Tv H fl pl fc (fun _=>False)){p q c:Nat}{d:Bool}(k:c<8)(t:BJ H H' p q c)(e:(0≤H.part c∧H'.cJ H)∨(¬0≤H.part c∧∃a,eR H 0 d a (some p)∧H'.cJ a)):jA H H' d (H.Tk p+q*(16*2^c)) (16*2^c):=by
 have b:H'.Tj=H.Tj∧H'.Th=H.Th∧H'.TB=H.TB:=by
  rcases e with⟨_,s⟩|⟨_,a,n,s⟩
  .exact⟨s.Tj,s.Th,s.TB⟩
  obtain⟨b1,b2,b3,_⟩:=n.Tj;exact⟨s.Tj.trans b1,s.Th.trans b2,s.TB.trans b3⟩
 have w:=w8 k;have f:=t.cell;have l:=t.Tf;have x:q*(16*2^c)+16*2^c≤4096:=by have:(q+1)*(16*2^c)≤(256/2^c)*(16*2^c):=UG _ Q;rw[UW,WH,UF (256/2^c),w.1]at this;exact this
 refine⟨t.Ty,t.new,t.bytes,t.V0,b.1,b.2.1,b.2.2,?_,?_,by unfold aa.Tk;omega,?_⟩
 .rcases e with⟨_,s⟩|⟨_,a,n,s⟩
  .exact .inl s.Tl
  rcases n.Tl with r|⟨m,o,v⟩
  .exact .inl (s.Tl.trans r)
  exact .inr ⟨m,o,s.Tl.trans v⟩
 .have g:16*2^c∣4096:=⟨256/2^c,w.1.symm⟩;have i:16*2^c∣H.Tj:=WE g (WQ (zk h.ok));have j:16*2^c∣4096*p:=WE g (abr _ _);exact Yc (ZL (by unfold aa.Tk;exact ZL i j) (aaL _ _))
 rw[b.1];unfold aa.Tk;generalize q*(16*2^c)=u at *;generalize 16*2^c=z at *;omega
def Tv.D9(h:Tv H fl pl fc (fun _=>False)){b:Nat}(l:4≤b)(j:¬H.Tp<2^b)(d:Bool):match (H.eD (2^b) d).2 with
  |some p=>jA H (H.eD (2^b) d).1 d p (2^b)
  |none=>(H.eD (2^b) d).1=H:=by
 unfold aa.eD;rcases mI h.ok l j with⟨c,a,f,g,i⟩|⟨k,a,f,g,i⟩
 .rw[Ti g,i];have:=h.Jw a d;cases e:(H.fR c d).2 with
  |some x=>
   rw[e]at this;simp only[Xd];rw[f];exact this.1.ZT h a this.2
  |none=>
   rw[e]at this;exact this.1
 rw[Tg g,i];obtain⟨n,_⟩:=h.dU a d;cases e:(H.dU k d).2 with
 |some p=>
  rw[e]at n;simp only[Xd];rw[f];exact n.ZT h a
 |none=>
  rw[e]at n;simp only[ZO];generalize hg:(H.dU k d).1=G at n;cases n;rfl
inductive jP (H:aa) (n a:Nat) (d:Bool):aa × Nat × Nat -> Prop
 |Xx:cQ a=false -> jP H n a d (H,0,1)
 |Yj:cQ a=true -> H.Tp<aE n a -> jP H n a d (H,0,3)
 |Yi:cQ a=true -> ¬ H.Tp<aE n a -> jP H n a d (H,0,2)
 |ok {H':aa} {p:Nat}:cQ a=true -> ¬ H.Tp<aE n a -> jA H H' d p (aE n a) -> jP H n a d (H',p,0)
def Tv.rn(h:Tv H fl pl fc (fun _=>False)){n a:Nat}(hn:n<18446744073709551616)(ha:a<18446744073709551616)(d:Bool):jP H n a d (H.df n a d):=by
 unfold aa.df;by_cases c:cQ a=false
 .rw[Ti c];exact .Xx c
 rw[Tg c];have j:cQ a=true:=by cases hx:cQ a;exact(c hx).elim;rfl
 by_cases i:H.Tp<aE n a
 .rw[Ti i];exact .Yj j i
 rw[Tg i];obtain⟨b,k,e⟩:=iQ hn ha;have g:=h.D9 k (by rw[<- e];exact i) d;rw[<- e]at g;split at g
 .rename_i p f;rw[f];exact .ok j i g
 rename_i f;rw[f,g];exact .Yi j i
theorem iU{l:Int}{a w:Nat}:aV (H.aC l) a w↔aV H a w:=Iff.rfl
def jA.QJ{d:Bool}{p s:Nat}(g:jA H.held H' d p s):jA H (H'.aC 0) d p s:=
 ⟨fun a w=>g.Ty a w,fun a w=>g.new a w,fun a s h=>g.bytes a s h,fun h=>g.V0 h,g.Tj,g.Th,g.TB,g.Tl,g.al,g.lo,g.hi⟩
def T3.wq(h:rZ H)(a:V9 H):T3 (H.aC 0):=by obtain⟨fl,pl,fc,i⟩:=h;exact⟨⟨fl,pl,fc,i.aC 0⟩,a,rfl⟩
def dg(H:aa)(n a:Nat)(d:Bool):aa×Nat×Nat:=((H.held.df n a d).1.aC 0,(H.held.df n a d).2)
def T3.alloc(g:T3 H){n a:Nat}(hn:n<18446744073709551616)(ha:a<18446744073709551616)(d:Bool):jP H n a d (dg H n a d)∧T3 (dg H n a d).1:=by
 obtain⟨fl,pl,fc,i⟩:=g.UB;have j:=i.aC 1;have f:=(j.df hn ha d).1;have hi:=j.rn hn ha d;have k:=g.lock;unfold dg aa.held
 revert hi f
 generalize (H.aC 1).df n a d=r;intro f hi;have e:(H.aC 1).aC 0=H:=ff k;cases hi with
 |Xx c=>simp only;rw[e];exact⟨.Xx c,g⟩
 |Yj c b=>simp only;rw[e];exact⟨.Yj c b,g⟩
 |Yi c b=>simp only;rw[e];exact⟨.Yi c b,g⟩
 |ok c b h=>exact⟨.ok c b (jA.QJ h),T3.wq f (h.V0 g.V0)⟩
end
section
variable {σ σ':St} {A:Tu -> Nat} {H H':aa} {B:AI -> Nat} {S:AS} {fl pl fc:Nat -> List Nat}
def oM:∀(N lo:Nat) (l:List Nat),l.Nodup->(∀x∈l,lo≤x∧x<lo+N)->l.length≤N:=by
 intro N;induction N with
 |zero=>
  intro lo l _ h;cases l with
  |nil=>exact Tx _
  |cons x r=>have:=h x (VY ..);omega
 |succ N b=>
  intro lo l hn h;have a:(l.erase (lo+N)).length≤N:=by
   refine b lo _ (hn.erase _) fun x hx=>?_
   rw[hn.mem_erase_iff]at hx;have:=h x hx.2;omega
  rw[List.length_erase]at a;split at a <;> omega
def Tv.b8(h:Tv H fl pl fc (fun _=>False)){a s:Nat}(b:aV H a s):H.Tj≤a∧a+s≤H.Tj+4096*H.np∧16≤s:=by
 obtain⟨x,hx,b⟩:=b;have hs:16≤s∧H.Tj≤a:=by
  rcases b with⟨_,k,_,rfl,rfl⟩|⟨_,c,q,_,_,_,rfl,rfl⟩
  .have:=aK k;refine⟨Q,by unfold aa.Tk;omega⟩
  have:=aK c;refine⟨Q,by unfold aa.Tk;omega⟩
 obtain⟨y,j,d,e,f,_⟩:=h.fa hx b (i:=s-1) Q;exact⟨hs.2,Q,hs.1⟩
def ka(ok:H.OK):H.np≤1024:=by have a:=ok.X7;have b:H.Tl*2^H.Th≤H.TB*2^H.Th:=UG _ ok.We;unfold aa.np;omega
def mS(ok:H.OK):H.Tj+4096*H.np≤9223372036854775808:=by have b:=ok.XT;have a:H.Tp*H.Tl≤H.Tp*H.TB:=Xu _ ok.We;rw[tn]at a;omega
structure jv (H:aa) (S:AS):Prop where
 Ty:∀ b,b∈S.Tm -> aV H b.1 b.2
 Zz:(S.Tm.map (·.1)).Nodup
 Tz:S.Tz≤8388608
 TI:S.TI<18446744073709551616
 TD:S.TD≤H.Tp
 nil:S.Vz=false -> S.Tm=[]
 Ww:S.Wv=false -> S.cE=[]
def jv.ok(g:T3 H)(h:jv H S):S.OK:=by
 obtain⟨fl,pl,fc,i⟩:=g.UB;have c:=mS i.ok;have d:=ka i.ok;have e:=ke i.ok;refine⟨fun b a=>?_,h.Tz,h.TI,by have:=h.TD;omega,h.nil,h.Ww,?_⟩
 .have:=i.b8 (h.Ty b a);omega
 have:=oM (4096*H.np) H.Tj _ h.Zz fun x hx=>by obtain⟨b,a,rfl⟩:=V3.1 hx;have:=i.b8 (h.Ty b a);omega
 rw[Wz]at this;omega
def o5{n a:Nat}(hn:n<18446744073709551616)(ha:a<18446744073709551616):n≤aE n a:=by
 unfold aE kf;rw[Tg Q];have:max (max n a) 16-1<2^UP (max (max n a) 16-1):=by unfold UP;rw[Tg Q];exact Nat.lt_log2_self
 omega
def jv.alloc(g:T3 H)(h:jv H S){n a:Nat}(hn:n<18446744073709551616)(ha:a<18446744073709551616)(d:Bool):
  T3 (dX H S n a d).1∧jv (dX H S n a d).1 (dX H S n a d).2.1:=by
 obtain⟨fl,pl,fc,i⟩:=g.UB;have hz:=ke i.ok;unfold dX;by_cases c:cQ a=false
 .rw[Ti c];exact⟨g,h⟩
 rw[Tg c];by_cases u:H.Tp<max n 1∨H.Tp<a
 .rw[Ti u];exact⟨g,h⟩
 rw[Tg u];cases j:S.Wj (max n 1) a with
 |some p=>
  refine⟨g,h.Ty,h.Zz,?_,Wt _ Q,h.TD,h.nil,h.Ww⟩;unfold AS.Wj at j;cases q:S.Tm.getLast? with
  |none=>rw[q]at j;cases j
  |some t=>
   rw[q]at j;simp only at j;split at j
   .rename_i C;cases j;have:=i.b8 (h.Ty t (Zp q));have A:=ka i.ok;simp only[Xc];omega
   cases j
 |none=>
  have hx:max (max n 1) S.TD<18446744073709551616:=by have:=h.TD;omega
  obtain⟨hi,hg⟩:=g.alloc hx ha d;unfold dg at hi hg
  revert hi hg
  generalize H.held.df (max (max n 1) S.TD) a d=r;obtain⟨G,p,e⟩:=r;simp only;intro hi hg;by_cases o:e=0
  .subst o;rw[Ti rfl];refine⟨hg,?_⟩;generalize B:G.aC 0=m at hi hg;cases hi with
   |ok E F l=>
    obtain⟨z,D,w,v⟩:=hg.UB;have k:aV m p (aE (max (max n 1) S.TD) a):=(l.Ty _ _).2 (.inr ⟨rfl,rfl⟩);have s:=v.gX k;rw[s];simp only[Xc];refine⟨?_,?_,by show max n 1≤8388608;omega,Wt _ Q,?_,Y,h.Ww⟩
    .intro b f;rcases VJ.1 f with f|f
     .exact(l.Ty _ _).2 (.inl (h.Ty b f))
     rw[VP]at f;subst f;exact k
    .rw[WA,WN];refine⟨h.Zz,Y,?_⟩;intro x hx y hy;obtain⟨b,f,rfl⟩:=V3.1 hx;simp only[Xr,List.map_nil,VP]at hy;subst hy;have I:=l.new _ _ (h.Ty b f);have A:=i.b8 (h.Ty b f);have J:=v.b8 k;omega
    have:m.Tp=H.Tp:=by unfold aa.Tp;rw[l.Th]
    rw[this];exact h.TD
  rw[Tg o];refine⟨hg,?_⟩;generalize B:G.aC 0=m at hi hg;cases hi with
  |ok=>exact(o rfl).elim
  |_=>exact h
def HC.of{κ:Type}(R:aw σ A H)(B:κ->Nat)(c:κ->cA):HC σ A H (fun _:κ=>False) B c:=by
 refine(lu R).sub (fun k=>match k with| .inl s=>s| .inr _=>.heap) ?_ ?_ ?_ ?_
 .rintro(k|k) a
  .exact a
  exact a.elim
 .rintro(k|k) (l|l) a b e
  .exact Uj _ e
  .exact b.elim
  .exact a.elim
  exact a.elim
 .rintro(k|k) a
  .rfl
  exact a.elim
 rintro(k|k) a
 .exact .inl rfl
 exact a.elim
def ie(c:Nat):AS:={ TD:=c,Vz:=false,Tm:=[],Tz:=0,TI:=0,Wk:=false,ms:=[],Wv:=false,TW:=0 }
def uM(h:aw σ A H)(ok:H.OK){c:Nat}(o:c<18446744073709551616):
  au G0 [] 17 [.acK (A .heap) 0,.u c] σ fun r s=>if c=0 then r=.tuple [.ptr none,.i 1]∧aw s A H else if H.Tp<c then r=.tuple [.ptr none,.i 3]∧aw s A H else ∃b,r=.tuple [.acK b 0,.i 0]∧AR s A H (fun _=>b) (ie c):=by
 refine ai g17 rfl ?_;by_cases d:c=0
 .have f:(c:Int)=0:=Q;simp only[go_sem,f];rw[Ti d];exact h
 have f:¬(c:Int)=0:=Q;obtain⟨v,p,⟨n,l⟩,j⟩:=xh (HC.of (κ:=AI) h (fun _=>0) (fun _=>.map [])) ok;subst n;simp only[go_sem,f];refine ab j ?_;by_cases c1:H.Tp<c
 .have g:(H.Tp:Int)<(c:Int):=Q;simp only[go_sem,g];rw[Tg d,Ti c1];exact jl l.left
 have g:¬(H.Tp:Int)<(c:Int):=Q;have m:bZ [V.ptr none,V.u 0,V.acJ,V.u 0,V.u 0,V.int .u32 0,V.int .i32 0,V.int .u32 0,V.map none,V.acJ,V.i 0] [(0,1,V.acK (A .heap) 0),(1,1,V.u c)]=some [V.acK (A .heap) 0,V.u c,V.acJ,V.u 0,V.u 0,V.int .u32 0,V.int .i32 0,V.int .u32 0,V.map none,V.acJ,V.i 0]:=rfl;simp only[go_sem,g,aG,m,aj,TH,TK];rw[Tg d,Tg c1];refine⟨_,rfl,?_⟩;have W:=Wd.cells l (i0:=(Sum.inr AI.TA:Tu ⊕ AI)) (fun h=>h) [V.acK (A .heap) 0,V.u c,V.acJ,V.u 0,V.u 0,V.int .u32 0,V.int .i32 0,V.int .u32 0,V.map none,V.acJ,V.i 0];refine W.sub id ?_ (fun _ _ _ _ e=>e) ?_ ?_
 .rintro(k|k) a
  .exact .inl a
  cases k with
  |TA=>exact .inr rfl
  |Tm=>exact nomatch (show false=true from a)
  |cE=>exact nomatch (show false=true from a)
  |T1=>exact nomatch (show(none:Option (List (V×V))).isSome=true from a)
 .rintro(k|k) a
  .show _=cu _ _ _ _;rw[aA (by intro h;cases h)];rfl
  cases k with
  |TA=>exact aF.symm
  |Tm=>exact nomatch (show false=true from a)
  |cE=>exact nomatch (show false=true from a)
  |T1=>exact nomatch (show(none:Option (List (V×V))).isSome=true from a)
 rintro(k|k) a
 .left;show _=cu _ _ _ _;rw[aA (by intro h;cases h)];rfl
 cases k with
 |TA=>left;exact aF.symm
 |Tm=>exact nomatch (show false=true from a)
 |cE=>exact nomatch (show false=true from a)
 |T1=>exact nomatch (show(none:Option (List (V×V))).isSome=true from a)
def yV{ar z:Nat}{q:Option (Nat×Nat)}(a:σ.cell ar 2=some (.slice q 0 z)):
  au G0 [] 19 [.acK ar 0] σ fun r s=>r=.acJ∧s=σ:=by
 refine ai g19 rfl ?_;have ha:AM.dj σ 2 16 (.acJ) (.slice q 0 z)=some (.acJ,σ):=rfl;simp only[go_sem,a,ha]
def zq{ar b n:Nat}{vs:List V}(a:σ.cell ar 2=some (.acL b 0 n 2))(hn:0<n)(hx:n≤5000000000000)(d:σ.load b 0 (n*2)=some vs)(c:vs.all V.Tr=true):
  au G0 [] 19 [.acK ar 0] σ fun r s=>r=.acL σ.next 0 n 2∧s=σ.ag vs:=by
 refine ai g19 rfl ?_;have ha:AM.dj σ 2 16 (.acJ) (.acL b 0 n 2)=some (.acL σ.next 0 n 2,σ.ag vs):=by unfold AM.dj;simp only[d];rw[Tg (by rintro(h|⟨_,h⟩);omega;cases h),Tg Q];unfold AM.dc;rw[Ti ⟨by unfold aq;omega,by unfold aq;omega,c⟩];simp only[TT]
 simp only[go_sem,a,ha]
def Aw(h:AR σ A H B S):au G0 [] 28 [.acK (B .TA) 0] σ fun r s=>r=.u S.TI∧s=σ:=by refine ai g28 rfl ?_;have a:=AR.c4 h;simp only[go_sem,a]
def dC(l:List (Nat×Nat)):Nat:=(l.map (·.2)).sum
def yP{l:List (Nat×Nat)}{i:Nat}(h:i<l.length):dC (l.take (i+1))=dC (l.take i)+(l.getD i (0,0)).2:=by unfold dC;rw[List.take_add_one,UQ h,WA,List.sum_append];simp[U7,UQ h]
def BM(h:AR σ A H B S)(C:S.OK):au G0 [] 29 [.acK (B .TA) 0] σ fun r s=>r=.u (dC S.Tm%18446744073709551616:Nat)∧aH σ s:=by
 refine ai g29 rfl ?_;have y:=AR.c2 h;obtain⟨q,z,J,K⟩:∃q z,S.dp B=.slice q S.Tm.length z∧(0<S.Tm.length->q=some (B .Tm,0)∧z=2∧S.Vz=true):=by
  unfold AS.dp;by_cases c:S.Vz=true
  .rw[Ti c];exact⟨_,_,rfl,fun _=>⟨rfl,rfl,c⟩⟩
  rw[Tg c];have:=C.nil (by simpa using c);rw[this];exact⟨_,_,rfl,fun h=>absurd h Y⟩
 rw[J]at y;have D:=C.Ue;simp only[go_sem,y];refine bW (fun(n:Nat) (fr:AM.Fr) (s:St)=>fr.defers=[]∧fr.tmps.get 9=some (.slice q S.Tm.length z)∧fr.tmps.get 10=some (.i S.Tm.length)∧aH σ s∧∃i:Nat,fr.tmps.get 11=some (.i i)∧i+n=S.Tm.length∧fr.tmps.get 3=some (.u (dC (S.Tm.take i)%18446744073709551616:Nat))) ?_ S.Tm.length ?_
 .rintro n ⟨tm,ds⟩ s ⟨hd,x,e,g,i,j,hi,w⟩;simp only at hd x e j w;subst hd;by_cases c:i<S.Tm.length
  .obtain⟨rfl,rfl,I⟩:=K Q;have p:(i:Int)<(S.Tm.length:Int):=Q;have E:(0:Int)≤(i:Int)∧(i:Int)<(S.Tm.length:Int):=Q;have F:IntKind.i64.wrap ((i:Int)+1)=((i+1:Nat):Int):=bj (a:=i) (b:=1) Q;have o:=Wd.row h (i:=(Sum.inr AI.Tm:Tu ⊕ AI)) I (n:=S.Tm.length*2) (f:=fy S.Tm) rfl;have d:=aH.row g h.gw o;have l:=d.load (off:=i*2) (k:=2) Q;obtain⟨t,ht⟩:∃t,S.Tm.getD i (0,0)=t:=⟨_,rfl⟩;rw[uK ht]at l;have m:s.load (B .Tm) (i*2) 2=some [V.u t.1,.u t.2]:=l;have v:=aQ (σ:=s) (z:=[.u 0,.u 0]) (vs:=[.u t.1,.u t.2]) (n:=2) Y rfl;have L:=To.Ts s 2 [.u 0,.u 0] [.u t.1,.u t.2] rfl;have l1:=L.cell (i:=1) Q;rw[show Tn [V.u t.1,.u t.2] 1=.u t.2 from rfl]at l1;have G:IntKind.u64.wrap (((dC (S.Tm.take i)%18446744073709551616:Nat):Int)+(t.2:Int))=((dC (S.Tm.take (i+1))%18446744073709551616:Nat):Int):=by rw[yP c,ht, <- abd];unfold IntKind.wrap;simp[IntKind.bits,IntKind.signed,Int.emod]
   simp only[go_sem,x,e,j,w,p,E,Us,TZ,m,aj,az,TH,TK,v,l1,G,F];exact⟨n-1,Q,g.trans (aH.Ts _ _ _ _),i+1,rfl,Q,rfl⟩
  have p:¬((i:Int)<(S.Tm.length:Int)):=Q;simp only[go_sem,x,e,j,w,p];rw[VZ Q];exact⟨rfl,g⟩
 simp only[go_sem];exact⟨aH.refl _,0,rfl,Q,rfl⟩
def jR(H:aa)(a:Nat):aa:=((H.aC 1).mh a).1.aC 0
def cz(H:aa):List Nat->aa
 | []=>H
 |a ::r=>cz (jR H a) r
inductive mM (H:aa) (a:Nat):aa -> Prop
 |no:(∀ w, ¬ aV H a w) -> mM H a H
 |yR {H':aa} {w:Nat}:aV H a w -> Gv H H' a -> mM H a H'
def T3.Vf(g:T3 H)(a:Nat):mM H a (jR H a)∧T3 (jR H a):=by
 obtain⟨fl,pl,fc,i⟩:=g.UB;have j:=i.aC 1;have l:=g.lock;have e:(H.aC 1).aC 0=H:=ff l;unfold jR aa.mh;by_cases c:a=0
 .rw[Ti c];simp only;rw[e];refine⟨.no fun w hw=>?_,g⟩;have:=i.b8 hw;have:=i.ok.Wc;omega
 rw[Tg c];cases hs:(H.aC 1).eL a with
 |some w=>
  obtain⟨k,d⟩:=j.lO hs;have f:aV H a w:=iU.1 (j.Oz hs);exact⟨.yR f ⟨fun b s=>d.Ty b s,fun b s h=>d.bytes b s h,fun h=>d.V0 h,⟨d.T6.Th,d.T6.Tj,d.T6.Tl,d.T6.TB⟩⟩,T3.wq k (d.V0 g.V0)⟩
 |none=>
  simp only;rw[e];refine⟨.no fun w hw=>?_,g⟩;have:=j.gX (iU.2 hw);rw[hs]at this;cases this
def eV(S:AS)(n:Nat):List Nat:=((S.Tm.drop n).map (·.1)).reverse
def KG{K:St->Prop}(l:List Nat):∀{σ:St} {A:Tu->Nat} {H:aa},AR σ A H B S->T3 H->(∀s,AR s A (cz H l) B S->K s)->iL G0 [] (l.map fun(p:Nat)=>(72,[.acK (A .heap) 0,.u p])) σ K:=by
 induction l with
 |nil=>intro σ A H R g b;exact b σ R
 |cons a r f=>
  intro σ A H R g b;rw[Xr,b7];refine⟨.inl ⟨_,g72⟩,?_⟩;obtain⟨fl,pl,fc,i⟩:=g.UB;refine(HC.call (Γ:=G0) (Γ':=G0) (M:=[]) (H':=jR H a) (P:=fun _ c=>c=A) (fun _ _ h=>h) (fun _ h=>nomatch h) R fun s hs=>(FK hs i g.lock a).mono fun v k ⟨e,j⟩=>⟨A,e,rfl⟩).mono ?_;rintro v s ⟨c,d,rfl⟩;exact f d (g.Vf a).2 b
def Gj(h:AR σ A H B S)(hg:T3 H)(W:S.OK){n:Nat}(hn:n≤S.Tm.length):
  au G0 [] 102 [.acK (B .TA) 0,.i n] σ fun r s=>AR s A (cz H (eV S n)) B { S with Tm:=S.Tm.take n }:=by
 refine ai g102 rfl ?_;have U:=AR.c2 h;have Z:=W.Ue;obtain⟨q,D,z,z',X,I,J,hq,G⟩:∃q D z z',S.dp B=.slice q S.Tm.length z∧fE 2 (.slice q S.Tm.length z) (some (.i n)) none=some (.slice D (S.Tm.length-n) z)∧fE 2 (.slice q S.Tm.length z) none (some (.i n))=some (.slice q n z)∧(0<S.Tm.length->D=some (B .Tm,n*2)∧z=2∧S.Vz=true)∧AS.dp { S with Tm:=S.Tm.take n } B=.slice q n z:=by
  unfold AS.dp;by_cases c:S.Vz=true
  .rw[Ti c];have P:=kz (esz:=2) (id:=B .Tm) (off:=0) (len:=S.Tm.length) (k:=.i64) (i:=(n:Int)) Q Q;have T:=pt (esz:=2) (id:=B .Tm) (off:=0) (len:=S.Tm.length) (k:=.i64) (i:=(n:Int)) Q Q;rw[TZ,Vk]at P;rw[TZ]at T;refine⟨_,_,_,0,rfl,P,T,fun _=>⟨rfl,rfl,c⟩,?_⟩;simp only;rw[Ti c,Va,Xb hn]
  rw[Tg c];have x:=W.nil (by simpa using c);rw[x]at hn⊢;have F:n=0:=by simpa using hn
  subst F;refine⟨none,none,0,0,rfl,rfl,rfl,fun h=>absurd h Y,?_⟩;simp only;rw[Tg c]
 rw[X]at U;have ac:((S.Tm.length-n:Nat):Int)=(S.Tm.length:Int)-n:=Q;simp only[go_sem,U,I];refine bW (fun(m:Nat) (fr:AM.Fr) (s:St)=>fr.tmps.get 0=some (.acK (B .TA) 0)∧fr.tmps.get 1=some (.i n)∧fr.tmps.get 11=some (.slice D (S.Tm.length-n) z)∧fr.tmps.get 12=some (.i (S.Tm.length-n:Nat))∧AR s A H B S∧∃i:Nat,fr.tmps.get 13=some (.i i)∧i+m=S.Tm.length-n∧fr.defers=(((S.Tm.drop n).take i).map (·.1)).reverse.map fun(p:Nat)=>(72,[V.acK (A .heap) 0,.u p])) ?_ (S.Tm.length-n) ?_
 .rintro m ⟨tm,ds⟩ s ⟨M,N,d,g,R,i,l,hi,hd⟩;simp only at M N d g l hd;by_cases c:i<S.Tm.length-n
  .obtain⟨rfl,rfl,hC⟩:=hq Q;have E:(i:Int)<((S.Tm.length-n:Nat):Int):=Q;have d2:(0:Int)≤(i:Int)∧(i:Int)<((S.Tm.length-n:Nat):Int):=Q;have e9:IntKind.i64.wrap ((i:Int)+1)=((i+1:Nat):Int):=bj (a:=i) (b:=1) Q;have y:=Wd.row R (i:=(Sum.inr AI.Tm:Tu ⊕ AI)) hC (n:=S.Tm.length*2) (f:=fy S.Tm) rfl;have o:=y.load (off:=(n+i)*2) (k:=2) Q;obtain⟨t,ht⟩:∃t,S.Tm.getD (n+i) (0,0)=t:=⟨_,rfl⟩;rw[uK ht]at o;have w:s.load (B .Tm) (n*2+i*2) 2=some [V.u t.1,.u t.2]:=by rw[<- UW];exact o
   have K:=aQ (σ:=s) (z:=[.u 0,.u 0]) (vs:=[.u t.1,.u t.2]) (n:=2) Y rfl;have L:=To.Ts s 2 [.u 0,.u 0] [.u t.1,.u t.2] rfl;have C:AR (s.Ts 2 [.u 0,.u 0] [.u t.1,.u t.2]) A H B S:=Wd.Ts R Y rfl;have l0:=L.cell (i:=0) Q;rw[show Tn [V.u t.1,.u t.2] 0=.u t.1 from rfl]at l0;have a0:=AR.c0 C;simp only[go_sem,M,N,d,g,l,E,d2,Us,TZ,w,aj,az,TH,TK,K,l0,a0,e9];refine⟨m-1,Q,C,i+1,rfl,Q,?_⟩;rw[List.take_add_one,Z4,UQ Q,hd];rw[U7,UQ (Q:n+i<S.Tm.length),Xc]at ht;rw[ht];simp
  have E:¬((i:Int)<((S.Tm.length-n:Nat):Int)):=Q;obtain⟨s1,hs,C,ad⟩:=(AR.h R).store (by rfl) (k:=2) (v:=.slice q n z) Q rfl;have O:=AR.c2 R;rw[X]at O;simp only[go_sem,M,N,d,g,l,E,O,J,aD,TH,TK,hs];rw[hd,VZ (by rw[Z5];omega)];have R2:AR s1 A H B { S with Tm:=S.Tm.take n }:=by
   refine AH.ar ?_;have e:AS.Up { S with Tm:=S.Tm.take n } (A .heap) B=(S.Up (A .heap) B).set 2 (.slice q n z):=by unfold AS.Up;rw[G];rfl
   rw[e];refine Wd.sub C id (fun _ h=>h) (fun _ _ _ _ e=>e) (fun _ _=>rfl) ?_;rintro(k|k) hk
   .exact .inl rfl
   cases k with
   |Tm=>
    refine .inr ⟨_,_,(S.Tm.take n).length*2,fy (S.Tm.take n),rfl,rfl,?_,?_⟩
    .rw[Va];omega
    intro j hj;rw[Va]at hj;unfold fy;simp[U7,YD,(Q:j/2<n)]
   |_=>exact .inl rfl
  refine KG (eV S n) R2 hg fun s' R'=>?_
  exact R'
 simp only[go_sem];exact⟨h,0,rfl,Q,rfl⟩
def gLd:G0.get 191=some (.ext .aal):=by kernel_rfl
def gSt:G0.get 240=some (.ext .aap):=by kernel_rfl
def Ac{id off:Nat}{n:Int}(h:σ.cell id off=some (.int .u32 n)):au G0 [] 148 [.acK id off] σ fun r s=>r=.bool (decide (n≠0))∧s=σ:=by
 refine ai g148 rfl ?_;have a:au G0 [] 191 [.acK id off] σ fun r s=>r=.int .u32 n∧s=σ:=lL gLd rfl (show AM.dA .aal _ _=some (.int .u32 n,σ) by simp only[AM.dA,h]) ⟨rfl,rfl⟩
 obtain⟨v,s,⟨rfl,rfl⟩,a⟩:=a;simp only[go_sem];refine ab a ?_;simp only[go_sem]
def Q7{b:Bool}:au G0 [] 241 [.bool b] σ fun r s=>r=.int .u32 (if b=true then 1 else 0)∧s=σ:=by refine ai g241 rfl ?_;cases b <;> simp only[go_sem]
def Lf{id off:Nat}{n:Int}(h:σ.cell id off=some (.int .u32 n))(hs:σ.store id off [.int .u32 1]=some σ'):au G0 [] 192 [.acK id off,.bool true] σ fun r s=>s=σ':=by
 refine ai g192 rfl ?_;obtain⟨v,s,⟨e,c⟩,d⟩:=Q7 (σ:=σ) (b:=true);subst e c;have a:au G0 [] 240 [.acK id off,.int .u32 (if true=true then 1 else 0)] s fun r s=>r=.tuple []∧s=σ':=lL gSt rfl (show AM.dA .aap _ _=some (.tuple [],σ') by simp only[AM.dA,h,TT,hs,Xd]) ⟨rfl,rfl⟩
 obtain⟨v,s2,⟨rfl,rfl⟩,a⟩:=a;simp only[go_sem];refine ab d ?_;simp only[go_sem];refine ab a ?_;simp only[go_sem]
def Nc{b ar:Nat}{s2:St}(h:σ.cell b 0=some (.acK ar 0))(hs:(σ.new (.map [])).store ar 8 [.map (some σ.next)]=some s2):au G0 [] 101 [.acK b 0] σ fun r s=>s=s2:=by refine ai g101 rfl ?_;have e:(V.map (some σ.next)).cells=[V.map (some σ.next)]:=rfl;simp only[go_sem,h,e,TH,TK,hs]
def QE{ar:Nat}{f:V}(h:σ.cell ar 5=some (.int .u32 1)):au G0 [] 100 [.acK ar 5,f] σ fun r s=>s=σ:=by refine ai g100 rfl ?_;obtain⟨v,s,⟨b,hs⟩,a⟩:=Ac h;subst b hs;rw[show decide ((1:Int)≠0)=true from rfl]at a;simp only[go_sem];refine ab a ?_;simp only[go_sem]
def QG{ar b:Nat}{d x y f:St}(z:σ.cell ar 5=some (.int .u32 0))(A:σ.cell ar 6=some (.int .i32 0))(o:σ.store ar 6 [.int .i32 1]=some d)(h:d.cell ar 5=some (.int .u32 0))(B:d.cell b 0=some (.acK ar 0))(p:(d.new (.map [])).store ar 8 [.map (some d.next)]=some x)(i:x.cell ar 5=some (.int .u32 0))(q:x.store ar 5 [.int .u32 1]=some y)(j:y.cell ar 6=some (.int .i32 1))(t:y.store ar 6 [.int .i32 0]=some f):
  au G0 [] 100 [.acK ar 5,.func 101 [] [.acK b 0]] σ fun r s=>s=f:=by
 refine ai g100 rfl ?_;obtain⟨v,s,⟨u,hs⟩,C⟩:=Ac z;subst u hs;simp only[go_sem];refine ab C ?_;have g:au G0 [] 149 [.acK ar 5,.func 101 [] [.acK b 0]] s fun r s=>s=f:=by
  refine ai g149 rfl ?_;have k:au G0 [] 68 [.acK ar 6] s fun r s=>r=.tuple []∧s=d:=lL OT rfl (show AM.dA .lock _ _=some (.tuple [],d) by simp only[AM.dA,A,o,Xd]) ⟨rfl,rfl⟩
  obtain⟨v,D,⟨rfl,rfl⟩,k⟩:=k;obtain⟨v,s2,⟨u,c⟩,a⟩:=Ac h;subst u c;obtain⟨v,s2,c,l⟩:=Nc B p;subst c;obtain⟨F,w,e,m⟩:=Lf i q;subst e;have hu:au G0 [] 69 [.acK ar 6] w fun r s=>r=.tuple []∧s=f:=lL fi rfl (show AM.dA .unlock _ _=some (.tuple [],f) by simp only[AM.dA,j,t,Xd]) ⟨rfl,rfl⟩
  obtain⟨v,E,⟨rfl,rfl⟩,hu⟩:=hu;simp only[go_sem];refine ab k ?_;simp only[go_sem];refine ab a ?_;simp only[go_sem,TV,Uq];refine ab l ?_;simp only[go_sem];rw[b7];refine⟨.inl ⟨_,g192⟩,ab m ?_⟩;rw[b7];exact⟨.inr fi,ab hu rfl⟩
 obtain⟨v,D,n,a⟩:=g;subst n;simp only[go_sem,TV,Uq];refine ab a ?_;simp only[go_sem]
end
section
variable {σ σ':St} {A:Tu -> Nat} {H:aa} {B:AI -> Nat} {S:AS}
def Wd.Mq{ι:Type}[DecidableEq ι]{has:ι->Prop}{A:ι->Nat}{c:ι->cA}(h:Wd σ has A c){i:ι}(hi:has i){n:Nat}{l:List V}(e:c i=.row n (Tn l))(f:l.length=n){k:Nat}{v:V}(d:k<n)(a:v.Tr=true):
  ∃s,σ.store (A i) k [v]=some s∧Wd s has A (cu c i (.row n (Tn (l.set k v))))∧s.next=σ.next:=by
 obtain⟨s,e,W,hn⟩:=Wd.store h hi e (off:=k) (vs:=[v]) (by show k+1≤n;omega) (by simp[a]);refine⟨s,e,W.sub id (fun _ h=>h) (fun _ _ _ _ e=>e) (fun _ _=>rfl) ?_,hn⟩;intro j b;by_cases c:j=i
 .subst c;right;refine⟨_,_,n,Tn (l.set k v),aF ..,aF ..,Tx _,?_⟩;intro j b;unfold UO Tn;by_cases c:k=j
  .subst c;rw[Ti Y];simp[U7,f,d]
  rw[Tg (by simp;omega)];simp[U7,abj c]
 left;rw[aA c];exact(aA c).symm
def Wd.box{ι:Type}[DecidableEq ι]{has:ι->Prop}{A:ι->Nat}{c:ι->cA}(h:Wd σ has A c){b n:Nat}{f:Nat->V}(L:To σ b n f)(a:∀i,has i->A i≠b):
  Wd σ (Sum.elim has fun _:Unit=>True) (Sum.elim A fun _=>b) (Sum.elim c fun _=>.row n f):=by
 have g:Wd σ (Sum.elim has fun _:Unit=>False) (Sum.elim A fun _=>0) (Sum.elim c fun _=>.map []):=by
  refine⟨h.gw,h.Ub,?_,?_,?_,?_⟩
  .rintro(i|i) hi
   .exact h.V2 hi
   exact hi.elim
  .rintro(i|i) (j|j) hi d e
   .exact Uj _ (h.inj i j hi d e)
   .exact d.elim
   .exact hi.elim
   exact hi.elim
  .rintro(i|i) hi
   .exact h.Ur i hi
   exact hi.elim
  rintro(i|i) (j|j) o hi d a k hg
  .exact h.cut i j o hi d (fun e=>a (Uj _ e)) k hg
  .exact d.elim
  .exact hi.elim
  exact hi.elim
 have W:=g.EY (i0:=Sum.inr ()) (fun h=>h) L (fun i hi=>by
  rcases i with i|i
  .exact a i hi
  exact hi.elim)
 refine W.sub id ?_ (fun _ _ _ _ e=>e) ?_ ?_
 .rintro(i|i) hi
  .exact .inl hi
  exact .inr rfl
 .rintro(i|i) hi
  .show _=cu _ _ _ _;rw[aA (by intro h;cases h)];rfl
  exact aF.symm
 rintro(i|i) hi
 .left;show _=cu _ _ _ _;rw[aA (by intro h;cases h)];rfl
 left;exact aF.symm
abbrev Vj(σ:St)(A:Tu->Nat)(H:aa)(B:AI->Nat)(S:AS)(l:List V)(b n:Nat)(f:Nat->V):Prop:=
 Wd σ (Sum.elim (Sum.elim H.has S.has) fun _:Unit=>True) (Sum.elim (Sum.elim A B) fun _=>b) (Sum.elim (Sum.elim (fW H A) (S.Dh l)) fun _=>.row n f)
variable {l:List V} {b n:Nat} {f:Nat -> V}
def Vj.c(h:Vj σ A H B S l b n f){k:Nat}(a:k<11):σ.cell (B .TA) k=some (Tn l k):=Wd.cell h (i:=.inl (.inr .TA)) trivial rfl a
def Vj.bx(h:Vj σ A H B S l b n f){k:Nat}(a:k<n):σ.cell b k=some (f k):=Wd.cell h (i:=.inr ()) trivial rfl a
def Vj.store(h:Vj σ A H B S l b n f)(d:l.length=11){k:Nat}{v:V}(c:k<11)(a:v.Tr=true):∃s,σ.store (B .TA) k [v]=some s∧Vj s A H B S (l.set k v) b n f∧s.next=σ.next:=by
 obtain⟨s,e,W,hn⟩:=Wd.Mq h (i:=Sum.inl (Sum.inr AI.TA)) trivial (n:=11) (l:=l) rfl d c a;refine⟨s,e,W.sub id (fun _ h=>h) (fun _ _ _ _ e=>e) (fun _ _=>rfl) ?_,hn⟩;rintro((i|i)|i) hi
 .left;show _=cu _ _ _ _;rw[aA (by intro h;cases h)];rfl
 .cases i with
  |TA=>left;exact aF.symm
  |_=>left;show _=cu _ _ _ _;rw[aA (by intro h;cases h)];rfl
 left;show _=cu _ _ _ _;rw[aA (by intro h;cases h)];rfl
def Vj.DW(h:Vj σ A H B S l b n f)(hi:S.Wk=false)(a:S.ms=[]):Vj (σ.new (.map [])) A H (fun i=>if i=.T1 then σ.next else B i) { S with Wk:=true } l b n f:=by
 have W:=Wd.DW h (i0:=Sum.inl (Sum.inr AI.T1)) (by
  intro h;have:S.T1.isSome=true:=h;unfold AS.T1 at this;rw[hi]at this;cases this)
 refine W.sub id ?_ (fun _ _ _ _ e=>e) ?_ ?_
 .rintro((i|i)|i) hh
  .exact .inl hh
  .cases i with
   |T1=>exact .inr rfl
   |_=>exact .inl hh
  exact .inl hh
 .rintro((i|i)|i) hh
  .show _=cu _ _ _ _;rw[aA (by intro h;cases h)];rfl
  .cases i with
   |T1=>exact aF.symm
   |_=>show _=cu _ _ _ _;rw[aA (by intro h;cases h)];rfl
  show _=cu _ _ _ _;rw[aA (by intro h;cases h)];rfl
 rintro((i|i)|i) hh
 .left;show _=cu _ _ _ _;rw[aA (by intro h;cases h)];rfl
 .cases i with
  |T1=>
   left;refine WY ?_ aF.symm;show cA.map (AS.T1 { S with Wk:=true } |>.getD [])=cA.map [];unfold AS.T1;simp[a]
  |_=>left;show _=cu _ _ _ _;rw[aA (by intro h;cases h)];rfl
 left;show _=cu _ _ _ _;rw[aA (by intro h;cases h)];rfl
def Q2{ar:Nat}(z:B .TA=ar)(h:Vj σ A H B S (S.Up (A .heap) B) b 1 (Tn [.acK ar 0]))(D:S.Wk=false->S.ms=[]):
  au G0 [] 100 [.acK ar 5,.func 101 [] [.acK b 0]] σ fun r s=>∃B',B' .TA=ar∧Vj s A H B' { S with Wk:=true } (AS.Up { S with Wk:=true } (A .heap) B') b 1 (Tn [.acK ar 0]):=by
 subst z;have a:=Vj.c h (k:=5) Q;rw[show Tn (S.Up (A .heap) B) 5=.int .u32 S.XD from rfl]at a;cases hi:S.Wk with
 |true=>
  unfold AS.XD at a;rw[hi,Ti rfl]at a;refine(QE a).mono fun v s hs=>?_
  subst hs;refine⟨B,rfl,?_⟩;have:({ S with Wk:=true }:AS)=S:=by cases S;simp only at hi;subst hi;rfl
  rw[this];exact h
 |false=>
  unfold AS.XD at a;rw[hi,Tg Y]at a;have y:=Vj.c h (k:=6) Q;obtain⟨d,m,f,E⟩:=Vj.store h (by rfl) (k:=6) (v:=.int .i32 1) Q rfl;have g:=Vj.c f (k:=5) Q;have C:=Vj.bx f (k:=0) Q;have w:=f.DW hi (D hi);obtain⟨J,n,q,F⟩:=Vj.store w (by simp[AS.Up]) (k:=8) (v:=.map (some d.next)) Q rfl;have j:=Vj.c q (k:=5) Q;obtain⟨K,o,t,G⟩:=Vj.store q (by simp[AS.Up]) (k:=5) (v:=.int .u32 1) Q rfl;have l:=Vj.c t (k:=6) Q;obtain⟨L,p,x,I⟩:=Vj.store t (by simp[AS.Up]) (k:=6) (v:=.int .i32 0) Q rfl;have u:S.XD=0:=by unfold AS.XD;rw[hi];rfl
  refine(QG (b:=b) a y m ?_ C n ?_ o l p).mono fun v s hs=>?_
  .rw[g];simp[AS.Up,Tn,u]
  .refine WY j ?_;simp[AS.Up,Tn,u]
  subst hs;refine⟨fun i=>if i=AI.T1 then d.next else B i,rfl,?_⟩;have e:AS.Up { S with Wk:=true } (A .heap) (fun i=>if i=AI.T1 then d.next else B i)=(((((S.Up (A .heap) B).set 6 (.int .i32 1)).set 8 (.map (some d.next))).set 5 (.int .u32 1)).set 6 (.int .i32 0)):=by simp[AS.Up,AS.dp,AS.fF,AS.gY,AS.T1,AS.cE,AS.XD]
  rw[e];exact x
end
end
end Go.Proofs.YtlgmpheammbacaaGreatDoor
