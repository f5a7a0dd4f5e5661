import Derived.Test.YtlgmpheammbacaaGreatDoorPyg
set_option linter.all false
set_option maxRecDepth 1000000
attribute [local irreducible] AM.T.get AM.T.set
namespace Go.Proofs.YtlgmpheammbacaaGreatDoor
open AM Go
noncomputable section
variable {σ:St} {A:Tu -> Nat} {H H':aa}
def od(H:aa):H.Ut=H.Tj+4096*H.np:=by unfold aa.Ut aa.np aa.Tp;rw[YZ,UF H.Tl]
def _root_.AM.aa.Tk(H:aa)(p:Nat):Nat:=H.Tj+4096*p
def eU(ok:H.OK){p:Nat}(hp:p≤H.np):H.Tk p≤9223372036854775808:=by have:=mD ok;rw[od]at this;unfold aa.Tk;omega
def pw(e:aw σ A H)(ok:H.OK){p:Nat}(hp:p≤H.np):au G0 [] 231 [.acK (A .TO) 0,.i p] σ fun r σ'=>r=.u (H.Tk p)∧σ'=σ:=by
 refine ai g231 rfl ?_;have a:=e.cell (s:=.TO) trivial (i:=0) (Q:0<6);rw[show H.cell A .TO 0=.u H.Tj from rfl]at a;have f:=iM ok;have ha:=eU ok hp;have b:IntKind.u64.wrap (p:Int)=(p:Int):=bm Q;have c:IntKind.u64.wrap (4096*(p:Int))=((4096*p:Nat):Int):=by rw[cd] <;> omega
 have d:IntKind.u64.wrap ((H.Tj:Int)+((4096*p:Nat):Int))=(H.Tk p:Int):=by unfold aa.Tk at *;rw[cd] <;> omega
 simp only[go_sem,a,b,c,d]
def zk(ok:H.OK):H.Tj%4096=0:=by have h:=ok.fU;unfold aa.Tp at h;exact Yc (WE (abr _ _) (WQ h))
def IU(c:aw σ A H)(ok:H.OK){p:Nat}(hp:p<H.np):au G0 [] 242 [.acK (A .TO) 0,.u (H.Tk p)] σ fun r σ'=>r=.tuple [.i p,.bool true]∧σ'=σ:=by
 refine ai g242 rfl ?_;have a:=c.cell (s:=.TO) trivial (i:=0) (Q:0<6);rw[show H.cell A .TO 0=.u H.Tj from rfl]at a;have b:=c.cell (s:=.TO) trivial (i:=4) (Q:4<6);rw[show H.cell A .TO 4=.acK (A .map) 0 from rfl]at b;have m:=iM ok;have ha:=eU ok (aaM hp);have l:=zk ok;have c1:¬((H.Tk p:Int)<(H.Tj:Int)):=by unfold aa.Tk;omega
 have d:(4096:Int)≠0:=by decide
 have e:((H.Tk p:Int).tmod 4096)=0:=by rw[show(4096:Int)=((4096:Nat):Int)from rfl,aW];unfold aa.Tk;omega
 have f:IntKind.u64.wrap ((H.Tk p:Int)-(H.Tj:Int))=((4096*p:Nat):Int):=by unfold aa.Tk at *;rw[cd] <;> omega
 have g:IntKind.u64.wrap (((4096*p:Nat):Int).tdiv 4096)=(p:Int):=by rw[show(4096:Int)=((4096:Nat):Int)from rfl,jQ,cd] <;> omega
 have j:IntKind.u64.wrap (H.np:Int)=(H.np:Int):=bm Q;have k:IntKind.i64.wrap (p:Int)=(p:Int):=bF Q;have h:¬((H.np:Int)≤(p:Int)):=Q;simp only[go_sem,a,b,c1,aZ,bc,d,TV,Uq,Ug,e,f,g];obtain⟨v,q,⟨o,hs⟩,n⟩:=oK c ok;subst o hs;refine ab n ?_;simp only[go_sem,a,b,c1,aZ,bc,d,TV,Uq,Ug,e,f,g,j,h,k]
def _root_.AM.aa.lH(H:aa)(k:Nat):Prop:=H.head k≠0->H.In (H.head k) 16∧H.UD (H.head k+8)=0
def iq(ok:H.OK){p n:Nat}(hp:p<H.np)(hn:n≤4096):H.In (H.Tk p) n:=by
 unfold aa.np at hp;have a:=aK H.Th;obtain⟨q,d⟩:=acH (p/2^H.Th);obtain⟨r,f⟩:=acH (p%2^H.Th);have b:2^H.Th*q+r=p:=by rw[d,f];exact XJ _ _
 have g:r<2^H.Th:=f▸Wt _ a;have c:q<H.Tl:=by rw[d];exact ZK (by rw[UF];exact hp)
 have e:H.Tk p-H.Tj=H.Tp*q+4096*r:=by unfold aa.Tk aa.Tp;rw[<- b,Nat.mul_add, <- YZ];omega
 have i:4096*r+4096≤H.Tp:=by unfold aa.Tp;omega
 have h:=oS H;refine⟨by unfold aa.Tk;omega,?_,?_⟩
 .rw[e,aab Q,aaJ Q,X2];exact c
 rw[e,Nat.mul_add_mod,WR Q];omega
def G6(ok:H.OK){k p:Nat}(hp:p<18446744073709551616):(H.eS k p).OK:=by
 unfold aa.eS;by_cases c:H.head k=0
 .rw[Ti c];exact kR (fL (fL ok _ _) _ _) hp
 rw[Tg c];exact kR (fL (fL (fL ok _ _) _ _) _ _) hp
def pP(ok:H.OK){k nx pv:Nat}(hn:nx<18446744073709551616):(H.b9 k nx pv).OK:=by
 unfold aa.b9;by_cases c:nx=0
 .rw[Ti c];by_cases a:pv=0
  .rw[Ti a];exact kR ok hn
  rw[Tg a];exact fL ok _ _
 rw[Tg c];by_cases a:pv=0
 .rw[Ti a];exact fL (kR ok hn) _ _
 rw[Tg a];exact fL (fL ok _ _) _ _
def _root_.AM.aa.enter(H:aa)(p k:Nat):aa:=(H.run p k 0).eS k (H.Tk p)
def xt(ok:H.OK){p k:Nat}(hp:p≤H.np):(H.enter p k).OK:=G6 (ti ok) (by have:=eU ok hp;omega)
def uN(n:aw σ A H)(ok:H.OK){p k:Nat}(o:k≤H.Th)(f:p%2^k=0)(hp:p+2^k≤H.np)(u:H.lH k):
  au G0 [] 243 [.acK (A .TO) 0,.i p,.i k] σ fun r σ'=>aw σ' A (H.enter p k)∧r=.tuple []:=by
 refine ai g243 rfl ?_;have m:=n.cell (s:=.TO) trivial (i:=4) (Q:4<6);rw[show H.cell A .TO 4=.acK (A .map) 0 from rfl]at m;obtain⟨v,x,⟨b,a⟩,g⟩:=Dy n ok (kind:=0) o (.inl rfl) f hp;subst a;simp only[go_sem,m];refine ab g ?_;have w:=aK k;have B:=ok.VI;obtain⟨v,y,⟨a,hs⟩,j⟩:=pw b (ti ok) (p:=p) (Q:p≤H.np);subst a hs;have c:=b.cell (s:=.TO) trivial (i:=5) (Q:5<6);rw[show(H.run p k 0).cell A .TO 5=.acL (A .US) 0 (H.Th+1) 1 from rfl]at c;have d:=b.cell (s:=.US) trivial (i:=k) (Q:k<H.Th+1);rw[show(H.run p k 0).cell A .US k=.acK (A (.UZ k)) 0 from rfl]at d;have c1:(0:Int)≤(k:Int)∧(k:Int)<((H.Th+1:Nat):Int):=Q;simp only[go_sem,c,c1,Us,TZ,Um,d];refine ab j ?_;simp only[go_sem,c,c1,Us,TZ,Um,d];have ha:=eU ok (p:=p) Q;obtain⟨v,z,⟨q,a⟩,l⟩:=Qp b (ti ok) (k:=k) (p:=H.Tk p) o Q (iq (ti ok) (p:=p) (Q:p<H.np) Q) (fun h=>by
  obtain⟨e,t⟩:=u h;exact⟨⟨e.Tj,e.UE,e.Vd⟩,t⟩)
 subst a;refine ab l ?_;simp only[go_sem,c,c1,Us,TZ,Um,d];exact q
def _root_.AM.aa.aM(H:aa)(p k:Nat):aa:=if k=H.Th then H else H.Xz k (p/2^(k+1))
def gj(ok:H.OK){p k:Nat}:(H.aM p k).OK:=by
 unfold aa.aM;split
 .exact ok
 exact Gn ok _ _
def xk(a:aw σ A H)(ok:H.OK){p k:Nat}(j:k≤H.Th)(hp:p<H.np):au G0 [] 244 [.acK (A .TO) 0,.i p,.i k] σ fun r σ'=>aw σ' A (H.aM p k)∧r=.bool (decide (k=H.Th) ||(H.aM p k).Vq k (p/2^(k+1))):=by
 refine ai g244 rfl ?_;have b:=a.cell (s:=.TO) trivial (i:=2) (Q:2<6);rw[show H.cell A .TO 2=.i H.Th from rfl]at b;have e:=a.cell (s:=.TO) trivial (i:=4) (Q:4<6);rw[show H.cell A .TO 4=.acK (A .map) 0 from rfl]at e;by_cases c:k=H.Th
 .have c1:(k:Int)=(H.Th:Int):=Q;simp only[go_sem,b,c1,c];unfold aa.aM;rw[Ti rfl];exact a
 have c1:¬(k:Int)=(H.Th:Int):=Q;simp only[go_sem,b,e,c1];obtain⟨v,h,⟨f,g⟩,d⟩:=M0 a ok hp (Q:k<H.Th);subst g;refine ab d ?_;simp only[go_sem,c];unfold aa.aM;rw[Tg c];exact⟨f,rfl⟩
def _root_.AM.aa.split(H:aa)(p i:Nat):aa:=(H.enter (p+2^i) i).aM (p+2^i) i
def _root_.AM.aa.mH(H:aa)(p Uv:Nat):Nat->aa
 | 0=>H
 |n+1=>(H.mH p Uv n).split p (Uv-1-n)
structure _root_.AM.aa.cJ (H' H:aa):Prop where
 Th:H'.Th=H.Th
 Tj:H'.Tj=H.Tj
 Tl:H'.Tl=H.Tl
 TB:H'.TB=H.TB
def _root_.AM.aa.cJ.refl(H:aa):H.cJ H:=⟨rfl,rfl,rfl,rfl⟩
def _root_.AM.aa.cJ.trans{a b c:aa}(h:a.cJ b)(k:b.cJ c):a.cJ c:=⟨h.Th.trans k.Th,h.Tj.trans k.Tj,h.Tl.trans k.Tl,h.TB.trans k.TB⟩
def _root_.AM.aa.cJ.np{a b:aa}(h:a.cJ b):a.np=b.np:=by unfold aa.np;rw[h.Th,h.Tl]
def _root_.AM.aa.cJ.Tk{a b:aa}(h:a.cJ b)(p:Nat):a.Tk p=b.Tk p:=by unfold aa.Tk;rw[h.Tj]
def fZ(H:aa)(p v:Nat):(H.dO p v).cJ H:=⟨rfl,rfl,rfl,rfl⟩
def mP(H:aa)(k v:Nat):(H.eK k v).cJ H:=⟨rfl,rfl,rfl,rfl⟩
def wL(H:aa)(p k:Nat)(kind:Int):(H.run p k kind).cJ H:=⟨rfl,rfl,rfl,rfl⟩
def Hk(H:aa)(k i:Nat):(H.Xz k i).cJ H:=⟨rfl,rfl,rfl,rfl⟩
def Cd(H:aa)(k p:Nat):(H.eS k p).cJ H:=by
 unfold aa.eS;refine aa.cJ.trans (mP _ _ _) ?_;by_cases c:H.head k=0
 .rw[Ti c];exact aa.cJ.trans (fZ _ _ _) (fZ _ _ _)
 rw[Tg c];exact aa.cJ.trans (fZ _ _ _) (aa.cJ.trans (fZ _ _ _) (fZ _ _ _))
def jF(H:aa)(p k:Nat):(H.enter p k).cJ H:=aa.cJ.trans (Cd _ _ _) (wL _ _ _ _)
def dt(H:aa)(p k:Nat):(H.aM p k).cJ H:=by
 unfold aa.aM;by_cases c:k=H.Th
 .rw[Ti c];exact aa.cJ.refl _
 rw[Tg c];exact Hk _ _ _
def Ft(H:aa)(p i:Nat):(H.split p i).cJ H:=aa.cJ.trans (dt _ _ _) (jF _ _ _)
def im(H:aa)(k nx pv:Nat):(H.b9 k nx pv).cJ H:=by
 unfold aa.b9;by_cases c:nx=0
 .rw[Ti c];by_cases a:pv=0
  .rw[Ti a];exact mP _ _ _
  rw[Tg a];exact fZ _ _ _
 rw[Tg c];by_cases a:pv=0
 .rw[Ti a];exact aa.cJ.trans (fZ _ _ _) (mP _ _ _)
 rw[Tg a];exact aa.cJ.trans (fZ _ _ _) (fZ _ _ _)
def sH(H:aa)(p Uv:Nat):∀n,(H.mH p Uv n).cJ H
 | 0=>aa.cJ.refl _
 |n+1=>aa.cJ.trans (Ft _ _ _) (sH H p Uv n)
def Jn(ok:H.OK){p i:Nat}(h:p+2^i≤H.np):(H.split p i).OK:=gj (xt ok h)
def Q9(S:aw σ A H)(ok:H.OK){p Uv bot:Nat}(J:bot≤Uv)(h2:Uv≤H.Th)(f:p%2^Uv=0)(hp:p+2^Uv≤H.np)(T:∀m,m<Uv-bot->(H.mH p Uv m).lH (Uv-1-m)):
  au G0 [] 201 [.acK (A .TO) 0,.i p,.i Uv,.i bot] σ fun r σ'=>aw σ' A ((H.mH p Uv (Uv-bot)).run p bot 2)∧r=.tuple []:=by
 refine ai g201 rfl ?_;have ho:=ok.VI;have U:=iM ok;have O:IntKind.i64.wrap ((Uv:Int)-1)=(Uv:Int)-1:=by rw[dw] <;> omega
 have j:∀i,i<Uv->p+2^i+2^i≤H.np∧(p+2^i)%2^i=0∧2^i≤128:=by
  intro i hi;have D:2^(i+1)≤2^Uv:=Vb Q hi;rw[XO]at D;refine⟨Q,?_,?_⟩
  .have:2^i∣p:=WE (XN 2 (aaM hi)) (WQ f);exact Yc (ZL this (Nat.dvd_refl _))
  have:2^i≤2^7:=Vb Q Q;omega
 have z:∀n,n≤Uv-bot->(H.mH p Uv n).OK:=by
  intro n;induction n with
  |zero=>intro _;exact ok
  |succ n W=>
   intro hn;refine Jn (W Q) ?_;rw[(sH H p Uv n).np];have:=(j (Uv-1-n) Q).1;omega
 simp only[go_sem,O];refine bW (fun(m:Nat) (fr:Fr) (s:St)=>fr.defers=[]∧fr.tmps.get 0=some (.acK (A .TO) 0)∧fr.tmps.get 1=some (.i p)∧fr.tmps.get 3=some (.i bot)∧
  ∃n,n≤Uv-bot∧m=Uv-bot-n∧fr.tmps.get 8=some (.i ((Uv:Int)-1-n))∧aw s A (H.mH p Uv n)) ?_ (Uv-bot) ?_
 .rintro m ⟨tm,ds⟩ s ⟨g,l,o,q,n,hn,hm,e,R⟩;simp only at g l o q e;subst g;have sm:=sH H p Uv n;have u:=sm.Th;have s2:=sm.np;have a:=z n hn;generalize b:H.mH p Uv n=C at R sm u s2 a;rcases Vm n (Uv-bot)with c|c
  .obtain⟨i,hi⟩:=acH (Uv-1-n);have N:(Uv:Int)-1-(n:Int)=(i:Int):=Q;rw[N]at e;have c1:(bot:Int)≤(i:Int):=Q;have E:(0:Int)≤(i:Int):=Q;obtain⟨X,Y,p3⟩:=j i Q;have F:=ja (n:=i) Q;have G:IntKind.i64.wrap ((p:Int)+((2^i:Nat):Int))=((p+2^i:Nat):Int):=bj Q;simp only[go_sem,l,o,q,e,c1,E,aT,F,G];have h:=T n c;rw[<- hi,b]at h;obtain⟨v,B,⟨w,t⟩,d⟩:=uN R a (p:=p+2^i) (k:=i) (by rw[u];omega) Y (by rw[s2];exact X) h;subst t;refine ab d ?_;simp only[go_sem,l,o,q,e,c1,E,aT,F,G];have V:0<2^i:=aK i;have I:=jF C (p+2^i) i;obtain⟨v,Z,⟨L,t⟩,y⟩:=xk w (xt a (p:=p+2^i) (by rw[s2];omega)) (p:=p+2^i) (k:=i) (by rw[I.Th,u];omega) (by rw[I.np,s2];omega);refine ab y ?_;have P:IntKind.i64.wrap ((i:Int)-1)=(i:Int)-1:=by rw[dw] <;> omega
   simp only[go_sem,l,o,q,e,P];refine⟨Uv-bot-(n+1),Q,n+1,Q,rfl,?_,?_⟩
   .rw[show(i:Int)-1=(Uv:Int)-1-((n+1:Nat):Int)from Q]
   rw[aa.mH,b, <- hi];exact L
  have x:n=Uv-bot:=Q;have c1:¬((bot:Int)≤(Uv:Int)-1-(n:Int)):=Q;have K:=R.cell (s:=.TO) trivial (i:=4) (Q:4<6);rw[show C.cell A .TO 4=.acK (A .map) 0 from rfl]at K;simp only[go_sem,l,o,q,e,c1,K];have D:2^bot≤2^Uv:=Vb Q J;have M:p%2^bot=0:=Yc (WE (XN 2 J) (WQ f));obtain⟨v,B,⟨w,t⟩,d⟩:=Dy R a (p:=p) (k:=bot) (kind:=2) (by rw[u];omega) (.inr rfl) M (by rw[s2];omega);subst t;refine ab d ?_;simp only[go_sem];rw[<- x,b];exact w
 refine⟨rfl,?_,?_,?_,0,Q,Q,?_,S⟩ <;> simp only[go_sem,VN,Int.sub_zero]
def Me(d:aw σ A H)(ok:H.OK){k:Nat}(B:k≤H.Th)(y:∀j,k≤j->j≤H.Th->H.head j=0):
  au G0 [] 248 [.acK (A .TO) 0,.i k] σ fun r σ'=>r=.tuple [.u 0,.i 2]∧σ'=σ:=by
 refine ai g248 rfl ?_;have D:=ok.VI;have b:=d.cell (s:=.TO) trivial (i:=2) (Q:2<6);rw[show H.cell A .TO 2=.i H.Th from rfl]at b;have n:=d.cell (s:=.TO) trivial (i:=5) (Q:5<6);rw[show H.cell A .TO 5=.acL (A .US) 0 (H.Th+1) 1 from rfl]at n;have p:¬((k:Int)<0):=Q;have c1:¬((H.Th:Int)<(k:Int)):=Q;simp only[go_sem,b,p,c1];refine bW (fun(m:Nat) (fr:Fr) (s:St)=>s=σ∧fr.defers=[]∧fr.tmps.get 0=some (.acK (A .TO) 0)∧∃j,k≤j∧j≤H.Th+1∧m=H.Th+1-j∧fr.tmps.get 6=some (.i (j:Nat))) ?_ (H.Th+1-k) ?_
 .rintro m ⟨E,ds⟩ s ⟨rfl,a,e,j,h,w,C,f⟩;simp only at a e f;subst a;rcases Vm j (H.Th+1)with c|c
  .have g:(j:Int)≤(H.Th:Int):=Q;have o:=d.cell (s:=.US) trivial (i:=j) (Q:j<H.Th+1);rw[show H.cell A .US j=.acK (A (.UZ j)) 0 from rfl]at o;have q:(0:Int)≤(j:Int)∧(j:Int)<((H.Th+1:Nat):Int):=Q;obtain⟨v,z,⟨x,hs⟩,l⟩:=Kc d (k:=j) Q (y j h Q);subst x hs;have t:IntKind.i64.wrap ((j:Int)+1)=((j+1:Nat):Int):=by rw[dw] <;> omega
   simp only[go_sem,b,n,e,f,g,q,Us,TZ,Um,o];refine ab l ?_;simp only[go_sem,e,f,t];exact⟨H.Th+1-(j+1),Q,j+1,Q,Q,rfl,rfl⟩
  have g:¬((j:Int)≤(H.Th:Int)):=Q;simp only[go_sem,b,e,f,g]
 exact⟨rfl,rfl,by simp only[go_sem],k,Tx _,Q,rfl,by simp only[go_sem]⟩
def _root_.AM.aa.XY(H:aa)(k j p nx:Nat):aa:=((((H.b9 j nx 0).aM p j).mH p j (j-k)).run p k 2)
def Pd(l:aw σ A H)(ok:H.OK){k j p nx:Nat}(L:k≤j)(z:j≤H.Th)(Z:∀i,k≤i->i<j->H.head i=0)(a:H.head j=H.Tk p)(hp:p+2^j≤H.np)(t:p%2^j=0)(hs:H.Zt j (H.Tk p) nx 0)(W:∀m,m<j-k->(((H.b9 j nx 0).aM p j).mH p j m).lH (j-1-m)):
  au G0 [] 248 [.acK (A .TO) 0,.i k] σ fun r σ'=>aw σ' A (H.XY k j p nx)∧r=.tuple [.u (H.Tk p),.i 0]:=by
 refine ai g248 rfl ?_;have ho:=ok.VI;have Y:=aK j;have q:=l.cell (s:=.TO) trivial (i:=2) (Q:2<6);rw[show H.cell A .TO 2=.i H.Th from rfl]at q;have J:=l.cell (s:=.TO) trivial (i:=5) (Q:5<6);rw[show H.cell A .TO 5=.acL (A .US) 0 (H.Th+1) 1 from rfl]at J;have R:¬((k:Int)<0):=Q;have c1:¬((H.Th:Int)<(k:Int)):=Q;have x:=ok.Wc;have w:H.Tk p≠0:=by unfold aa.Tk;omega
 have B:nx<18446744073709551616:=hs.next▸AY ok _;simp only[go_sem,q,R,c1];refine bW (fun(m:Nat) (fr:Fr) (s:St)=>s=σ∧fr.defers=[]∧fr.tmps.get 0=some (.acK (A .TO) 0)∧fr.tmps.get 1=some (.i k)∧∃i,k≤i∧i≤j∧m=j-i∧fr.tmps.get 6=some (.i (i:Nat))) ?_ (j-k) ?_
 .rintro m ⟨tm,ds⟩ s ⟨rfl,n,f,g,i,y,X,hm,h⟩;simp only at n f g h;subst n;have S:(i:Int)≤(H.Th:Int):=Q;have K:=l.cell (s:=.US) trivial (i:=i) (Q:i<H.Th+1);rw[show H.cell A .US i=.acK (A (.UZ i)) 0 from rfl]at K;have T:(0:Int)≤(i:Int)∧(i:Int)<((H.Th+1:Nat):Int):=Q;have U:IntKind.i64.wrap ((i:Int)+1)=((i+1:Nat):Int):=by rw[dw] <;> omega
  simp only[go_sem,q,J,f,g,h,S,T,Us,TZ,Um,K];rcases Vm i j with c|c
  .obtain⟨v,G,⟨d,E⟩,b⟩:=Kc l (k:=i) Q (Z i y c);subst d E;refine ab b ?_;simp only[go_sem,f,g,h,U];exact⟨j-(i+1),Q,i+1,Q,Q,rfl,rfl⟩
  obtain rfl:i=j:=Q;obtain⟨v,G,⟨I,d⟩,b⟩:=Rf l ok (k:=i) (nx:=nx) z (by rw[a];exact w) (by rw[a];exact hs);subst d;rw[a]at b;refine ab b ?_;have sm:=im H i nx 0;have M:=sm.Th;have s2:=sm.np;have e:(H.b9 i nx 0).OK:=pP ok B;have V:=sm.Tk p;obtain⟨v,ac,⟨d,F⟩,o⟩:=IU I e (p:=p) (by rw[s2];omega);subst d F;rw[V]at o;simp only[go_sem,f,g,h,Int.reduceEq];refine ab o ?_;simp only[go_sem,f,g,h,TV,Uq];obtain⟨v,ad,⟨O,d⟩,C⟩:=xk I e (p:=p) (k:=i) (by rw[M];exact z) (by rw[s2];omega);refine ab C ?_;simp only[go_sem,f,g,h];have N:=dt (H.b9 i nx 0) p i;obtain⟨v,af,⟨P,d⟩,D⟩:=Q9 O (gj e) (p:=p) (Uv:=i) (bot:=k) L (by rw[N.Th,M];exact z) t (by rw[N.np,s2];exact hp) W;subst d;refine ab D ?_;simp only[go_sem];exact P
 exact⟨rfl,rfl,by simp only[go_sem],by simp only[go_sem],k,Tx _,L,rfl,by simp only[go_sem]⟩
def JC(e:aw σ A H)(ok:H.OK){p k:Nat}(hp:p<H.np)(o:(H.Tf p).kind=2)(q:(H.Tf p).Th=(k:Int)):au G0 [] 200 [.acK (A .TO) 0,.u (H.Tk p),.i k] σ fun r σ'=>r=.tuple [.i p,.bool true]∧aH σ σ':=by refine ai g200 rfl ?_;obtain⟨v,t,⟨h,hs⟩,f⟩:=IU e ok hp;subst h hs;simp only[go_sem];refine ab f ?_;have l:=e.cell (s:=.TO) trivial (i:=4) (Q:4<6);rw[show H.cell A .TO 4=.acK (A .map) 0 from rfl]at l;simp only[go_sem,l];obtain⟨v,c,⟨h,m,w⟩,g⟩:=e.dF (nD e ok hp);subst h;refine ab g ?_;have d:=aQ (σ:=c) (z:=bX.cells) (vs:=(H.Tf p).cells) (n:=11) (by simp[bB.aL]) rfl;have j:=aH.Ts c 11 bX.cells (H.Tf p).cells;have L:=To.Ts c 11 bX.cells (H.Tf p).cells rfl;have a:=L.cell (i:=0) Q;have b:=L.cell (i:=1) Q;rw[show Tn (H.Tf p).cells 0=.i (H.Tf p).kind from rfl,o]at a;rw[show Tn (H.Tf p).cells 1=.i (H.Tf p).Th from rfl,q]at b;simp only[bX,bB.cells,VN]at d a b j;simp only[go_sem,TH,TK,aj,bB.cells,d,a,b];exact m.trans j
def MR(f:aw σ A H)(ok:H.OK){p k:Nat}(g:k≤H.Th)(b:p%2^k=0)(hp:p+2^k≤H.np)(m:(H.Tf p).kind=2)(n:(H.Tf p).Th=(k:Int))(o:(decide (k=H.Th) ||(H.aM p k).Vq k (p/2^(k+1)))=true)(q:(H.aM p k).lH k):
  au G0 [] 228 [.acK (A .TO) 0,.u (H.Tk p),.i k] σ fun r σ'=>aw σ' A ((H.aM p k).enter p k)∧r=.i 0:=by
 refine ai g228 rfl ?_;have s:=aK k;obtain⟨v,t,⟨a,y,h⟩,c⟩:=f.dF (JC f ok (p:=p) (k:=k) Q m n);subst a;simp only[go_sem];refine ab c ?_;simp only[go_sem];obtain⟨v,w,⟨j,a⟩,d⟩:=xk h ok (p:=p) (k:=k) g Q;rw[o]at a;subst a;refine ab d ?_;simp only[go_sem];have sm:=dt H p k;obtain⟨v,x,⟨l,a⟩,e⟩:=uN j (gj ok) (p:=p) (k:=k) (by rw[sm.Th];exact g) b (by rw[sm.np];exact hp) q;subst a;refine ab e ?_;simp only[go_sem];exact l
def zb(b:aw σ A H)(ok:H.OK):au G0 [] 261 [.acK (A .TY) 0] σ fun r σ'=>r=.i H.Tl∧σ'=σ:=by refine ai g261 rfl ?_;have a:σ.cell (A .TY) 4=some (H.eH A):=b.cell (s:=.TY) trivial (Q:4<5);rw[xw ok]at a;simp only[go_sem,a]
def KK(a:aw σ A H)(ok:H.OK)(h:0<H.Tl):au G0 [] 229 [.acK (A .TO) 0] σ fun r σ'=>r=.tuple [.i ((H.np-2^H.Th:Nat):Int),.bool true]∧σ'=σ:=by
 refine ai g229 rfl ?_;have w:=ok.VI;have f:=iM ok;have b:=a.cell (s:=.TO) trivial (i:=2) (Q:2<6);rw[show H.cell A .TO 2=.i H.Th from rfl]at b;have c:=a.cell (s:=.TO) trivial (i:=3) (Q:3<6);rw[show H.cell A .TO 3=.acK (A .TY) 0 from rfl]at c;have d:=a.cell (s:=.TO) trivial (i:=4) (Q:4<6);rw[show H.cell A .TO 4=.acK (A .map) 0 from rfl]at d;obtain⟨v,t,⟨k,hs⟩,g⟩:=zb a ok;subst k hs;simp only[go_sem,b,c,d];refine ab g ?_;have l:(0:Int)≤(H.Th:Int):=Q;have m:jc .i64 (H.Tl:Int) (H.Th:Int)=(H.np:Int):=by rw[oU Q (by unfold aa.np at f;omega)];rfl
 have o:=ja (n:=H.Th) Q;have e:2^H.Th≤H.np:=by unfold aa.np;have:1*2^H.Th≤H.Tl*2^H.Th:=UG _ h;omega
 have q:=aK H.Th;have p:IntKind.i64.wrap ((H.np:Int)-((2^H.Th:Nat):Int))=((H.np-2^H.Th:Nat):Int):=bV e Q;have c1:(0:Int)<(H.np:Int):=Q;obtain⟨v,u,⟨k,hs⟩,j⟩:=oK a ok;subst k hs;simp only[go_sem,b,c,d,l,c1,aT,m,o,p];refine ab j ?_;simp only[go_sem,b,c,d,l,c1,aT,m,o,p]
def PY(d:aw σ A H)(ok:H.OK)(h:0<H.Tl)(m:(H.Tf (H.np-2^H.Th)).kind=2)(n:(H.Tf (H.np-2^H.Th)).Th=(H.Th:Int))(q:H.lH H.Th):
  au G0 [] 251 [.acK (A .TO) 0] σ fun r σ'=>aw σ' A (H.enter (H.np-2^H.Th) H.Th)∧r=.i 0:=by
 refine ai g251 rfl ?_;obtain⟨v,w,⟨c,hs⟩,g⟩:=KK d ok h;subst c hs;simp only[go_sem];refine ab g ?_;have u:=aK H.Th;have t:2^H.Th≤H.np:=by unfold aa.np;have:1*2^H.Th≤H.Tl*2^H.Th:=UG _ h;omega
 obtain⟨p,o⟩:=acH (H.np-2^H.Th);rw[<- o]at m n⊢;have f:p%2^H.Th=0:=by rw[o];unfold aa.np;rw[<- Nat.sub_one_mul];exact Xl _ _
 have a:=d.cell (s:=.TO) trivial (i:=2) (Q:2<6);rw[show H.cell A .TO 2=.i H.Th from rfl]at a;obtain⟨v,x,⟨c,hs⟩,j⟩:=pw d ok (p:=p) Q;subst c hs;simp only[go_sem,a];refine ab j ?_;simp only[go_sem,a];have ht:H.aM p H.Th=H:=by unfold aa.aM;rw[Ti rfl]
 obtain⟨v,y,⟨e,c⟩,l⟩:=MR d ok (p:=p) (k:=H.Th) (Tx _) f Q m n Y (by rw[ht];exact q);subst c;rw[ht]at e;refine ab l ?_;have b:=e.cell (s:=.TO) trivial (i:=2) (Q:2<6);rw[show(H.enter p H.Th).cell A .TO 2=.i (H.enter p H.Th).Th from rfl,(jF H p H.Th).Th]at b;simp only[go_sem,a,b,Int.reduceEq];exact e
def gG(b:aw σ A H):au G0 [] 75 [.acK (A .Ud) 0] σ fun r σ'=>r=.acK (A .TY) 0∧σ'=σ:=by refine ai g75 rfl ?_;have a:=b.cell (s:=.Ud) trivial (i:=0) (Q:0<3);rw[show H.cell A .Ud 0=.acK (A .TY) 0 from rfl]at a;simp only[go_sem,a]
def ju(b:aw σ A H):au G0 [] 78 [.acK (A .Ud) 0] σ fun r σ'=>r=.acK (A .map) 0∧σ'=σ:=by refine ai g78 rfl ?_;have a:=b.cell (s:=.Ud) trivial (i:=1) (Q:1<3);rw[show H.cell A .Ud 1=.acK (A .map) 0 from rfl]at a;simp only[go_sem,a]
def fq(a:aw σ A H):σ.cell (A .Ua) 0=some (.acK (A .Ud) 0):=a.cell (s:=.Ua) trivial (i:=0) (Q:0<9)
def oT(a:aw σ A H){c:Nat}(b:c<8):σ.cell (A .Ua) (1+c)=some (.i (H.part c)):=by rw[a.cell (s:=.Ua) trivial (i:=1+c) (Q:1+c<9)];simp only[aa.cell];rw[Tg Q,Z9]
def Ao(c:aw σ A H)(ok:H.OK):au G0 [] 222 [.acK (A .Ua) 0] σ fun r σ'=>r=.u H.Tj∧σ'=σ:=by
 refine ai g222 rfl ?_;have b:=fq c;obtain⟨v,m,⟨a,hs⟩,d⟩:=gG c;subst a hs;simp only[go_sem,b];refine ab d ?_;obtain⟨v,n,⟨a,hs⟩,e⟩:=ju c;subst a hs;simp only[go_sem,b];refine ab e ?_;obtain⟨v,o,⟨a,hs⟩,f⟩:=tC c ok;subst a hs;simp only[go_sem,b];refine ab f ?_;obtain⟨v,p,⟨a,hs⟩,g⟩:=oK c ok;subst a hs;simp only[go_sem,b];refine ab g ?_;have l:=iM ok;have q:=mD ok;have k:=od H;have h:IntKind.u64.wrap (H.np:Int)=(H.np:Int):=bm Q;have i:IntKind.u64.wrap (4096*(H.np:Int))=((4096*H.np:Nat):Int):=by rw[cd] <;> omega
 have j:IntKind.u64.wrap ((H.Ut:Int)-((4096*H.np:Nat):Int))=(H.Tj:Int):=by rw[cd] <;> omega
 simp only[go_sem,b,h,i,j]
def _root_.AM.aa.dQ(H:aa)(c:Nat)(v:Int):aa:={ H with part:=fun i=>if i=c then v else H.part i }
def qh(ok:H.OK){c:Nat}{v:Int}:(H.dQ c v).OK:=⟨ok.Wc,ok.VI,ok.Yw,ok.Xo,ok.X7,ok.XT,ok.fU,ok.We,ok.XB,ok.Yv,ok.XG,ok.T0,ok.aU⟩
def dG(H:aa)(p:Nat)(g:bB):(H.aB p g).cJ H:=⟨rfl,rfl,rfl,rfl⟩
def mz(H:aa)(c:Nat)(v:Int):(H.dQ c v).cJ H:=⟨rfl,rfl,rfl,rfl⟩
def pW(k:aw σ A H){c:Nat}{v:Int}(l:c<8):∃σ',σ.store (A .Ua) (1+c) [.i v]=some σ'∧aw σ' A (H.dQ c v)∧HU σ A H σ':=by
 obtain⟨h,g,b,e,d,f⟩:=k.store (H':=H.dQ c v) (s:=.Ua) trivial (off:=1+c) (vs:=[.i v]) (Q:1+c+1≤9) rfl
  (fun t ht=>ht) (fun t _=>by cases t <;> rfl) (by
   intro t ht i hi;cases t with
   |Ua=>
    rw[Ti rfl];simp only[aa.cell,aa.dQ,UO,TH,TK];by_cases a:i=0
    .rw[Ti a,Tg Q,Ti a]
    rw[Tg a];by_cases j:i-1=c
    .rw[Ti j,Ti Q,(Q:i-(1+c)=0)];rfl
    rw[Tg j,Tg Q,Tg a]
   |_=>rfl)
 exact⟨h,g,b,u0 (s:=.Ua) trivial e d f⟩
def _root_.AM.aa.du(H:aa)(p c:Nat):aa:=H.aB p { H.Tf p with next:=H.part c,T8:=-1 }
def _root_.AM.aa.Vh(H:aa)(p c:Nat):aa:=
 (if 0≤H.part c then(H.du p c).aB (H.part c).toNat { (H.du p c).Tf (H.part c).toNat with T8:=p }else H.du p c).dQ c p
def IE(s:aw σ A H)(ok:H.OK){p c:Nat}(hp:p<H.np)(x:c<8)(U:(H.Tf p).kind=4)(N:-1≤H.part c∧H.part c<(H.np:Int))(T:0≤H.part c->((H.du p c).Tf (H.part c).toNat).kind=4∧-1≤((H.du p c).Tf (H.part c).toNat).next∧((H.du p c).Tf (H.part c).toNat).next<(H.np:Int)):
  au G0 [] 225 [.acK (A .Ua) 0,.i p,.i c] σ fun r σ'=>aw σ' A (H.Vh p c)∧r=.tuple []:=by
 refine ai g225 rfl ?_;have M:=fq s;have y:=oT s x;have V:=iM ok;obtain⟨v,X,⟨g,hs⟩,B⟩:=ju s;subst g hs;simp only[go_sem,M];refine ab B ?_;have c1:(0:Int)≤(c:Int)∧(c:Int)<((8:Nat):Int):=Q;simp only[go_sem,M,c1,Us,TZ,Um,y];obtain⟨v,J,⟨O,g⟩,C⟩:=ru s ok (p:=p) (nx:=H.part c) (pv:=-1) hp U N.1 N.2 Q Q;subst g;refine ab C ?_;have l:(H.du p c).OK:=dr ok;have b:aw J A (H.du p c):=O;by_cases o:0≤H.part c
 .obtain⟨F,G,I⟩:=T o;obtain⟨q,W⟩:∃q:Nat,H.part c=(q:Int):=⟨(H.part c).toNat,Q⟩
  have j:(H.part c).toNat=q:=Q;have k:q<H.np:=Q;rw[j]at F G I;have w:(0:Int)≤(q:Int):=Q;rw[W];simp only[go_sem,w];obtain⟨v,m,⟨g,Z,P⟩,D⟩:=b.dF (nD b l (p:=q) k);subst g;refine ab D ?_;have f:=aQ (σ:=m) (z:=bX.cells) (vs:=((H.du p c).Tf q).cells) (n:=11) (by simp[bB.aL]) rfl;have t:=P.Ts (n:=11) (z:=bX.cells) (vs:=((H.du p c).Tf q).cells) (by simp[bB.aL]) rfl;have L:=To.Ts m 11 bX.cells ((H.du p c).Tf q).cells rfl;have a:=L.cell (i:=4) Q;rw[show Tn ((H.du p c).Tf q).cells 4=.i ((H.du p c).Tf q).next from rfl]at a;generalize h:(H.du p c).Tf q=pg at f t a F G I;simp only[bX,bB.cells,VN]at f a t;simp only[go_sem,TH,TK,aj,bB.cells,f,a];obtain⟨v,Y,⟨R,g⟩,E⟩:=ru t l (p:=q) (nx:=pg.next) (pv:=(p:Int)) k (by rw[h];exact F) G I Q (by show(p:Int)<(H.np:Int);omega);subst g;refine ab E ?_;obtain⟨K,d,u,S⟩:=pW R (c:=c) (v:=(p:Int)) x;simp only[go_sem,c1,Us,TZ,Um,az,TH,TK,d];have e:H.Vh p c=((H.du p c).aB q { (H.du p c).Tf q with next:=pg.next,T8:=p }).dQ c p:=by unfold aa.Vh;rw[Ti o,j,h]
  rw[e];exact u
 have w:¬(0:Int)≤H.part c:=o;obtain⟨K,d,u,S⟩:=pW b (c:=c) (v:=(p:Int)) x;simp only[go_sem,w,c1,Us,TZ,Um,az,TH,TK,d];have e:H.Vh p c=(H.du p c).dQ c p:=by unfold aa.Vh;rw[Tg o]
 rw[e];exact u
def _root_.AM.aa.ib(H:aa)(a w n:Nat):Nat->aa
 | 0=>H
 |i+1=>(H.ib a w n i).dO (a+i*w) (if i+1=n then 0 else a+(i+1)*w)
def iR(H:aa)(a w n:Nat):∀i,(H.ib a w n i).cJ H
 | 0=>aa.cJ.refl _
 |i+1=>aa.cJ.trans (fZ _ _ _) (iR H a w n i)
def nZ(ok:H.OK){a w n:Nat}:∀i,(H.ib a w n i).OK
 | 0=>ok
 |i+1=>fL (nZ ok i) _ _
def pR(H:aa)(a w n:Nat):∀i,(H.ib a w n i).Tf=H.Tf∧(H.ib a w n i).part=H.part
 | 0=>⟨rfl,rfl⟩
 |i+1=>pR H a w n i
def _root_.AM.aa.fD(H:aa)(p c:Nat):aa:=(H.aB p { cI 4 0 with TQ:=c }).ib (H.Tk p) (16*2^c) (256/2^c) (256/2^c)
def _root_.AM.aa.born(H:aa)(p c:Nat):aa:=((H.fD p c).aB p { (H.fD p c).Tf p with first:=0 }).Vh p c
def Ql(T:aw σ A H)(ok:H.OK){p c:Nat}(hp:p<H.np)(P:c<8)(hh:-1≤H.part c∧H.part c<(H.np:Int))(h1:0≤H.part c->(((H.fD p c).aB p { (H.fD p c).Tf p with first:=0 }).du p c |>.Tf (H.part c).toNat).kind=4∧-1≤(((H.fD p c).aB p { (H.fD p c).Tf p with first:=0 }).du p c |>.Tf (H.part c).toNat).next∧(((H.fD p c).aB p { (H.fD p c).Tf p with first:=0 }).du p c |>.Tf (H.part c).toNat).next<(H.np:Int)):
  au G0 [] 246 [.acK (A .Ua) 0,.u (H.Tk p),.i c] σ fun r σ'=>aw σ' A (H.born p c)∧r=.i p:=by
 refine ai g246 rfl ?_;have h0:=fq T;have ao:=iM ok;have ha:=eU ok (aaM hp);obtain⟨v,ap,⟨g,hs⟩,ad⟩:=ju T;subst g hs;simp only[go_sem,h0];refine ab ad ?_;obtain⟨v,ar,⟨g,hs⟩,af⟩:=gG T;subst g hs;simp only[go_sem,h0];refine ab af ?_;obtain⟨v,av,⟨g,hs⟩,ag⟩:=Ao T ok;subst g hs;simp only[go_sem,h0];refine ab ag ?_;have e2:IntKind.u64.wrap ((H.Tk p:Int)-(H.Tj:Int))=((4096*p:Nat):Int):=by unfold aa.Tk at *;rw[cd] <;> omega
 have e3:IntKind.u64.wrap (((4096*p:Nat):Int).tdiv 4096)=(p:Int):=by rw[show(4096:Int)=((4096:Nat):Int)from rfl,jQ,cd] <;> omega
 have e5:IntKind.i64.wrap (p:Int)=(p:Int):=bF Q;have c2:(4096:Int)≠0:=by decide
 obtain⟨v,ax,⟨X,g⟩,ah⟩:=Qz T ok (p:=p) (c:=c) hp P;subst g;simp only[go_sem,e2,bc,c2,TV,Ug,e3,e5];refine ab ah ?_;have c1:(0:Int)≤(c:Int)∧(c:Int)<((8:Nat):Int):=Q;have hw:=X.Ub.cell P;obtain⟨w,x⟩:=acH (16*2^c);obtain⟨n,V⟩:=acH (256/2^c);have am:w*n=4096∧16≤w∧w≤2048∧2≤n∧n≤256∧4096/w=n:=by rw[x,V];rcases(by omega:c=0∨c=1∨c=2∨c=3∨c=4∨c=5∨c=6∨c=7)with rfl|rfl|rfl|rfl|rfl|rfl|rfl|rfl <;> decide
 obtain⟨w1,w2,w3,w4,w5,w6⟩:=am;rw[<- x]at hw;have cw:(w:Int)≠0:=Q;have e6:IntKind.u64.wrap ((4096:Int).tdiv (w:Int))=(n:Int):=by rw[show(4096:Int)=((4096:Nat):Int)from rfl,iw Q,w6]
 simp only[go_sem,c1,Us,TZ,Um,hw,bc,cw,TV,Ug,e6];obtain⟨f,j⟩:∃f,f=H.aB p { cI 4 0 with TQ:=(c:Int) }:=⟨_,rfl⟩;rw[<- j]at X;have z:f.OK:=by rw[j];exact dr ok
 have k:f.cJ H:=by rw[j];exact dG _ _ _
 obtain⟨a,K⟩:=acH (H.Tk p);rw[<- K]at ha⊢;have N:∀i,i<n->f.In (a+i*w) 8:=by intro i hi;have M:(i+1)*w≤n*w:=UG _ hi;rw[UW,UF n]at M;have D:=iq z (p:=p) (n:=4096) (by rw[k.np];exact hp) (Tx _);rw[k.Tk, <- K]at D;exact rb D Q Q
 refine bW (fun(m:Nat) (fr:Fr) (s:St)=>fr.defers=[]∧fr.tmps.get 0=some (.acK (A .Ua) 0)∧fr.tmps.get 1=some (.u a)∧fr.tmps.get 2=some (.i c)∧fr.tmps.get 7=some (.acK (A .map) 0)∧fr.tmps.get 8=some (.acK (A .TY) 0)∧fr.tmps.get 9=some (.i p)∧fr.tmps.get 10=some (.u n)∧fr.tmps.get 41=some (.u n)∧
  ∃i,i≤n∧m=n-i∧fr.tmps.get 42=some (.u (i:Nat))∧aw s A (f.ib a w n i)) ?_ n ?_
 .rintro m ⟨tm,ds⟩ s ⟨U,E,F,G,I,J,B,b,d,i,hi,hm,e,R⟩;simp only at U E F G I J B b d e;subst U;have y:=R.Ub.cell P;rw[<- x]at y;rcases Vm i n with Y|Y
  .have Z:(i:Int)<(n:Int):=Q;have f1:IntKind.u64.wrap ((i:Int)+1)=((i+1:Nat):Int):=by rw[cd] <;> omega
   have M:(i+1)*w≤n*w:=UG _ Y;have ac:i*w≤n*w:=UG _ hi;rw[UF n,w1]at M ac;have f2:IntKind.u64.wrap (((i+1:Nat):Int)*(w:Int))=(((i+1)*w:Nat):Int):=gV Q;have f3:IntKind.u64.wrap ((a:Int)+(((i+1)*w:Nat):Int))=((a+(i+1)*w:Nat):Int):=bD Q;have f4:IntKind.u64.wrap ((i:Int)*(w:Int))=((i*w:Nat):Int):=gV Q;have f5:IntKind.u64.wrap ((a:Int)+((i*w:Nat):Int))=((a+i*w:Nat):Int):=bD Q;have C:(f.ib a w n i).In (a+i*w) 8:=by have sm:=iR f a w n i;have h:=N i Y;exact⟨by rw[sm.Tj];exact h.Tj,by rw[sm.Tj,sm.Tl,show(f.ib a w n i).Tp=f.Tp by unfold aa.Tp;rw[sm.Th]];exact h.UE,by rw[sm.Tj,show(f.ib a w n i).Tp=f.Tp by unfold aa.Tp;rw[sm.Th]];exact h.Vd⟩
   simp only[go_sem,E,F,G,I,J,B,b,d,e,Z,f1,c1,Us,TZ,Um,y,f2,f3];by_cases cl:i+1=n
   .have d2:((i+1:Nat):Int)=(n:Int):=Q;obtain⟨v,W,⟨S,g⟩,t⟩:=fY R (nZ z i) (p:=a+i*w) (v:=0) Q C;subst g;simp only[go_sem,E,F,G,I,J,B,b,d,e,d2,f4,f5,c1,Us,TZ,Um,y];refine ab t ?_;simp only[go_sem,E,F,G,I,J,B,b,d,e,f1];refine⟨n-(i+1),Q,i+1,Q,rfl,rfl,?_⟩;rw[aa.ib,Ti cl];exact S
   have d2:¬((i+1:Nat):Int)=(n:Int):=Q;obtain⟨v,W,⟨S,g⟩,t⟩:=fY R (nZ z i) (p:=a+i*w) (v:=a+(i+1)*w) Q C;subst g;simp only[go_sem,E,F,G,I,J,B,b,d,e,d2,f4,f5,c1,Us,TZ,Um,y];refine ab t ?_;simp only[go_sem,E,F,G,I,J,B,b,d,e,f1];refine⟨n-(i+1),Q,i+1,Q,rfl,rfl,?_⟩;rw[aa.ib,Tg cl];exact S
  have N:i=n:=Q;subst N;have Z:¬((i:Int)<(i:Int)):=Q;have sm:=iR f a w i i;have pg:=pR f a w i i;have L:f.ib a w i i=H.fD p c:=by unfold aa.fD;rw[j,K,x, <- V]
  have O:=nZ z (a:=a) (w:=w) (n:=i) i;rw[L]at R sm pg O;have o:(H.fD p c).Tf p={ cI 4 0 with TQ:=(c:Int) }:=by rw[pg.1,j];simp[aa.aB]
  obtain⟨v,W,⟨S,g⟩,t⟩:=uV R O (p:=p) (c:=c) (q:=0) (by rw[sm.np,k.np];exact hp) (by rw[o];rfl) (by rw[o]) P Q (by have:=(tx P).1;omega);subst g;simp only[go_sem,E,F,G,I,J,B,b,d,e,Z];refine ab t ?_;simp only[go_sem,E,F,G,I,J,B,b,d,e];have l:((H.fD p c).aB p { (H.fD p c).Tf p with first:=0 }).part c=H.part c:=by show(H.fD p c).part c=H.part c;rw[pg.2,j];rfl
  obtain⟨v,ay,⟨R6,g⟩,al⟩:=IE S (dr O) (p:=p) (c:=c) (by show p<(H.fD p c).np;rw[sm.np,k.np];exact hp) P (by simp[aa.aB,o,cI]) (by rw[l];show -1≤H.part c∧H.part c<((H.fD p c).np:Int);rw[sm.np,k.np];exact hh) (by
   rw[l];intro h;have:=h1 h;refine⟨this.1,this.2.1,?_⟩;show _<((H.fD p c).np:Int);rw[sm.np,k.np];exact this.2.2)
  subst g;refine ab al ?_;simp only[go_sem,B];exact R6
 refine⟨rfl,?_,?_,?_,?_,?_,?_,?_,?_,0,Q,Q,?_,X⟩ <;> simp only[go_sem,VN]
def Vr(c:AC):AC:=match c with
 | .seq _ b=>b
 |c=>c
def Vp(c:AC):AC:=c
theorem lE{c:AC}:Vp c=c:=rfl
def fT:Nat->AC->AC
 | 0,c=>Vp c
 |n+1,.seq a b=>.seq a (fT n b)
 |_+1,c=>c
def FC:∀(n:Nat) (c:AC),fT n c=c
 | 0,_=>rfl
 |n+1,.seq a b=>by rw[fT,FC n b]
 |_+1,.skip=>rfl
 |_+1,.region _=>rfl
 |_+1,.YS _ _=>rfl
 |_+1,.Yh _=>rfl
 |_+1,.cond ..=>rfl
 |_+1,.loop ..=>rfl
 |_+1,.block ..=>rfl
 |_+1,.exit ..=>rfl
 |_+1,.ret ..=>rfl
 |_+1,.label ..=>rfl
 |_+1,.goto ..=>rfl
 |_+1,.scope ..=>rfl
 |_+1,.Xe _=>rfl
def lD(n:Nat){Γ:T AF}{M:List fK}{c:AC}{fr:Fr}{σ:St}{K:fA}(h:wp Γ M (fT n c) fr σ K):wp Γ M c fr σ K:=by rw[FC]at h;exact h
attribute [irreducible] Vp
def Kx(e:aw σ A H)(ok:H.OK){p:Nat}{nx pv:Int}(hp:p<H.np)(f:(H.Tf p).kind=4)(a:-1≤nx)(b:nx<(H.np:Int))(c:-1≤pv)(d:pv<(H.np:Int)):
  au G0 [] 258 [.acK (A .map) 0,.i p,.i nx,.i pv] σ fun r σ'=>aw σ' A (H.aB p { H.Tf p with next:=nx,T8:=pv })∧r=.i 0∧AM.Left σ A H σ' A (H.aB p { H.Tf p with next:=nx,T8:=pv }):=
 aw.JZ (Γ:=G0) (fun _ _ h=>h) (fun _ h=>(Xa h).elim) e fun s R=>ru R ok hp f a b c d
def uW(b:aw σ A H)(ok:H.OK){p:Nat}(hp:p<H.np){Q:V->St->Prop}(h:∀a,aH σ a->aw a A H->Q (.tuple [.agg (H.Tf p).cells,.bool true]) a):au G0 [] 80 [.acK (A .map) 0,.i p] σ Q:=by obtain⟨v,a,⟨f,d,c⟩,e⟩:=b.dF (nD b ok hp);subst f;exact ab e (h a d c)
def _root_.AM.aa.gq(H:aa)(p c:Nat):aa:=
 if 0≤(H.Tf p).T8 then H.aB (H.Tf p).T8.toNat { H.Tf (H.Tf p).T8.toNat with next:=(H.Tf p).next,T8:=(H.Tf (H.Tf p).T8.toNat).T8 }else H.dQ c (H.Tf p).next
def _root_.AM.aa.iI(H:aa)(p c:Nat):aa:=
 if 0≤(H.Tf p).next then(H.gq p c).aB (H.Tf p).next.toNat { (H.gq p c).Tf (H.Tf p).next.toNat with next:=((H.gq p c).Tf (H.Tf p).next.toNat).next,T8:=(H.Tf p).T8 }else H.gq p c
def _root_.AM.aa.dh(H:aa)(p c:Nat):aa:=(H.iI p c).aB p { (H.iI p c).Tf p with next:=-1,T8:=-1 }
def sx(H:aa)(p c:Nat):(H.gq p c).cJ H:=by
 unfold aa.gq;by_cases h:0≤(H.Tf p).T8
 .rw[Ti h];exact dG _ _ _
 rw[Tg h];exact mz _ _ _
def z5(ok:H.OK){p c:Nat}:(H.gq p c).OK:=by
 unfold aa.gq;by_cases h:0≤(H.Tf p).T8
 .rw[Ti h];exact dr ok
 rw[Tg h];exact qh ok
def yO(H:aa)(p c:Nat):(H.iI p c).cJ H:=by
 unfold aa.iI;by_cases h:0≤(H.Tf p).next
 .rw[Ti h];exact aa.cJ.trans (dG _ _ _) (sx _ _ _)
 rw[Tg h];exact sx _ _ _
def FO(ok:H.OK){p c:Nat}:(H.iI p c).OK:=by
 unfold aa.iI;by_cases h:0≤(H.Tf p).next
 .rw[Ti h];exact dr (z5 ok)
 rw[Tg h];exact z5 ok
structure _root_.AM.aa.Fv (H:aa) (p c:Nat):Prop where
 next:-1≤(H.Tf p).next∧(H.Tf p).next<(H.np:Int)
 T8:-1≤(H.Tf p).T8∧(H.Tf p).T8<(H.np:Int)
 pk:0≤(H.Tf p).T8 -> (H.Tf (H.Tf p).T8.toNat).kind=4∧-1≤(H.Tf (H.Tf p).T8.toNat).T8∧(H.Tf (H.Tf p).T8.toNat).T8<(H.np:Int)
 nk:0≤(H.Tf p).next -> ((H.gq p c).Tf (H.Tf p).next.toNat).kind=4∧-1≤((H.gq p c).Tf (H.Tf p).next.toNat).next∧((H.gq p c).Tf (H.Tf p).next.toNat).next<(H.np:Int)
 kind:((H.iI p c).Tf p).kind=4
def Ci(hR:aw σ A H)(ok:H.OK){p c:Nat}(hp:p<H.np)(hc:c<8)(hu:H.Fv p c):
  au G0 [] 223 [.acK (A .Ua) 0,.i p,.i c] σ fun r σ'=>aw σ' A (H.dh p c)∧r=.tuple []:=by
 refine ai g223 rfl ?_;refine lD 3 ?_;rw[fT,fT,fT,fT];have h0:=fq hR;have ao:=iM ok;obtain⟨v,ap,⟨o,hs⟩,ah⟩:=ju hR;subst o hs;simp only[go_sem,h0];refine ab ah ?_;simp only[go_sem];refine uW hR ok hp fun k g2 R2=>?_
 obtain⟨x,hx⟩:=acH (H.Tf p);have d:=aQ (σ:=k) (z:=bX.cells) (vs:=x.cells) (n:=11) (by simp[bB.aL]) rfl;have Z:=R2.Ts (n:=11) (z:=bX.cells) (vs:=x.cells) (by simp[bB.aL]) rfl;have D:=To.Ts k 11 bX.cells x.cells rfl;have X:∀s,H.has s->A s≠k.next:=fun s hs=>by have:=R2.lt (s:=s) hs;omega
 have hz:bX.cells=[V.i 0,.i 0,.i 0,.i 0,.i 0,.i 0,.i 0,.u 0,.u 0,.u 0,.u 0]:=rfl;rw[hz]at d Z D;rw[<- hx];simp only[go_sem,TH,TK,aj,bB.aL,d];generalize k.next=I at D X⊢;generalize k.Ts 11 _ _=ar at Z D⊢;have l4:∀{s:St},To s I 11 (Tn x.cells)->s.cell I 4=some (.i x.next):=fun h=>h.cell Q
 have l5:∀{s:St},To s I 11 (Tn x.cells)->s.cell I 5=some (.i x.T8):=fun h=>h.cell Q
 have c1:(0:Int)≤(c:Int)∧(c:Int)<((8:Nat):Int):=Q;obtain⟨u1,u2,u3,u4,u5⟩:=hu;rw[<- hx]at u1 u2 u3 u4;have j:∀(s:St),aw s A (H.gq p c)->To s I 11 (Tn x.cells)->(∀t,H.has t->A t≠I)->∀(fr:Fr) (K:fA),fr.defers=[]->fr.tmps.get 6=some (.acK (A .map) 0)->fr.tmps.get 7=some (.acK I 0)->fr.tmps.get 1=some (.i p) →
   (∀Tw J,Tw.defers=[]->aw J A (H.dh p c)->K .normal Tw J) →
   wp G0 [] (Vp (Vr (Vr (Vr c223.body)))) fr s K:=by
  rintro s R L N ⟨tm,ds⟩ K b t6 t7 t1 hK;simp only at b t6 t7 t1;subst b;rw[lE];have C:=sx H p c;have ac:(H.gq p c).OK:=z5 ok;have G:∀(J:St),aw J A (H.iI p c)->au G0 [] 258 [.acK (A .map) 0,.i p,.i (-1),.i (-1)] J fun r σ'=>aw σ' A (H.dh p c)∧r=.i 0:=by intro J Y;have U:=yO H p c;exact ru Y (FO ok) (p:=p) (by rw[U.np];exact hp) u5 Q (by rw[U.np];omega) Q (by rw[U.np];omega)
  by_cases m:0≤x.next
  .obtain⟨P,S,T⟩:=u4 m;obtain⟨q,hq⟩:∃q:Nat,x.next=(q:Int):=⟨x.next.toNat,Q⟩
   have g:x.next.toNat=q:=Q;rw[g]at P S T;have c3:(0:Int)≤(q:Int):=Q;have W:=l4 L;rw[hq]at W;simp only[Vr,c223];simp only[go_sem,t6,t7,t1,W,c3];refine uW R ac (p:=q) (by rw[C.np];omega) fun e g4 E=>?_
   have L4:=L.Ui R.gw g4;obtain⟨y,hy⟩:=acH ((H.gq p c).Tf q);rw[<- hy]at P S T⊢;have d:=aQ (σ:=e) (z:=bX.cells) (vs:=y.cells) (n:=11) (by simp[bB.aL]) rfl;have g5:=aH.Ts e 11 bX.cells y.cells;have F:=E.Ts (n:=11) (z:=bX.cells) (vs:=y.cells) (by simp[bB.aL]) rfl;have l:=To.Ts e 11 bX.cells y.cells rfl;have a:=L4.Ui E.gw g5;rw[hz]at d F l g5 a;have ag:I≠e.next:=by have:=L4.lt E.gw;omega
   simp only[go_sem,TH,TK,aj,bB.aL,d];generalize e.next=ly at l ag⊢;generalize e.Ts 11 _ _=s5 at F l a⊢;have w:=l4 a;rw[hq]at w;have B:=l5 a;have n4:=l.cell (i:=4) Q;rw[show Tn y.cells 4=.i y.next from rfl]at n4;simp only[go_sem,t6,t7,t1,w,B,n4];obtain⟨v,s6,⟨R6,o⟩,M⟩:=ru F ac (p:=q) (nx:=y.next) (pv:=x.T8) (by rw[C.np];omega) (by rw[<- hy];exact P) S (by rw[C.np];exact T) u2.1 (by rw[C.np];exact u2.2);subst o;refine ab M ?_;have f:aw s6 A (H.iI p c):=by unfold aa.iI;rw[<- hx,Ti m,g, <- hy];rw[<- hy]at R6;exact R6
   obtain⟨v,s7,⟨R7,o⟩,O⟩:=G s6 f;subst o;simp only[go_sem,t6,t7,t1];refine ab O ?_;exact hK _ _ rfl R7
  have W:=l4 L;simp only[Vr,c223];simp only[go_sem,t6,t7,t1,W,m];have f:aw s A (H.iI p c):=by unfold aa.iI;rw[<- hx,Tg m];exact R
  obtain⟨v,s7,⟨R7,o⟩,O⟩:=G s f;subst o;refine ab O ?_;exact hK _ _ rfl R7
 by_cases m:0≤x.T8
 .obtain⟨P,S,T⟩:=u3 m;obtain⟨q,hq⟩:∃q:Nat,x.T8=(q:Int):=⟨x.T8.toNat,Q⟩
  have g:x.T8.toNat=q:=Q;rw[g]at P S T;have c3:(0:Int)≤(q:Int):=Q;have m5:=l5 D;rw[hq]at m5;simp only[go_sem,m5,c3];refine uW Z ok (p:=q) Q fun e g4 E=>?_
  have L4:=D.Ui Z.gw g4;obtain⟨y,hy⟩:=acH (H.Tf q);rw[<- hy]at P S T⊢;have d:=aQ (σ:=e) (z:=bX.cells) (vs:=y.cells) (n:=11) (by simp[bB.aL]) rfl;have g5:=aH.Ts e 11 bX.cells y.cells;have F:=E.Ts (n:=11) (z:=bX.cells) (vs:=y.cells) (by simp[bB.aL]) rfl;have l:=To.Ts e 11 bX.cells y.cells rfl;have a:=L4.Ui E.gw g5;rw[hz]at d F l g5 a;simp only[go_sem,TH,TK,aj,bB.aL,d];generalize e.next=ly at l⊢;generalize e.Ts 11 _ _=s5 at F l a⊢;have w:=l4 a;have B:=l5 a;rw[hq]at B;have n5:=l.cell (i:=5) Q;rw[show Tn y.cells 5=.i y.T8 from rfl]at n5;simp only[go_sem,w,B,n5];obtain⟨v,s6,⟨R6,o,am⟩,M⟩:=Kx F ok (p:=q) (nx:=x.next) (pv:=y.T8) Q (by rw[<- hy];exact P) u1.1 u1.2 S T;subst o;refine ab M ?_;have L6:=a.left F am X;have f:aw s6 A (H.gq p c):=by unfold aa.gq;rw[<- hx,Ti m,g, <- hy];rw[<- hy]at R6;exact R6
  refine j s6 f L6 X _ _ rfl ?_ ?_ ?_ ?_
  .simp only[go_sem]
  .simp only[go_sem]
  .simp only[go_sem]
  rintro⟨tm,ds⟩ J b Y;simp only at b;subst b;simp only[go_sem];exact Y
 have m5:=l5 D;have W:=l4 D;obtain⟨ad,al,E,S4⟩:=pW Z (c:=c) (v:=x.next) hc;simp only[go_sem,m5,m,W,c1,Us,TZ,Um,az,TH,TK,al];have af:aw ad A (H.gq p c):=by unfold aa.gq;rw[<- hx,Tg m];exact E
 refine j ad af (S4.TE _ _ _ D X) X _ _ ?_ ?_ ?_ ?_ ?_
 .simp only[go_sem]
 .simp only[go_sem]
 .simp only[go_sem]
 .simp only[go_sem]
 rintro⟨tm,ds⟩ J b Y;simp only at b;subst b;simp only[go_sem];exact Y
theorem K0(g:bB)(q:Nat)(b:Bool):(g.TJ q b).kind=g.kind:=rfl
theorem Ng(g:bB)(q:Nat)(b:Bool):(g.TJ q b).TQ=g.TQ:=rfl
def Kr(ok:H.OK)(p:Nat):0<H.Tk p:=by have:=ok.Wc;unfold aa.Tk;omega
def _root_.AM.aa.ft(H:aa)(p f:Nat)(nf:Int):aa:=(H.aB p ((H.Tf p).TJ f true)).aB p { (H.aB p ((H.Tf p).TJ f true)).Tf p with first:=nf }
def _root_.AM.aa.Tz(H:aa)(p c f:Nat)(nf:Int):aa:=if nf<0 then(H.ft p f nf).dh p c else H.ft p f nf
def tW(H:aa)(p f:Nat)(nf:Int):(H.ft p f nf).cJ H:=aa.cJ.trans (dG _ _ _) (dG _ _ _)
def rY(ok:H.OK){p f:Nat}{nf:Int}:(H.ft p f nf).OK:=dr (dr ok)
def nG(H:aa)(p c:Nat):(H.dh p c).cJ H:=aa.cJ.trans (dG _ _ _) (yO _ _ _)
def tq(ok:H.OK){p c:Nat}:(H.dh p c).OK:=dr (FO ok)
def C8(ok:H.OK){p c f:Nat}{nf:Int}:(H.Tz p c f nf).OK:=by
 unfold aa.Tz;by_cases h:nf<0
 .rw[Ti h];exact tq (rY ok)
 rw[Tg h];exact rY ok
structure _root_.AM.aa.sn (H:aa) (p c f:Nat) (nf:Int):Prop where
 Tf:p<H.np
 abL:c<8
 kind:(H.Tf p).kind=4
 TQ:(H.Tf p).TQ=(c:Int)
 first:(H.Tf p).first=(f:Int)
 cell:f<256 / 2^c
 Uf:∀ j,(H.Tf p).bw j<18446744073709551616
 Vf:(H.Tf p).Uc f=0
 Ty:0≤(H.Tf p).Ty∧(H.Tf p).Ty≤256
 next:(nf=-1∧H.UD (H.Tk p+f*(16*2^c))=0)∨(0≤nf∧nf<((256 / 2^c:Nat):Int)∧H.UD (H.Tk p+f*(16*2^c))=H.Tk p+nf.toNat*(16*2^c))
 un:nf=-1 -> (H.ft p f nf).Fv p c
def w8{c:Nat}(a:c<8):16*2^c*(256/2^c)=4096∧16≤16*2^c∧16*2^c≤2048∧2≤256/2^c∧256/2^c≤256:=by rcases(by omega:c=0∨c=1∨c=2∨c=3∨c=4∨c=5∨c=6∨c=7)with rfl|rfl|rfl|rfl|rfl|rfl|rfl|rfl <;> decide
def ze(ok:H.OK){p c f:Nat}{nf:Int}(h:H.sn p c f nf){b:Bool}:
  ∀(s:St),aw s A H->∀(fr:Fr) (K:fA),fr.defers=[]->fr.tmps.get 0=some (.acK (A .Ua) 0)->fr.tmps.get 1=some (.i c)->fr.tmps.get 9=some (.i p)->fr.tmps.get 7=some (.bool b) →
   (∀Tw s',Tw.defers=[]->aw s' A (H.Tz p c f nf)->Tw.tmps.get 6=some (.u (H.Tk p+f*(16*2^c):Nat))->Tw.tmps.get 7=some (.bool b)->Tw.tmps.get 8=some (.i 0)->K .ret Tw s') →
   wp G0 [] (Vp (Vr (Vr (Vr (Vr c203.body))))) fr s K:=by
 rintro s R ⟨tm,ds⟩ K N a d g e hK;simp only at N a d g e;subst N;rw[lE];obtain⟨C,E,j,B,m,hf,r,F,G,k,ap⟩:=h;have aP:=iM ok;have ha:=eU ok (aaM C);obtain⟨w,l⟩:=acH (16*2^c);obtain⟨n,o⟩:=acH (256/2^c);have S:=w8 E;rw[<- l, <- o]at S;rw[<- l, <- o]at k;rw[<- l]at hK;obtain⟨w1,w2,w3,w4,w5⟩:=S;have ad:f<n:=by rw[o];exact hf
 have h0:=fq R;obtain⟨v,aU,⟨J,hs⟩,ag⟩:=ju R;subst J hs;simp only[Vr,c203];simp only[go_sem,a,d,g,e,h0];refine ab ag ?_;simp only[go_sem,a,d,g,e,h0];refine uW R ok C fun t g2 R2=>?_
 obtain⟨x,hx⟩:=acH (H.Tf p);have P:=aQ (σ:=t) (z:=bX.cells) (vs:=x.cells) (n:=11) (by simp[bB.aL]) rfl;have y:=R2.Ts (n:=11) (z:=bX.cells) (vs:=x.cells) (by simp[bB.aL]) rfl;have M:=To.Ts t 11 bX.cells x.cells rfl;have hz:bX.cells=[V.i 0,.i 0,.i 0,.i 0,.i 0,.i 0,.i 0,.u 0,.u 0,.u 0,.u 0]:=rfl;rw[hz]at P y M;rw[<- hx];simp only[go_sem,TH,TK,aj,bB.aL,P,a,d,g,e];generalize t.next=lx at M⊢;generalize t.Ts 11 _ _=ba at y M⊢;have l6:∀{s:St},To s lx 11 (Tn x.cells)->s.cell lx 6=some (.i f):=fun h=>by rw[h.cell Q];rw[<- m, <- hx];rfl
 obtain⟨v,bb,⟨J,hs⟩,ah⟩:=Ao y ok;subst J hs;refine ab ah ?_;have e1:IntKind.u64.wrap (p:Int)=(p:Int):=cd Q Q;have e2:IntKind.u64.wrap ((4096:Int)*(p:Int))=((4096*p:Nat):Int):=by rw[cd] <;> omega
 have e3:IntKind.u64.wrap ((H.Tj:Int)+((4096*p:Nat):Int))=(H.Tk p:Int):=by unfold aa.Tk at *;rw[cd] <;> omega
 have e4:IntKind.u64.wrap (f:Int)=(f:Int):=cd Q Q;have aM:f*w+w≤4096:=by have h:(f+1)*w≤n*w:=UG _ ad;rw[UW,UF n,w1]at h;omega
 have e5:IntKind.u64.wrap ((f:Int)*(w:Int))=((f*w:Nat):Int):=gV Q;have aJ:H.Tk p+4096<18446744073709551616:=by have:=eU ok (p:=p+1) C;unfold aa.Tk at *;omega
 have e6:IntKind.u64.wrap ((H.Tk p:Int)+((f*w:Nat):Int))=((H.Tk p+f*w:Nat):Int):=bD Q;have T:=y.Ub.cell E;rw[<- l]at T;have c1:(0:Int)≤(c:Int)∧(c:Int)<((8:Nat):Int):=Q;have m6:=l6 M;have ac:=fq y;obtain⟨v,bd,⟨J,hs⟩,al⟩:=gG y;subst J hs;simp only[go_sem,a,d,g,e,e1,e2,e3,e4,e5,e6,m6,c1,Us,TZ,Um,T,ac];refine ab al ?_;have af:H.In (H.Tk p+f*w) 8:=rb (iq ok (p:=p) (n:=4096) C (Tx _)) Q Q;obtain⟨v,be,⟨J,R6,g6⟩,am⟩:=El y ok af;subst J;simp only[go_sem,a,d,g,e];refine ab am ?_;have L6:=M.Ui y.gw g6;have U:=l6 L6;have ay:=tW H p f nf;have ax:(H.ft p f nf).OK:=rY ok;have D:=R6.Ub.cell E;rw[<- l]at D;have TJ:=OU R6 ok (p:=p) (c:=c) (q:=f) (b:=true) C j B E hf r (by rw[F];rfl) G;obtain⟨v7,bi,⟨R7,ar⟩,O⟩:=TJ;subst ar;have W:(H.aB p ((H.Tf p).TJ f true)).OK:=dr ok;have X:(H.aB p ((H.Tf p).TJ f true)).Tf p=(H.Tf p).TJ f true:=by simp[aa.aB]
 have kO:((H.aB p ((H.Tf p).TJ f true)).Tf p).kind=4:=by rw[X];exact(K0 _ _ _).trans j
 have cO:((H.aB p ((H.Tf p).TJ f true)).Tf p).TQ=(c:Int):=by rw[X];exact(Ng _ _ _).trans B
 rcases k with⟨n1,n2⟩|⟨n1,n2,n3⟩
 .subst n1;have Z:((H.UD (H.Tk p+f*w):Nat):Int)=0:=by rw[n2];rfl
  obtain⟨v8,aC,⟨Y,L⟩,I⟩:=uV R7 W (p:=p) (c:=c) (q:=-1) C kO cO E Q Q;subst L;simp only[go_sem,a,d,g,e,U,Z,TV,Uq];refine ab O ?_;simp only[go_sem,a,d,g,e];refine ab I ?_;obtain⟨v9,bk,⟨R9,av⟩,ao⟩:=Ci (H:=H.ft p f (-1)) Y ax (p:=p) (c:=c) (by rw[ay.np];exact C) E (ap rfl);subst av;have d6:(-1:Int)<0:=by decide
  simp only[go_sem,a,d,g,e,d6];refine ab ao ?_;simp only[go_sem,a,d,g,e];refine hK _ _ rfl (by unfold aa.Tz;rw[Ti Q];exact R9) ?_ ?_ ?_ <;>
   simp only[go_sem,a,d,g,e]
 obtain⟨q,hq⟩:∃q:Nat,nf=(q:Int):=⟨nf.toNat,Q⟩
 subst hq;rw[TZ]at n3;have Z:¬((H.UD (H.Tk p+f*w):Nat):Int)=0:=by have:=Kr ok p;omega
 have aS:q*w+w≤4096:=by have h:(q+1)*w≤n*w:=UG _ Q;rw[UW,UF n,w1]at h;omega
 have d2:IntKind.u64.wrap (((H.UD (H.Tk p+f*w):Nat):Int)-(H.Tk p:Int))=((q*w:Nat):Int):=by rw[n3,cd] <;> omega
 have cw:(w:Int)≠0:=Q;have d3:IntKind.u64.wrap (((q*w:Nat):Int).tdiv (w:Int))=(q:Int):=by rw[iw Q,WG _ Q]
 have d4:IntKind.i64.wrap (q:Int)=(q:Int):=bF Q;have d5:¬((q:Int)<0):=Q;obtain⟨v8,aC,⟨Y,L⟩,I⟩:=uV R7 W (p:=p) (c:=c) (q:=q) C kO cO E Q (by rw[<- o];exact n2);subst L;simp only[go_sem,a,d,g,e,U,Z,d2,bc,cw,TV,Ug,d3,d4,D,c1,Us,TZ,Um];refine ab O ?_;simp only[go_sem,a,d,g,e];refine ab I ?_;simp only[go_sem,a,d,g,e,d5];refine hK _ _ rfl (by unfold aa.Tz;rw[Tg d5];exact Y) ?_ ?_ ?_ <;>
  simp only[go_sem,a,d,g,e]
def NW(e:aw σ A H)(ok:H.OK){p c f:Nat}{nf:Int}{d:V}(t:H.part c=(p:Int))(h:H.sn p c f nf):
  au G0 [] 203 [.acK (A .Ua) 0,.i c,d] σ fun r σ'=>aw σ' A (H.Tz p c f nf)∧r=.tuple [.u (H.Tk p+f*(16*2^c):Nat),.bool false,.i 0]:=by
 have s:=h.abL;refine ai g203 rfl ?_;refine lD 4 ?_;rw[fT,fT,fT,fT,fT];have c1:(0:Int)≤(c:Int)∧(c:Int)<((8:Nat):Int):=Q;have n:¬((c:Int)<0):=Q;have o:¬((8:Int)≤(c:Int)):=Q;have q:¬((p:Int)<0):=Q;have m:=oT e s;rw[t]at m;simp only[go_sem,c1,n,o,q,m,Us,TZ,Um,ge_iff_le];refine ze ok h (b:=false) _ e _ _ rfl ?_ ?_ ?_ ?_ ?_
 .simp only[go_sem]
 .simp only[go_sem]
 .simp only[go_sem]
 .simp only[go_sem]
 rintro⟨w,ds⟩ v a l g j k;simp only at a g j k;subst a;simp only[go_sem,g,j,k];exact l
def Je(b:aw σ A H)(ok:H.OK){c:Nat}{d:V}{e:Int}{g:Bool}{x:Nat}(l:c<8)(o:H.part c=-1){Q:St->Prop}(n:e≠0)(hn:au G0 [] 205 [.acK (A .Ud) 0,.i 0,d] σ fun r σ'=>Q σ'∧r=.tuple [.u x,.bool g,.i e]):
  au G0 [] 203 [.acK (A .Ua) 0,.i c,d] σ fun r σ'=>Q σ'∧r=.tuple [.u 0,.bool false,.i e]:=by
 refine ai g203 rfl ?_;refine lD 4 ?_;rw[fT,fT,fT,fT,fT];have c1:(0:Int)≤(c:Int)∧(c:Int)<((8:Nat):Int):=acG;have f:¬((c:Int)<0):=acG;have h:¬((8:Int)≤(c:Int)):=acG;have j:(-1:Int)<0:=acG;have m:=oT b l;rw[o]at m;have k:=fq b;obtain⟨v,s,⟨q,p⟩,a⟩:=hn;subst p;simp only[go_sem,c1,f,h,j,m,Us,TZ,Um,ge_iff_le,k];refine ab a ?_;simp only[go_sem,n,TV,Ug];exact q
def JN(s:aw σ A H){c:Nat}{d:V}{g:Bool}(t:c<8)(I:H.part c=-1){A':Tu->Nat}{H':aa}(q:A' .Ua=A .Ua)(n:H'.OK){p:Nat}(hp:p<H'.np)(e:H'.part c=-1)(hn:au G0 [] 205 [.acK (A .Ud) 0,.i 0,d] σ fun r σ'=>aw σ' A' H'∧r=.tuple [.u (H'.Tk p),.bool g,.i 0]){f:Nat}{nf:Int}(h:(H'.born p c).sn p c f nf)(o:(H'.born p c).OK)(ha:(H'.born p c).Tk p=H'.Tk p):
  au G0 [] 203 [.acK (A .Ua) 0,.i c,d] σ fun r σ'=>aw σ' A' ((H'.born p c).Tz p c f nf)∧r=.tuple [.u (H'.Tk p+f*(16*2^c):Nat),.bool g,.i 0]:=by
 refine ai g203 rfl ?_;refine lD 4 ?_;rw[fT,fT,fT,fT,fT];have c1:(0:Int)≤(c:Int)∧(c:Int)<((8:Nat):Int):=Q;have D:¬((c:Int)<0):=Q;have E:¬((8:Int)≤(c:Int)):=Q;have F:(-1:Int)<0:=Q;have m:=oT s t;rw[I]at m;have G:=fq s;obtain⟨v,J,⟨B,l⟩,k⟩:=hn;subst l;simp only[go_sem,c1,D,E,F,m,Us,TZ,Um,ge_iff_le,G];refine ab k ?_;obtain⟨v,K,⟨C,l⟩,j⟩:=Ql B n (p:=p) (c:=c) hp t (by rw[e];omega) (by rw[e];intro h;omega);subst l;rw[q]at j;simp only[go_sem,TV,Uq];refine ab j ?_;simp only[go_sem];refine ze o h (b:=g) _ C _ _ rfl ?_ ?_ ?_ ?_ ?_
 .rw[q];simp only[go_sem]
 .simp only[go_sem]
 .simp only[go_sem]
 .simp only[go_sem]
 rintro⟨M,ds⟩ L a z w x y;simp only at a w x y;subst a;simp only[go_sem,w,x,y];rw[ha];exact⟨z,rfl⟩
def Pl(hR:aw σ A H)(ok:H.OK){p c q:Nat}(hp:p<H.np)(t:(H.Tf p).kind=4)(C:(H.Tf p).TQ=(c:Int))(hc:c<8)(hq:q<256/2^c)(g:∀j,(H.Tf p).bw j<18446744073709551616):
  au G0 [] 220 [.acK (A .Ua) 0,.u (H.Tk p+q*(16*2^c):Nat)] σ fun r σ'=>
   r=.tuple [.i p,.i q,.agg (H.Tf p).cells,.bool (decide ((H.Tf p).Uc q=1))]∧aH σ σ':=by
 refine ai g220 rfl ?_;obtain⟨w,z⟩:=acH (16*2^c);obtain⟨n,G⟩:=acH (256/2^c);have I:=w8 hc;rw[<- z, <- G]at I;rw[<- z];rw[<- G]at hq;obtain⟨w1,w2,w3,w4,w5⟩:=I;have ac:q*w+w≤4096:=by have h:(q+1)*w≤n*w:=UG _ hq;rw[UW,UF n,w1]at h;omega
 have ap:=iM ok;have ao:H.Tk p+4096<18446744073709551616:=by have:=eU ok (p:=p+1) hp;unfold aa.Tk at *;omega
 have hz:bX.cells=[V.i 0,.i 0,.i 0,.i 0,.i 0,.i 0,.i 0,.u 0,.u 0,.u 0,.u 0]:=rfl;have U:=aH.new σ (.acM 11 bX.cells .nil);have f:=hR.new (.acM 11 bX.cells .nil) rfl;have L:=To.fx σ bX.cells 11 (.inl (by simp[hz]));rw[hz]at U f L;obtain⟨B,Y⟩:=acH (σ.next);simp only[go_sem,TH,TK];rw[<- Y]at L⊢;have N1:∀s,H.has s->A s≠B:=fun s hs=>by have:=hR.lt hs;omega
 generalize σ.new (.acM 11 _ .nil)=ar at U f L⊢;have h0:=fq f;obtain⟨v,av,⟨y,hs⟩,ad⟩:=ju f;subst y hs;simp only[go_sem,h0];refine ab ad ?_;obtain⟨v,ax,⟨y,hs⟩,af⟩:=Ao f ok;subst y hs;simp only[go_sem,h0];refine ab af ?_;obtain⟨o,Z⟩:=acH (q*w);rw[<- Z]at ac⊢;obtain⟨a,X⟩:=acH (H.Tk p+o);rw[<- X];have c1:¬((a:Int)<(H.Tj:Int)):=by unfold aa.Tk at *;omega
 have S:IntKind.u64.wrap ((a:Int)-(H.Tj:Int))=((4096*p+o:Nat):Int):=by unfold aa.Tk at *;rw[cd] <;> omega
 have R:(4096:Int)≠0:=by decide
 have e2:IntKind.u64.wrap (((4096*p+o:Nat):Int).tdiv 4096)=(p:Int):=by rw[show(4096:Int)=((4096:Nat):Int)from rfl,jQ,cd] <;> omega
 have T:((4096*p+o:Nat):Int).tmod 4096=(o:Int):=by rw[show(4096:Int)=((4096:Nat):Int)from rfl,aW];omega
 have e3:IntKind.u64.wrap (H.np:Int)=(H.np:Int):=cd Q Q;have c3:¬((H.np:Int)≤(p:Int)):=Q;obtain⟨v,ay,⟨y,hs⟩,ag⟩:=oK f ok;subst y hs;simp only[go_sem,c1,S,R,bc,aZ,TV,Ug,e2];refine ab ag ?_;have e4:IntKind.i64.wrap (p:Int)=(p:Int):=bF Q;simp only[go_sem,c1,S,R,c3,bc,aZ,TV,Ug,e2,e3,e4];obtain⟨v,aB,⟨y,g5,P⟩,ah⟩:=f.dF (nD f ok hp);subst y;refine ab ah ?_;have L5:=L.Ui f.gw g5;obtain⟨x,hx⟩:=acH (H.Tf p);obtain⟨e,al,L6,w6,M⟩:=L5.store P.gw (off:=0) (vs:=x.cells) (by simp[bB.aL]) rfl;have d:To e B 11 (Tn x.cells):=L6.congr (Tx _) fun i hi=>by simp only[UO,VK,WK,bB.aL,Vk,hi,TT,Zr,Tn]
 have R6:=P.VW w6 N1 M (P.Ub.gR L5);have W:aH σ e:=by have l:=U.trans g5;exact⟨by rw[M.next];exact l.next,M.TX.trans l.TX,fun a ha=>(M.TE a Q).trans (l.TE a ha)⟩
 obtain⟨K,am,L7,w7,O⟩:=d.store R6.gw (off:=0) (vs:=x.cells) (by simp[bB.aL]) rfl;have N:To K B 11 (Tn x.cells):=L7.congr (Tx _) fun i hi=>by simp only[UO,VK,WK,bB.aL,Vk,hi,TT,Zr,Tn]
 have g7:aH σ K:=⟨by rw[O.next];exact W.next,O.TX.trans W.TX,fun a ha=>(O.TE a Q).trans (W.TE a ha)⟩
 have E:=N.load (off:=0) (k:=11) Q;rw[show((List.range 11).map fun j=>Tn x.cells (0+j))=x.cells from rfl]at E;have k0:e.cell B 0=some (.i 4):=by rw[d.cell Q];rw[<- t, <- hx];rfl
 have k2:e.cell B 2=some (.i c):=by rw[d.cell Q];rw[<- C, <- hx];rfl
 have hl:=d.load (off:=0) (k:=11) Q;rw[show((List.range 11).map fun j=>Tn x.cells (0+j))=x.cells from rfl]at hl;have J:=R6.Ub.cell hc;rw[<- z]at J;have c4:(0:Int)≤(c:Int)∧(c:Int)<((8:Nat):Int):=Q;have cw:(w:Int)≠0:=Q;have e5:(o:Int).tmod (w:Int)=0:=by rw[aW,Z,Xl];rfl
 have e6:IntKind.u64.wrap ((o:Int).tdiv (w:Int))=(q:Int):=by rw[iw Q,Z,WG _ Q]
 have e7:IntKind.i64.wrap (q:Int)=(q:Int):=bF Q;have c5:(64:Int)≠0:=by decide
 have f2:IntKind.i64.wrap ((q:Int).tdiv 64)=((q/64:Nat):Int):=oW (b:=64) Q;have f3:((q:Int).tmod 64)=((q%64:Nat):Int):=aW q 64;have hj:q/64<4:=Q;have hm:q%64<64:=Wt _ Q;obtain⟨j,D⟩:=acH (q/64);obtain⟨m,F⟩:=acH (q%64);rw[<- D]at hj f2;rw[<- F]at hm f3;have c6:(0:Int)≤(j:Int)∧(j:Int)<((4:Nat):Int):=Q;have h1:e.cell B (7+j)=some (.u (x.bw j)):=by rw[d.cell Q, <- rQ x hj];rcases(by omega:j=0∨j=1∨j=2∨j=3)with h|h|h|h <;> rw[h] <;> rfl
 have c7:(0:Int)≤(m:Int):=Q;have f4:nE .u64 ((x.bw j:Nat):Int) (m:Int)=((x.bw j/2^m:Nat):Int):=gM rfl Q;have f5:=rq (w:=x.bw j) (n:=m) (by rw[hx];exact g j);have f6:(decide (((x.bw j/2^m%2:Nat):Int)=1))=decide (x.Uc q=1):=by
  have:x.Uc q=x.bw j/2^m%2:=by simp[bB.Uc, <- D, <- F]
  rw[this];exact Zw.mpr Q
 rw[<- hx];simp only[go_sem,aj,bB.aL,al,c1,S,R,bc,aZ,TV,Ug,Uq,T,k0,k2,c4,Us,TZ,Um,J,cw,e5,e6,e7,c5,f2,f3,c6,h1,c7,bA,f4,f5,f6,hl,am,E];exact g7
def _root_.AM.aa.dz(H:aa)(p q:Nat):aa:=H.aB p ((H.Tf p).TJ q false)
def _root_.AM.aa.dy(H:aa)(p c q:Nat):aa:=if(H.Tf p).first<0 then(H.dz p q).Vh p c else H.dz p q
def _root_.AM.aa.lB(H:aa)(p c:Nat):Nat:=if(H.Tf p).first<0 then 0 else H.Tk p+(H.Tf p).first.toNat*(16*2^c)
def _root_.AM.aa.qm(H:aa)(p c q:Nat):aa:=(H.dy p c q).dO (H.Tk p+q*(16*2^c)) (H.lB p c)
def _root_.AM.aa.V1(H:aa)(p c q:Nat):aa:=(H.qm p c q).aB p { (H.qm p c q).Tf p with first:=q }
def _root_.AM.aa.gN(H:aa)(p c q:Nat):aa:=((H.dz p q).dh p c).run p 0 2
def yT(H:aa)(p c:Nat):(H.Vh p c).cJ H:=by
 unfold aa.Vh;by_cases h:0≤H.part c
 .rw[Ti h];exact aa.cJ.trans (mz _ _ _) (aa.cJ.trans (dG _ _ _) (dG _ _ _))
 rw[Tg h];exact aa.cJ.trans (mz _ _ _) (dG _ _ _)
def Gf(ok:H.OK){p c:Nat}:(H.Vh p c).OK:=by
 unfold aa.Vh;by_cases h:0≤H.part c
 .rw[Ti h];exact qh (dr (dr ok))
 rw[Tg h];exact qh (dr ok)
def Iw(H:aa)(p c i:Nat):∃nx pv,(H.Vh p c).Tf i={ H.Tf i with next:=nx,T8:=pv }:=by
 have a:∀i, ∃nx pv,(H.du p c).Tf i={ H.Tf i with next:=nx,T8:=pv }:=by
  intro i;by_cases e:i=p
  .subst e;exact⟨H.part c, -1,by simp[aa.du,aa.aB]⟩
  exact⟨(H.Tf i).next,(H.Tf i).T8,by simp[aa.du,aa.aB,e]⟩
 unfold aa.Vh;by_cases h:0≤H.part c
 .rw[Ti h];obtain⟨nx,pv,k⟩:=a i;by_cases e:i=(H.part c).toNat
  .subst e;refine⟨nx,p,?_⟩;show((H.du p c).aB _ _).Tf _=_;simp only[aa.aB,TT,k]
  refine⟨nx,pv,?_⟩;show((H.du p c).aB _ _).Tf _=_;simp only[aa.aB,e,Ul,k]
 rw[Tg h];exact a i
def kY(H:aa)(p q:Nat):(H.dz p q).cJ H:=dG _ _ _
def ph(ok:H.OK){p q:Nat}:(H.dz p q).OK:=dr ok
def lp(H:aa)(p c q:Nat):(H.dy p c q).cJ H:=by
 unfold aa.dy;by_cases h:(H.Tf p).first<0
 .rw[Ti h];exact aa.cJ.trans (yT _ _ _) (kY _ _ _)
 rw[Tg h];exact kY _ _ _
def yH(ok:H.OK){p c q:Nat}:(H.dy p c q).OK:=by
 unfold aa.dy;by_cases h:(H.Tf p).first<0
 .rw[Ti h];exact Gf (ph ok)
 rw[Tg h];exact ph ok
def mU(H:aa)(p c q:Nat):(H.V1 p c q).cJ H:=aa.cJ.trans (dG _ _ _) (aa.cJ.trans (fZ _ _ _) (lp _ _ _ _))
def JV(ok:H.OK){p c q:Nat}:(H.V1 p c q).OK:=dr (fL (yH ok) _ _)
def C1(H:aa)(p c q i:Nat):∃nx pv,(H.dy p c q).Tf i={ (H.dz p q).Tf i with next:=nx,T8:=pv }:=by
 unfold aa.dy;by_cases h:(H.Tf p).first<0
 .rw[Ti h];exact Iw _ _ _ _
 rw[Tg h];exact⟨_,_,rfl⟩
structure _root_.AM.aa.ED (H:aa) (p c q:Nat):Prop where
 Tf:p<H.np
 abL:c<8
 kind:(H.Tf p).kind=4
 TQ:(H.Tf p).TQ=(c:Int)
 cell:q<256 / 2^c
 Uf:∀ j,(H.Tf p).bw j<18446744073709551616
 held:(H.Tf p).Uc q=1
 Ty:1≤(H.Tf p).Ty∧(H.Tf p).Ty≤256
 first:-1≤(H.Tf p).first∧(H.Tf p).first<((256 / 2^c:Nat):Int)
 un:(H.Tf p).Ty=1 -> (H.dz p q).Fv p c
 hg:(H.Tf p).Ty≠1 -> (H.Tf p).first<0 -> (-1≤H.part c∧H.part c<(H.np:Int)) ∧
  (0≤H.part c -> (((H.dz p q).du p c).Tf (H.part c).toNat).kind=4∧-1≤(((H.dz p q).du p c).Tf (H.part c).toNat).next∧(((H.dz p q).du p c).Tf (H.part c).toNat).next<(H.np:Int))
def yN(ok:H.OK){p c q:Nat}(h:H.ED p c q){U:Nat}{x:bB}(hx:x=H.Tf p){s:St}(R:aw s A (H.dy p c q))(L:To s U 11 (Tn x.cells)):
  au G0 [] 226 [.acK (A .TY) 0,.u (H.Tk p+q*(16*2^c):Nat),.u (H.lB p c)] s fun r D=>r=.i 0∧aw D A (H.qm p c q)∧
   au G0 [] 227 [.acK (A .map) 0,.i p,.i q] D fun r s2=>r=.i 0∧aw s2 A (H.V1 p c q):=by
 obtain⟨o,F,d,f,O,j,k,m,g,S,M⟩:=h;have B:=w8 F;obtain⟨I,X,Y,Z,w5⟩:=B;have sm:=lp H p c q;have e:=yH ok (p:=p) (c:=c) (q:=q);have K:H.Tk p+4096<18446744073709551616:=by have:=eU ok (p:=p+1) o;unfold aa.Tk at *;omega
 have P:q*(16*2^c)+16*2^c≤4096:=by have h:(q+1)*(16*2^c)≤256/2^c*(16*2^c):=UG _ O;rw[UW,UF (256/2^c),I]at h;omega
 have l:(H.dy p c q).In (H.Tk p+q*(16*2^c)) 8:=by have h:=iq e (p:=p) (n:=4096) (by rw[sm.np];exact o) (Tx _);rw[sm.Tk]at h;exact rb h Q Q
 have N:H.lB p c<18446744073709551616:=by
  unfold aa.lB;by_cases G:(H.Tf p).first<0
  .rw[Ti G];omega
  rw[Tg G];have h:((H.Tf p).first.toNat+1)*(16*2^c)≤256/2^c*(16*2^c):=UG _ Q;rw[UW,UF (256/2^c),I]at h;omega
 obtain⟨v,D,⟨E,T⟩,w⟩:=fY R e (v:=H.lB p c) N l;refine ab w ⟨T,E,?_⟩;obtain⟨V,W,t⟩:=C1 H p c q p;have b:(H.qm p c q).Tf p={ (H.dz p q).Tf p with next:=V,T8:=W }:=t;have a:(H.dz p q).Tf p=(H.Tf p).TJ q false:=by simp[aa.dz,aa.aB]
 have C:(H.qm p c q).OK:=fL e _ _;obtain⟨v,s2,⟨J,z⟩,y⟩:=uV E C (p:=p) (c:=c) (q:=q) (by show p<(H.dy p c q).np;rw[sm.np];exact o) (by show((H.qm p c q).Tf p).kind=4;rw[b,a];exact d)
  (by show((H.qm p c q).Tf p).TQ=(c:Int);rw[b,a];exact f) F Q Q
 exact ab y ⟨z,J⟩
def Ps(f:aw σ A H)(ok:H.OK){p c q:Nat}{b:Bool}(hp:p<H.np)(k:(H.Tf p).kind=4)(g:(H.Tf p).TQ=(c:Int))(d:c<8)(l:q<256/2^c)(hw:∀j,(H.Tf p).bw j<18446744073709551616)(a:(H.Tf p).Uc q=if b=true then 0 else 1)(e:0≤(H.Tf p).Ty∧(H.Tf p).Ty≤256):
  au G0 [] 221 [.acK (A .map) 0,.i p,.i q,.bool b] σ fun r σ'=>aw σ' A (H.aB p ((H.Tf p).TJ q b))∧r=.i 0∧AM.Left σ A H σ' A (H.aB p ((H.Tf p).TJ q b)):=
 aw.JZ (Γ:=G0) (fun _ _ h=>h) (fun _ h=>(Xa h).elim) f fun s R=>OU R ok hp k g d l hw a e
def Mw(b:aw σ A H)(ok:H.OK){p c:Nat}(hp:p<H.np)(d:c<8)(f:(H.Tf p).kind=4)(e:-1≤H.part c∧H.part c<(H.np:Int))(a:0≤H.part c->((H.du p c).Tf (H.part c).toNat).kind=4∧-1≤((H.du p c).Tf (H.part c).toNat).next∧((H.du p c).Tf (H.part c).toNat).next<(H.np:Int)):
  au G0 [] 225 [.acK (A .Ua) 0,.i p,.i c] σ fun r σ'=>aw σ' A (H.Vh p c)∧r=.tuple []∧AM.Left σ A H σ' A (H.Vh p c):=
 aw.JZ (Γ:=G0) (fun _ _ h=>h) (fun _ h=>(Xa h).elim) b fun s R=>IE R ok hp d f e a
def Nb(hR:aw σ A H)(ok:H.OK){p c q:Nat}(h:H.ED p c q){Q:V->St->Prop}(h1:(H.Tf p).Ty=1->∀s,aw s A (H.gN p c q)->au G0 [] 174 [.acK (A .Ud) 0,.u (H.Tk p),.i 0] s Q)(h2:(H.Tf p).Ty≠1->∀s,aw s A (H.V1 p c q)->Q (.i 0) s):
  au G0 [] 173 [.acK (A .Ua) 0,.u (H.Tk p+q*(16*2^c):Nat)] σ Q:=by
 have U:=h;obtain⟨W,N,g,l,hq,j,m,K,B,ax,ao⟩:=h;refine ai g173 rfl ?_;have bi:=iM ok;obtain⟨v,t,⟨d,g1,R1⟩,C⟩:=hR.dF (Pl hR ok W g l N hq j);subst d;rw[m]at C;have ay:=w8 N;obtain⟨w1,w2,w3,w4,w5⟩:=ay;have bd:H.Tk p+4096<18446744073709551616:=by have:=eU ok (p:=p+1) W;unfold aa.Tk at *;omega
 obtain⟨a,I⟩:=acH (H.Tk p+q*(16*2^c));rw[<- I]at C⊢;obtain⟨x,hx⟩:=acH (H.Tf p);rw[<- hx]at C;simp only[go_sem];refine ab C ?_;have hz:bX.cells=[V.i 0,.i 0,.i 0,.i 0,.i 0,.i 0,.i 0,.u 0,.u 0,.u 0,.u 0]:=rfl;have Y:=aQ (σ:=t) (z:=bX.cells) (vs:=x.cells) (n:=11) (by simp[bB.aL]) rfl;have M:=R1.Ts (n:=11) (z:=bX.cells) (vs:=x.cells) (by simp[bB.aL]) rfl;have L3:=To.Ts t 11 bX.cells x.cells rfl;have N3:∀s,H.has s->A s≠t.next:=fun s hs=>by have:=R1.lt (s:=s) hs;omega
 rw[hz]at Y M L3;have T:=fq M;simp only[go_sem,TH,TK,aj,bB.aL,Y,XZ,T];generalize t.next=O at L3 N3⊢;generalize t.Ts 11 _ _=bk at M L3 T⊢;obtain⟨v,bl,⟨d,hs⟩,ar⟩:=ju M;subst d hs;refine ab ar ?_;simp only[go_sem];obtain⟨v,ba,⟨R,d,aJ⟩,av⟩:=Ps M ok (p:=p) (c:=c) (q:=q) (b:=false) W g l N hq j (by rw[m];rfl) ⟨acG,K.2⟩;subst d;refine ab av ?_;have P:=L3.left M aJ N3;have D:=ph ok (p:=p) (q:=q);have ac:=kY H p q;have y:aw ba A (H.dz p q):=R;have aS:(H.dz p q).Tf p=(H.Tf p).TJ q false:=by simp[aa.dz,aa.aB]
 simp only[go_sem];obtain⟨v,bb,⟨d,hs⟩,X⟩:=Ao y D;subst d hs;rw[ac.Tj]at X;refine ab X ?_;have e1:IntKind.u64.wrap (p:Int)=(p:Int):=cd acG acG;have e2:IntKind.u64.wrap ((4096:Int)*(p:Int))=((4096*p:Nat):Int):=by rw[cd] <;> omega
 have e3:IntKind.u64.wrap ((H.Tj:Int)+((4096*p:Nat):Int))=(H.Tk p:Int):=by unfold aa.Tk at *;rw[cd] <;> omega
 have l2:∀{s:St},To s O 11 (Tn x.cells)->s.cell O 2=some (.i c):=fun h=>by rw[h.cell acG, <- l, <- hx];rfl
 have l3:∀{s:St},To s O 11 (Tn x.cells)->s.cell O 3=some (.i x.Ty):=fun h=>h.cell acG
 have l6:∀{s:St},To s O 11 (Tn x.cells)->s.cell O 6=some (.i x.first):=fun h=>h.cell acG
 have m2:=l2 P;have m3:=l3 P;have m6:=l6 P;rw[<- hx]at h1 h2;by_cases c1:x.Ty=1
 .obtain⟨v,ad,⟨S,d⟩,L⟩:=Ci y D (p:=p) (c:=c) W N (ax (by rw[<- hx];exact c1));subst d;simp only[go_sem,e1,e2,e3,m2,m3,m6,c1];refine ab L ?_;have aU:=nG (H.dz p q) p c;obtain⟨v,af,⟨R8,d⟩,e⟩:=Dy S (tq D) (p:=p) (k:=0) (kind:=2) (VK _) (.inr rfl) (by simp[XM]) (by rw[aU.np,ac.np];omega);subst d;simp only[go_sem];refine ab e ?_;have al:=fq R8;simp only[go_sem,al];obtain⟨v,ah,ap,r⟩:=h1 c1 _ R8;refine ab r ?_;simp only[go_sem];exact ap
 by_cases E:x.first<0
 .obtain⟨k1,k2⟩:=ao (by rw[<- hx];exact c1) (by rw[<- hx];exact E);obtain⟨v,ad,⟨S,d,aM⟩,L⟩:=Mw y D (p:=p) (c:=c) W N (by rw[aS];exact g) k1 k2;subst d;simp only[go_sem,e1,e2,e3,m2,m3,m6,c1,E];refine ab L ?_;have L7:=P.left y aM N3;have F:aw ad A (H.dy p c q):=by unfold aa.dy;rw[<- hx,Ti E];exact S
  obtain⟨v,af,⟨d,R8,rf⟩,e⟩:=yN ok U hx F L7;subst d;obtain⟨v,ah,⟨d,R9⟩,r⟩:=rf;subst d;have J:H.lB p c=0:=by unfold aa.lB;rw[<- hx,Ti E]
  rw[J, <- I]at e;have G:=fq S;obtain⟨v,ag,⟨d,hs⟩,o⟩:=gG S;subst d hs;have c3:¬(0≤x.first):=acG;have aP:=l6 L7;simp only[go_sem,aP,c3,G];refine ab o ?_;simp only[go_sem];refine ab e ?_;simp only[go_sem];refine ab r ?_;simp only[go_sem];exact h2 c1 _ R9
 have c3:0≤x.first:=acG;obtain⟨f,hf⟩:∃f:Nat,x.first=(f:Int):=⟨x.first.toNat,acG⟩
 have am:f<256/2^c:=by rw[<- hx]at B;omega
 have F:aw bb A (H.dy p c q):=by unfold aa.dy;rw[<- hx,Tg E];exact R
 obtain⟨v,af,⟨d,R8,rf⟩,e⟩:=yN ok U hx F P;subst d;obtain⟨v,ah,⟨d,R9⟩,r⟩:=rf;subst d;have J:H.lB p c=H.Tk p+f*(16*2^c):=by unfold aa.lB;rw[<- hx,Tg E,hf,TZ]
 rw[J, <- I]at e;have G:=fq R;obtain⟨v,ag,⟨d,hs⟩,o⟩:=gG R;subst d hs;obtain⟨w,aC⟩:=acH (16*2^c);have Z:=R.Ub.cell N;rw[<- aC]at Z e w1 w2 w3;have be:f*w+w≤4096:=by have h:(f+1)*w≤256/2^c*w:=UG _ am;rw[UW,UF (256/2^c),w1]at h;omega
 have e4:IntKind.u64.wrap (f:Int)=(f:Int):=cd acG acG;have e5:IntKind.u64.wrap ((f:Int)*(w:Int))=((f*w:Nat):Int):=gV acG;have e6:IntKind.u64.wrap ((H.Tk p:Int)+((f*w:Nat):Int))=((H.Tk p+f*w:Nat):Int):=bD acG;have c4:(0:Int)≤(c:Int)∧(c:Int)<((8:Nat):Int):=acG;rw[hf]at m6 E c3;simp only[go_sem,e1,e2,e3,m2,m3,m6,c1,E,c3,G,c4,Us,TZ,Um,Z,e4,e5,e6];refine ab o ?_;simp only[go_sem];refine ab e ?_;simp only[go_sem];refine ab r ?_;simp only[go_sem];exact h2 c1 _ R9
def xD{m m':Nat->Nat}{o:Nat}:∀n,(∀i,i<n->m' (o+i)=m (o+i))->WX m' o n=WX m o n
 | 0,_=>rfl
 |n+1,h=>by simp only[WX];rw[xD n (fun i hi=>h i Q),h n Q]
def yQ{m:Nat->Nat}{o v:Nat}:∀n,(∀i,i<n->m (o+i)=byteOf v i)->WX m o n=v%2^(8*n)
 | 0,_=>by simp[WX,XM]
 |n+1,h=>by simp only[WX];rw[yQ n (fun i hi=>h i Q),h n Q,show 2^(8*(n+1))=2^(8*n)*256 by rw[Nat.mul_add,X3],Nat.mod_mul,byteOf,UF (v/2^(8*n)%256)]
theorem mg(H:aa)(p v:Nat):(H.dO p v).Tj=H.Tj:=rfl
theorem Ag(H:aa)(k v:Nat):(H.eK k v).Tj=H.Tj:=rfl
def lh(a:H'.Tj=H.Tj){p:Nat}(h:∀i,i<8->H'.mem (p-H.Tj+i)=H.mem (p-H.Tj+i)):H'.UD p=H.UD p:=by unfold aa.UD;rw[a];exact xD 8 h
def nJ(H:aa)(p v j:Nat)(h:j<p-H.Tj∨p-H.Tj+8≤j):(H.dO p v).mem j=H.mem j:=by unfold aa.dO aa.wr;simp only;rw[Tg Q]
def j5(H:aa){p v:Nat}(hv:v<18446744073709551616):(H.dO p v).UD p=v:=by
 unfold aa.UD;rw[yQ (v:=v) 8]
 .exact WR hv
 intro i hi;show(H.dO p v).mem _=_;unfold aa.dO aa.wr;simp only;rw[Ti Q,Z9]
def nM(H:aa){p q v:Nat}(h:q+8≤p∨p+8≤q)(hp:H.Tj≤p)(a:H.Tj≤q):(H.dO p v).UD q=H.UD q:=
 lh (mg H p v) fun i hi=>nJ H p v _ Q
def qV(H:aa)(p:Nat):H.Tj≤H.Tk p:=by unfold aa.Tk;omega
def fJ(H:aa){p q d e v:Nat}(h:p≠q)(hd:d+8≤4096)(c:e+8≤4096):(H.dO (H.Tk p+d) v).UD (H.Tk q+e)=H.UD (H.Tk q+e):=by have a:=qV H p;have b:=qV H q;refine nM H ?_ Q Q;unfold aa.Tk;omega
def uR(H:aa){p d e v:Nat}(h:d+8≤e∨e+8≤d):(H.dO (H.Tk p+d) v).UD (H.Tk p+e)=H.UD (H.Tk p+e):=by have a:=qV H p;exact nM H Q Q Q
def Uz(H:aa)(l:List Nat)(e:Nat):Nat:=match l with
 | []=>e
 |q ::_=>H.Tk q
def VD(H:aa)(pv:Nat):List Nat->Nat
 | []=>pv
 |p ::r=>VD H (H.Tk p) r
def UY(H:aa):Nat->List Nat->Nat->Prop
 |_,[],_=>True
 |pv,p ::r,e=>H.UD (H.Tk p)=Uz H r e∧H.UD (H.Tk p+8)=pv∧UY H (H.Tk p) r e
def Em(H:aa)(l1 l2:List Nat)(e:Nat):Uz H (l1++l2) e=Uz H l1 (Uz H l2 e):=by cases l1 <;> rfl
def jW(a:H'.Tj=H.Tj)(l:List Nat)(e:Nat):Uz H' l e=Uz H l e:=by
 cases l
 .rfl
 simp only[Uz,aa.Tk,a]
def oA(a:H'.Tj=H.Tj):∀(l:List Nat) (e:Nat),VD H' e l=VD H e l
 | [],_=>rfl
 |p ::r,e=>by simp only[VD];rw[oA a r,show H'.Tk p=H.Tk p by unfold aa.Tk;rw[a]]
def jB(H:aa):∀(l:List Nat) (a pv:Nat),VD H pv (l++[a])=H.Tk a
 | [],a,pv=>rfl
 |p ::r,a,pv=>jB H r a _
def UY.append{pv:Nat}:∀{l1 l2:List Nat} {e:Nat},UY H pv (l1++l2) e↔UY H pv l1 (Uz H l2 e)∧UY H (VD H pv l1) l2 e:=by
 intro l1;induction l1 generalizing pv with
 |nil=>intro l2 e;simp[UY,VD]
 |cons p r f=>
  intro l2 e;simp only[abg,UY,VD,Em,f];constructor
  .rintro⟨a,b,c,d⟩;exact⟨⟨a,b,c⟩,d⟩
  rintro⟨⟨a,b,c⟩,d⟩;exact⟨a,b,c,d⟩
def UY.congr(a:H'.Tj=H.Tj):∀{l:List Nat} {pv e:Nat},(∀q∈l,H'.UD (H.Tk q)=H.UD (H.Tk q)∧H'.UD (H.Tk q+8)=H.UD (H.Tk q+8))->UY H pv l e->UY H' pv l e
 | [],_,_,_,_=>trivial
 |p ::r,pv,e,h,k=>by
  have ha:∀q,H'.Tk q=H.Tk q:=fun q=>by unfold aa.Tk;rw[a]
  have b:=h p (VY ..);refine⟨?_,?_,?_⟩
  .rw[ha,b.1,k.1,jW a]
  .rw[ha,b.2,k.2.1]
  rw[ha];exact UY.congr a (fun q c=>h q (VO _ c)) k.2.2
def UY.Rq{pv a e e':Nat}{l:List Nat}(hn:a∉l)(j:e'<18446744073709551616)(h:UY H pv (l++[a]) e):UY (H.dO (H.Tk a) e') pv (l++[a]) e':=by
 rw[UY.append]at h⊢;obtain⟨g,i⟩:=h;have f:(H.dO (H.Tk a) e').Tj=H.Tj:=rfl;refine⟨?_,?_⟩
 .have c:UY H pv l (Uz H [a] e'):=g;rw[jW f];refine UY.congr f (fun q k=>?_) c;have b:a≠q:=fun h=>hn (h▸k)
  have m:=fJ H (v:=e') (d:=0) (e:=0) b Q Q;have n:=fJ H (v:=e') (d:=0) (e:=8) b Q Q;exact⟨m,n⟩
 rw[oA f];refine⟨?_,?_,trivial⟩
 .exact j5 H j
 have:=uR H (p:=a) (d:=0) (e:=8) (v:=e') Q;exact this.trans i.2.1
def UY.EA{pv pv' a e:Nat}{l:List Nat}(hn:a∉l)(f:pv'<18446744073709551616)(h:UY H pv (a ::l) e):UY (H.dO (H.Tk a+8) pv') pv' (a ::l) e:=by
 have c:(H.dO (H.Tk a+8) pv').Tj=H.Tj:=rfl;refine⟨?_,?_,?_⟩
 .have:=uR H (p:=a) (d:=8) (e:=0) (v:=pv') Q;rw[jW c];exact this.trans h.1
 .exact j5 H f
 refine UY.congr c (fun q g=>?_) h.2.2;have b:a≠q:=fun h=>hn (h▸g)
 have i:=fJ H (v:=pv') (d:=8) (e:=0) b Q Q;have j:=fJ H (v:=pv') (d:=8) (e:=8) b Q Q;exact⟨i,j⟩
def FL(H:aa)(k:Nat)(l:List Nat):Prop:=H.head k=Uz H l 0∧UY H 0 l 0
def kW(a:0<H.Tj)(p:Nat):H.Tk p≠0:=by unfold aa.Tk;omega
def ri{p q:Nat}(h:H.Tk p=H.Tk q):p=q:=by unfold aa.Tk at h;omega
def FL.M8(a:0<H.Tj){k:Nat}{l:List Nat}(h:FL H k l):H.head k=0↔l=[]:=by
 rw[h.1];cases l with
 |nil=>simp[Uz]
 |cons p r=>simp[Uz,kW a p]
def UY.eK{k v:Nat}{pv e:Nat}{l:List Nat}(h:UY H pv l e):UY (H.eK k v) pv l e:=UY.congr (Ag H k v) (fun _ _=>⟨rfl,rfl⟩) h
def FL.push(s:0<H.Tj){k p:Nat}{l:List Nat}(h:FL H k l)(hp:p∉l)(nd:l.Nodup)(f:∀q,q∈p ::l->H.Tk q<18446744073709551616):FL (H.eS k (H.Tk p)) k (p ::l):=by
 refine⟨by simp[aa.eS,aa.eK,Uz,aa.Tk];split <;> rfl,?_⟩;have m:=f p (VY ..);cases l with
 |nil=>
  have c:H.head k=0:=h.1;unfold aa.eS;rw[Ti c,c];refine UY.eK ⟨?_,?_,trivial⟩
  .have:=uR (H.dO (H.Tk p) 0) (p:=p) (d:=8) (e:=0) (v:=0) Q;exact this.trans (j5 H Q)
  exact j5 (H.dO (H.Tk p) 0) (p:=H.Tk p+8) Q
 |cons b r=>
  have c:H.head k=H.Tk b:=h.1;have i:=f b Y;have g:p≠b:=fun e=>hp (by simp[e])
  have j:b∉r:=(WO.1 nd).1;unfold aa.eS;rw[Tg (by rw[c];exact kW s b),c];refine UY.eK ?_;have u:UY (H.dO (H.Tk p) (H.Tk b)) 0 (b ::r) 0:=by
   refine UY.congr (mg H _ _) (fun q n=>?_) h.2;have a:p≠q:=fun e=>hp (e▸n)
   exact⟨fJ H (d:=0) (e:=0) a Q Q,fJ H (d:=0) (e:=8) a Q Q⟩
  have s2:UY ((H.dO (H.Tk p) (H.Tk b)).dO (H.Tk p+8) 0) 0 (b ::r) 0:=by
   refine UY.congr (mg (H.dO (H.Tk p) (H.Tk b)) _ _) (fun q n=>?_) u;have a:p≠q:=fun e=>hp (e▸n)
   exact⟨fJ (H.dO (H.Tk p) (H.Tk b)) (d:=8) (e:=0) a Q Q,fJ (H.dO (H.Tk p) (H.Tk b)) (d:=8) (e:=8) a Q Q⟩
  have w:=UY.EA (pv':=H.Tk p) j m s2;refine⟨?_,?_,w⟩
  .have o:=fJ ((H.dO (H.Tk p) (H.Tk b)).dO (H.Tk p+8) 0) (p:=b) (q:=p) (d:=8) (e:=0) (v:=H.Tk p) (U2 g) Q Q;have t:=uR (H.dO (H.Tk p) (H.Tk b)) (p:=p) (d:=8) (e:=0) (v:=0) Q;exact o.trans (t.trans (j5 H i))
  have o:=fJ ((H.dO (H.Tk p) (H.Tk b)).dO (H.Tk p+8) 0) (p:=b) (q:=p) (d:=8) (e:=8) (v:=H.Tk p) (U2 g) Q Q;exact o.trans (j5 (H.dO (H.Tk p) (H.Tk b)) (p:=H.Tk p+8) Q)
def xo{k p:Nat}{l:List Nat}(h:FL H k l)(x:Nat)(hx:x≠p)(g:x∉l)(i:Nat)(hi:i<4096):(H.eS k (H.Tk p)).mem (4096*x+i)=H.mem (4096*x+i):=by
 have a:∀(G:aa) (q d v:Nat),G.Tj=H.Tj->x≠q->d+8≤4096->(G.dO (H.Tk q+d) v).mem (4096*x+i)=G.mem (4096*x+i):=by intro G q d v n s hd;refine nJ G _ v _ ?_;rw[n];unfold aa.Tk;omega
 unfold aa.eS;by_cases c:H.head k=0
 .rw[Ti c];have j:=a (H.dO (H.Tk p) (H.head k)) p 8 0 rfl hx Q;exact j.trans (a H p 0 (H.head k) rfl hx Q)
 rw[Tg c];cases l with
 |nil=>exact(c h.1).elim
 |cons b r=>
  have o:H.head k=H.Tk b:=h.1;have f:x≠b:=fun e=>g (by simp[e])
  have m:=a ((H.dO (H.Tk p) (H.head k)).dO (H.Tk p+8) 0) b 8 (H.Tk p) rfl f Q;have j:=a (H.dO (H.Tk p) (H.head k)) p 8 0 rfl hx Q;rw[<- o]at m;exact m.trans (j.trans (a H p 0 (H.head k) rfl hx Q))
def Ct(H:aa)(k p j:Nat)(h:j≠k):(H.eS k p).head j=H.head j:=by
 unfold aa.eS;by_cases c:H.head k=0
 .rw[Ti c];exact Tg h
 rw[Tg c];exact Tg h
def FL.VW{j:Nat}{l:List Nat}(h:FL H j l)(a:H'.Tj=H.Tj)(d:H'.head j=H.head j)(b:∀x∈l, ∀i,i<4096->H'.mem (4096*x+i)=H.mem (4096*x+i)):FL H' j l:=by
 refine⟨by rw[d,h.1,jW a],UY.congr a (fun q c=>⟨?_,?_⟩) h.2⟩
 .refine lh a fun i hi=>?_
  have:=b q c i Q;rw[show H.Tk q-H.Tj+i=4096*q+i by unfold aa.Tk;omega];exact this
 refine lh a fun i hi=>?_
 have:=b q c (8+i) Q;rw[show H.Tk q+8-H.Tj+i=4096*q+(8+i) by unfold aa.Tk;omega];exact this
def jZ(l:List Nat):l=[]∨∃b a,l=b++[a]:=by
 rcases List.eq_nil_or_concat l with h|⟨b,a,h⟩
 .exact .inl h
 exact .inr ⟨b,a,by simpa using h⟩
def FL.acD(N:0<H.Tj){k p:Nat}{l1 l2:List Nat}(h:FL H k (l1++p ::l2))(nd:(l1++p ::l2).Nodup)(t:∀q,q∈l1++p ::l2->H.Tk q<18446744073709551616):
  FL (H.b9 k (Uz H l2 0) (VD H 0 l1)) k (l1++l2):=by
 obtain⟨O,hs⟩:=h;rw[UY.append]at hs;obtain⟨R,s2⟩:=hs;have F:UY H (H.Tk p) l2 0:=s2.2.2;have A:Uz H l2 0<18446744073709551616:=by
  cases l2 with
  |nil=>simp[Uz]
  |cons b r=>exact t b Y
 have C:∀q,H.Tk q≠0:=kW N;rw[WN]at nd;obtain⟨w,D,y⟩:=nd;have m:=WO.1 D;rcases jZ l1 with rfl|⟨c,a,rfl⟩
 ·
  cases l2 with
  |nil=>
   refine⟨?_,trivial⟩;simp[aa.b9,aa.eK,Uz,VD]
  |cons b r=>
   have i:=C b;have g:VD H 0 []=0:=rfl;refine⟨?_,?_⟩
   .simp[aa.b9,aa.eK,Uz,VD,i,aa.dO,aa.wr,aa.Tk];split <;> simp_all[aa.Tk] <;> omega
   unfold aa.b9;rw[Tg (show Uz H (b ::r) 0≠0 from i),Ti g,g];have n:b∉r:=(WO.1 m.2).1;exact UY.EA (H:=H.eK k (Uz H (b ::r) 0)) (pv:=H.Tk p) n Q (UY.eK F)
 have g:VD H 0 (c++[a])=H.Tk a:=jB H c a 0;have o:=C a;have z:a∉c:=by rw[WN]at w;intro P;exact w.2.2 a P a Y rfl
 have j:∀x∈l2,a≠x:=fun x hx=>y a Y x (VO _ hx)
 have s:=t a Y;have E:=UY.Rq (e':=Uz H l2 0) z A R;have I:UY (H.dO (H.Tk a) (Uz H l2 0)) (H.Tk p) l2 0:=by refine UY.congr (mg H _ _) (fun q B=>?_) F;have u:=j q B;exact⟨fJ H (d:=0) (e:=0) u Q Q,fJ H (d:=0) (e:=8) u Q Q⟩
 have f:∀G:aa,G.Tj=H.Tj->Uz G ((c++[a])++l2) 0=H.head k:=by intro G L;rw[O,jW L];cases c <;> rfl
 cases l2 with
 |nil=>
  have l:Uz H [] 0=0:=rfl;unfold aa.b9;rw[Ti l,g,Tg o,l];refine⟨(f _ rfl).symm,?_⟩;rw[Wr];exact E
 |cons b r=>
  have i:=C b;have n:b∉r:=(WO.1 m.2).1;unfold aa.b9;rw[Tg (show Uz H (b ::r) 0≠0 from i),g,Tg o];have M:=j b Y;have J:=UY.EA (H:=H.dO (H.Tk a) (Uz H (b ::r) 0)) (pv':=H.Tk a) n s I;have K:UY ((H.dO (H.Tk a) (Uz H (b ::r) 0)).dO (H.Tk b+8) (H.Tk a)) 0 (c++[a]) (Uz H (b ::r) 0):=by
   refine UY.congr (mg (H.dO (H.Tk a) (Uz H (b ::r) 0)) _ _) (fun q B=>?_) E;have v:b≠q:=fun e=>y q B b Y e.symm
   exact⟨fJ (H.dO (H.Tk a) (Uz H (b ::r) 0)) (d:=8) (e:=0) v Q Q,fJ (H.dO (H.Tk a) (Uz H (b ::r) 0)) (d:=8) (e:=8) v Q Q⟩
  refine⟨(f _ rfl).symm,?_⟩;rw[UY.append];refine⟨K,?_⟩;rw[jB];exact J
def tZ{k p:Nat}{l1 l2:List Nat}(x:Nat)(hx:x∉l1++p ::l2)(i:Nat)(hi:i<4096):(H.b9 k (Uz H l2 0) (VD H 0 l1)).mem (4096*x+i)=H.mem (4096*x+i):=by
 have f:∀(G:aa) (q d v:Nat),G.Tj=H.Tj->x≠q->d+8≤4096->(G.dO (H.Tk q+d) v).mem (4096*x+i)=G.mem (4096*x+i):=by intro G q d v j m hd;refine nJ G _ v _ ?_;rw[j];unfold aa.Tk;omega
 have e:∀G:aa,G=(if VD H 0 l1=0 then H.eK k (Uz H l2 0)else H.dO (VD H 0 l1) (Uz H l2 0))->G.mem (4096*x+i)=H.mem (4096*x+i)∧G.Tj=H.Tj:=by
  rintro G rfl;by_cases c:VD H 0 l1=0
  .rw[Ti c];exact⟨rfl,rfl⟩
  rw[Tg c];rcases jZ l1 with rfl|⟨l,a,rfl⟩
  .exact(c rfl).elim
  rw[jB];refine⟨f H a 0 _ rfl ?_ Q,rfl⟩;rintro rfl;exact hx Y
 unfold aa.b9;by_cases c:Uz H l2 0=0
 .rw[Ti c];exact(e _ rfl).1
 rw[Tg c];cases l2 with
 |nil=>exact(c rfl).elim
 |cons b r=>
  obtain⟨g,h⟩:=e _ rfl;refine WY (f _ b 8 _ h ?_ Q) g;rintro rfl;exact hx Y
def Au{k nx pv j:Nat}(h:j≠k):(H.b9 k nx pv).head j=H.head j:=by
 unfold aa.b9;by_cases c:nx=0
 .rw[Ti c];by_cases a:pv=0
  .rw[Ti a];exact Tg h
  rw[Tg a];rfl
 rw[Tg c];by_cases a:pv=0
 .rw[Ti a];exact Tg h
 rw[Tg a];rfl
def FL.YU(i:0<H.Tj){k p:Nat}{l1 l2:List Nat}(h:FL H k (l1++p ::l2))(nd:(l1++p ::l2).Nodup)(c:∀q,q∈l1++p ::l2->H.In (H.Tk q) 16):
  H.Zt k (H.Tk p) (Uz H l2 0) (VD H 0 l1):=by
 obtain⟨j,hs⟩:=h;rw[UY.append]at hs;obtain⟨g,s2⟩:=hs;have l:∀q,H.Tk q≠0:=kW i;refine⟨c p Y,s2.1,s2.2.1,?_,?_,?_⟩
 .rw[j];rcases jZ l1 with rfl|⟨f,a,rfl⟩
  .simp[VD,Uz]
  rw[jB];constructor
  .intro e;exact(l a e).elim
  intro e;rw[WN]at nd;cases f with
  |nil=>exact(nd.2.2 a Y p Y (ri e).symm).elim
  |cons b r=>exact(nd.2.2 b Y p Y (ri e).symm).elim
 .intro d;rcases jZ l1 with rfl|⟨f,a,rfl⟩
  .exact(d rfl).elim
  rw[jB];refine⟨c a Y,?_⟩;rw[UY.append]at g;exact g.2.1
 intro d;cases l2 with
 |nil=>exact(d rfl).elim
 |cons b r=>exact⟨c b Y,s2.2.2.2.1⟩
def FL.Ba{k:Nat}{l:List Nat}(h:FL H k l)(a:∀q,q∈l->H.In (H.Tk q) 16):H.lH k:=by
 intro c;cases l with
 |nil=>exact(c h.1).elim
 |cons b r=>
  rw[show H.head k=H.Tk b from h.1];exact⟨a b Y,h.2.2.1⟩
end
end Go.Proofs.YtlgmpheammbacaaGreatDoor
