import Derived.Test.YtlgmpheammbacaaGreatDoorPyf
import Derived.Test.YtlgmpheammbacaaGreatDoorHpIds
set_option linter.all false
set_option maxRecDepth 1000000
attribute [local irreducible] AM.T.get AM.T.set
namespace AM
open Go
noncomputable section
def NB(n:Int):IntKind.u64.wrap n=n%18446744073709551616:=by simp[IntKind.wrap,IntKind.bits,IntKind.signed]
def wu8(n:Int):IntKind.u8.wrap n=n%256:=by simp[IntKind.wrap,IntKind.bits,IntKind.signed]
def cd{n:Int}(h:0≤n)(a:n<18446744073709551616):IntKind.u64.wrap n=n:=by rw[NB];omega
def dw{n:Int}(h:-9223372036854775808≤n)(c:n<9223372036854775808):IntKind.i64.wrap n=n:=by
 have a:(2:Int)^(64-1)=9223372036854775808:=by decide
 have b:(2:Int)^64=18446744073709551616:=by decide
 simp only[IntKind.wrap,IntKind.bits,IntKind.signed,WL,Xg,a,b];split <;> omega
def bD{a b:Nat}(h:a+b<18446744073709551616):IntKind.u64.wrap ((a:Int)+(b:Int))=((a+b:Nat):Int):=by rw[cd] <;> omega
def bK{a b:Nat}(h:b≤a)(c:a<18446744073709551616):IntKind.u64.wrap ((a:Int)-(b:Int))=((a-b:Nat):Int):=by rw[cd] <;> omega
def gV{a b:Nat}(h:a*b<18446744073709551616):IntKind.u64.wrap ((a:Int)*(b:Int))=((a*b:Nat):Int):=by rw[<- Z2,cd] <;> omega
def bm{a:Nat}(h:a<18446744073709551616):IntKind.u64.wrap (a:Int)=(a:Int):=by rw[cd] <;> omega
def jQ(a b:Nat):((a:Int).tdiv (b:Int))=((a/b:Nat):Int):=(Int.ofNat_tdiv a b).symm
def aW(a b:Nat):((a:Int).tmod (b:Int))=((a%b:Nat):Int):=(Int.ofNat_tmod a b).symm
def iw{a b:Nat}(h:a<18446744073709551616):IntKind.u64.wrap ((a:Int).tdiv (b:Int))=((a/b:Nat):Int):=by rw[jQ,bm];exact aaa (aaK a b) h
def bj{a b:Nat}(h:a+b<9223372036854775808):IntKind.i64.wrap ((a:Int)+(b:Int))=((a+b:Nat):Int):=by rw[dw] <;> omega
def bV{a b:Nat}(h:b≤a)(c:a<9223372036854775808):IntKind.i64.wrap ((a:Int)-(b:Int))=((a-b:Nat):Int):=by rw[dw] <;> omega
def NH{a b:Nat}(h:a*b<9223372036854775808):IntKind.i64.wrap ((a:Int)*(b:Int))=((a*b:Nat):Int):=by rw[<- Z2,dw] <;> omega
def bF{a:Nat}(h:a<9223372036854775808):IntKind.i64.wrap (a:Int)=(a:Int):=by rw[dw] <;> omega
def oW{a b:Nat}(h:a<9223372036854775808):IntKind.i64.wrap ((a:Int).tdiv (b:Int))=((a/b:Nat):Int):=by rw[jQ,bF];exact aaa (aaK a b) h
def CR(x:Nat)(hx:x<18446744073709551616):(BitVec.ofInt IntKind.u64.bits (x:Int)).toNat=x:=by rw[BitVec.ofInt_natCast,BitVec.toNat_ofNat];exact WR hx
def FA(x:Nat)(hx:x<18446744073709551616):(BitVec.ofInt IntKind.i64.bits (x:Int)).toNat=x:=by rw[BitVec.ofInt_natCast,BitVec.toNat_ofNat];exact WR hx
def acE{a b:Nat}(ha:a<18446744073709551616)(c:b<18446744073709551616):orI .u64 (a:Int) (b:Int)=((a |||b:Nat):Int):=by unfold orI;rw[BitVec.toNat_or,CR a ha,CR b c,bm];exact Nat.or_lt_two_pow (n:=64) ha c
def aar{a b:Nat}(ha:a<18446744073709551616)(c:b<18446744073709551616):Ki .u64 (a:Int) (b:Int)=((a &&& b:Nat):Int):=by unfold Ki;rw[BitVec.toNat_and,CR a ha,CR b c,bm];exact Nat.and_lt_two_pow (n:=64) _ c
def acn{a b:Nat}(ha:a<18446744073709551616)(c:b<18446744073709551616):Fo .u64 (a:Int) (b:Int)=((a ^^^b:Nat):Int):=by unfold Fo;rw[BitVec.toNat_xor,CR a ha,CR b c,bm];exact abE (n:=64) ha c
def Mr{a b:Nat}(ha:a<4611686018427387904)(c:b<4611686018427387904):Fo .i64 (a:Int) (b:Int)=((a ^^^b:Nat):Int):=by unfold Fo;have:=abE (n:=62) ha c;rw[BitVec.toNat_xor,FA a Q,FA b Q,bF Q]
def gP{a n:Nat}(hn:n≤64)(h:a*2^n<18446744073709551616):jc .u64 (a:Int) (n:Int)=((a*2^n:Nat):Int):=by unfold jc;rw[TZ,show IntKind.u64.bits=64 from rfl,Xb hn,show((2:Int)^n)=((2^n:Nat):Int) by simp];exact gV h
def oU{a n:Nat}(hn:n≤64)(h:a*2^n<9223372036854775808):jc .i64 (a:Int) (n:Int)=((a*2^n:Nat):Int):=by unfold jc;rw[TZ,show IntKind.i64.bits=64 from rfl,Xb hn,show((2:Int)^n)=((2^n:Nat):Int) by simp];exact NH h
def gM{a n:Nat}{k:IntKind}(b:k.bits=64)(hn:n≤64):nE k (a:Int) (n:Int)=((a/2^n:Nat):Int):=by unfold nE;rw[TZ,b,Xb hn,show((2:Int)^n)=((2^n:Nat):Int) by simp];exact(Int.ofNat_fdiv a (2^n)).symm
structure bB where
 kind:Int
 Th:Int
 TQ:Int
 Ty:Int
 next:Int
 T8:Int
 first:Int
 b0:Nat
 b1:Nat
 b2:Nat
 b3:Nat
def bB.cells(p:bB):List V:=[.i p.kind,.i p.Th,.i p.TQ,.i p.Ty,.i p.next,.i p.T8,.i p.first,
 .u p.b0,.u p.b1,.u p.b2,.u p.b3]
def bB.cell(p:bB)(i:Nat):V:=p.cells.getD i .undef
inductive Tu where
 |heap | Ud | TY | T0 | UE (i:Nat) | map | aU | UJ | set (k:Nat) | Uf (k:Nat) | TO | US | UZ (k:Nat) | Ua
 deriving DecidableEq
structure aa where
 Tj:Nat
 TB:Nat
 Th:Nat
 Tl:Nat
 lock:Int
 mem:Nat -> Nat
 Tf:Nat -> bB
 U1:Nat -> Nat -> Nat
 head:Nat -> Nat
 part:Nat -> Int
 Yk:Bool
 YO:Bool
namespace aa
def Tp(H:aa):Nat:=4096*2^H.Th
def np(H:aa):Nat:=H.Tl*2^H.Th
def gm(H:aa)(k:Nat):Nat:=H.np/2^(k+1)
def nw(H:aa)(k:Nat):Nat:=(H.gm k+63)/64
def Ut(H:aa):Nat:=H.Tj+H.Tp*H.Tl
def has(H:aa):Tu->Prop
 | .T0=>H.Yk=true
 | .UE i=>i<H.Tl
 | .aU=>H.YO=true
 | .UJ=>0<H.Th
 | .set k=>k<H.Th
 | .Uf k=>k<H.Th
 | .UZ k=>k≤H.Th
 |_=>True
def eH(H:aa)(A:Tu->Nat):V:=if H.Yk=true then .acL (A .T0) 0 H.Tl 1 else .acJ
def dZ(H:aa)(A:Tu->Nat):V:=if H.YO=true then .acL (A .aU) 0 H.np 11 else .acJ
def gd(H:aa)(A:Tu->Nat):V:=if 0<H.Th then .acL (A .UJ) 0 H.Th 1 else .acJ
def size(H:aa):Tu->Nat
 | .heap=>7
 | .Ud=>3
 | .TY=>5
 | .T0=>H.Tl
 | .UE _=>H.Tp
 | .map=>3
 | .aU=>H.np*11
 | .UJ=>H.Th
 | .set _=>2
 | .Uf k=>H.nw k
 | .TO=>6
 | .US=>H.Th+1
 | .UZ _=>2
 | .Ua=>9
def cell(H:aa)(A:Tu->Nat):Tu->Nat->V
 | .heap=>Tn [.int .i32 H.lock,.int .u32 0,.u H.Tj,.i H.TB,.i H.Th,.acK (A .Ud) 0,.acK (A .Ua) 0]
 | .Ud=>Tn [.acK (A .TY) 0,.acK (A .map) 0,.acK (A .TO) 0]
 | .TY=>Tn [.u H.Tj,.i H.TB,.i H.Th,.u H.Tp,H.eH A]
 | .T0=>fun i=>.acL (A (.UE i)) 0 H.Tp 1
 | .UE r=>fun i=>.int .u8 (H.mem (r*H.Tp+i))
 | .map=>Tn [.i H.Th,H.dZ A,H.gd A]
 | .aU=>fun i=>(H.Tf (i/11)).cell (i%11)
 | .UJ=>fun k=>.acK (A (.set k)) 0
 | .set k=>Tn [.i (H.gm k),.acL (A (.Uf k)) 0 (H.nw k) 1]
 | .Uf k=>fun j=>.u (H.U1 k j)
 | .TO=>Tn [.u H.Tj,.i H.TB,.i H.Th,.acK (A .TY) 0,.acK (A .map) 0,.acL (A .US) 0 (H.Th+1) 1]
 | .US=>fun k=>.acK (A (.UZ k)) 0
 | .UZ k=>Tn [.acK (A .TY) 0,.u (H.head k)]
 | .Ua=>fun i=>if i=0 then .acK (A .Ud) 0 else .i (H.part (i-1))
end aa
abbrev dE:Nat:=0
def Vv(σ:St):Prop:=∃m z t,8≤m∧σ.Tq.get dE=some (.cells true 0 m z t)∧∀c,c<8->Vw m z t c=some (.u ((16*2^c:Nat):Int))
def Vv.cell{σ:St}(h:Vv σ){c:Nat}(d:c<8):σ.cell 0 c=some (.u ((16*2^c:Nat):Int)):=by obtain⟨m,z,t,f,e,a⟩:=h;have b:σ.Tq.get 0=some (.cells true 0 m z t):=e;unfold St.cell;rw[b];exact a c d
def Vv.fQ{σ σ':St}(h:Vv σ)(k:σ'.Tq.get dE=σ.Tq.get dE):Vv σ':=by obtain⟨m,z,t,b,c,a⟩:=h;exact⟨m,z,t,b,k.trans c,a⟩
def Vv.qt{σ:St}(h:Vv σ){id n:Nat}{f:Nat->V}(k:Row σ id n f):dE≠id:=by rintro rfl;obtain⟨m,z,t,d,c,b⟩:=h;obtain⟨g,e,j,i,_,a,_⟩:=k;rw[c]at a;simp at a
structure aw (σ:St) (A:Tu -> Nat) (H:aa):Prop where
 gw:GW σ
 Ub:Vv σ
 inj:∀ s t,H.has s -> H.has t -> A s=A t -> s=t
 row:∀ s,H.has s -> Row σ (A s) (H.size s) (H.cell A s)
 cut:∀ s t o,H.has s -> H.has t -> s≠t -> σ.Tq.get (A s)=some o -> o.TG≠0 -> A t∉σ.row o.TG
variable {σ σ':St} {A:Tu -> Nat} {H H':aa}
def aw.lt(h:aw σ A H){s:Tu}(hs:H.has s):A s<σ.next:=by obtain⟨g,m,z,t,c,a,b⟩:=h.row s hs;exact h.gw.UL a
def aw.cell(h:aw σ A H){s:Tu}(hs:H.has s){i:Nat}(hi:i<H.size s):σ.cell (A s) i=some (H.cell A s i):=(h.row s hs).cell hi
def aw.load(h:aw σ A H){s:Tu}(hs:H.has s){off k:Nat}(a:off+k≤H.size s):σ.load (A s) off k=some ((List.range k).map fun j=>H.cell A s (off+j)):=(h.row s hs).load a
def Vv.lt(h:Vv σ)(w:GW σ):dE<σ.next:=by obtain⟨m,z,t,c,b,a⟩:=h;exact w.UL b
def aw.Ui(h:aw σ A H)(g:aH σ σ')(w:GW σ'):aw σ' A H where
 gw:=w
 Ub:=h.Ub.fQ (g.TE _ (h.Ub.lt h.gw))
 inj:=h.inj
 row s hs:=g.row h.gw (h.row s hs)
 cut s t o hs ht hne ho hg:=by
  rw[g.TE _ (h.lt hs)]at ho;have:=h.cut s t o hs ht hne ho hg
  simpa only[St.row,g.TX]using this
def aw.new(h:aw σ A H)(o:Obj)(a:o.TG=0):aw (σ.new o) A H:=h.Ui (aH.new σ o) (h.gw.new o a)
def To(σ:St)(id n:Nat)(f:Nat->V):Prop:=∃m z t,n≤m∧σ.Tq.get id=some (.acM m z t)∧∀i,i<n->Vw m z t i=some (f i)
variable {id n:Nat} {f:Nat -> V}
def To.row(h:To σ id n f):Row σ id n f:=let ⟨m,z,t,h⟩:=h;⟨0,m,z,t,h⟩
def To.cell(h:To σ id n f){i:Nat}(hi:i<n):σ.cell id i=some (f i):=h.row.cell hi
def To.load(h:To σ id n f){off k:Nat}(a:off+k≤n):σ.load id off k=some ((List.range k).map fun j=>f (off+j)):=h.row.load a
def To.congr(h:To σ id n f){f':Nat->V}{n':Nat}(hn:n'≤n)(b:∀i,i<n'->f i=f' i):To σ id n' f':=by obtain⟨m,z,t,d,c,a⟩:=h;exact⟨m,z,t,Q,c,fun i hi=>by rw[<- b i hi];exact a i Q⟩
def To.fx(σ:St)(z:List V)(n:Nat)(a:z≠[]∨n=0):To (σ.new (.acM n z .nil)) σ.next n (fun i=>z.getD (i%z.length) .undef):=by
 refine⟨n,z,.nil,Tx _,by simp only[St.new,T.aJ,TT],fun i hi=>?_⟩;unfold Vw;rw[Ti hi,T.Xm];have:0<z.length:=by rcases a with h|h;exact List.length_pos_iff.2 h;omega
 simp[UQ (Wt i this)]
def To.cg(σ:St)(vs:List V):To (σ.ag vs) σ.next vs.length (Tn vs):=by refine⟨vs.length,[],ofList vs,Tx _,by simp only[St.ag,St.new,T.aJ,TT],fun i hi=>?_⟩;rw[cT];simp[Tn,hi]
def To.lt(h:To σ id n f)(w:GW σ):id<σ.next:=by obtain⟨m,z,t,c,a,b⟩:=h;exact w.UL a
def To.Ui(h:To σ id n f)(w:GW σ)(g:aH σ σ'):To σ' id n f:=by obtain⟨m,z,t,c,a,b⟩:=h;exact⟨m,z,t,c,by rw[g.TE id (w.UL a)];exact a,b⟩
def To.Vl(h:To σ id n f)(k:σ'.Tq.get id=σ.Tq.get id):To σ' id n f:=by obtain⟨m,z,t,b,c,a⟩:=h;exact⟨m,z,t,b,by rw[k];exact c,a⟩
structure VL (id:Nat) (σ σ':St):Prop where
 next:σ'.next=σ.next
 TX:σ'.TX=σ.TX
 TE:∀ a,a≠id -> σ'.Tq.get a=σ.Tq.get a
def VL.refl(id:Nat)(σ:St):VL id σ σ:=⟨rfl,rfl,fun _ _=>rfl⟩
def VL.trans{b:St}(h:VL id σ σ')(k:VL id σ' b):VL id σ b:=⟨k.next.trans h.next,k.TX.trans h.TX,fun a ha=>(k.TE a ha).trans (h.TE a ha)⟩
def To.put{i:Nat}(h:To σ id n f)(k:VL i σ σ')(a:id≠i):To σ' id n f:=h.Vl (k.TE id a)
def abH.Vl(h:abH σ σ' id)(w:GW σ){a:Nat}{o:Obj}(c:a≠id)(ha:σ.Tq.get a=some o)(d:o.Ty=true)(hg:o.TG=0):σ'.Tq.get a=σ.Tq.get a:=by
 refine h a c fun q f e b=>?_
 have:=w.TG _ _ _ b ha d;omega
def To.store(h:To σ id n f)(w:GW σ){off:Nat}{vs:List V}(l:off+vs.length≤n)(j:vs.all V.Tr=true):
  ∃σ',σ.store id off vs=some σ'∧To σ' id n (UO f off vs)∧GW σ'∧VL id σ σ':=by
 obtain⟨σ',hs,p,hn,hg,q,i⟩:=h.row.store l j;obtain⟨m,z,t,v,o,u⟩:=h;obtain⟨r,x,C,A,b,_,_,_,_,c⟩:=qK hs;rw[o]at b;simp only[TC,Obj.cells.injEq]at b;obtain⟨_,rfl,rfl,rfl,rfl⟩:=b;refine⟨σ',hs,?_,w.store hs,hn,hg,fun a ha=>?_⟩
 .obtain⟨s,y,D,B,g,d,e⟩:=p;have:=c id;rw[Ti rfl,d]at this;simp only[TC,Obj.cells.injEq]at this;obtain⟨_,rfl,rfl,rfl,rfl⟩:=this;exact⟨_,_,_,g,d,e⟩
 rw[c,Tg ha,Tg (fun k=>k.1 rfl)]
def aw.VW(h:aw σ A H)(w:GW σ')(Vp:∀s,H.has s->A s≠id)(k:VL id σ σ')(hw:dE≠id):aw σ' A H where
 gw:=w
 Ub:=h.Ub.fQ (k.TE _ hw)
 inj:=h.inj
 row s hs:=by obtain⟨g,m,z,t,c,a,b⟩:=h.row s hs;exact⟨g,m,z,t,c,by rw[k.TE _ (Vp s hs)];exact a,b⟩
 cut s t o hs ht hne a hg0:=by
  rw[k.TE _ (Vp s hs)]at a;have:=h.cut s t o hs ht hne a hg0
  simpa only[St.row,k.TX]using this
def aw.store(h:aw σ A H){s:Tu}(hs:H.has s){off:Nat}{vs:List V}(L:off+vs.length≤H.size s)(K:vs.all V.Tr=true)(d:∀t,H'.has t->H.has t)(F:∀t,H'.has t->H'.size t=H.size t)(j:∀t,H'.has t->∀i,i<H.size t->H'.cell A t i=if t=s then UO (H.cell A s) off vs i else H.cell A t i):
  ∃σ',σ.store (A s) off vs=some σ'∧aw σ' A H'∧σ'.next=σ.next∧σ'.TX=σ.TX∧∀a o,a≠A s->σ.Tq.get a=some o->o.Ty=true->o.TG=0->σ'.Tq.get a=σ.Tq.get a:=by
 obtain⟨σ',G,O,hn,hg,l,u⟩:=(h.row s hs).store L K;have x:Vv σ':=by obtain⟨m,z,t,E,n,B⟩:=h.Ub;exact h.Ub.fQ (l.Vl h.gw (h.Ub.qt (h.row s hs)) n rfl rfl)
 refine⟨σ',G,⟨h.gw.store G,x,fun a b ha y=>h.inj a b (d a ha) (d b y),?_,?_⟩,hn,hg,fun a o f ha M J=>l.Vl h.gw f ha M J⟩
 .intro t ht;rw[F t ht];by_cases c:t=s
  .subst c;exact O.congr (Tx _) fun i hi=>by rw[j t ht i hi,Ti rfl]
  have f:A t≠A s:=fun e=>c (h.inj t s (d t ht) hs e)
  obtain⟨g,m,z,I,E,n,B⟩:=h.row t (d t ht);refine⟨g,m,z,I,E,?_,fun i hi=>by rw[j t ht i hi,Tg c];exact B i hi⟩;rw[l (A t) f fun o r k=>h.cut s t o hs (d t ht) (U2 c) r k];exact n
 intro a b o ha y f n k;simp only[St.row,hg];by_cases c:a=s
 .subst c;obtain⟨q,N,D⟩:∃q,σ.Tq.get (A a)=some q∧q.TG=o.TG:=by obtain⟨g,m,z,I,E,w,B⟩:=h.row a hs;obtain⟨P,p,C⟩:=u _ w;rw[n]at p;simp only[TC]at p;subst p;exact⟨_,w,C.symm⟩
  have:=h.cut a b q hs (d b y) f N Q
  rwa [D]at this
 have v:A a≠A s:=fun e=>c (h.inj a s (d a ha) hs e)
 rw[l (A a) v fun o r k=>h.cut s a o hs (d a ha) (U2 c) r k]at n;exact h.cut a b o (d a ha) (d b y) f n k
def yD(σ:St)(A:Tu->Nat)(H:aa)(a:Nat):Prop:=a=dE∨∃s,H.has s∧(a=A s∨∃o q,σ.Tq.get (A s)=some o∧o.TG≠0∧a∈σ.row o.TG∧σ.Tq.get a=some q∧q.Ty=true)
def aw.Ew(h:aw σ A H){a:Nat}(ha:yD σ A H a):a<σ.next:=by
 obtain rfl|⟨s,hs,rfl|⟨o,q,h1,h2,h3,h4,h5⟩⟩:=ha
 .exact h.Ub.lt h.gw
 .exact h.lt hs
 exact h.gw.UL h4
def aw.Xv(h:aw σ A H):Fy (yD σ A H) σ:=by
 intro a g o f ha k hg d b w j c e;rcases j with rfl|⟨s,hs,j⟩
 .obtain⟨m,z,t,y,v,x⟩:=h.Ub;rw[v]at c;simp only[TC]at c;subst c;exact hg e.symm
 rcases j with rfl|⟨p,q,l,n,r,i,u⟩
 .exact f <| .inr ⟨s,hs,.inr ⟨w,o,c,Q,by rw[e];exact d,ha,k⟩⟩
 rw[c]at i;simp only[TC]at i;subst i;have:=h.gw.TG _ _ _ r c u;exact f <| .inr ⟨s,hs,.inr ⟨p,o,l,n,by rw[<- this,e];exact d,ha,k⟩⟩
def aw.FF(h:aw σ A H){a:Nat}{o:Obj}(ha:σ.Tq.get a=some o)(f:o.TG=0)(c:∀s,H.has s->A s≠a)(hw:dE≠a):¬yD σ A H a:=by
 rintro(rfl|⟨s,hs,rfl|⟨p,q,g,i,d,b,e⟩⟩)
 .exact hw rfl
 .exact c s hs rfl
 rw[ha]at b;simp only[TC]at b;subst b;have:=h.gw.TG _ _ _ d ha e;omega
def aw.Vl(h:aw σ A H):aw (σ.Vl (yD σ A H)) A H where
 gw:=by
  have d:=σ.eQ (yD σ A H);refine h.gw.UC rfl rfl fun a o b=>?_
  by_cases c:yD σ A H a
  .rw[(d a).1 c]at b;exact⟨o,b,fun l=>⟨l,rfl⟩⟩
  rw[(d a).2 c]at b;cases b
 Ub:=h.Ub.fQ ((σ.eQ _ _).1 (.inl rfl))
 inj:=h.inj
 row s hs:=by obtain⟨g,m,z,t,f,b,e⟩:=h.row s hs;exact⟨g,m,z,t,f,by rw[((σ.eQ _ _).1 (.inr ⟨s,hs,.inl rfl⟩))];exact b,e⟩
 cut s t o hs ht hne b hg:=by rw[((σ.eQ _ _).1 (.inr ⟨s,hs,.inl rfl⟩))]at b;exact h.cut s t o hs ht hne b hg
structure Left (σ:St) (A:Tu -> Nat) (H:aa) (σ':St) (A':Tu -> Nat) (H':aa):Prop where
 le:σ.next≤σ'.next
 TE:∀ a,a<σ.next -> ¬ yD σ A H a -> σ'.Tq.get a=σ.Tq.get a
 TJ:∀ a,yD σ' A' H' a -> yD σ A H a∨σ.next≤a
def aw.call{Γ Γ':T AF}{M:List fK}{g:FuncId}{xs:List V}{P:V->(Tu->Nat)->Prop}(w:∀g x,Γ.get g=some x->Γ'.get g=some x)(K:∀m∈M,Γ.get m.g=none)(h:aw σ A H)(j:∀σ,aw σ A H->au Γ [] g xs σ fun v σ'=>∃A',aw σ' A' H'∧P v A'):
  au Γ' M g xs σ fun v σ'=>∃A',aw σ' A' H'∧P v A'∧Left σ A H σ' A' H':=by
 have u:=au.frame w K (fun a=>h.Ew) h.gw.VS h.Xv ((j _ h.Vl).gw h.Vl.gw);obtain⟨v,σ',⟨Z,⟨⟨A',l,U⟩,X⟩,b⟩,i⟩:=u;have p:GW σ':=by obtain⟨I,W⟩:=i;have L:=j σ h;obtain⟨v2,ac,_,Y⟩:=L.gw h.gw;obtain⟨v3,ad,⟨_,C⟩,G⟩:=L.gw h.gw;obtain⟨J,D⟩:=G.aci (Γ':=Γ') (M:=M) w K;have e:=(W (max I J) Q).symm.trans (D (max I J) Q);simp only[TC,TU]at e;rw[e.2];exact C
 have d:∀a o,Z.Tq.get a=some o->σ'.Tq.get a=some o:=fun a o=>b.get
 refine⟨v,σ',⟨A',⟨p,by obtain⟨m,z,t,r,k,n⟩:=l.Ub;exact⟨m,z,t,r,d _ _ k,n⟩,l.inj,?_,?_⟩,U,⟨by rw[<- b.next];exact b.le,fun a ha hn=>(b.Xq a ha hn).2,?_⟩⟩,i⟩
 .intro s hs;obtain⟨g,m,z,t,r,k,n⟩:=l.row s hs;exact⟨g,m,z,t,r,d _ _ k,n⟩
 .intro s t o hs ht E k hg;obtain⟨g,m,z,tt,r,f,n⟩:=l.row s hs;rw[d _ _ f]at k;simp only[TC]at k;subst k;have:=l.cut s t _ hs ht E f hg
  simpa only[St.row,b.TX]using this
 rintro a (rfl|⟨s,hs,F⟩)
 .exact .inl (.inl rfl)
 obtain⟨g,m,z,t,r,f,n⟩:=l.row s hs;rcases F with rfl|⟨o,q,B,O,C,R,S⟩
 .exact b.is f
 rw[d _ _ f]at B;simp only[TC]at B;subst B;rcases Vm a σ.next with c|c
 .by_cases y:yD σ A H a
  .exact .inl y
  obtain⟨k1,N⟩:=b.Xq a c y;rw[R]at N;exact(b.VX a _ q c y N.symm S O (by simpa only[St.row,b.TX]using C) _ _ f rfl).elim
 exact .inr c
def Vv.gR(h:Vv σ)(k:To σ id n f):dE≠id:=h.qt k.row
def To.left{A':Tu->Nat}(h:To σ id n f)(a:aw σ A H)(k:Left σ A H σ' A' H')(b:∀s,H.has s->A s≠id):To σ' id n f:=by have hw:=a.Ub.gR h;refine h.Vl ?_;obtain⟨m,z,t,e,c,d⟩:=h;exact k.TE id (a.gw.UL c) (a.FF c rfl b hw)
def To.Ov{A':Tu->Nat}(h:To σ id n f)(a:aw σ A H)(k:Left σ A H σ' A' H')(b:∀s,H.has s->A s≠id):∀s,H'.has s->A' s≠id:=by
 rintro s hs rfl;have hw:=a.Ub.gR h;obtain⟨m,z,t,g,d,e⟩:=h;rcases k.TJ (A' s) (.inr ⟨s,hs,.inl rfl⟩)with c|c
 .exact a.FF d rfl b hw c
 have:=a.gw.UL d;omega
theorem aj{l:List V}:(V.agg l).cells=l:=(rfl)
theorem az{k:IntKind}{n:Int}:(V.int k n).cells=[.int k n]:=(rfl)
theorem aD{p:Option (Nat×Nat)}{l e:Nat}:(V.slice p l e).cells=[.slice p l e]:=(rfl)
theorem bB.aL(p:bB):p.cells.length=11:=rfl
def St.Ts(σ:St)(n:Nat)(z vs:List V):St:={ (σ.new (.acM n z .nil))with Tq:=(σ.new (.acM n z .nil)).Tq.set σ.next (.acM n z (mf .nil 0 vs)) }
def aQ{z vs:List V}{n:Nat}(h:vs.length≤n)(a:vs.all V.Tr=true):(σ.new (.acM n z .nil)).store σ.next 0 vs=some (σ.Ts n z vs):=by unfold St.store;simp only[St.new,T.aJ,TT,Vk];rw[Ti ⟨h,a⟩];rfl
def aH.Ts(σ:St)(n:Nat)(z vs:List V):aH σ (σ.Ts n z vs):=
 ⟨by simp[St.Ts,St.new],rfl,fun a ha=>by simp only[St.Ts,St.new];rw[T.aJ,Tg Q,T.aJ,Tg Q]⟩
def To.Ts(σ:St)(n:Nat)(z vs:List V)(h:vs.length=n):To (σ.Ts n z vs) σ.next n (Tn vs):=by
 refine⟨n,z,mf .nil 0 vs,Tx _,by simp only[St.Ts,St.new,T.aJ,TT],fun i hi=>?_⟩;unfold Vw;rw[Ti hi,lN,Ti Q,Zr];have e:vs[i]?=some (Tn vs i):=by rw[Tn,U7,UQ Q];rfl
 rw[e]
def GW.Ts(h:GW σ){n:Nat}{z vs:List V}(b:vs.length≤n)(a:vs.all V.Tr=true):GW (σ.Ts n z vs):=(h.new _ rfl).store (aQ b a)
def aw.Ts(h:aw σ A H){n:Nat}{z vs:List V}(b:vs.length≤n)(a:vs.all V.Tr=true):aw (σ.Ts n z vs) A H:=h.Ui (aH.Ts σ n z vs) (h.gw.Ts b a)
def aw.JZ{Γ Γ':T AF}{M:List fK}{g:FuncId}{xs:List V}{P:V->Prop}(d:∀g x,Γ.get g=some x->Γ'.get g=some x)(f:∀m∈M,Γ.get m.g=none)(h:aw σ A H)(a:∀σ,aw σ A H->au Γ [] g xs σ fun v σ'=>aw σ' A H'∧P v):
  au Γ' M g xs σ fun v σ'=>aw σ' A H'∧P v∧Left σ A H σ' A H':=by
 refine(aw.call (H':=H') (P:=fun v e=>e=A∧P v) d f h fun s hs=>(a s hs).mono fun v σ' ⟨b,c⟩=>⟨A,b,rfl,c⟩).mono ?_;rintro v σ' ⟨e,b,⟨rfl,c⟩,h3⟩;exact⟨b,c,h3⟩
def aw.dF{Γ:T AF}{g:FuncId}{xs:List V}{P:V->Prop}(h:aw σ A H)(r:au Γ [] g xs σ fun v σ'=>P v∧aH σ σ'):au Γ [] g xs σ fun v σ'=>P v∧aH σ σ'∧aw σ' A H:=by refine(r.gw h.gw).mono ?_;rintro v σ' ⟨⟨b,a⟩,h3⟩;exact⟨b,a,h.Ui a h3⟩
end
end AM
namespace Go.Proofs.YtlgmpheammbacaaGreatDoor
open AM Go
noncomputable section
section
structure _root_.AM.aa.OK (H:aa):Prop where
 Wc:0<H.Tj
 VI:H.Th≤8
 Yw:1≤H.TB
 Xo:H.TB≤64
 X7:H.TB*2^H.Th≤1024
 XT:H.Tj+H.Tp*H.TB≤9223372036854775808
 fU:H.Tj%H.Tp=0
 We:H.Tl≤H.TB
 XB:∀ i,H.mem i<256
 Yv:∀ k,H.head k<18446744073709551616
 XG:∀ k j,H.U1 k j<18446744073709551616
 T0:0<H.Tl -> H.Yk=true
 aU:0<H.Tl -> H.YO=true
variable {σ:St} {A:Tu -> Nat} {H:aa}
def Bi{k:Nat}(h:k≤8):2^k≤256:=by
 have:(2:Nat)^k≤2^8:=Vb Q h
 simpa using this
def aK(k:Nat):0<2^k:=Ye Q
def ke(ok:H.OK):H.Tp≤1048576:=by have:=Bi ok.VI;unfold aa.Tp;omega
def oS(H:aa):4096≤H.Tp:=by have:=aK H.Th;unfold aa.Tp;omega
def mD(ok:H.OK):H.Ut≤9223372036854775808∧H.Tj≤H.Ut:=by have a:=ok.XT;have b:H.Tp*H.Tl≤H.Tp*H.TB:=Xu _ ok.We;unfold aa.Ut;omega
def zj(ok:H.OK):H.Tl≤64:=V4 ok.We ok.Xo
def xw(ok:H.OK):H.eH A=.slice (if H.Yk=true then some (A .T0,0)else none) H.Tl (if H.Yk=true then 1 else 0):=by
 unfold aa.eH;by_cases h:H.Yk=true
 .simp only[h,TT]
 simp only[h,Ul,U5];have:H.Tl=0:=by
  rcases Wi H.Tl with k|k
  .exact k
  exact(h (ok.T0 k)).elim
 rw[this]
def tC(a:aw σ A H)(ok:H.OK):au G0 [] 76 [.acK (A .TY) 0] σ fun v σ'=>v=.u H.Ut∧σ'=σ:=by
 refine ai g76 rfl ?_;have f:σ.cell (A .TY) 0=some (.u H.Tj):=a.cell (s:=.TY) trivial (Q:0<5);have g:σ.cell (A .TY) 3=some (.u H.Tp):=a.cell (s:=.TY) trivial (Q:3<5);have b:σ.cell (A .TY) 4=some (H.eH A):=a.cell (s:=.TY) trivial (Q:4<5);rw[xw ok]at b;have c:IntKind.u64.wrap (H.Tl:Int)=H.Tl:=cd Q (by have:=zj ok;omega);have h:=mD ok;have d:IntKind.u64.wrap ((H.Tp:Int)*(H.Tl:Int))=((H.Tp*H.Tl:Nat):Int):=by
  have:H.Tp*H.Tl≤H.Ut:=by unfold aa.Ut;omega
  rw[<- Z2,cd] <;> omega
 have e:IntKind.u64.wrap ((H.Tj:Int)+((H.Tp*H.Tl:Nat):Int))=(H.Ut:Int):=by rw[cd] <;> (unfold aa.Ut at *) <;> omega
 simp only[go_sem,f,g,b,c,d,e]
theorem z9(hR:aw σ A H)(ok:H.OK){p n:Nat}(hp:H.Tj≤p)(hn:p+n≤H.Ut):au G0 [] 135 [.ptr (some (A .TY,0)),.u p,.u n] σ fun v σ'=>v=.tuple []∧σ'=σ:=by
 refine ai g135 rfl ?_;have h0:σ.cell (A .TY) 0=some (.u H.Tj):=hR.cell (s:=.TY) trivial (acG:0<5);have hf:=mD ok;obtain⟨v,σ',⟨hv,hs⟩,hr⟩:=tC hR ok;subst hv hs;have hcall:∀{Q:V->St->Prop},Q (.u H.Ut) σ'->au G0 [] 76 [.ptr (some (A .TY,0))] σ' Q:=fun h=>ab hr h
 have c1:¬((p:Int)<(H.Tj:Int)):=acG;have c2:¬((H.Ut:Int)<(p:Int)):=acG;have e1:IntKind.u64.wrap ((H.Ut:Int)-(p:Int))=((H.Ut-p:Nat):Int):=by rw[cd] <;> omega
 have c3:¬(((H.Ut-p:Nat):Int)<(n:Int)):=acG;by_cases c0:(n:Int)=0
 .simp-implicitDefEqProofs only[go_sem,h0,c0,TV,Uq]
 simp-implicitDefEqProofs only[go_sem,h0,c0,c1,TV,Ug];refine hcall ?_;simp-implicitDefEqProofs only[go_sem,h0,c0,c1,c2,TV,Ug];refine hcall ?_;simp-implicitDefEqProofs only[go_sem,h0,c0,c1,c2,e1,c3,TV,Ug]
structure _root_.AM.aa.In (H:aa) (p n:Nat):Prop where
 Tj:H.Tj≤p
 UE:(p-H.Tj) / H.Tp<H.Tl
 Vd:(p-H.Tj)%H.Tp+n≤H.Tp
def kJ(ok:H.OK){p n:Nat}(h:H.In p n):p+n≤H.Ut:=by have a:=h.UE;have c:=h.Vd;have d:=XJ (p-H.Tj) H.Tp;have b:H.Tp*((p-H.Tj)/H.Tp+1)≤H.Tp*H.Tl:=Xu _ a;have:=h.Tj;unfold aa.Ut;rw[Nat.mul_add]at b;omega
def tK(ok:H.OK)(h:0<H.Tl):H.eH A=.acL (A .T0) 0 H.Tl 1:=by unfold aa.eH;rw[Ti (ok.T0 h)]
def O2(e:aw σ A H)(ok:H.OK){p L g:Nat}{f:Nat->V}(F:To σ g L f)(w:∀s,H.has s->A s≠g)(hL:0<L)(d:H.In p L):
  au G0 [] 136 [.acK (A .TY) 0,.u p,.acL g 0 L 1] σ fun v σ'=>aw σ' A H∧VL g σ σ'∧To σ' g L (fun i=>.int .u8 (H.mem (p-H.Tj+i))):=by
 refine ai g136 rfl ?_;have S:σ.cell (A .TY) 0=some (.u H.Tj):=e.cell (s:=.TY) trivial (Q:0<5);have T:σ.cell (A .TY) 3=some (.u H.Tp):=e.cell (s:=.TY) trivial (Q:3<5);have D:σ.cell (A .TY) 4=some (H.eH A):=e.cell (s:=.TY) trivial (Q:4<5);have E:=kJ ok d;have hf:=mD ok;have ac:=ke ok;have Z:=oS H;have W:=d.Tj;have a:=d.UE;have b:=d.Vd;have l:0<H.Tl:=aaa (VK _) a;rw[tK ok l]at D;obtain⟨o,x⟩:=acH (p-H.Tj);rw[<- x]at a b;obtain⟨q,m⟩:=acH (o/H.Tp);obtain⟨r,n⟩:=acH (o%H.Tp);have X:q*H.Tp+r=o:=by rw[m,n,UF];exact XJ o H.Tp
 rw[<- m]at a;rw[<- n]at b;have y:H.has .T0:=ok.T0 l;have U:σ.cell (A .T0) q=some (.acL (A (.UE q)) 0 H.Tp 1):=e.cell (s:=.T0) y a;have J:IntKind.u64.wrap ((p:Int)-(H.Tj:Int))=(o:Int):=by rw[bK W Q,x]
 have K:IntKind.u64.wrap ((o:Int).tdiv (H.Tp:Int))=(q:Int):=by rw[iw Q,m]
 have M:((o:Int).tmod (H.Tp:Int))=(r:Int):=by rw[aW,n]
 clear m n;have G:(0:Int)<(L:Int):=Q;have c1:(H.Tp:Int)≠0:=Q;have I:(0:Int)≤(q:Int)∧(q:Int)<(H.Tl:Int):=Q;have N:fE 1 (.acL (A (.UE q)) 0 H.Tp 1) (some (.u (r:Int))) none=some (.acL (A (.UE q)) r (H.Tp-r) 1):=by rw[kz Q Q];simp
 have c:min (H.Tp-r) L=L:=Nat.min_eq_right Q;have h:σ.load (A (.UE q)) r (min (H.Tp-r) L*1)=some ((List.range L).map fun j=>.int .u8 (H.mem (o+j))):=by rw[c,Um,e.load (s:=.UE q) a (show r+L≤H.Tp from b)];simp only[aa.cell];congr 1;apply ZH;intro j _;rw[(Q:q*H.Tp+(r+j)=o+j)]
 obtain⟨C,z,t,B,k⟩:=F.store e.gw (off:=0) (vs:=(List.range L).map fun j=>V.int .u8 (H.mem (o+j))) Y (by simp[V.Tr]);have O:YN σ 1 (.acL g 0 L 1) (.acL (A (.UE q)) r (H.Tp-r) 1)=some (.i (L:Nat),C):=by rw[sU (by rw[c];omega) h z,c]
 have P:fE 1 (.acL g 0 L 1) (some (.i (L:Int))) none=some (.acL g L 0 1):=by rw[kz Q Q];simp
 have R:IntKind.u64.wrap (L:Int)=(L:Int):=bm Q;simp only[go_sem];refine oN ?_;simp only[go_sem,S,T,D,U,J,G,c1,bc,aZ,K,M,I,N,O,TV,Ug,TZ,Um,P,R,Us,Xd,ZO];refine oN ?_;simp only[go_sem,VN,Int.lt_irrefl];refine⟨e.VW B w k (e.Ub.gR F),k,t.congr (Tx _) fun i hi=>?_⟩;simp[UO,hi,x]
end
section
variable {σ:St} {A:Tu -> Nat} {H:aa}
def WX(m:Nat->Nat)(o:Nat):Nat->Nat
 | 0=>0
 |i+1=>WX m o i+m (o+i)*2^(8*i)
def BH{m:Nat->Nat}(h:∀i,m i<256)(o:Nat):∀i,WX m o i<2^(8*i)
 | 0=>by simp[WX]
 |i+1=>by
  have a:=BH h o i;have b:=h (o+i);have c:m (o+i)*2^(8*i)≤255*2^(8*i):=UG _ Q;have d:2^(8*(i+1))=256*2^(8*i):=by rw[Nat.mul_add,X3,UF]
  simp only[WX];omega
def _root_.AM.aa.UD(H:aa)(p:Nat):Nat:=WX H.mem (p-H.Tj) 8
def AY(ok:H.OK)(p:Nat):H.UD p<18446744073709551616:=BH ok.XB _ 8
def qM{e:V}:au G0 [] 134 [.nilIface,e] σ fun v σ'=>v=.tuple []∧σ'=σ:=by refine ai g134 rfl ?_;simp only[go_sem]
def Ni{e:V}:au G0 [] 270 [e] σ fun v σ'=>v=.tuple []∧σ'=σ:=by refine ai g270 rfl ?_;obtain⟨v,σ',⟨b,hs⟩,a⟩:=qM (σ:=σ) (e:=e);subst b hs;simp only[go_sem];refine ab a ?_;simp only[go_sem]
def El(hR:aw σ A H)(ok:H.OK){p:Nat}(j:H.In p 8):
  au G0 [] 247 [.acK (A .TY) 0,.u p] σ fun v σ'=>v=.tuple [.u (H.UD p),.i 0]∧aw σ' A H∧aH σ σ':=by
 refine ai g247 rfl ?_;simp only[go_sem,TH,TK];have M:=aH.new σ (.acM 1 [.i 0] .nil);have o:=hR.new (.acM 1 [.i 0] .nil) rfl;have J:=To.fx σ [.i 0] 1 (.inl Y);obtain⟨le,x⟩:=acH (σ.next);rw[<- x]at J⊢;have N1:∀s,H.has s->A s≠le:=fun s hs=>by have:=hR.lt hs;omega
 obtain⟨ad,e1⟩:=acH (σ.new (.acM 1 [.i 0] .nil));have n1:ad.next=le+1:=by rw[e1,x];rfl
 rw[<- e1]at M o J⊢;obtain⟨v,σ',⟨Z,hs⟩,U⟩:=z9 o ok j.Tj (kJ ok j);subst Z hs;refine ab U ?_;simp only[go_sem,TH,TK];have N:=aH.new σ' (.acM 8 [.int .u8 0,.int .u8 0,.int .u8 0,.int .u8 0,.int .u8 0,.int .u8 0,.int .u8 0,.int .u8 0] .nil);have R2:=o.new (.acM 8 [.int .u8 0,.int .u8 0,.int .u8 0,.int .u8 0,.int .u8 0,.int .u8 0,.int .u8 0,.int .u8 0] .nil) rfl;have C:=To.fx σ' [.int .u8 0,.int .u8 0,.int .u8 0,.int .u8 0,.int .u8 0,.int .u8 0,.int .u8 0,.int .u8 0] 8 (.inl Y);have l:=J.Ui o.gw N;obtain⟨I,S⟩:=acH (σ'.next);rw[<- S]at C⊢;have N2:∀s,H.has s->A s≠I:=fun s hs=>by have:=o.lt hs;omega
 obtain⟨af,e2⟩:=acH (σ'.new (.acM 8 [.int .u8 0,.int .u8 0,.int .u8 0,.int .u8 0,.int .u8 0,.int .u8 0,.int .u8 0,.int .u8 0] .nil));rw[<- e2]at N R2 C l⊢;have q:EB af 8 1 (.acK I 0) none none=some (.acL I 0 8 1):=by obtain⟨m,z,t,T,ho,hc⟩:=C;simp[EB,sliceB,XW,ho,T]
 simp only[go_sem,ZO,q];obtain⟨v,B,⟨K,D,L3⟩,W⟩:=O2 R2 ok C N2 acG j;refine ab W ?_;have f:=l.put D acG;have O:aH σ B:=by have g:=M.trans N;refine⟨by rw[D.next];exact g.next,D.TX.trans g.TX,fun a ha=>?_⟩;rw[D.TE a (by have:=M.next;omega)];exact g.TE a ha
 simp only[go_sem];refine bW (fun(n:Nat) (fr:Fr) (s:St)=>s=B∧fr.defers=[(270,[.acK le 0])]∧fr.tmps.get 5=some (.acK le 0)∧fr.tmps.get 6=some (.acK I 0)∧
  ∃i,i≤8∧n=8-i∧fr.tmps.get 16=some (.i (i:Nat))∧fr.tmps.get 4=some (.u (WX H.mem (p-H.Tj) i))) ?_ 8 ?_
 .rintro n ⟨tm,ds⟩ s ⟨rfl,r,G,P,i,hi,hn,h,F⟩;simp only at r G P h F;subst r;rcases Vm i 8 with c|c
  .have c1:((i:Int)<8):=acG;have c2:(0:Int)≤(i:Int)∧(i:Int)<((8:Nat):Int):=acG;have hb:=L3.cell c;have T:=ok.XB (p-H.Tj+i);have e5:IntKind.u64.wrap ((H.mem (p-H.Tj+i):Nat):Int)=((H.mem (p-H.Tj+i):Nat):Int):=bm acG;have e6:IntKind.i64.wrap (8*(i:Int))=((8*i:Nat):Int):=by rw[dw] <;> omega
   have e7:IntKind.i64.wrap ((i:Int)+1)=((i+1:Nat):Int):=by rw[dw] <;> omega
   have ah:2^(8*i)*256≤2^64:=by rw[show 256=2^8 by rfl, <- X3];exact Vb acG acG
   have y:H.mem (p-H.Tj+i)*2^(8*i)<18446744073709551616:=by have:H.mem (p-H.Tj+i)*2^(8*i)<256*2^(8*i):=aaP T (Ye acG);omega
   have e8:jc .u64 ((H.mem (p-H.Tj+i):Nat):Int) ((8*i:Nat):Int)=((H.mem (p-H.Tj+i)*2^(8*i):Nat):Int):=gP acG y;have ac:=BH ok.XB (p-H.Tj) i;have e9:=acE (a:=WX H.mem (p-H.Tj) i) (b:=H.mem (p-H.Tj+i)*2^(8*i)) acG y;have L:WX H.mem (p-H.Tj) i |||H.mem (p-H.Tj+i)*2^(8*i)=WX H.mem (p-H.Tj) (i+1):=by rw[Nat.or_comm,UF, <- Nat.two_pow_add_eq_or_of_lt ac];simp only[WX];rw[UF,aaI]
   have c3:(0:Int)≤((8*i:Nat):Int):=acG;simp only[go_sem,G,P,h,F,c1,c2,c3,hb,e5,e6,e7,aT,e8,e9,L,TZ,Um,Us];exact⟨8-(i+1),acG,i+1,acG,rfl,rfl,rfl⟩
  have R:i=8:=acG;subst R;have c1:¬(((8:Nat):Int)<8):=acG;obtain⟨k,X,L4,w4,E⟩:=f.store K.gw (off:=0) (vs:=[.i 0]) Y rfl;have w:∀{Q:V->St->Prop},Q (.tuple []) k->au G0 [] 270 [.acK le 0] k Q:=by intro Q hq;obtain⟨v,σ',⟨Z,hs⟩,U⟩:=Ni (σ:=k) (e:=.acK le 0);subst Z hs;exact ab U hq
  have d:=L4.cell (i:=0) acG;simp only[UO,Tx,WK,TH,TK,Vk,Nat.lt_add_one,TT,Yf,abi]at d;have ag:([V.i 0]:List V).length=1:=rfl;simp only[go_sem,G,P,h,F,c1,V.cells,TH,TK,X,b7];refine⟨.inl ⟨_,g270⟩,w ?_⟩;simp only[go_sem,G,F,d];refine⟨rfl,K.VW w4 N1 E (K.Ub.gR f),?_⟩;exact⟨by rw[E.next];exact O.next,E.TX.trans O.TX,fun a ha=>(E.TE a acG).trans (O.TE a ha)⟩
 refine⟨rfl,?_,?_,?_,0,acG,rfl,?_,?_⟩ <;> simp only[go_sem,WX,VN]
def _root_.AM.aa.wr(H:aa)(o L:Nat)(vs:Nat->Nat):aa:={ H with mem:=fun i=>if o≤i∧i<o+L then vs (i-o)else H.mem i }
structure HU (σ:St) (A:Tu -> Nat) (H:aa) (σ':St):Prop where
 next:σ'.next=σ.next
 TX:σ'.TX=σ.TX
 TE:∀ a n f,To σ a n f -> (∀ s,H.has s -> A s≠a) -> To σ' a n f
def u0{s:Tu}(hs:H.has s){σ':St}(hn:σ'.next=σ.next)(hg:σ'.TX=σ.TX)(h:∀a o,a≠A s->σ.Tq.get a=some o->o.Ty=true->o.TG=0->σ'.Tq.get a=σ.Tq.get a):HU σ A H σ':=
 ⟨hn,hg,fun a n f ⟨m,z,t,e,c,d⟩ b=>⟨m,z,t,e,by rw[h a _ (U2 (b s hs)) c rfl rfl];exact c,d⟩⟩
def JP(m:aw σ A H)(ok:H.OK){p L l lo:Nat}{vs:Nat->Nat}(hl:σ.load l lo L=some ((List.range L).map fun j=>.int .u8 (vs j)))(hL:0<L)(g:H.In p L):
  au G0 [] 180 [.acK (A .TY) 0,.u p,.acL l lo L 1] σ fun v σ'=>aw σ' A (H.wr (p-H.Tj) L vs)∧HU σ A H σ'∧∀a o,(∀s,H.has s->A s≠a)->σ.Tq.get a=some o->o.Ty=true->o.TG=0->σ'.Tq.get a=σ.Tq.get a:=by
 refine ai g180 rfl ?_;have X:σ.cell (A .TY) 0=some (.u H.Tj):=m.cell (s:=.TY) trivial (Q:0<5);have Y:σ.cell (A .TY) 3=some (.u H.Tp):=m.cell (s:=.TY) trivial (Q:3<5);have J:σ.cell (A .TY) 4=some (H.eH A):=m.cell (s:=.TY) trivial (Q:4<5);have K:=kJ ok g;have hf:=mD ok;have ag:=ke ok;have af:=oS H;have hb:=g.Tj;have b:=g.UE;have e:=g.Vd;have w:0<H.Tl:=aaa (VK _) b;rw[tK ok w]at J;obtain⟨o,M⟩:=acH (p-H.Tj);rw[<- M]at b e⊢;obtain⟨q,y⟩:=acH (o/H.Tp);obtain⟨r,z⟩:=acH (o%H.Tp);have ac:q*H.Tp+r=o:=by rw[y,z,UF];exact XJ o H.Tp
 rw[<- y]at b;rw[<- z]at e;have F:H.has .T0:=ok.T0 w;have Z:σ.cell (A .T0) q=some (.acL (A (.UE q)) 0 H.Tp 1):=m.cell (s:=.T0) F b;have O:IntKind.u64.wrap ((p:Int)-(H.Tj:Int))=(o:Int):=by rw[bK hb Q,M]
 have P:IntKind.u64.wrap ((o:Int).tdiv (H.Tp:Int))=(q:Int):=by rw[iw Q,y]
 have R:((o:Int).tmod (H.Tp:Int))=(r:Int):=by rw[aW,z]
 clear y z;have N:(0:Int)<(L:Int):=Q;have c1:(H.Tp:Int)≠0:=Q;have x:(0:Int)≤(q:Int)∧(q:Int)<(H.Tl:Int):=Q;have S:fE 1 (.acL (A (.UE q)) 0 H.Tp 1) (some (.u (r:Int))) none=some (.acL (A (.UE q)) r (H.Tp-r) 1):=by rw[kz Q Q];simp
 have f:min L (H.Tp-r)=L:=Xb Q;have h:σ.load l lo (min L (H.Tp-r)*1)=some ((List.range L).map fun j=>.int .u8 (vs j)):=by rw[f,Um,hl]
 obtain⟨I,G,B,D,C,n⟩:=m.store (H':=H.wr o L vs) (s:=.UE q) b (off:=r) (vs:=(List.range L).map fun j=>V.int .u8 (vs j)) (by simp;exact e) (by simp[V.Tr])
  (fun t ht=>ht) (fun t _=>by cases t <;> rfl) (by
   intro t ht i hi;cases t with
   |UE d=>
    by_cases c:d=q
    .subst c;rw[Ti rfl];simp only[UO,Wz,YE,aa.cell,aa.wr];show V.int .u8 ((if o≤d*H.Tp+i∧d*H.Tp+i<o+L then vs (d*H.Tp+i-o)else H.mem (d*H.Tp+i):Nat))=_;by_cases x:r≤i∧i<r+L
     .rw[Ti Q,Ti x,(Q:d*H.Tp+i-o=i-r)];simp[(Q:i-r<L)]
     rw[Tg Q,Tg x]
    rw[Tg (by simpa using c)];simp only[aa.cell,aa.wr];show V.int .u8 ((if o≤d*H.Tp+i∧d*H.Tp+i<o+L then vs (d*H.Tp+i-o)else H.mem (d*H.Tp+i):Nat))=_;have ad:i<H.Tp:=hi;have:¬(o≤d*H.Tp+i∧d*H.Tp+i<o+L):=by
     rintro⟨k1,k2⟩;rcases Vm d q with k|k
     .have:(d+1)*H.Tp≤q*H.Tp:=UG _ k;rw[UW]at this;omega
     have:(q+1)*H.Tp≤d*H.Tp:=UG _ Q;rw[UW]at this;omega
    rw[Tg this]
   |_=>rfl)
 have T:YN σ 1 (.acL (A (.UE q)) r (H.Tp-r) 1) (.acL l lo L 1)=some (.i (L:Nat),I):=by rw[sU (by rw[f];omega) h G,f]
 have U:fE 1 (.acL l lo L 1) (some (.i (L:Int))) none=some (.acL l (lo+L) 0 1):=by rw[kz Q Q];simp
 have W:IntKind.u64.wrap (L:Int)=(L:Int):=bm Q;simp only[go_sem];refine oN ?_;simp only[go_sem,X,Y,J,Z,O,N,c1,bc,aZ,P,R,x,S,T,TV,Ug,TZ,Um,U,W,Us];refine oN ?_;simp only[go_sem,VN,Int.lt_irrefl];exact⟨B,u0 (s:=.UE q) b D C n,fun a o E=>n a o (U2 (E (.UE q) b))⟩
def Rl(d:aw σ A H)(ok:H.OK){p L b:Nat}{vs:Nat->Nat}(e:To σ b L (fun i=>.int .u8 (vs i)))(c:0<L)(a:H.In p L):
  au G0 [] 180 [.acK (A .TY) 0,.u p,.acL b 0 L 1] σ fun v σ'=>aw σ' A (H.wr (p-H.Tj) L vs)∧HU σ A H σ':=
 (JP d ok (by rw[e.load (off:=0) Q];simp) c a).mono fun _ _ h=>⟨h.1,h.2.1⟩
def byteOf(v i:Nat):Nat:=v/2^(8*i)%256
def _root_.AM.aa.dO(H:aa)(p v:Nat):aa:=H.wr (p-H.Tj) 8 (byteOf v)
def EV{e:V}:au G0 [] 260 [e] σ fun v σ'=>v=.tuple []∧σ'=σ:=by refine ai g260 rfl ?_;obtain⟨v,σ',⟨b,hs⟩,a⟩:=qM (σ:=σ) (e:=e);subst b hs;simp only[go_sem];refine ab a ?_;simp only[go_sem]
def fY(hR:aw σ A H)(ok:H.OK){p v:Nat}(hv:v<18446744073709551616)(f:H.In p 8):
  au G0 [] 226 [.acK (A .TY) 0,.u p,.u v] σ fun r σ'=>aw σ' A (H.dO p v)∧r=.i 0:=by
 refine ai g226 rfl ?_;simp only[go_sem,TH,TK];have g1:=aH.new σ (.acM 1 [.i 0] .nil);have o:=hR.new (.acM 1 [.i 0] .nil) rfl;have g:=To.fx σ [.i 0] 1 (.inl Y);obtain⟨le,y⟩:=acH (σ.next);rw[<- y]at g⊢;have X:∀s,H.has s->A s≠le:=fun s hs=>by have:=hR.lt hs;omega
 obtain⟨U,e1⟩:=acH (σ.new (.acM 1 [.i 0] .nil));have n1:U.next=le+1:=by rw[e1,y];rfl
 rw[<- e1]at g1 o g⊢;obtain⟨v',σ',⟨S,hs⟩,hr⟩:=z9 o ok f.Tj (kJ ok f);subst S hs;refine ab hr ?_;simp only[go_sem,TH,TK];have g2:=aH.new σ' (.acM 8 [.int .u8 0,.int .u8 0,.int .u8 0,.int .u8 0,.int .u8 0,.int .u8 0,.int .u8 0,.int .u8 0] .nil);have R2:=o.new (.acM 8 [.int .u8 0,.int .u8 0,.int .u8 0,.int .u8 0,.int .u8 0,.int .u8 0,.int .u8 0,.int .u8 0] .nil) rfl;have b:=To.fx σ' [.int .u8 0,.int .u8 0,.int .u8 0,.int .u8 0,.int .u8 0,.int .u8 0,.int .u8 0,.int .u8 0] 8 (.inl Y);have k:=g.Ui o.gw g2;obtain⟨h,K⟩:=acH (σ'.next);rw[<- K]at b⊢;have N2:∀s,H.has s->A s≠h:=fun s hs=>by have:=o.lt hs;omega
 obtain⟨ac,e2⟩:=acH (σ'.new (.acM 8 [.int .u8 0,.int .u8 0,.int .u8 0,.int .u8 0,.int .u8 0,.int .u8 0,.int .u8 0,.int .u8 0] .nil));rw[<- e2]at g2 R2 b k⊢;refine bW (fun(n:Nat) (fr:Fr) (s:St)=>aw s A H∧To s le 1 (fun _=>.i 0)∧fr.defers=[(260,[.acK le 0])]∧fr.tmps.get 0=some (.acK (A .TY) 0)∧fr.tmps.get 1=some (.u p)∧fr.tmps.get 2=some (.u v)∧fr.tmps.get 6=some (.acK le 0)∧fr.tmps.get 7=some (.acK h 0)∧
  ∃i,i≤8∧n=8-i∧fr.tmps.get 13=some (.i (i:Nat))∧To s h 8 (fun j=>.int .u8 ((if j<i then byteOf v j else 0:Nat)))) ?_ 8 ?_
 .rintro n ⟨tm,ds⟩ s ⟨R,g,x,D,E,F,q,G,i,hi,hn,d,b⟩;simp only at x D E F q G d;subst x;rcases Vm i 8 with c|c
  .have c1:((i:Int)<8):=Q;have c2:(0:Int)≤(i:Int)∧(i:Int)<((8:Nat):Int):=Q;have e6:IntKind.i64.wrap (8*(i:Int))=((8*i:Nat):Int):=by rw[dw] <;> omega
   have e7:IntKind.i64.wrap ((i:Int)+1)=((i+1:Nat):Int):=by rw[dw] <;> omega
   have e8:nE .u64 (v:Int) ((8*i:Nat):Int)=((v/2^(8*i):Nat):Int):=gM rfl Q;have e9:IntKind.u8.wrap ((v/2^(8*i):Nat):Int)=(byteOf v i:Int):=by rw[wu8];unfold byteOf;omega
   have c3:(0:Int)≤((8*i:Nat):Int):=Q;obtain⟨ad,N,L4,w4,Z⟩:=b.store R.gw (off:=i) (vs:=[.int .u8 (byteOf v i)]) (by simp;omega) rfl;simp only[go_sem,D,E,F,q,G,d,c1,c2,c3,e6,e7,bA,e8,e9,TZ,Um,Us,V.cells,TH,TK,N];refine⟨8-(i+1),Q,R.VW w4 N2 Z (R.Ub.gR b),g.put Z Q,i+1,Q,rfl,rfl,L4.congr (Tx _) fun j J=>?_⟩;simp only[UO,TH,TK];by_cases c4:j=i
   .subst c4;simp
   rw[Tg Q];by_cases c5:j<i
   .simp[c5,(Q:j<i+1)]
   simp[c5,(Q:¬j<i+1)]
  have I:i=8:=Q;subst I;have c1:¬(((8:Nat):Int)<8):=Q;have w:EB s 8 1 (.acK h 0) none none=some (.acL h 0 8 1):=by obtain⟨m,z,t,hm,ho,hc⟩:=b;simp[EB,sliceB,XW,ho,hm]
  have B:To s h 8 (fun j=>.int .u8 (byteOf v j)):=b.congr (Tx _) fun j J=>by simp[J]
  obtain⟨v1,af,⟨C,S5⟩,L⟩:=Rl R ok B Q f;have l:=S5.TE le 1 _ g X;obtain⟨W,O,L6,w6,P6⟩:=l.store C.gw (off:=0) (vs:=[.i 0]) Y rfl;have R6:=C.VW w6 X P6 (C.Ub.gR l);have a:=L6.cell (i:=0) Q;simp only[UO,Tx,WK,TH,TK,Vk,Nat.lt_add_one,TT,Yf,abi]at a;simp only[go_sem,D,E,F,q,G,d,c1,w];refine ab L ?_;simp only[go_sem,q,V.cells,TH,TK,O,b7];refine⟨.inl ⟨_,g260⟩,?_⟩;obtain⟨v7,ag,⟨T,P⟩,M⟩:=EV (σ:=W) (e:=.acK le 0);subst T P;refine ab M ?_;simp only[go_sem,q,a];exact R6
 refine⟨R2,k.congr (Tx _) (fun i hi=>by cases i with|zero=>rfl|succ i=>omega),?_,?_,?_,?_,?_,?_,0,Q,rfl,?_,?_⟩
 all_goals first
  |(simp only[go_sem,VN];done)
  |exact b.congr (Tx _) fun j J=>by rcases(by omega:j=0∨j=1∨j=2∨j=3∨j=4∨j=5∨j=6∨j=7)with rfl|rfl|rfl|rfl|rfl|rfl|rfl|rfl <;> rfl
def jY(v lo hi:Int):au G0 [] 256 [.i v,.i lo,.i hi] σ fun r σ'=>r=.bool (decide (lo≤v) && decide (v≤hi))∧σ'=σ:=by
 refine ai g256 rfl ?_;by_cases h:lo≤v
 .simp only[go_sem,h]
 simp only[go_sem,h]
def cI(kind Th:Int):bB:=⟨kind,Th,0,0, -1, -1, -1,0,0,0,0⟩
def bX:bB:=⟨0,0,0,0,0,0,0,0,0,0,0⟩
def FX(kind Th:Int)(w:GW σ):au G0 [] 259 [.i kind,.i Th] σ fun r σ'=>r=.agg (cI kind Th).cells∧aH σ σ':=by
 refine ai g259 rfl ?_;have e:bZ [.i 0,.i 0,.i 0,.i 0,.i 0,.i 0,.i 0,.u 0,.u 0,.u 0,.u 0]
   [(0,1,.i kind),(1,1,.i Th),(4,1,.i (-1)),(5,1,.i (-1)),(6,1,.i (-1))]=some (cI kind Th).cells:=rfl
 have L:=To.Ts σ 11 bX.cells (cI kind Th).cells rfl;have a:(σ.Ts 11 [.i 0,.i 0,.i 0,.i 0,.i 0,.i 0,.i 0,.u 0,.u 0,.u 0,.u 0] (cI kind Th).cells).load σ.next 0 11=some (cI kind Th).cells:=by rw[show [V.i 0,.i 0,.i 0,.i 0,.i 0,.i 0,.i 0,.u 0,.u 0,.u 0,.u 0]=bX.cells from rfl,L.load Q];rfl
 simp only[go_sem,aG,e,aj,bB.aL,TH,TK];rw[aQ (by simp[bB.aL]) rfl];simp only[go_sem,a];exact aH.Ts _ _ _ _
def gz(ok:H.OK)(h:0<H.Tl):H.dZ A=.acL (A .aU) 0 H.np 11:=by unfold aa.dZ;rw[Ti (ok.aU h)]
def iM(ok:H.OK):H.np≤1024:=by have a:H.Tl*2^H.Th≤H.TB*2^H.Th:=UG _ ok.We;have:=ok.X7;unfold aa.np;omega
def fP{p:Nat}(h:p<H.np):0<H.Tl:=by
 rcases Wi H.Tl with k|k
 .unfold aa.np at h;rw[k]at h;omega
 exact k
def zr(b:aw σ A H)(ok:H.OK){p:Nat}(hp:p<H.np):σ.load (A .aU) (p*11) 11=some (H.Tf p).cells:=by
 have hs:H.has .aU:=ok.aU (fP hp);rw[b.load (s:=.aU) hs (Q:p*11+11≤H.np*11)];simp only[aa.cell];have:∀j,j<11->(H.Tf ((p*11+j)/11)).cell ((p*11+j)%11)=(H.Tf p).cell j:=by intro j a;rw[(Q:(p*11+j)/11=p),(Q:(p*11+j)%11=j)]
 congr 1;rw[ZH (g:=fun j=>(H.Tf p).cell j) (fun j a=>this j (by simpa using a))];rfl
def sg(a:aw σ A H)(ok:H.OK){p j:Nat}(hp:p<H.np)(b:j<11):σ.cell (A .aU) (p*11+j)=some ((H.Tf p).cell j):=by have hs:H.has .aU:=ok.aU (fP hp);rw[a.cell (s:=.aU) hs (Q:p*11+j<H.np*11)];simp only[aa.cell];rw[(Q:(p*11+j)/11=p),(Q:(p*11+j)%11=j)]
def nD(h:aw σ A H)(ok:H.OK){p:Nat}(hp:p<H.np):au G0 [] 80 [.acK (A .map) 0,.i p] σ fun r σ'=>r=.tuple [.agg (H.Tf p).cells,.bool true]∧aH σ σ':=by refine ai g80 rfl ?_;have l:=aH.new σ (.acM 11 bX.cells .nil);have d:=h.new (.acM 11 bX.cells .nil) rfl;have c1:¬((p:Int)<0):=Q;have f:¬((H.np:Int)≤(p:Int)):=Q;have g:(0:Int)≤(p:Int)∧(p:Int)<(H.np:Int):=Q;have b:=d.cell (s:=.map) trivial (i:=1) (Q:1<3);rw[show H.cell A .map 1=H.dZ A from rfl,gz ok (fP hp)]at b;have e:=zr d ok hp;have a:=aQ (σ:=σ) (z:=bX.cells) (vs:=(H.Tf p).cells) (n:=11) (by simp[bB.aL]) rfl;have L:=To.Ts σ 11 bX.cells (H.Tf p).cells rfl;have c:=L.load (off:=0) (k:=11) Q;rw[show((List.range 11).map fun j=>Tn (H.Tf p).cells (0+j))=(H.Tf p).cells from rfl]at c;simp only[bX,bB.cells,VN]at b e a c;simp only[go_sem,TH,TK,c1,f,g,b,e,Us,TZ,aj,a,c,bB.cells];exact aH.Ts _ _ _ _
def oK(b:aw σ A H)(ok:H.OK):au G0 [] 79 [.acK (A .map) 0] σ fun r σ'=>r=.i H.np∧σ'=σ:=by
 refine ai g79 rfl ?_;have a:=b.cell (s:=.map) trivial (i:=1) (Q:1<3);rw[show H.cell A .map 1=H.dZ A from rfl]at a;have:∃q e,H.dZ A=.slice q H.np e:=by
  unfold aa.dZ;by_cases h:H.YO=true
  .rw[Ti h];exact⟨_,_,rfl⟩
  rw[Tg h];have:H.Tl=0:=by
   rcases Wi H.Tl with k|k
   .exact k
   exact(h (ok.aU k)).elim
  exact⟨none,0,by unfold aa.np;rw[this,aaS]⟩
 obtain⟨q,e,c⟩:=this;rw[c]at a;simp only[go_sem,a]
def _root_.AM.aa.aB(H:aa)(p:Nat)(g:bB):aa:={ H with Tf:=fun i=>if i=p then g else H.Tf i }
def dr(ok:H.OK){p:Nat}{g:bB}:(H.aB p g).OK:=⟨ok.Wc,ok.VI,ok.Yw,ok.Xo,ok.X7,ok.XT,ok.fU,ok.We,ok.XB,ok.Yv,ok.XG,ok.T0,ok.aU⟩
def gD(l:aw σ A H)(ok:H.OK){p j:Nat}{vs:List V}(hp:p<H.np)(n:j+vs.length≤11)(m:vs.all V.Tr=true){g:bB}(hg:∀i,i<11->g.cell i=UO (H.Tf p).cell j vs i):
  ∃σ',σ.store (A .aU) (p*11+j) vs=some σ'∧aw σ' A (H.aB p g)∧HU σ A H σ':=by
 have hs:H.has .aU:=ok.aU (fP hp);obtain⟨h,f,a,d,b,e⟩:=l.store (H':=H.aB p g) (s:=.aU) hs (off:=p*11+j) (vs:=vs) (Q:p*11+j+vs.length≤H.np*11) m
  (fun t ht=>ht) (fun t _=>by cases t <;> rfl) (by
   intro t ht i hi;cases t with
   |aU=>
    rw[Ti rfl];simp only[aa.cell,aa.aB];by_cases c:i/11=p
    .rw[Ti c,hg _ (Wt _ Q)];simp only[UO];by_cases k:j≤i%11∧i%11<j+vs.length
     .rw[Ti k,Ti Q,(Q:i-(p*11+j)=i%11-j)]
     rw[Tg k,Tg Q,c]
    rw[Tg c];simp only[UO];rw[Tg Q]
   |_=>rfl)
 exact⟨h,f,a,u0 (s:=.aU) hs d b e⟩
def Eo(f:aw σ A H)(ok:H.OK){p:Nat}(hp:p<H.np)(l:(H.Tf p).kind=4):au G0 [] 255 [.acK (A .map) 0,.i p] σ fun r σ'=>r=.tuple [.acK (A .aU) (p*11),.bool true]∧aH σ σ':=by refine ai g255 rfl ?_;obtain⟨v,a,⟨o,k,g⟩,m⟩:=f.dF (nD f ok hp);subst o;simp only[go_sem];refine ab m ?_;have b:=aQ (σ:=a) (z:=bX.cells) (vs:=(H.Tf p).cells) (n:=11) (by simp[bB.aL]) rfl;have e:=aH.Ts a 11 bX.cells (H.Tf p).cells;have h:=g.Ts (n:=11) (z:=bX.cells) (vs:=(H.Tf p).cells) (by simp[bB.aL]) rfl;have L:=To.Ts a 11 bX.cells (H.Tf p).cells rfl;have d:=L.cell (i:=0) Q;rw[show Tn (H.Tf p).cells 0=.i (H.Tf p).kind from rfl,l]at d;have c:=h.cell (s:=.map) trivial (i:=1) (Q:1<3);rw[show H.cell A .map 1=H.dZ A from rfl,gz ok (fP hp)]at c;have j:(0:Int)≤(p:Int)∧(p:Int)<(H.np:Int):=Q;simp only[bX,bB.cells,VN]at b d c e;simp only[go_sem,TH,TK,aj,bB.cells,b,d,c,j,Us,TZ,TV,Uq];exact k.trans e
def F8(f:aw σ A H)(ok:H.OK){p c:Nat}(hp:p<H.np)(g:(H.Tf p).TQ=(c:Int))(h:c<8):au G0 [] 257 [.acK (A .aU) (p*11)] σ fun r σ'=>r=.i ((256/2^c:Nat):Int)∧σ'=σ:=by refine ai g257 rfl ?_;have b:=sg f ok hp (j:=2) Q;rw[show(H.Tf p).cell 2=.i (H.Tf p).TQ from rfl,g]at b;have d:(0:Int)≤(c:Int):=Q;have e:nE .i64 256 (c:Int)=((256/2^c:Nat):Int):=gM (a:=256) rfl Q;simp only[go_sem,b,d,bA,e]
def tx{c:Nat}(h:c<8):2≤256/2^c∧256/2^c≤256:=by rcases(by omega:c=0∨c=1∨c=2∨c=3∨c=4∨c=5∨c=6∨c=7)with rfl|rfl|rfl|rfl|rfl|rfl|rfl|rfl <;> decide
def uV(u:aw σ A H)(ok:H.OK){p c:Nat}{q:Int}(hp:p<H.np)(z:(H.Tf p).kind=4)(y:(H.Tf p).TQ=(c:Int))(a:c<8)(e:-1≤q)(f:q<((256/2^c:Nat):Int)):
  au G0 [] 227 [.acK (A .map) 0,.i p,.i q] σ fun r σ'=>aw σ' A (H.aB p { H.Tf p with first:=q })∧r=.i 0:=by
 refine ai g227 rfl ?_;obtain⟨v,C,⟨b,G,t⟩,B⟩:=u.dF (Eo u ok hp z);subst b;simp only[go_sem];refine ab B ?_;simp only[go_sem];obtain⟨v,s,⟨b,l⟩,h⟩:=F8 t ok hp y a;subst b l;refine ab h ?_;have d:=tx a;obtain⟨n,hn⟩:=acH (256/2^c);rw[<- hn]at d f⊢;have x:IntKind.i64.wrap ((n:Int)-1)=((n-1:Nat):Int):=by rw[dw] <;> omega
 simp only[go_sem,x];obtain⟨v,D,⟨b,m⟩,k⟩:=jY (σ:=s) q (-1) ((n-1:Nat):Int);subst b m;refine ab k ?_;have c1:q≤((n-1:Nat):Int):=Q;obtain⟨E,o,w,F⟩:=gD t ok hp (j:=6) (vs:=[.i q]) Y rfl (g:={ H.Tf p with first:=q }) (by
  intro i hi;rcases(by omega:i=0∨i=1∨i=2∨i=3∨i=4∨i=5∨i=6∨i=7∨i=8∨i=9∨i=10)with rfl|rfl|rfl|rfl|rfl|rfl|rfl|rfl|rfl|rfl|rfl <;> rfl)
 simp only[go_sem,e,c1,az,TH,TK,o];exact w
def ru(u:aw σ A H)(ok:H.OK){p:Nat}{nx pv:Int}(hp:p<H.np)(C:(H.Tf p).kind=4)(y:-1≤nx)(M:nx<(H.np:Int))(z:-1≤pv)(N:pv<(H.np:Int)):
  au G0 [] 258 [.acK (A .map) 0,.i p,.i nx,.i pv] σ fun r σ'=>aw σ' A (H.aB p { H.Tf p with next:=nx,T8:=pv })∧r=.i 0:=by
 refine ai g258 rfl ?_;obtain⟨v,m,⟨a,L,o⟩,E⟩:=u.dF (Eo u ok hp C);subst a;simp only[go_sem];refine ab E ?_;have b:=o.cell (s:=.map) trivial (i:=1) (Q:1<3);rw[show H.cell A .map 1=H.dZ A from rfl,gz ok (fP hp)]at b;have D:=iM ok;have t:IntKind.i64.wrap ((H.np:Int)-1)=((H.np-1:Nat):Int):=by rw[dw] <;> omega
 have c1:nx≤((H.np-1:Nat):Int):=Q;have x:pv≤((H.np-1:Nat):Int):=Q;simp only[go_sem,b,t];obtain⟨v,n,⟨a,f⟩,d⟩:=jY (σ:=m) nx (-1) ((H.np-1:Nat):Int);subst a f;refine ab d ?_;simp only[go_sem,b,t,y,c1];obtain⟨v,F,⟨a,h⟩,e⟩:=jY (σ:=n) pv (-1) ((H.np-1:Nat):Int);subst a h;refine ab e ?_;obtain⟨G,k,w,J⟩:=gD o ok hp (j:=4) (vs:=[.i nx]) Y rfl (g:={ H.Tf p with next:=nx }) (by
  intro i hi;rcases(by omega:i=0∨i=1∨i=2∨i=3∨i=4∨i=5∨i=6∨i=7∨i=8∨i=9∨i=10)with rfl|rfl|rfl|rfl|rfl|rfl|rfl|rfl|rfl|rfl|rfl <;> rfl)
 obtain⟨I,l,q,K⟩:=gD w (dr ok) (p:=p) hp (j:=5) (vs:=[.i pv]) Y rfl (g:={ H.Tf p with next:=nx,T8:=pv }) (by
  intro i hi;rw[show(H.aB p { H.Tf p with next:=nx }).Tf p={ H.Tf p with next:=nx } by simp[aa.aB]];rcases(by omega:i=0∨i=1∨i=2∨i=3∨i=4∨i=5∨i=6∨i=7∨i=8∨i=9∨i=10)with rfl|rfl|rfl|rfl|rfl|rfl|rfl|rfl|rfl|rfl|rfl <;> rfl)
 have B:(H.aB p { H.Tf p with next:=nx }).aB p { H.Tf p with next:=nx,T8:=pv }=H.aB p { H.Tf p with next:=nx,T8:=pv }:=by
  simp only[aa.aB,aa.mk.injEq,WK,YJ]
  funext i;by_cases c:i=p <;> simp[c]
 rw[B]at q;simp only[go_sem,z,x,az,TH,TK,k,l];exact q
def Qz(C:aw σ A H)(ok:H.OK){p c:Nat}(hp:p<H.np)(I:c<8):
  au G0 [] 269 [.acK (A .map) 0,.i p,.i c] σ fun r σ'=>aw σ' A (H.aB p { cI 4 0 with TQ:=c })∧r=.i 0:=by
 refine ai g269 rfl ?_;obtain⟨v,f,⟨e,P,D⟩,J⟩:=C.dF (nD C ok hp);subst e;simp only[go_sem];refine ab J ?_;have d:=aQ (σ:=f) (z:=bX.cells) (vs:=(H.Tf p).cells) (n:=11) (by simp[bB.aL]) rfl;have a:=D.Ts (n:=11) (z:=bX.cells) (vs:=(H.Tf p).cells) (by simp[bB.aL]) rfl;simp only[bX,bB.cells,VN]at d a;simp only[go_sem,TH,TK,aj,bB.cells,d];generalize f.Ts 11 _ _=q at a⊢;obtain⟨v,t,⟨e,m⟩,k⟩:=jY (σ:=q) (c:Int) 0 7;subst e m;refine ab k ?_;have c1:(0:Int)≤(c:Int):=Q;have E:(c:Int)≤7:=Q;have h:=a.cell (s:=.map) trivial (i:=1) (Q:1<3);rw[show H.cell A .map 1=H.dZ A from rfl,gz ok (fP hp)]at h;simp only[go_sem,c1,E,h];obtain⟨v,K,⟨e,R,u⟩,l⟩:=a.dF (FX (σ:=t) 4 0 a.gw);subst e;refine ab l ?_;have y:=u.cell (s:=.map) trivial (i:=1) (Q:1<3);rw[show H.cell A .map 1=H.dZ A from rfl,gz ok (fP hp)]at y;have F:(0:Int)≤(p:Int)∧(p:Int)<(H.np:Int):=Q;obtain⟨L,b,w,N⟩:=gD u ok hp (j:=0) (vs:=(cI 4 0).cells) (by simp[bB.aL]) rfl (g:=cI 4 0) (by
  intro i hi;rcases(by omega:i=0∨i=1∨i=2∨i=3∨i=4∨i=5∨i=6∨i=7∨i=8∨i=9∨i=10)with rfl|rfl|rfl|rfl|rfl|rfl|rfl|rfl|rfl|rfl|rfl <;> rfl)
 rw[X2]at b;obtain⟨M,o,x,O⟩:=gD w (dr ok) (p:=p) hp (j:=2) (vs:=[.i c]) Y rfl (g:={ cI 4 0 with TQ:=c }) (by
  intro i hi;rw[show(H.aB p (cI 4 0)).Tf p=cI 4 0 by simp[aa.aB]];rcases(by omega:i=0∨i=1∨i=2∨i=3∨i=4∨i=5∨i=6∨i=7∨i=8∨i=9∨i=10)with rfl|rfl|rfl|rfl|rfl|rfl|rfl|rfl|rfl|rfl|rfl <;> rfl)
 have G:(H.aB p (cI 4 0)).aB p { cI 4 0 with TQ:=c }=H.aB p { cI 4 0 with TQ:=c }:=by
  simp only[aa.aB,aa.mk.injEq,WK,YJ]
  funext i;by_cases c:i=p <;> simp[c]
 rw[G]at x;have B:=w.cell (s:=.map) trivial (i:=1) (Q:1<3);rw[show(H.aB p (cI 4 0)).cell A .map 1=H.dZ A from rfl,gz ok (fP hp)]at B;simp only[go_sem,F,Us,TZ,aj,bB.aL,b,h,y,B,az,TH,TK,o];exact x
def _root_.AM.bB.bw(g:bB)(j:Nat):Nat:=if j=0 then g.b0 else if j=1 then g.b1 else if j=2 then g.b2 else g.b3
def _root_.AM.bB.Le(g:bB)(j v:Nat):bB:={ g with b0:=if j=0 then v else g.b0,b1:=if j=1 then v else g.b1,b2:=if j=2 then v else g.b2,b3:=if j=3 then v else g.b3 }
def _root_.AM.bB.Uc(g:bB)(q:Nat):Nat:=g.bw (q/64)/2^(q%64)%2
def _root_.AM.bB.Xh(g:bB)(q:Nat):bB:=g.Le (q/64) (g.bw (q/64) ^^^2^(q%64))
def _root_.AM.bB.TJ(g:bB)(q:Nat)(b:Bool):bB:={ g.Xh q with Ty:=if b=true then g.Ty+1 else g.Ty-1 }
def rQ(g:bB){j:Nat}(h:j<4):g.cell (7+j)=.u (g.bw j):=by rcases(by omega:j=0∨j=1∨j=2∨j=3)with rfl|rfl|rfl|rfl <;> rfl
def Ht(g:bB){j v:Nat}(h:j<4):∀i,i<11->(g.Le j v).cell i=UO g.cell (7+j) [.u v] i:=by
 intro i hi;rcases(by omega:j=0∨j=1∨j=2∨j=3)with rfl|rfl|rfl|rfl <;>
  (rcases(by omega:i=0∨i=1∨i=2∨i=3∨i=4∨i=5∨i=6∨i=7∨i=8∨i=9∨i=10)with rfl|rfl|rfl|rfl|rfl|rfl|rfl|rfl|rfl|rfl|rfl <;> rfl)
def Oh(x:Nat):x &&& 1=x%2:=Nat.and_one_is_mod x
def rq{w n:Nat}(hw:w<18446744073709551616):Ki .u64 ((w/2^n:Nat):Int) 1=((w/2^n%2:Nat):Int):=by have h:w/2^n<18446744073709551616:=aaa (aaK _ _) hw;have:=aar (a:=w/2^n) (b:=1) h Q;rw[Oh]at this;exact this
def oC{n:Nat}(h:n<64):jc .u64 1 (n:Int)=((2^n:Nat):Int):=by have b:2^n≤2^63:=Vb Q Q;have:=gP (a:=1) (n:=n) Q Q;rw[WH]at this;exact this
def OU(S:aw σ A H)(ok:H.OK){p c q:Nat}{b:Bool}(hp:p<H.np)(hk:(H.Tf p).kind=4)(hc:(H.Tf p).TQ=(c:Int))(s:c<8)(hq:q<256/2^c)(hw:∀j,(H.Tf p).bw j<18446744073709551616)(o:(H.Tf p).Uc q=if b=true then 0 else 1)(ac:0≤(H.Tf p).Ty∧(H.Tf p).Ty≤256):
  au G0 [] 221 [.acK (A .map) 0,.i p,.i q,.bool b] σ fun r σ'=>aw σ' A (H.aB p ((H.Tf p).TJ q b))∧r=.i 0:=by
 refine ai g221 rfl ?_;obtain⟨v,ad,⟨x,g1,y⟩,hr⟩:=S.dF (Eo S ok hp hk);subst x;simp only[go_sem];refine ab hr ?_;simp only[go_sem];obtain⟨v,L,⟨x,J⟩,G⟩:=F8 y ok hp hc s;subst x J;refine ab G ?_;have E:=tx s;obtain⟨n,hn⟩:=acH (256/2^c);rw[<- hn]at E hq⊢;have e1:IntKind.i64.wrap ((n:Int)-1)=((n-1:Nat):Int):=by rw[dw] <;> omega
 simp only[go_sem,e1];obtain⟨v,af,⟨x,K⟩,I⟩:=jY (σ:=L) (q:Int) 0 ((n-1:Nat):Int);subst x K;refine ab I ?_;have V:(0:Int)≤(q:Int):=Q;have c1:(q:Int)≤((n-1:Nat):Int):=Q;have W:(64:Int)≠0:=by decide
 have N:IntKind.i64.wrap ((q:Int).tdiv 64)=((q/64:Nat):Int):=oW (b:=64) Q;have O:((q:Int).tmod 64)=((q%64:Nat):Int):=aW q 64;have F:q/64<4:=Q;have T:q%64<64:=Wt _ Q;obtain⟨j,e⟩:=acH (q/64);obtain⟨m,f⟩:=acH (q%64);rw[<- e]at F N;rw[<- f]at T O;have X:(0:Int)≤(j:Int)∧(j:Int)<((4:Nat):Int):=Q;have P:=sg y ok hp (j:=7+j) Q;rw[rQ _ F, <- Yb]at P;have Z:(0:Int)≤(m:Int):=Q;have e4:nE .u64 (((H.Tf p).bw j:Nat):Int) (m:Int)=(((H.Tf p).bw j/2^m:Nat):Int):=gM rfl Q;have e5:=rq (w:=(H.Tf p).bw j) (n:=m) (hw j);have d:(H.Tf p).bw j/2^m%2=if b=true then 0 else 1:=by rw[<- o];simp[bB.Uc, <- e, <- f]
 have e6:(decide (((H.Tf p).bw j/2^m%2:Nat)=(1:Int)) ==b)=false:=by
  cases b
  .simp only[U5,Ul]at d;rw[d];rfl
  simp only[TT]at d;rw[d];rfl
 have e7:=oC T;have C:2^m<18446744073709551616:=by have:2^m≤2^63:=Vb Q Q;omega
 have e8:=acn (a:=(H.Tf p).bw j) (b:=2^m) (hw j) C;have hg:∀i,i<11->((H.Tf p).Xh q).cell i=UO (H.Tf p).cell (7+j) [.u (((H.Tf p).bw j ^^^2^m:Nat):Int)] i:=by intro i hi;have:=Ht (H.Tf p) (v:=(H.Tf p).bw j ^^^2^m) F i hi;rw[<- this];simp[bB.Xh, <- e, <- f]
 obtain⟨ag,t,z,S5⟩:=gD y ok hp (j:=7+j) (vs:=[.u (((H.Tf p).bw j ^^^2^m:Nat):Int)]) (by simp;omega) rfl hg;rw[<- Yb]at t;have D:=sg z (dr ok) (p:=p) hp (j:=3) Q;rw[show((H.aB p ((H.Tf p).Xh q)).Tf p).cell 3=.i (H.Tf p).Ty by simp[aa.aB,bB.Xh,bB.Le];rfl]at D;have R:∀l:Int,l=(if b=true then(H.Tf p).Ty+1 else(H.Tf p).Ty-1)->(H.aB p ((H.Tf p).Xh q)).aB p { (H.Tf p).Xh q with Ty:=l }=H.aB p ((H.Tf p).TJ q b):=by
  intro l hl;simp only[aa.aB,aa.mk.injEq,WK,YJ]
  funext i;by_cases c:i=p <;> simp[c,bB.TJ,hl]
 simp only[go_sem,V,c1,W,TV,Ug,bc,aZ,N,O,X,Us,TZ,Um,P,Z,bA,aT,e4,e5,e6,e7,e8,az,TH,TK,t];cases b
 .have B:IntKind.i64.wrap ((H.Tf p).Ty-1)=(H.Tf p).Ty-1:=by rw[dw] <;> omega
  obtain⟨M,h,k,U⟩:=gD z (dr ok) (p:=p) hp (j:=3) (vs:=[.i ((H.Tf p).Ty-1)]) Y rfl (g:={ (H.Tf p).Xh q with Ty:=(H.Tf p).Ty-1 }) (by
   intro i hi;rw[show(H.aB p ((H.Tf p).Xh q)).Tf p=(H.Tf p).Xh q by simp[aa.aB]];rcases(by omega:i=0∨i=1∨i=2∨i=3∨i=4∨i=5∨i=6∨i=7∨i=8∨i=9∨i=10)with rfl|rfl|rfl|rfl|rfl|rfl|rfl|rfl|rfl|rfl|rfl <;> rfl)
  rw[R _ Y]at k;simp only[go_sem,D,B,az,TH,TK,h];exact k
 have B:IntKind.i64.wrap ((H.Tf p).Ty+1)=(H.Tf p).Ty+1:=by rw[dw] <;> omega
 obtain⟨M,h,k,U⟩:=gD z (dr ok) (p:=p) hp (j:=3) (vs:=[.i ((H.Tf p).Ty+1)]) Y rfl (g:={ (H.Tf p).Xh q with Ty:=(H.Tf p).Ty+1 }) (by
  intro i hi;rw[show(H.aB p ((H.Tf p).Xh q)).Tf p=(H.Tf p).Xh q by simp[aa.aB]];rcases(by omega:i=0∨i=1∨i=2∨i=3∨i=4∨i=5∨i=6∨i=7∨i=8∨i=9∨i=10)with rfl|rfl|rfl|rfl|rfl|rfl|rfl|rfl|rfl|rfl|rfl <;> rfl)
 rw[R _ Y]at k;simp only[go_sem,D,B,az,TH,TK,h];exact k
def ja{n:Nat}(h:n<62):jc .i64 1 (n:Int)=((2^n:Nat):Int):=by have b:2^n≤2^61:=Vb Q Q;have:=oU (a:=1) (n:=n) Q Q;rw[WH]at this;exact this
def Kj(e:aw σ A H)(ok:H.OK){p k:Nat}(hp:p<H.np)(l:(H.Tf p).Th=(k:Int))(m:k≤8):au G0 [] 181 [.acK (A .map) 0,.i p] σ fun r σ'=>r=.i ((p/2^k*2^k:Nat):Int)∧aH σ σ':=by refine ai g181 rfl ?_;obtain⟨v,a,⟨t,j,u⟩,s⟩:=e.dF (nD e ok hp);subst t;simp only[go_sem];refine ab s ?_;have b:=aQ (σ:=a) (z:=bX.cells) (vs:=(H.Tf p).cells) (n:=11) (by simp[bB.aL]) rfl;have d:=aH.Ts a 11 bX.cells (H.Tf p).cells;have L:=To.Ts a 11 bX.cells (H.Tf p).cells rfl;have c:=L.cell (i:=1) Q;rw[show Tn (H.Tf p).cells 1=.i (H.Tf p).Th from rfl,l]at c;have q:=iM ok;have f:(0:Int)≤(k:Int):=Q;have g:nE .i64 (p:Int) (k:Int)=((p/2^k:Nat):Int):=gM rfl Q;have o:p/2^k*2^k≤p:=Yr p (2^k);have h:jc .i64 ((p/2^k:Nat):Int) (k:Int)=((p/2^k*2^k:Nat):Int):=oU Q Q;simp only[bX,bB.cells,VN]at b c d;simp only[go_sem,TH,TK,aj,bB.cells,b,c,f,bA,aT,g,h];exact j.trans d
def Dk(ok:H.OK)(k:Nat):H.gm k≤512:=by
 have:=iM ok;have a:2≤2^(k+1):=by rw[XO];have:=aK k;omega
 unfold aa.gm;have:H.np/2^(k+1)≤H.np/2:=Nat.div_le_div_left a Q;omega
def te(a:aw σ A H){k:Nat}(b:k<H.Th):σ.cell (A (.set k)) 0=some (.i (H.gm k))∧σ.cell (A (.set k)) 1=some (.acL (A (.Uf k)) 0 (H.nw k) 1):=
 ⟨a.cell (s:=.set k) b (Q:0<2),a.cell (s:=.set k) b (Q:1<2)⟩
def OZ(c:aw σ A H){k i:Nat}(d:k<H.Th):au G0 [] 274 [.acK (A (.set k)) 0,.i i] σ fun r σ'=>r=.bool (decide (i<H.gm k))∧σ'=σ:=by
 refine ai g274 rfl ?_;obtain⟨b,f⟩:=te c d;have a:(0:Int)≤(i:Int):=Q;have e:decide ((i:Int)<(H.gm k:Int))=decide (i<H.gm k):=by simp
 simp only[go_sem,a,b,e]
def _root_.AM.aa.Vq(H:aa)(k i:Nat):Bool:=decide (H.U1 k (i/64)/2^(i%64)%2=1)
def QZ(a:aw σ A H)(ok:H.OK){k i:Nat}(c:k<H.Th)(hi:i<H.gm k):au G0 [] 275 [.acK (A (.set k)) 0,.i i] σ fun r σ'=>r=.bool (H.Vq k i)∧σ'=σ:=by
 refine ai g275 rfl ?_;obtain⟨t,x⟩:=te a c;obtain⟨v,B,⟨z,hs⟩,f⟩:=OZ a (i:=i) c;subst z hs;rw[UR hi]at f;simp only[go_sem];refine ab f ?_;have y:=Dk ok k;have e:i/64<H.nw k:=by unfold aa.nw;omega
 have d:=a.cell (s:=.Uf k) c (i:=i/64) e;rw[show H.cell A (.Uf k) (i/64)=.u (H.U1 k (i/64))from rfl]at d;have hw:=ok.XG k (i/64);have g:(64:Int)≠0:=by decide
 have l:IntKind.i64.wrap ((i:Int).tdiv 64)=((i/64:Nat):Int):=oW (b:=64) Q;have m:((i:Int).tmod 64)=((i%64:Nat):Int):=aW i 64;have h:(0:Int)≤((i/64:Nat):Int)∧((i/64:Nat):Int)<(H.nw k:Int):=⟨abe _,by exact Int.ofNat_lt.2 e⟩
 have j:(0:Int)≤((i%64:Nat):Int):=abe _;have C:i%64<64:=Wt _ Q;have o:nE .u64 (H.U1 k (i/64):Int) ((i%64:Nat):Int)=((H.U1 k (i/64)/2^(i%64):Nat):Int):=gM rfl Q;have p:=rq (w:=H.U1 k (i/64)) (n:=i%64) hw;have q:decide (((H.U1 k (i/64)/2^(i%64)%2:Nat):Int)=1)=H.Vq k i:=by unfold aa.Vq;simp only[Zw];omega
 simp only[go_sem,t,x,d,g,TV,Ug,bc,aZ,l,m,h,j,Us,TZ,Um,bA,o,p,q]
def _root_.AM.aa.Xz(H:aa)(k i:Nat):aa:={ H with U1:=fun a j=>if a=k∧j=i/64 then H.U1 k j ^^^2^(i%64)else H.U1 a j }
def Gn(ok:H.OK)(k i:Nat):(H.Xz k i).OK:=by
 refine⟨ok.Wc,ok.VI,ok.Yw,ok.Xo,ok.X7,ok.XT,ok.fU,ok.We,ok.XB,ok.Yv,?_,ok.T0,ok.aU⟩;intro a j;simp only[aa.Xz];split
 .have:2^(i%64)<2^64:=Y0 Q (Wt _ Q);exact abE (n:=64) (ok.XG k j) this
 exact ok.XG a j
def NA(e:aw σ A H)(ok:H.OK){k i:Nat}(f:k<H.Th)(hi:i<H.gm k):au G0 [] 272 [.acK (A (.set k)) 0,.i i] σ fun r σ'=>aw σ' A (H.Xz k i)∧r=.bool true:=by
 refine ai g272 rfl ?_;obtain⟨C,D⟩:=te e f;obtain⟨v,I,⟨F,hs⟩,o⟩:=OZ e (i:=i) f;subst F hs;rw[UR hi]at o;simp only[go_sem];refine ab o ?_;have E:=Dk ok k;have h:i/64<H.nw k:=by unfold aa.nw;omega
 have m:=e.cell (s:=.Uf k) f (i:=i/64) h;rw[show H.cell A (.Uf k) (i/64)=.u (H.U1 k (i/64))from rfl]at m;have hw:=ok.XG k (i/64);have d:(64:Int)≠0:=by decide
 have x:IntKind.i64.wrap ((i:Int).tdiv 64)=((i/64:Nat):Int):=oW (b:=64) Q;have y:((i:Int).tmod 64)=((i%64:Nat):Int):=aW i 64;have q:(0:Int)≤((i/64:Nat):Int)∧((i/64:Nat):Int)<(H.nw k:Int):=⟨abe _,by exact Int.ofNat_lt.2 h⟩
 have w:(0:Int)≤((i%64:Nat):Int):=abe _;have n:i%64<64:=Wt _ Q;have z:=oC n;have g:2^(i%64)<18446744073709551616:=by have:2^(i%64)<2^64:=Y0 Q n;omega
 have B:=acn (a:=H.U1 k (i/64)) (b:=2^(i%64)) hw g;obtain⟨J,l,p,_,_,_⟩:=e.store (H':=H.Xz k i) (s:=.Uf k) f (off:=i/64) (vs:=[.u ((H.U1 k (i/64) ^^^2^(i%64):Nat):Int)]) (Q:i/64+1≤H.nw k) rfl
  (fun t ht=>ht) (fun t _=>by cases t <;> rfl) (by
   intro t ht j h;cases t with
   |Uf G=>
    by_cases c:G=k
    .subst c;rw[Ti rfl];simp only[aa.cell,aa.Xz,UO,TH,TK,WK];by_cases d:j=i/64
     .rw[Ti d,Ti Q,d];simp
     rw[Tg d,Tg Q]
    rw[Tg (by simpa using c)];simp only[aa.cell,aa.Xz,c,false_and,Ul]
   |_=>rfl)
 simp only[go_sem,C,D,m,d,TV,Ug,bc,aZ,x,y,q,w,Us,TZ,Um,aT,z,B,az,TH,TK,l];exact p
def tN(h:0<H.Th):H.gd A=.acL (A .UJ) 0 H.Th 1:=by unfold aa.gd;rw[Ti h]
def Ah{p k:Nat}(hp:p<H.np)(d:k<H.Th):p/2^(k+1)<H.gm k:=by
 unfold aa.gm;have h:2^(k+1)∣H.np:=by unfold aa.np;exact WE (XN 2 d) (aaL _ _)
 obtain⟨c,b⟩:=h;have a:0<2^(k+1):=aK _;rw[b,Yd _ a];rw[b]at hp;exact ZK hp
def PU(C:aw σ A H)(ok:H.OK){p k:Nat}(hp:p<H.np)(j:k<H.Th):au G0 [] 273 [.acK (A .map) 0,.i k,.i p] σ fun r σ'=>r=.bool (H.Vq k (p/2^(k+1)))∧aH σ σ':=by
 refine ai g273 rfl ?_;obtain⟨v,c,⟨f,F,D⟩,G⟩:=C.dF (nD C ok hp);subst f;simp only[go_sem];refine ab G ?_;have e:=aQ (σ:=c) (z:=bX.cells) (vs:=(H.Tf p).cells) (n:=11) (by simp[bB.aL]) rfl;have g:=aH.Ts c 11 bX.cells (H.Tf p).cells;have d:=D.Ts (n:=11) (z:=bX.cells) (vs:=(H.Tf p).cells) (by simp[bB.aL]) rfl;have a:=d.cell (s:=.map) trivial (i:=0) (Q:0<3);rw[show H.cell A .map 0=.i H.Th from rfl]at a;have K:=ok.VI;have E:IntKind.i64.wrap ((H.Th:Int)-1)=((H.Th-1:Nat):Int):=by rw[dw] <;> omega
 simp only[bX,bB.cells,VN]at e g a d;simp only[go_sem,TH,TK,aj,bB.cells,e,a,E];generalize c.Ts 11 _ _=t at d g⊢;obtain⟨v,I,⟨f,o⟩,l⟩:=jY (σ:=t) (k:Int) 0 ((H.Th-1:Nat):Int);subst f o;refine ab l ?_;have u:(0:Int)≤(k:Int):=Q;have c1:(k:Int)≤((H.Th-1:Nat):Int):=Q;have b:=d.cell (s:=.map) trivial (i:=2) (Q:2<3);rw[show H.cell A .map 2=H.gd A from rfl,tN Q]at b;have h:=d.cell (s:=.UJ) (Q:0<H.Th) (i:=k) j;rw[show H.cell A .UJ k=.acK (A (.set k)) 0 from rfl]at h;have w:(0:Int)≤(k:Int)∧(k:Int)<(H.Th:Int):=Q;have y:IntKind.i64.wrap ((k:Int)+1)=((k+1:Nat):Int):=by rw[dw] <;> omega
 have x:(0:Int)≤((k+1:Nat):Int):=Q;have B:nE .i64 (p:Int) ((k+1:Nat):Int)=((p/2^(k+1):Nat):Int):=gM rfl Q;simp only[go_sem,u,c1,b,w,Us,TZ,Um,h,y,x,bA,B];obtain⟨v,J,⟨f,q⟩,m⟩:=QZ d ok j (Ah hp j);subst f q;refine ab m ?_;simp only[go_sem,u,c1,b,w,Us,TZ,Um,h,y,x,bA,B];exact F.trans g
def M0(C:aw σ A H)(ok:H.OK){p k:Nat}(hp:p<H.np)(g:k<H.Th):au G0 [] 268 [.acK (A .map) 0,.i k,.i p] σ fun r σ'=>aw σ' A (H.Xz k (p/2^(k+1)))∧r=.tuple [.bool ((H.Xz k (p/2^(k+1))).Vq k (p/2^(k+1))),.i 0]:=by
 refine ai g268 rfl ?_;obtain⟨v,f,⟨c,L,D⟩,G⟩:=C.dF (nD C ok hp);subst c;simp only[go_sem];refine ab G ?_;have e:=aQ (σ:=f) (z:=bX.cells) (vs:=(H.Tf p).cells) (n:=11) (by simp[bB.aL]) rfl;have d:=D.Ts (n:=11) (z:=bX.cells) (vs:=(H.Tf p).cells) (by simp[bB.aL]) rfl;have a:=d.cell (s:=.map) trivial (i:=0) (Q:0<3);rw[show H.cell A .map 0=.i H.Th from rfl]at a;have N:=ok.VI;have F:IntKind.i64.wrap ((H.Th:Int)-1)=((H.Th-1:Nat):Int):=by rw[dw] <;> omega
 simp only[bX,bB.cells,VN]at e a d;simp only[go_sem,TH,TK,aj,bB.cells,e,a,F];generalize f.Ts 11 _ _=q at d⊢;obtain⟨v,I,⟨c,o⟩,j⟩:=jY (σ:=q) (k:Int) 0 ((H.Th-1:Nat):Int);subst c o;refine ab j ?_;have u:(0:Int)≤(k:Int):=Q;have c1:(k:Int)≤((H.Th-1:Nat):Int):=Q;have b:=d.cell (s:=.map) trivial (i:=2) (Q:2<3);rw[show H.cell A .map 2=H.gd A from rfl,tN Q]at b;have h:=d.cell (s:=.UJ) (Q:0<H.Th) (i:=k) g;rw[show H.cell A .UJ k=.acK (A (.set k)) 0 from rfl]at h;have w:(0:Int)≤(k:Int)∧(k:Int)<(H.Th:Int):=Q;have y:IntKind.i64.wrap ((k:Int)+1)=((k+1:Nat):Int):=by rw[dw] <;> omega
 have x:(0:Int)≤((k+1:Nat):Int):=Q;have B:nE .i64 (p:Int) ((k+1:Nat):Int)=((p/2^(k+1):Nat):Int):=gM rfl Q;simp only[go_sem,u,c1,b,w,Us,TZ,Um,h,y,x,bA,B];obtain⟨v,J,⟨t,c⟩,l⟩:=NA d ok g (Ah hp g);subst c;refine ab l ?_;simp only[go_sem,u,c1,b,w,Us,TZ,Um,h,y,x,bA,B];obtain⟨v,K,⟨c,M,E⟩,m⟩:=t.dF (PU t (Gn ok _ _) (p:=p) (k:=k) hp g);subst c;refine ab m ?_;simp only[go_sem];exact E
def Fu{p n m:Nat}(h:H.In p n)(a:m≤n):H.In p m:=⟨h.Tj,h.UE,by have:=h.Vd;omega⟩
def rb{p n d m:Nat}(h:H.In p n)(l:d+m≤n)(j:0<m):H.In (p+d) m:=by
 obtain⟨k,a,g⟩:=h;obtain⟨q,c⟩:=acH ((p-H.Tj)/H.Tp);obtain⟨r,f⟩:=acH ((p-H.Tj)%H.Tp);have i:H.Tp*q+r=p-H.Tj:=by rw[c,f];exact XJ _ _
 rw[<- c]at a;rw[<- f]at g;have e:p+d-H.Tj=H.Tp*q+(r+d):=Q;have b:=oS H;refine⟨Q,?_,?_⟩
 .rw[e,aab Q,aaJ Q,X2];exact a
 rw[e,Nat.mul_add_mod,WR Q];omega
def eI(a:aw σ A H){k:Nat}(b:k≤H.Th):σ.cell (A (.UZ k)) 0=some (.acK (A .TY) 0)∧σ.cell (A (.UZ k)) 1=some (.u (H.head k)):=
 ⟨a.cell (s:=.UZ k) b (Q:0<2),a.cell (s:=.UZ k) b (Q:1<2)⟩
def oQ(h:aw σ A H)(ok:H.OK){k p:Nat}(j:k≤H.Th)(a:H.In p 16):au G0 [] 262 [.acK (A (.UZ k)) 0,.u p] σ fun r σ'=>r=.tuple [.u (H.UD p),.u (H.UD (p+8)),.bool true]∧aH σ σ'∧aw σ' A H:=by
 refine ai g262 rfl ?_;obtain⟨o,w⟩:=eI h j;simp only[go_sem,o];obtain⟨v,s,⟨e,f,m⟩,c⟩:=El h ok (Fu a Q:H.In p 8);subst e;refine ab c ?_;obtain⟨b,q⟩:=eI f j;have i:=kJ ok a;have x:=mD ok;have g:IntKind.u64.wrap ((p:Int)+8)=((p+8:Nat):Int):=by rw[cd] <;> omega
 simp only[go_sem,b,g,TV,Uq];obtain⟨v,t,⟨e,l,n⟩,d⟩:=El f ok (rb a Q Q:H.In (p+8) 8);subst e;refine ab d ?_;have c1:(p:Int)<((p+8:Nat):Int):=Q;simp only[go_sem,g,c1];exact⟨m.trans n,l⟩
structure _root_.AM.aa.Zt (H:aa) (k p nx pv:Nat):Prop where
 acv:H.In p 16
 next:H.UD p=nx
 T8:H.UD (p+8)=pv
 head:pv=0↔p=H.head k
 abI:pv≠0 -> H.In pv 16∧H.UD pv=p
 aaY:nx≠0 -> H.In nx 16∧H.UD (nx+8)=p
def Of(i:aw σ A H)(ok:H.OK){k p nx pv:Nat}(j:k≤H.Th)(hs:H.Zt k p nx pv):au G0 [] 263 [.acK (A (.UZ k)) 0,.u p,.u nx,.u pv] σ fun r σ'=>r=.bool true∧aH σ σ'∧aw σ' A H:=by
 refine ai g263 rfl ?_;obtain⟨t,q⟩:=eI i j;have n:(decide ((pv:Int)=0) ==decide ((p:Int)=(H.head k:Int)))=true:=by
  have:=hs.head;by_cases c:pv=0
  .rw[UR Q,UR (by have:=this.1 c;omega)];rfl
  rw[UK Q,UK (by intro e;exact c (this.2 Q))];rfl
 simp only[go_sem,q,n];by_cases c1:(pv:Int)=0
 .simp only[go_sem,c1,TV,Uq];by_cases b:(nx:Int)=0
  .simp only[go_sem,b,TV,Uq];exact⟨aH.refl _,i⟩
  obtain⟨hi,hw⟩:=hs.aaY Q;obtain⟨v,l,⟨f,h,g⟩,a⟩:=oQ i ok j hi;subst f;rw[hw]at a;simp only[go_sem,b,TV,Ug];refine ab a ?_;simp only[go_sem,b,TV,Uq];exact⟨h,g⟩
 obtain⟨hi,hw⟩:=hs.abI Q;obtain⟨v,l,⟨f,h,g⟩,a⟩:=oQ i ok j hi;subst f;rw[hw]at a;simp only[go_sem,c1,TV,Ug];refine ab a ?_;by_cases b:(nx:Int)=0
 .simp only[go_sem,c1,b,TV,Uq];exact⟨h,g⟩
 obtain⟨hi,hw⟩:=hs.aaY Q;obtain⟨v,s,⟨f,o,m⟩,d⟩:=oQ g ok j hi;subst f;rw[hw]at d;simp only[go_sem,c1,b,TV,Uq,Ug];refine ab d ?_;simp only[go_sem,b,TV,Uq];exact⟨h.trans o,m⟩
def _root_.AM.aa.eK(H:aa)(k v:Nat):aa:={ H with head:=fun j=>if j=k then v else H.head j }
def kR(ok:H.OK){k v:Nat}(hv:v<18446744073709551616):(H.eK k v).OK:=
 ⟨ok.Wc,ok.VI,ok.Yw,ok.Xo,ok.X7,ok.XT,ok.fU,ok.We,ok.XB,fun j=>by simp only[aa.eK];split;exact hv;exact ok.Yv j,ok.XG,ok.T0,ok.aU⟩
def fL(ok:H.OK)(p v:Nat):(H.dO p v).OK:=
 ⟨ok.Wc,ok.VI,ok.Yw,ok.Xo,ok.X7,ok.XT,ok.fU,ok.We,fun i=>by
  simp only[aa.dO,aa.wr];split
  .exact Wt _ Q
  exact ok.XB i,ok.Yv,ok.XG,ok.T0,ok.aU⟩
def pV(j:aw σ A H){k v:Nat}(h:k≤H.Th):∃σ',σ.store (A (.UZ k)) 1 [.u v]=some σ'∧aw σ' A (H.eK k v)∧HU σ A H σ':=by
 obtain⟨g,f,a,d,b,e⟩:=j.store (H':=H.eK k v) (s:=.UZ k) h (off:=1) (vs:=[.u v]) (Q:1+1≤2) rfl
  (fun t ht=>ht) (fun t _=>by cases t <;> rfl) (by
   intro t ht i hi;cases t with
   |UZ m=>
    by_cases c:m=k
    .subst c;rw[Ti rfl];have l:i<2:=hi;rcases(by omega:i=0∨i=1)with rfl|rfl
     .rfl
     simp[aa.cell,aa.eK,UO,Tn]
    rw[Tg (by simpa using c)];simp only[aa.cell,aa.eK,c,Ul]
   |_=>rfl)
 exact⟨g,f,a,u0 (s:=.UZ k) h d b e⟩
def _root_.AM.aa.b9(H:aa)(k nx pv:Nat):aa:=
 if nx=0 then(if pv=0 then H.eK k nx else H.dO pv nx)else(if pv=0 then H.eK k nx else H.dO pv nx).dO (nx+8) pv
def q7{p v q n:Nat}(h:H.In q n):(H.dO p v).In q n:=⟨h.Tj,h.UE,h.Vd⟩
def Et{k v q n:Nat}(h:H.In q n):(H.eK k v).In q n:=⟨h.Tj,h.UE,h.Vd⟩
def xq(D:aw σ A H)(ok:H.OK){k p nx pv:Nat}(e:k≤H.Th)(hs:H.Zt k p nx pv):au G0 [] 230 [.acK (A (.UZ k)) 0,.u p] σ fun r σ'=>aw σ' A (H.b9 k nx pv)∧r=.i 0:=by
 refine ai g230 rfl ?_;have h:nx<18446744073709551616:=hs.next▸AY ok p;have j:pv<18446744073709551616:=hs.T8▸AY ok (p+8);obtain⟨v,E,⟨b,I,z⟩,l⟩:=oQ D ok e hs.acv;subst b;rw[hs.next,hs.T8]at l;simp only[go_sem];refine ab l ?_;simp only[go_sem];obtain⟨v,F,⟨b,J,m⟩,s⟩:=Of z ok e hs;subst b;refine ab s ?_;obtain⟨B,C⟩:=eI m e;have K:=mD ok;by_cases c1:(pv:Int)=0
 .obtain⟨x,w,c,G⟩:=pV m (v:=nx) e;simp only[go_sem,c1,C,az,TH,TK,w];by_cases f:(nx:Int)=0
  .simp only[go_sem,f,TV,Uq];unfold aa.b9;rw[Ti (by omega:nx=0),Ti (by omega:pv=0)];exact c
  obtain⟨hi,hw⟩:=hs.aaY Q;have g:=kJ ok hi;have o:IntKind.u64.wrap ((nx:Int)+8)=((nx+8:Nat):Int):=by rw[cd] <;> omega
  obtain⟨d,q⟩:=eI c (k:=k) e;obtain⟨v,y,⟨n,b⟩,a⟩:=fY c (kR ok h) j (Et (rb hi Q Q):(H.eK k nx).In (nx+8) 8);subst b;simp only[go_sem,f,TV,Ug,d,o,c1];rw[c1]at a;refine ab a ?_;simp only[go_sem];unfold aa.b9;rw[Tg (by omega:¬nx=0),Ti (by omega:pv=0)];exact n
 obtain⟨hi,hw⟩:=hs.abI Q;obtain⟨v,x,⟨c,b⟩,t⟩:=fY m ok h (Fu hi Q:H.In pv 8);subst b;simp only[go_sem,c1,B];refine ab t ?_;by_cases f:(nx:Int)=0
 .simp only[go_sem,f,TV,Uq];unfold aa.b9;rw[Ti (by omega:nx=0),Tg (by omega:¬pv=0)];exact c
 obtain⟨hi,hw⟩:=hs.aaY Q;have g:=kJ ok hi;have o:IntKind.u64.wrap ((nx:Int)+8)=((nx+8:Nat):Int):=by rw[cd] <;> omega
 obtain⟨d,q⟩:=eI c (k:=k) e;obtain⟨v,y,⟨n,b⟩,a⟩:=fY c (fL ok _ _) j (q7 (rb hi Q Q):(H.dO pv nx).In (nx+8) 8);subst b;simp only[go_sem,f,TV,Ug,d,o];refine ab a ?_;simp only[go_sem];unfold aa.b9;rw[Tg (by omega:¬nx=0),Tg (by omega:¬pv=0)];exact n
def Kc(b:aw σ A H){k:Nat}(c:k≤H.Th)(h:H.head k=0):au G0 [] 271 [.acK (A (.UZ k)) 0] σ fun r σ'=>r=.tuple [.u 0,.i 9]∧σ'=σ:=by refine ai g271 rfl ?_;obtain⟨d,a⟩:=eI b c;rw[h]at a;simp only[go_sem,a,VN]
def Rf(b:aw σ A H)(ok:H.OK){k nx:Nat}(c:k≤H.Th)(h:H.head k≠0)(hs:H.Zt k (H.head k) nx 0):au G0 [] 271 [.acK (A (.UZ k)) 0] σ fun r σ'=>aw σ' A (H.b9 k nx 0)∧r=.tuple [.u (H.head k),.i 0]:=by refine ai g271 rfl ?_;obtain⟨j,e⟩:=eI b c;have c1:¬(H.head k:Int)=0:=Q;obtain⟨v,g,⟨d,f⟩,a⟩:=xq b ok c hs;subst f;simp only[go_sem,e,c1];refine ab a ?_;simp only[go_sem,TV,Uq];exact d
def _root_.AM.aa.eS(H:aa)(k p:Nat):aa:=
 (if H.head k=0 then(H.dO p (H.head k)).dO (p+8) 0 else((H.dO p (H.head k)).dO (p+8) 0).dO (H.head k+8) p).eK k p
def Qp(O:aw σ A H)(ok:H.OK){k p:Nat}(e:k≤H.Th)(hp:p<18446744073709551616)(b:H.In p 16)(R:H.head k≠0->H.In (H.head k) 16∧H.UD (H.head k+8)=0):
  au G0 [] 267 [.acK (A (.UZ k)) 0,.u p] σ fun r σ'=>aw σ' A (H.eS k p)∧r=.i 0:=by
 refine ai g267 rfl ?_;obtain⟨v,S,⟨c,X,t⟩,B⟩:=oQ O ok e b;subst c;simp only[go_sem];refine ab B ?_;obtain⟨x,y⟩:=eI t e;have L:=kJ ok b;have Z:=mD ok;have K:IntKind.u64.wrap ((p:Int)+8)=((p+8:Nat):Int):=by rw[cd] <;> omega
 have q:=ok.Yv k;by_cases c1:(H.head k:Int)=0
 .have d:H.head k=0:=Q;simp only[go_sem,x,y,c1,TV,Uq];obtain⟨v,F,⟨l,c⟩,f⟩:=fY t ok q (Fu b Q:H.In p 8);subst c;rw[c1]at f;refine ab f ?_;obtain⟨g,z⟩:=eI l (k:=k) e;simp only[go_sem,x,y,c1,g,K];obtain⟨v,G,⟨m,c⟩,j⟩:=fY l (fL ok _ _) (v:=0) Q (q7 (rb b Q Q):(H.dO p (H.head k)).In (p+8) 8);subst c;refine ab j ?_;obtain⟨h,a⟩:=eI m (k:=k) e;rw[show((H.dO p (H.head k)).dO (p+8) 0).head k=H.head k from rfl,d]at a;obtain⟨I,D,w,V⟩:=pV m (k:=k) (v:=p) e;simp only[go_sem,a,VN,TV,Uq,az,TH,TK,D];unfold aa.eS;rw[Ti d];exact w
 have d:H.head k≠0:=Q;obtain⟨hi,hw⟩:=R d;obtain⟨v,T,⟨c,Y,J⟩,s⟩:=oQ t ok e hi;subst c;rw[hw]at s;simp only[go_sem,x,y,c1,TV,Ug];refine ab s ?_;obtain⟨n,o⟩:=eI J e;simp only[go_sem,n,o,c1,TV,Uq,VN];obtain⟨v,F,⟨l,c⟩,f⟩:=fY J ok q (Fu b Q:H.In p 8);subst c;refine ab f ?_;obtain⟨g,z⟩:=eI l (k:=k) e;simp only[go_sem,n,o,g,K];obtain⟨v,G,⟨m,c⟩,j⟩:=fY l (fL ok _ _) (v:=0) Q (q7 (rb b Q Q):(H.dO p (H.head k)).In (p+8) 8);subst c;refine ab j ?_;obtain⟨h,a⟩:=eI m (k:=k) e;rw[show((H.dO p (H.head k)).dO (p+8) 0).head k=H.head k from rfl]at a;have P:=kJ ok hi;have N:IntKind.u64.wrap ((H.head k:Int)+8)=((H.head k+8:Nat):Int):=by rw[cd] <;> omega
 simp only[go_sem,h,a,c1,TV,Ug,N];obtain⟨v,I,⟨w,c⟩,C⟩:=fY m (fL (fL ok _ _) _ _) hp (q7 (q7 (rb hi Q Q)):((H.dO p (H.head k)).dO (p+8) 0).In (H.head k+8) 8);subst c;refine ab C ?_;obtain⟨U,E,M,W⟩:=pV w (k:=k) (v:=p) e;simp only[go_sem,h,a,az,TH,TK,E];unfold aa.eS;rw[Tg d];exact M
def rK:∀(l m:List (IntKind×Int)),l.map Prod.fst=m.map Prod.fst->cF (List.replicate l.length true) (l.map fun p=>.int p.1 p.2) (m.map fun p=>.int p.1 p.2)=some (decide (l=m))
 | [],[],_=>rfl
 | [],b ::s,h=>by simp at h
 |a ::r,[],h=>by simp at h
 |a ::r,b ::s,h=>by
  obtain⟨k,x⟩:=a;obtain⟨e,y⟩:=b;simp only[Xr,abf]at h;obtain⟨rfl,d⟩:=h;simp only[TH,abp,Xr,cF,nr,TT];by_cases c:x=y
  .subst c;simp only[aaV,rK r s d,abf,WK]
  have:(x ==y)=false:=by simp[c]
  rw[this];simp[c]
def _root_.AM.bB.aah(g:bB):List (IntKind×Int):=[(.i64,g.kind),(.i64,g.Th),(.i64,g.TQ),(.i64,g.Ty),(.i64,g.next),(.i64,g.T8),(.i64,g.first),(.u64,g.b0),(.u64,g.b1),(.u64,g.b2),(.u64,g.b3)]
def AW(P Q:bB):∃b,cF [true,true,true,true,true,true,true,true,true,true,true] P.cells Q.cells=some b∧(b=true->P=Q):=by refine⟨decide (P.aah=Q.aah),rK P.aah Q.aah rfl,fun h=>?_⟩;simp only[bB.aah,Xg,abf,TU,WK,YJ]at h;obtain⟨d,e,f,g,i,j,k,l,m,a,c⟩:=h;cases P;cases Q;simp only at d e f g i j k l m a c;simp only[bB.mk.injEq];exact⟨d,e,f,g,i,j,k,acG,acG,acG,acG⟩
def _root_.AM.aa.WW(H:aa)(p k:Nat)(kind:Int)(n:Nat):aa:={ H with Tf:=fun i=>if p≤i∧i<p+n then(if i=p then cI kind k else cI (kind+1) k)else H.Tf i }
def _root_.AM.aa.run(H:aa)(p k:Nat)(kind:Int):aa:=H.WW p k kind (2^k)
def Bp(ok:H.OK){p k n:Nat}{kind:Int}:(H.WW p k kind n).OK:=⟨ok.Wc,ok.VI,ok.Yw,ok.Xo,ok.X7,ok.XT,ok.fU,ok.We,ok.XB,ok.Yv,ok.XG,ok.T0,ok.aU⟩
def ti(ok:H.OK){p k:Nat}{kind:Int}:(H.run p k kind).OK:=Bp ok
def Hg(H:aa)(p k:Nat)(kind:Int):H.WW p k kind 0=H:=by
 have:(fun i=>if p≤i∧i<p+0 then(if i=p then cI kind k else cI (kind+1) k)else H.Tf i)=H.Tf:=by funext i;rw[Tg Q]
 unfold aa.WW;rw[this]
def GM(H:aa)(p k:Nat)(kind:Int)(n:Nat):H.WW p k kind (n+1)=(H.WW p k kind n).aB (p+n) (if n=0 then cI kind k else cI (kind+1) k):=by
 simp only[aa.WW,aa.aB,aa.mk.injEq,WK,YJ]
 funext i
 by_cases c:i=p+n
 .subst c;by_cases a:n=0
  .subst a;simp
  simp[a]
 rw[Tg c];by_cases a:p≤i∧i<p+n
 .rw[Ti Q,Ti a]
 rw[Tg Q,Tg a]
def Bv(H:aa)(p:Nat):H.aB p (H.Tf p)=H:=by
 have:(fun i=>if i=p then H.Tf p else H.Tf i)=H.Tf:=by
  funext i;by_cases c:i=p
  .rw[Ti c,c]
  rw[Tg c]
 unfold aa.aB;rw[this]
def Dy(hR:aw σ A H)(ok:H.OK){p k:Nat}{kind:Int}(hk:k≤H.Th)(t:kind=0∨kind=2)(ah:p%2^k=0)(hp:p+2^k≤H.np):
  au G0 [] 224 [.acK (A .map) 0,.i p,.i k,.i kind] σ fun r σ'=>aw σ' A (H.run p k kind)∧r=.i 0:=by
 refine ai g224 rfl ?_;have ho:=ok.VI;have ay:=iM ok;have ax:=Bi (k:=k) Q;have aC:=aK k;have W:0<H.Tl:=fP (p:=p) Q;have w:=hR.cell (s:=.map) trivial (i:=0) (Q:0<3);rw[show H.cell A .map 0=.i H.Th from rfl]at w;have G:=hR.cell (s:=.map) trivial (i:=1) (Q:1<3);rw[show H.cell A .map 1=H.dZ A from rfl,gz ok W]at G;obtain⟨v,ac,⟨hv,hs⟩,hr⟩:=jY (σ:=σ) (k:Int) 0 (H.Th:Int);subst hv hs;have c1:(0:Int)≤(k:Int):=Q;have c2:(k:Int)≤(H.Th:Int):=Q;have c3:¬((p:Int)<0):=Q;have e1:=ja (n:=k) Q;have e2:((p:Int).tmod ((2^k:Nat):Int))=0:=by rw[aW,ah];rfl
 have c4:((2^k:Nat):Int)≠0:=Q;have e3:IntKind.i64.wrap ((H.np:Int)-((2^k:Nat):Int))=((H.np-2^k:Nat):Int):=bV Q Q;have c5:¬(((H.np-2^k:Nat):Int)<(p:Int)):=Q;obtain⟨n,hn⟩:=acH (2^k);have d0:decide (kind≠0)=true->decide (kind≠2)=false:=by rcases t with rfl|rfl <;> decide
 rw[<- hn]at e1 c4 e2 e3 c5;have loop:∀(fr:Fr) (K:fA),fr.defers=[]->fr.tmps.get 0=some (.acK (A .map) 0)->fr.tmps.get 1=some (.i p)->fr.tmps.get 2=some (.i k)->fr.tmps.get 3=some (.i kind)->fr.tmps.get 50=some (.i (n:Nat))->fr.tmps.get 51=some (.i ((0:Nat):Int)) →
   (∀Tw s,Tw.defers=[]->aw s A (H.run p k kind)->K (.exit 0) Tw s)->wp G0 [] (.loop (Am c224 0)) fr ac K:=by
  intro fr K z0 t0 t1 t2 t3 I J hK;refine bW (fun(m:Nat) (fr:Fr) (s:St)=>fr.defers=[]∧fr.tmps.get 0=some (.acK (A .map) 0)∧fr.tmps.get 1=some (.i p)∧fr.tmps.get 2=some (.i k)∧fr.tmps.get 3=some (.i kind)∧fr.tmps.get 50=some (.i (n:Nat))∧
   ∃i,i≤n∧m=n-i∧fr.tmps.get 51=some (.i (i:Nat))∧aw s A (H.WW p k kind i)) ?_ n ?_
  .rintro m ⟨tm,ds⟩ s ⟨h,B,C,D,E,e,i,hi,hm,f,R⟩;simp only at h B C D E e f;subst h;rcases Vm i n with c|c
   .have d1:(i:Int)<(n:Int):=Q;simp only[Am,c224,jN,YH,Wr,aaA,Xc];simp only[go_sem,B,C,D,E,e,f,d1];obtain⟨v,y,⟨hv,g2,R2⟩,ar⟩:=R.dF (FX (σ:=s) kind k R.gw);subst hv;refine ab ar ?_;have Z:=aQ (σ:=y) (z:=bX.cells) (vs:=(cI kind k).cells) (n:=11) (by simp[bB.aL]) rfl;have L:=R2.Ts (n:=11) (z:=bX.cells) (vs:=(cI kind k).cells) (by simp[bB.aL]) rfl;have F:=To.Ts y 11 bX.cells (cI kind k).cells rfl;have hz:bX.cells=[V.i 0,.i 0,.i 0,.i 0,.i 0,.i 0,.i 0,.u 0,.u 0,.u 0,.u 0]:=rfl;have N3:∀s,H.has s->A s≠y.next:=fun s hs=>by have:=R2.lt (s:=s) hs;omega
    rw[hz]at Z L F;simp only[go_sem,TH,TK,aj,bB.aL,Z,B,C,D,E,e,f];generalize y.next=lw at F N3⊢;generalize y.Ts 11 _ _=ad at L F⊢;have U:p+i<H.np:=Q;have e4:IntKind.i64.wrap ((p:Int)+(i:Int))=((p+i:Nat):Int):=bj Q;have d2:(0:Int)≤((p+i:Nat):Int)∧((p+i:Nat):Int)<(H.np:Int):=Q;have e5:IntKind.i64.wrap ((i:Int)+1)=((i+1:Nat):Int):=by rw[dw] <;> omega
    obtain⟨a,l⟩:=acH ((if i=0 then cI kind k else cI (kind+1) k));have x:(H.WW p k kind i).aB (p+i) a=H.WW p k kind (i+1):=by rw[GM,l]
    have q:∀d,aw d A (H.WW p k kind i)->To d lw 11 (Tn a.cells) →
      d.cell (A .map) 1=some (.acL (A .aU) 0 H.np 11)∧d.load (A .aU) ((p+i)*11) 11=some ((H.WW p k kind i).Tf (p+i)).cells∧d.load lw 0 11=some a.cells∧
      ∃b,cF [true,true,true,true,true,true,true,true,true,true,true] ((H.WW p k kind i).Tf (p+i)).cells a.cells=some b∧(b=true->aw d A (H.WW p k kind (i+1)))∧
      ∃o,d.store (A .aU) ((p+i)*11) a.cells=some o∧aw o A (H.WW p k kind (i+1)):=by
     intro d R4 L4;have T:=R4.cell (s:=.map) trivial (i:=1) (Q:1<3);rw[show(H.WW p k kind i).cell A .map 1=H.dZ A from rfl,gz ok W]at T;have ap:=zr R4 (Bp ok) (p:=p+i) U;have S:=L4.load (off:=0) (k:=11) Q;rw[show((List.range 11).map fun j=>Tn a.cells (0+j))=a.cells from rfl]at S;obtain⟨b,hb,al⟩:=AW ((H.WW p k kind i).Tf (p+i)) a;obtain⟨o,X,R5,S5⟩:=gD R4 (Bp ok) (p:=p+i) U (j:=0) (vs:=a.cells) (by simp[bB.aL]) rfl (g:=a) (by
      intro j hj;rcases(by omega:j=0∨j=1∨j=2∨j=3∨j=4∨j=5∨j=6∨j=7∨j=8∨j=9∨j=10)with rfl|rfl|rfl|rfl|rfl|rfl|rfl|rfl|rfl|rfl|rfl <;> rfl)
     rw[X2]at X;rw[x]at R5;refine⟨T,ap,S,b,hb,fun am=>?_,o,X,R5⟩;rw[<- x, <- al am,Bv];exact R4
    by_cases c0:i=0
    .have d3:¬((0:Int)<(i:Int)):=Q;have af:To ad lw 11 (Tn a.cells):=by rw[l,Ti c0];exact F
     obtain⟨M,f2,N,b,f4,f5,o,f6,f7⟩:=q ad L af;simp only[go_sem,B,C,D,E,e,f,d3,e4,d2,Us,TZ,M,f2,N,f4];cases b
     .simp only[go_sem,B,C,D,E,e,f,e4,e5,d2,Us,TZ,M,N,aj,bB.aL,f6];exact⟨n-(i+1),Q,i+1,Q,rfl,rfl,f7⟩
     simp only[go_sem,B,C,D,E,e,f,e5];exact⟨n-(i+1),Q,i+1,Q,rfl,rfl,f5 rfl⟩
    have d3:((0:Int)<(i:Int)):=Q;have P:=F.cell (i:=0) Q;rw[show Tn (cI kind k).cells 0=.i kind from rfl]at P;have e6:IntKind.i64.wrap (kind+1)=kind+1:=by rw[dw] <;> omega
    obtain⟨d,av,L4,w4,P4⟩:=F.store L.gw (off:=0) (vs:=[.i (kind+1)]) Y rfl;have ag:To d lw 11 (Tn a.cells):=by
     rw[l,Tg c0];refine L4.congr (Tx _) fun j hj=>?_
     rcases(by omega:j=0∨j=1∨j=2∨j=3∨j=4∨j=5∨j=6∨j=7∨j=8∨j=9∨j=10)with rfl|rfl|rfl|rfl|rfl|rfl|rfl|rfl|rfl|rfl|rfl <;> rfl
    obtain⟨M,f2,N,b,f4,f5,o,f6,f7⟩:=q d (L.VW w4 N3 P4 (L.Ub.gR F)) ag;simp only[go_sem,B,C,D,E,e,f,d3,P,e6,az,TH,TK,av,e4,d2,Us,TZ,M,f2,N,f4];cases b
    .simp only[go_sem,B,C,D,E,e,f,e4,e5,d2,Us,TZ,M,N,aj,bB.aL,f6];exact⟨n-(i+1),Q,i+1,Q,rfl,rfl,f7⟩
    simp only[go_sem,B,C,D,E,e,f,e5];exact⟨n-(i+1),Q,i+1,Q,rfl,rfl,f5 rfl⟩
   have ao:i=n:=Q;have d1:¬((i:Int)<(n:Int)):=Q;simp only[Am,c224,jN,YH,Wr,aaA,Xc];simp only[go_sem,e,f,d1];refine hK _ _ rfl ?_;unfold aa.run;rw[<- hn, <- ao];exact R
  exact⟨z0,t0,t1,t2,t3,I,0,Q,Q,J,by rw[Hg];exact hR⟩
 have O:∀(fr:Fr),fr.defers=[]->fr.tmps.get 0=some (.acK (A .map) 0)->fr.tmps.get 1=some (.i p)->fr.tmps.get 2=some (.i k)->fr.tmps.get 3=some (.i kind)->fr.tmps.get 50=some (.i (n:Nat))->fr.tmps.get 51=some (.i ((0:Nat):Int))->∀K:fA,
   (∀Tw s,Tw.defers=[]->aw s A (H.run p k kind)->K (.exit 0) Tw s)->wp G0 [] (.loop (Am c224 0)) fr ac K:=fun fr z0 t0 t1 t2 t3 I J K hK=>loop fr K z0 t0 t1 t2 t3 I J hK
 rcases t with rfl|rfl
 .simp only[go_sem,w,TV,Uq];refine ab hr ?_;simp only[go_sem,w,G,c1,c2,c3,e1,aZ,c4,TV,Ug,Uq,e2,e3,c5,aT];refine O _ ?_ ?_ ?_ ?_ ?_ ?_ ?_ _ ?_
  .simp only[go_sem]
  .simp only[go_sem]
  .simp only[go_sem]
  .simp only[go_sem]
  .simp only[go_sem]
  .simp only[go_sem]
  .simp only[go_sem,VN]
  rintro⟨tm,ds⟩ s h R;simp only at h;subst h;simp only[go_sem];exact R
 simp only[go_sem,w,TV,Int.reduceEq,Ug,Uq];refine ab hr ?_;simp only[go_sem,w,G,c1,c2,c3,e1,aZ,c4,TV,Int.reduceEq,Ug,Uq,e2,e3,c5,aT];refine O _ ?_ ?_ ?_ ?_ ?_ ?_ ?_ _ ?_
 .simp only[go_sem]
 .simp only[go_sem]
 .simp only[go_sem]
 .simp only[go_sem]
 .simp only[go_sem]
 .simp only[go_sem]
 .simp only[go_sem,VN]
 rintro⟨tm,ds⟩ s h R;simp only at h;subst h;simp only[go_sem];exact R
end
end
end Go.Proofs.YtlgmpheammbacaaGreatDoor
