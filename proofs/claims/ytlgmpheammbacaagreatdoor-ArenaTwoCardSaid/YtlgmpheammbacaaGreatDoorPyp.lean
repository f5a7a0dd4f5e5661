import Derived.Test.YtlgmpheammbacaaGreatDoorPyo
set_option linter.all false
set_option maxRecDepth 1000000
set_option maxHeartbeats 8000000
attribute [local irreducible] AM.T.get AM.T.set
namespace Go.Proofs.YtlgmpheammbacaaGreatDoor
open AM Go
noncomputable section
attribute [local go_sem] bJ bO bM bP bI bo bj bV bD bK VG Wa VU WZ dx dv cH bg cU bq bG cX cZ br bH cY cB UR UK aj az aD TH TK TZ bm bF aW aO aI bz aX bt aY dM aR bU dN aZ bc aT bA
section
variable {σ σ' s:St}
def K2{b l k r P A B e p j:Nat}{L:List Hd}{v f x:V}{d:Bool}{o:Option (Nat×Nat×Nat)}(hw:GW σ)(hv:[v].all V.Tr=true)(h:∀s,GW s->TP σ s->au G0 [] 139 [Vn b l k r v,pJ (1:Nat) P A B d x,jx e p j f,.u A,.u 1] s fun y t=>JR s t b l k r v L o y∧TP s t):
  au G0 [] 92 [Vn b l k r v,pJ (1:Nat) P A B d x,jx e p j f] σ fun y s=>JR σ s b l k r v L o y∧TP σ s:=by
 refine ai g92 rfl ?_;have a:=lU (σ:=σ) hw (bv:=[.u b,.i l,.i k,.i r,v]) (cv:=[.i (1:Nat),.u P,.u A,.u B,.bool d,x]) (sv:=[.i e,.u p,.acJ,.u 0,.u 0,.i 0,.i 0,.u j,f]) rfl rfl rfl;obtain⟨J,g⟩:=acH ((((σ.ag [V.u b,.i l,.i k,.i r,v]).ag [.i (1:Nat),.u P,.u A,.u B,.bool d,x]).ag [.i e,.u p,.acJ,.u 0,.u 0,.i 0,.i 0,.u j,f]).new (.acM 5 Un .nil));rw[<- g]at a;have M:=a.n;simp (disch:=omega) only[go_sem,<- g,a.q5.bN rfl,a.q6.bN rfl,a.q6.bC rfl,a.q9.bN rfl];refine((h J a.w a.ex).gw a.w).mono ?_;rintro y s2 ⟨⟨F,I⟩,w2⟩;have m:=a.ext I w2;cases o with
 |none=>
  obtain rfl:y=.tuple [Vn b l k r v,.bool true]:=F;obtain⟨E,c,C,K,z⟩:=m.o.store w2 (off:=0) (vs:=[.u b,.i l,.i k,.i r,v]) Y (WB hv);have D:E.load (σ.next+3) 0 5=some [.u b,.i l,.i k,.i r,v]:=by rw[C.load (off:=0) (k:=5) Q];rfl
  simp (disch:=omega) only[go_sem,c,D];exact⟨rfl,z.ext m.ex Q⟩
 |some o=>
  obtain⟨G,O,R⟩:=o;obtain⟨u,q,n,H,rfl,N⟩:=F;obtain⟨E,c,C,K,z⟩:=m.o.store w2 (off:=0) (vs:=[.u b,.i l,.i k,.i G,u]) Y (WB N.Tr);have D:E.load (σ.next+3) 0 5=some [.u b,.i l,.i k,.i G,u]:=by rw[C.load (off:=0) (k:=5) Q];rfl
  simp (disch:=omega) only[go_sem,c,D];exact⟨⟨u,q,n,H,rfl,(N.put z Q).Tj a.ex⟩,z.ext m.ex Q⟩
def KB{b l k r P A B e p j:Nat}{L:List Hd}{v f x:V}{d:Bool}{o:Option (Nat×Nat×Nat)}(hw:GW σ)(hv:[v].all V.Tr=true)(h:∀s,GW s->TP σ s->au G0 [] 139 [Vn b l k r v,pJ (3:Nat) P A B d x,jx e p j f,.u B,.u A] s fun y t=>JR s t b l k r v L o y∧TP s t):
  au G0 [] 92 [Vn b l k r v,pJ (3:Nat) P A B d x,jx e p j f] σ fun y s=>JR σ s b l k r v L o y∧TP σ s:=by
 refine ai g92 rfl ?_;have a:=lU (σ:=σ) hw (bv:=[.u b,.i l,.i k,.i r,v]) (cv:=[.i (3:Nat),.u P,.u A,.u B,.bool d,x]) (sv:=[.i e,.u p,.acJ,.u 0,.u 0,.i 0,.i 0,.u j,f]) rfl rfl rfl;obtain⟨J,g⟩:=acH ((((σ.ag [V.u b,.i l,.i k,.i r,v]).ag [.i (3:Nat),.u P,.u A,.u B,.bool d,x]).ag [.i e,.u p,.acJ,.u 0,.u 0,.i 0,.i 0,.u j,f]).new (.acM 5 Un .nil));rw[<- g]at a;have M:=a.n;simp (disch:=omega) only[go_sem,<- g,a.q5.bN rfl,a.q6.bN rfl,a.q6.bC rfl,a.q9.bN rfl];refine((h J a.w a.ex).gw a.w).mono ?_;rintro y s2 ⟨⟨F,I⟩,w2⟩;have m:=a.ext I w2;cases o with
 |none=>
  obtain rfl:y=.tuple [Vn b l k r v,.bool true]:=F;obtain⟨E,c,C,K,z⟩:=m.o.store w2 (off:=0) (vs:=[.u b,.i l,.i k,.i r,v]) Y (WB hv);have D:E.load (σ.next+3) 0 5=some [.u b,.i l,.i k,.i r,v]:=by rw[C.load (off:=0) (k:=5) Q];rfl
  simp (disch:=omega) only[go_sem,c,D];exact⟨rfl,z.ext m.ex Q⟩
 |some o=>
  obtain⟨G,O,R⟩:=o;obtain⟨u,q,n,H,rfl,N⟩:=F;obtain⟨E,c,C,K,z⟩:=m.o.store w2 (off:=0) (vs:=[.u b,.i l,.i k,.i G,u]) Y (WB N.Tr);have D:E.load (σ.next+3) 0 5=some [.u b,.i l,.i k,.i G,u]:=by rw[C.load (off:=0) (k:=5) Q];rfl
  simp (disch:=omega) only[go_sem,c,D];exact⟨⟨u,q,n,H,rfl,(N.put z Q).Tj a.ex⟩,z.ext m.ex Q⟩
def ji(x a:Nat):Nat:=if x%a=0 then x else x-x%a+a
def Na{x a:Nat}(ha:0<a)(h:x+a<18446744073709551616):au G0 [] 138 [.u x,.u a] σ fun v s=>v=.u (ji x a)∧aH σ s:=by
 refine ai g138 rfl ?_;have d:=Nat.mod_le x a;have b:(a:Int)≠0:=Q;unfold ji;by_cases c:x%a=0
 .rw[Ti c];simp (disch:=omega) only[go_sem,c];exact Gr.g
 rw[Tg c];generalize hy:x%a=y at *;simp (disch:=omega) only[go_sem,hy];exact Gr.g
abbrev WV(c:Nat)(cs:V)(tk us:Nat)(mk:V)(md:Nat):V:=.agg [.u c,cs,.u tk,.u us,mk,.i md]
abbrev zA:List V:=[.u 0,.acJ,.u 0,.u 0,.acJ,.i 0]
def XU{c tk us md:Nat}{v mk:V}(a:[v].all V.Tr=true)(b:[mk].all V.Tr=true):[V.u c,v,.u tk,.u us,mk,.i md].all V.Tr=true:=by
 have a:v.Tr=true:=by simpa using a
 have b:mk.Tr=true:=by simpa using b
 show(true && (v.Tr && (true && (true && (mk.Tr && (true && true))))))=true;rw[a,b];rfl
def MN{n:Nat}:au G0 [] 88 [.u n] σ fun v s=>v=.u (max n 1:Nat)∧aH σ s:=by
 refine ai g88 rfl ?_;by_cases c:n=0
 .subst c;simp (disch:=omega) only[go_sem];exact⟨rfl,Gr.g⟩
 simp (disch:=omega) only[go_sem];exact⟨by rw[ZN Q],Gr.g⟩
def PI{n c tk us md:Nat}{cs mk:V}:au G0 [] 91 [WV c cs tk us mk md,.u n] σ fun v s=>v=.u (max n c:Nat)∧aH σ s:=by
 refine ai g91 rfl ?_;by_cases h:c<n
 .simp (disch:=omega) only[go_sem];exact⟨by rw[ZN Q],Gr.g⟩
 simp (disch:=omega) only[go_sem];exact⟨by rw[aaO Q],Gr.g⟩
def LF{n a c tk us md e:Nat}{q:Option (Nat×Nat)}{mk:V}:au G0 [] 90 [WV c (.slice q 0 e) tk us mk md,.u n,.u a] σ fun v s=>v=.tuple [.u (0:Nat),.bool false]∧aH σ s:=by refine ai g90 rfl ?_;simp (disch:=omega) only[go_sem];exact⟨rfl,Gr.g⟩
def C4{n a c tk us md:Nat}{L:List (Nat×Nat)}{v mk:V}{t:Nat×Nat}(r:U6 σ L v)(d:L.getLast?=some t)(Ue:L.length<9000000000000000000)(ha:0<a)(G:t.1+t.2≤9223372036854775808)(H:t.1+tk+a+n<18446744073709551616):
  au G0 [] 90 [WV c v tk us mk md,.u n,.u a] σ fun y s=>y=.tuple [.u (ji (t.1+tk) a),.bool (decide (ji (t.1+tk) a+n≤t.1+t.2))]∧aH σ s:=by
 refine ai g90 rfl ?_;obtain⟨q,e,J⟩:=r.is;have w:0<L.length:=by
  rcases Wi L.length with c|c
  .rw[aaz c]at d;cases d
  exact c
 obtain⟨b,o,l,I,c1,A,h⟩:=r.at (i:=L.length-1) Q;have k:L[L.length-1]'Q=t:=by rw[ab2,UQ Q]at d;exact XP d
 rw[k]at h c1 A;have C:=Nat.mod_le (t.1+tk) a;have B:=Wt (t.1+tk) ha;have j:ji (t.1+tk) a≤t.1+tk+a:=by unfold ji;split <;> omega
 have z:=fun σ=>Na (σ:=σ) (x:=t.1+tk) ha Q
 generalize ji (t.1+tk) a=p at z j⊢;subst l;obtain⟨E,F⟩:=t;simp only at *;simp (disch:=omega) only[go_sem,h];refine(z _).mono ?_;rintro _ K ⟨rfl,f⟩;have D:=f.next;simp only[bg,cU]at D;by_cases m:p+n≤E+F
 .simp (disch:=omega) only[go_sem,f.cell,m];exact Gr.g.trans f
 simp (disch:=omega) only[go_sem,f.cell,m];exact Gr.g.trans f
theorem JL{n p c tk us md:Nat}{L:List (Nat×Nat)}{v mk:V}{t:Nat×Nat}(w:GW σ)(hL:U6 σ L v)(hlt:L.getLast?=some t)(Ue:L.length<9000000000000000000)(h1:t.1≤p+n)(h2:p+n<18446744073709551616)(hmk:[mk].all V.Tr=true):
  au G0 [] 95 [WV c v tk us mk md,.u p,.u n] σ fun y s=>y=WV c v (p+n-t.1) ((us+n)%18446744073709551616) mk md∧TP σ s:=by
 refine ai g95 rfl ?_;obtain⟨q,e,hv⟩:=hL.is;have hvf:=hL.Tr;have hpos:0<L.length:=by
  rcases Wi L.length with c|c
  .rw[aaz c]at hlt;cases hlt
  exact c
 obtain⟨b,o,hv2,hb,c1,c2,hld⟩:=hL.at (i:=L.length-1) Q;have hte:L[L.length-1]'Q=t:=by rw[ab2,UQ Q]at hlt;exact XP hlt
 rw[hte]at hld c1 c2;obtain⟨t1,t2⟩:=t;simp only at *;obtain⟨s1,hs1⟩:=acH (((σ.ag [.u c,v,.u tk,.u us,mk,.i md]).new (.cells false 0 6 zA .nil)).Ts 2 VA [.u t1,.u t2]);have w1:GW (σ.ag [.u c,v,.u tk,.u us,mk,.i md]):=w.new _ rfl;have w2:=w1.new (.cells false 0 6 zA .nil) rfl;have w3:GW s1:=by rw[hs1];exact w2.Ts (by simp) rfl
 have e1:TP σ s1:=by rw[hs1];exact(Gr.g).ext
 have n1:s1.next=σ.next+3:=by rw[hs1];rfl
 have Lq:To s1 σ.next 6 (Tn [.u c,v,.u tk,.u us,mk,.i md]):=by rw[hs1];exact((To.cg σ _).ext w1 (Gr.g).ext).ext w2 (Gr.g).ext
 have Lo:To s1 (σ.next+1) 6 (Tn zA):=by rw[hs1];exact(To.zero w1 zA (by simp)).ext w2 (Gr.g).ext
 have Lt:To s1 (σ.next+2) 2 (Tn [.u t1,.u t2]):=by rw[hs1];exact To.Ts _ 2 VA _ rfl
 obtain⟨s2,hs2,Lq2,w4,p2⟩:=Lq.set rfl w3 (j:=2) (x:=.u (p+n-t1:Nat)) Q rfl;simp only[Yp,Yq]at Lq2;obtain⟨s3,hs3,Lq3,w5,p3⟩:=Lq2.set rfl w4 (j:=3) (x:=.u ((us+n)%18446744073709551616:Nat)) Q rfl;simp only[Yp,Yq]at Lq3;have XU:=fun x y=>XU (c:=c) (tk:=x) (us:=y) (md:=md) hvf hmk
 have Lo3:=(Lo.put p2 Q).put p3 Q;obtain⟨s4,hs4,Lo4,w6,p4⟩:=Lo3.store w5 (off:=0) (vs:=[V.u c,v,.u (p+n-t1:Nat),.u ((us+n)%18446744073709551616:Nat),mk,.i md]) (by simp) (XU _ _);have k4:s4.load (σ.next+1) 0 6=some [V.u c,v,.u (p+n-t1:Nat),.u ((us+n)%18446744073709551616:Nat),mk,.i md]:=by rw[Lo4.load (off:=0) (k:=6) Q];rfl
 have eu:IntKind.u64.wrap ((us:Int)+(n:Int))=((us+n)%18446744073709551616:Nat):=by rw[NB];omega
 subst hv2;simp-implicitDefEqProofs (maxSteps:=9^9) (disch:=omega) only[go_sem,hld,<- hs1,Lt.bC rfl,hs2,Lq2.bC rfl,eu,hs3,Lq3.bN rfl,hs4,k4];exact p4.ext (p3.ext (p2.ext e1 Q) Q) Q
def Qg{c tk us md:Nat}{L:List (Nat×Nat)}{v mk:V}{x:Nat×Nat}(w:GW σ)(hL:U6 σ L v)(Ue:L.length<8000000000000)(R:[mk].all V.Tr=true):
  au G0 [] 94 [WV c v tk us mk md,.agg [.u x.1,.u x.2]] σ fun y s=>(∃u,y=WV c u 0 us mk md∧Nl σ s 2 (L++[x]).length (fl gK (L++[x])) u)∧TP σ s:=by
 refine ai g94 rfl ?_;obtain⟨q,e,hv⟩:=hL.is;obtain⟨z,f⟩:∃vl:List V,vl=[.u c,v,.u tk,.u us,mk,.i md]:=⟨_,rfl⟩;have d:z.length=6:=by rw[f];rfl
 obtain⟨b,a⟩:=acH (((σ.ag z).ag [.u x.1,.u x.2]).new (.acM 6 zA .nil));have w1:GW (σ.ag z):=w.new _ rfl;have F:GW ((σ.ag z).ag [.u x.1,.u x.2]):=w1.new _ rfl;have B:GW b:=by rw[a];exact F.new _ rfl
 have K:TP σ b:=by rw[a];exact(Gr.g).ext
 have n1:b.next=σ.next+3:=by rw[a];rfl
 have Lq:To b σ.next 6 (Tn z):=by rw[a];have L0:=To.cg σ z;rw[d]at L0;exact(L0.ext w1 (Gr.g).ext).ext F (Gr.g).ext
 have Lx:To b (σ.next+1) 2 (Tn [.u x.1,.u x.2]):=by rw[a];exact(To.cg (σ.ag z) _).ext F (Gr.g).ext
 have Lo:To b (σ.next+2) 6 (Tn zA):=by rw[a];exact To.zero F zA Y
 have c1:b.cell σ.next 1=some v:=by rw[Lq.bC d Q,f];rfl
 have l:=a;rw[f]at l;simp (disch:=omega) only[go_sem,<- l];refine bW (fun n fr t=>fr.defers=[]∧fr.tmps.get 2=some (.acK σ.next 0)∧fr.tmps.get 3=some (.acK (σ.next+1) 0)∧fr.tmps.get 4=some (.acK (σ.next+2) 0)∧GW t∧TP b t∧
  ∃i y,i+n=L.length∧fr.tmps.get 6=some (.i (i:Nat))∧fr.tmps.get 5=some y∧Nl b t 2 i (fl gK (L.take i)) y) ?_ L.length ?_
 .rintro n ⟨tm,ds⟩ t ⟨hd,t2,t3,t4,wt,g,i,y,hi,t6,t5,N⟩;simp only at hd t2 t3 t4 t5 t6;subst hd;have E:t.cell σ.next 1=some v:=by rw[g.cell (m:=b.next) Q];exact c1
  by_cases ci:i<L.length
  .obtain⟨bb,o,W,ac,d1,d2,P⟩:=hL.at ci;obtain⟨A,s',ha,h,C,w'⟩:=N.push (y:=16) (x:=[.u L[i].1,.u L[i].2]) g B wt Q rfl rfl (by unfold aq;omega) (by unfold aq;omega);rw[om, <- X1 ci]at h;have M:bZ (bL VA 1) [(0,2,V.agg [.u L[i].1,.u L[i].2])]=some [.u L[i].1,.u L[i].2]:=rfl;rw[W]at E;simp (disch:=omega) only[go_sem,t2,t3,t4,t5,t6,E,g.load,K.load,P,aG,M,ha];exact⟨n-1,Q,w',C,i+1,A,Q,rfl,rfl,h⟩
  obtain rfl:i=L.length:=Q;rw[VZ Q]at N;obtain⟨A,s',ha,h,C,w'⟩:=N.push (y:=16) (x:=[.u x.1,.u x.2]) g B wt Q rfl rfl (by unfold aq;omega) (by unfold aq;omega);rw[om]at h;have M:bZ (bL VA 1) [(0,2,V.agg [.u x.1,.u x.2])]=some [.u x.1,.u x.2]:=rfl;have J:=Lx.ext B g;have O:=h.cells;have I:=Lq.ext B C;obtain⟨s2,S,p,w4,X⟩:=I.set d w' (j:=1) (x:=A) Q h.Tr;obtain⟨s3,T,r,w5,Z⟩:=p.set (by rw[ZG,d]) w4 (j:=2) (x:=.u 0) Q rfl;rw[f]at p r;simp only[Yp,Yq]at p r;have G:=((Lo.ext B C).put X Q).put Z Q;obtain⟨s4,U,H,w6,p4⟩:=G.store w5 (off:=0) (vs:=[V.u c,A,.u (0:Nat),.u us,mk,.i md]) Y (XU h.Tr R);have k4:s4.load (σ.next+2) 0 6=some [V.u c,A,.u (0:Nat),.u us,mk,.i md]:=by rw[H.load (off:=0) (k:=6) Q];rfl
  have k3:=r.lj rfl;have D:s3.store (σ.next+2) 0 [V.u c,A,.u 0,.u us,mk,.i md]=some s4:=U;rw[hv]at E;simp (disch:=omega) only[go_sem,t2,t3,t4,t5,t6,E,J.bN rfl,aG,M,ha,O,S,T,k3,D,k4];refine⟨⟨A,rfl,?_⟩,p4.ext (Z.ext (X.ext (K.trans C) Q) Q) Q⟩;rw[UN];exact(((h.put X Q).put Z Q).put p4 Q).Tj K
 simp (disch:=omega) only[go_sem];exact⟨B,TP.refl _,0,_,Q,rfl,rfl,Nl.nil⟩
def Dr(m:Mk):List V:=[.i m.n,.i m.Tm,.u m.Tz,.u m.TI]
theorem BT(m:Mk):(Dr m).length=4:=rfl
abbrev Mls(σ:St)(l:List Mk)(v:V):Prop:=Ls σ 4 l.length (fl Dr l) v
def Mls.at{l:List Mk}{v:V}(h:Mls σ l v){i:Nat}(hi:i<l.length):∃b o,v=.acL b o l.length 4∧b<σ.next∧σ.load b (o+i*4) 4=some [.i l[i].n,.i l[i].Tm,.u l[i].Tz,.u l[i].TI]:=by obtain⟨b,o,d,a,e,c⟩:=h.get BT Q hi;exact⟨b,o,d,a,c⟩
def BX(L:List Mk)(m:Mk):fl Dr L++[.i m.n,.i m.Tm,.u m.Tz,.u m.TI]=fl Dr (L++[m]):=by unfold fl;rw[Yo];rfl
def Nd{c tk us md N e:Nat}{L:List Mk}{q:Option (Nat×Nat)}{v:V}(w:GW σ)(hL:Mls σ L v)(Ue:L.length<4000000000000)(ad:md<9000000000000000000):
  au G0 [] 81 [WV c (.slice q N e) tk us v md] σ fun y s=>(∃u,y=WV c (.slice q N e) tk us u (md+1)∧Nl σ s 4 (L++[Mk.mk md N tk us]).length (fl Dr (L++[Mk.mk md N tk us])) u)∧TP σ s:=by
 refine ai g81 rfl ?_;obtain⟨mq,me,hv⟩:=hL.is;obtain⟨C,b⟩:∃vl:List V,vl=[.u c,.slice q N e,.u tk,.u us,v,.i md]:=⟨_,rfl⟩;have f:C.length=6:=by rw[b];rfl
 obtain⟨h,a⟩:=acH ((σ.ag C).new (.acM 6 zA .nil));have w1:GW (σ.ag C):=w.new _ rfl;have z:GW h:=by rw[a];exact w1.new _ rfl
 have K:TP σ h:=by rw[a];exact(Gr.g).ext
 have n1:h.next=σ.next+2:=by rw[a];rfl
 have H:To h σ.next 6 (Tn C):=by rw[a];have L0:=To.cg σ C;rw[f]at L0;exact L0.ext w1 (Gr.g).ext
 have Lo:To h (σ.next+1) 6 (Tn zA):=by rw[a];exact To.zero w1 zA Y
 have c1:h.cell σ.next 4=some v:=by rw[H.bC f Q,b];rfl
 have p:=a;rw[b]at p;simp (disch:=omega) only[go_sem,<- p];refine bW (fun n fr t=>fr.defers=[]∧fr.tmps.get 1=some (.acK σ.next 0)∧fr.tmps.get 2=some (.acK (σ.next+1) 0)∧GW t∧TP h t∧
  ∃i y,i+n=L.length∧fr.tmps.get 4=some (.i (i:Nat))∧fr.tmps.get 3=some y∧Nl h t 4 i (fl Dr (L.take i)) y) ?_ L.length ?_
 .rintro n ⟨tm,ds⟩ t ⟨hd,Z,t2,wt,g,i,y,hi,t4,t3,J⟩;simp only at hd Z t2 t3 t4;subst hd;have E:t.cell σ.next 4=some v:=by rw[g.cell (m:=h.next) Q];exact c1
  by_cases ci:i<L.length
  .obtain⟨bb,o,U,ac,P⟩:=hL.at ci;obtain⟨A,s',ha,l,D,w'⟩:=J.push (y:=32) (x:=[.i L[i].n,.i L[i].Tm,.u L[i].Tz,.u L[i].TI]) g z wt Q rfl rfl (by unfold aq;omega) (by unfold aq;omega);rw[BX, <- X1 ci]at l;have M:bZ (bL [V.i 0,.i 0,.u 0,.u 0] 1) [(0,4,V.agg [.i L[i].n,.i L[i].Tm,.u L[i].Tz,.u L[i].TI])]=some [.i L[i].n,.i L[i].Tm,.u L[i].Tz,.u L[i].TI]:=rfl;rw[U]at E;simp (disch:=omega) only[go_sem,Z,t2,t3,t4,E,g.load,K.load,P,aG,M,ha];exact⟨n-1,Q,w',D,i+1,A,Q,rfl,rfl,l⟩
  obtain rfl:i=L.length:=Q;rw[VZ Q]at J;obtain⟨A,s',ha,l,D,w'⟩:=J.push (y:=32) (x:=[.i md,.i N,.u tk,.u us]) g z wt Q rfl rfl (by unfold aq;omega) (by unfold aq;omega);rw[BX L ⟨md,N,tk,us⟩]at l;have f1:bZ [V.i 0,.i 0,.u 0,.u 0] [(0,1,V.i md),(1,1,V.i N),(2,1,V.u tk),(3,1,V.u us)]=some [.i md,.i N,.u tk,.u us]:=rfl;have M:bZ (bL [V.i 0,.i 0,.u 0,.u 0] 1) [(0,4,V.agg [.i md,.i N,.u tk,.u us])]=some [.i md,.i N,.u tk,.u us]:=rfl;have O:=l.cells;have B:=H.ext z g;rw[b]at B;have I:=H.ext z D;obtain⟨s2,R,d,w4,W⟩:=I.set f w' (j:=4) (x:=A) Q l.Tr;obtain⟨s3,S,r,w5,X⟩:=d.set (by rw[ZG,f]) w4 (j:=5) (x:=.i (md+1:Nat)) Q rfl;rw[b]at d r;simp only[Yp,Yq]at d r;have F:=((Lo.ext z D).put W Q).put X Q;obtain⟨s4,T,G,w6,p4⟩:=F.store w5 (off:=0) (vs:=[V.u c,.slice q N e,.u tk,.u us,A,.i (md+1:Nat)]) Y (XU rfl l.Tr);have k4:s4.load (σ.next+1) 0 6=some [V.u c,.slice q N e,.u tk,.u us,A,.i (md+1:Nat)]:=by rw[G.load (off:=0) (k:=6) Q];rfl
  have k3:=r.lj rfl;rw[hv]at E;simp (disch:=omega) only[go_sem,Z,t2,t3,t4,E,B.bC rfl,aG,f1,M,ha,O,R,d.bC rfl,S,k3,T,k4];refine⟨⟨A,rfl,?_⟩,p4.ext (X.ext (W.ext (K.trans D) Q) Q) Q⟩;rw[UN];exact(((l.put W Q).put X Q).put p4 Q).Tj K
 simp (disch:=omega) only[go_sem];exact⟨z,TP.refl _,0,_,Q,rfl,rfl,Nl.nil⟩
def mB{z n m e:Nat}{q:Option (Nat×Nat)}{k:IntKind}(d:q.isSome=true->e=z)(c:m≤n):fE z (.slice q n e) none (some (.int k (m:Nat)))=some (.slice q m e):=by
 cases q with
 |none=>simp[fE,sliceB,XW,lI,c]
 |some x=>obtain⟨a,b⟩:=x;obtain rfl:=d rfl;simp[fE,sliceB,XW,lI,c]
theorem Kv{c tk us md N e f:Nat}{b:Int}{L:List Mk}{q l:Option (Nat×Nat)}(w:GW σ)(hL:Mls σ L (.slice l L.length f))(Ue:L.length<4000000000000)(hq:q.isSome=true->e=2)(am:l.isSome=true->f=4)(al:∀m∈L,m.Tm≤N):
  au G0 [] 82 [WV c (.slice q N e) tk us (.slice l L.length f) md,.i b] σ fun y s=>((∃i, ∃h:i<L.length,(L[i].n:Int)=b∧(∀j, ∀h:j<i,(L[j].n:Int)≠b)∧y=.tuple [WV c (.slice q L[i].Tm e) L[i].Tz L[i].TI (.slice l i f) md,.bool true])∨
   ((∀m∈L,(m.n:Int)≠b)∧y=.tuple [WV c (.slice q N e) tk us (.slice l L.length f) md,.bool false]))∧TP σ s:=by
 refine ai g82 rfl ?_;obtain⟨U,E⟩:∃vl:List V,vl=[.u c,.slice q N e,.u tk,.u us,.slice l L.length f,.i md]:=⟨_,rfl⟩;have X:U.length=6:=by rw[E];rfl
 obtain⟨P,a⟩:=acH ((σ.ag U).new (.acM 6 zA .nil));have w1:GW (σ.ag U):=w.new _ rfl;have w3:GW P:=by rw[a];exact w1.new _ rfl
 have e1:TP σ P:=by rw[a];exact(Gr.g).ext
 have n1:P.next=σ.next+2:=by rw[a];rfl
 have Lq:To P σ.next 6 (Tn U):=by rw[a];have L0:=To.cg σ U;rw[X]at L0;exact L0.ext w1 (Gr.g).ext
 have Lo:To P (σ.next+1) 6 (Tn zA):=by rw[a];exact To.zero w1 zA Y
 have B:=a;rw[E]at B Lq;clear X E a;simp (maxSteps:=9^9) (disch:=omega) only[go_sem,<- B];refine bW (fun n fr t=>fr.defers=[]∧fr.tmps.get 1=some (.i b)∧fr.tmps.get 2=some (.acK σ.next 0)∧fr.tmps.get 4=some (.acK (σ.next+1) 0)∧GW t∧TP P t∧
  ∃i,i+n=L.length∧fr.tmps.get 6=some (.i (i:Nat))∧∀j, ∀h:j<L.length,j<i->(L[j].n:Int)≠b) ?_ L.length ?_
 .rintro n ⟨tm,ds⟩ t ⟨hd,t1,t2,t4,wt,g,i,hi,t6,J⟩;simp only at hd t1 t2 t4 t6;subst hd;have d:=Lq.ext w3 g;have T:=Lo.ext w3 g;by_cases ci:i<L.length
  .obtain⟨bb,o,aB,ah,H⟩:=hL.at ci;have I:=al _ (Wm ci);have ao:=J;generalize hM:L[i]=M at H I;obtain⟨C,p,r,v⟩:=M;simp only at H I;obtain⟨ac,Z⟩:l=some (bb,o)∧f=4:=by have:=V.slice.inj aB;exact⟨this.1,this.2.2⟩
   have A:t.load bb (o+i*4) 4=some [.i C,.i p,.u r,.u v]:=by rw[g.load (m:=P.next) Q,e1.load (m:=σ.next) ah];exact H
   have O:=aQ (σ:=t) (z:=[.i 0,.i 0,.u 0,.u 0]) (n:=4) (vs:=[V.i C,.i p,.u r,.u v]) Y rfl;have w4:=wt.Ts (n:=4) (z:=[.i 0,.i 0,.u 0,.u 0]) (vs:=[V.i C,.i p,.u r,.u v]) Y rfl;have W:=(aH.Ts t 4 [.i 0,.i 0,.u 0,.u 0] [V.i C,.i p,.u r,.u v]).ext;have L4:=To.Ts t 4 [.i 0,.i 0,.u 0,.u 0] [V.i C,.i p,.u r,.u v] rfl;have D:=d.ext wt W;have S:=T.ext wt W;have n4:(t.Ts 4 [.i 0,.i 0,.u 0,.u 0] [V.i C,.i p,.u r,.u v]).next=t.next+1:=rfl;generalize t.Ts 4 [.i 0,.i 0,.u 0,.u 0] [V.i C,.i p,.u r,.u v]=s4 at O w4 W L4 D S n4;have gn:=g.next;have G:=d.bC rfl (Q:4<6);rw[ac,Z]at G;have dI:(0:Int)≤(i:Int)∧(i:Int)<(L.length:Int):=Q;by_cases cn:(C:Int)=b
   .have aC:=mB (z:=2) (k:=.i64) hq I;have aJ:=mB (z:=4) (k:=.i64) am (Q:i≤L.length);obtain⟨s5,ap,L5,w5,p5⟩:=D.set rfl w4 (j:=1) (x:=.slice q p e) Q rfl;simp only[Yp,Yq]at L5;obtain⟨s6,ar,L6,w6,p6⟩:=L5.set rfl w5 (j:=2) (x:=.u r) Q rfl;simp only[Yp,Yq]at L6;obtain⟨s7,ax,L7,w7,p7⟩:=L6.set rfl w6 (j:=3) (x:=.u v) Q rfl;simp only[Yp,Yq]at L7;obtain⟨s8,ay,L8,w8,p8⟩:=L7.set rfl w7 (j:=4) (x:=.slice l i f) Q rfl;simp only[Yp,Yq]at L8;have af:=(((S.put p5 Q).put p6 Q).put p7 Q).put p8 Q;obtain⟨s9,K,L9,w9,p9⟩:=af.store w8 (off:=0) (vs:=[V.u c,.slice q p e,.u r,.u v,.slice l i f,.i md]) Y (XU rfl rfl);have k9:s9.load (σ.next+1) 0 6=some [V.u c,.slice q p e,.u r,.u v,.slice l i f,.i md]:=by rw[L9.load (off:=0) (k:=6) Q];rfl
    have R:=(L4.put p5 Q)
    have ad:=R.put p6 Q;have k8:=L8.lj rfl;simp (maxSteps:=9^9) (disch:=omega) only[go_sem,t1,t2,t4,t6,G,d.bC rfl,A,O,L4.bC rfl,D.bC rfl,aC,ap,R.bC rfl,ar,ad.bC rfl,ax,L7.bC rfl,aJ,ay,k8,K,k9];refine⟨.inl ⟨i,ci,by rw[hM];exact cn,fun j F=>ao j Q F,by rw[hM]⟩,p9.ext (p8.ext (p7.ext (p6.ext (p5.ext (e1.trans (g.trans W)) Q) Q) Q) Q) Q⟩
   simp (maxSteps:=9^9) (disch:=omega) only[go_sem,t1,t2,t4,t6,G,d.bC rfl,A,O,L4.bC rfl];refine⟨n-1,Q,w4,g.trans W,i+1,Q,rfl,fun j h F=>?_⟩;rcases ZM.1 F with F|rfl
   .exact J j h F
   rw[hM];exact cn
  have k6:=d.lj rfl;obtain⟨s9,K,L9,w9,p9⟩:=T.store wt (off:=0) (vs:=[V.u c,.slice q N e,.u tk,.u us,.slice l L.length f,.i md]) Y (XU rfl rfl);have k9:s9.load (σ.next+1) 0 6=some [V.u c,.slice q N e,.u tk,.u us,.slice l L.length f,.i md]:=by rw[L9.load (off:=0) (k:=6) Q];rfl
  simp (maxSteps:=9^9) (disch:=omega) only[go_sem,t1,t2,t4,t6,d.bC rfl,k6,K,k9];refine⟨.inr fun m hm=>?_,p9.ext (e1.trans g) Q⟩;obtain⟨j,F,rfl⟩:=Zn hm;exact J j F Q
 simp (maxSteps:=9^9) (disch:=omega) only[go_sem];exact⟨w3,TP.refl _,0,Q,rfl,fun j _ h=>absurd h Q⟩
def gS(G:List (Nat×Nat))(x:Hd):Bool:=!(G.any fun g=>decide (g.1=x.p))
def BQ{a:Type}{l:List a}{f:a->Bool}{i:Nat}(hi:i<l.length):(l.take (i+1)).filter f=(l.take i).filter f++if f l[i]=true then [l[i]]else []:=by rw[X1 hi,abh];by_cases c:f l[i]=true <;> simp[c]
def za{b l k r:Nat}{L:List Hd}{G:List (Nat×Nat)}{v gv:V}(w:GW σ)(hL:VF σ L v)(hG:U6 σ G gv)(Ue:L.length≤1000000)(ax:G.length<9000000000000000000):
  au G0 [] 129 [Vn b l k r v,gv] σ fun y s=>(∃x,y=Vn b l k r x∧Nl σ s 3 (L.filter (gS G)).length (fl j6 (L.filter (gS G))) x)∧TP σ s:=by
 refine ai g129 rfl ?_;obtain⟨qg,eg,T⟩:=hG.is;obtain⟨q,e,hv⟩:=hL.is;obtain⟨R,h⟩:∃vl:List V,vl=[.u b,.i l,.i k,.i r,v]:=⟨_,rfl⟩;obtain⟨nv,a⟩:∃vl:List V,vl=[.u b,.i l,.i k,.i r,.acJ]:=⟨_,rfl⟩;obtain⟨M,d⟩:=acH (((σ.ag R).new (.acM 5 Un .nil)).Ts 5 Un nv);have ao:nv.all V.Tr=true:=by rw[a];rfl
 have w1:GW M:=by rw[d];exact((w.new _ rfl).new _ rfl).Ts (by rw[a];simp) ao
 have e1:TP σ M:=by rw[d];exact(Gr.g).ext
 have n1:M.next=σ.next+3:=by rw[d];rfl
 have L4:To M (σ.next+1) 5 (Tn Un):=by
  rw[d];refine To.Ui ?_ ((w.new _ rfl).new _ rfl) (aH.Ts _ _ _ _);refine(To.fx (σ.ag R) Un 5 (.inl Y)).congr (Tx _) fun i hi=>?_
  rw[show Un.length=5 from rfl,WR hi];rfl
 have L5:To M (σ.next+2) 5 (Tn nv):=by rw[d];exact To.Ts _ 5 Un nv (by rw[a];rfl)
 have X:To M σ.next 5 (Tn R):=by rw[d];have L:=To.cg σ R;rw[show R.length=5 by rw[h];rfl]at L;exact(L.Ui (w.new _ rfl) (aH.new _ _)).Ui ((w.new _ rfl).new _ rfl) (aH.Ts _ _ _ _)
 have k3:(σ.ag R).load σ.next 0 3=some [.u b,.i l,.i k]:=
  iP (n:=3) (fun j hj=>by rw[Vk,br (m:=σ.next) rfl,h];rcases(by omega:j=0∨j=1∨j=2)with rfl|rfl|rfl <;> rfl) rfl Q
 have f1:bZ Un [(0,3,V.agg [.u b,.i l,.i k]),(3,1,V.i r),(4,1,V.acJ)]=some nv:=by rw[a];rfl
 have am:=a▸f1;have J:=d;rw[h]at k3;rw[h,a]at J;simp (disch:=omega) only[go_sem,k3,aG,am,ZF,<- J];refine bW (fun n fr t=>fr.defers=[]∧fr.tmps.get 1=some gv∧fr.tmps.get 2=some (.acK σ.next 0)∧fr.tmps.get 4=some (.acK (σ.next+1) 0)∧fr.tmps.get 5=some (.acK (σ.next+2) 0)∧
  GW t∧TP σ t∧M.next≤t.next∧To t σ.next 5 (Tn R)∧To t (σ.next+1) 5 (Tn Un)∧
  ∃i x,i+n=L.length∧fr.tmps.get 6=some (.i (i:Nat))∧To t (σ.next+2) 5 (Tn [.u b,.i l,.i k,.i r,x])∧Nl M t 3 ((L.take i).filter (gS G)).length (fl j6 ((L.take i).filter (gS G))) x) ?_ L.length ?_
 .rintro n ⟨tm,ds⟩ t ⟨hd,A,B,C,D,wt,g,ac,X,P,i,x,hi,E,F,N⟩;simp only at hd A B C D E;subst hd;have k4:t.cell σ.next 4=some v:=by rw[X.bC (by rw[h];rfl) Q,h];rfl
  have c5:t.cell (σ.next+2) 4=some x:=by rw[F.bC rfl Q];rfl
  by_cases c:i<L.length
  .obtain⟨bb,o,av,ay,c1,c2,ar,aC⟩:=hL.at c;have I:t.cell σ.next 4=some (.acL bb o L.length 3):=by rw[k4,av]
   have Z:=abn (gS G) (L.take i);rw[Va]at Z;have z:=BQ (f:=gS G) c;simp (disch:=omega) only[go_sem,A,B,C,D,E,I];refine bW (fun m fr t'=>t'=t∧fr.defers=[]∧fr.tmps.get 1=some gv∧fr.tmps.get 2=some (.acK σ.next 0)∧fr.tmps.get 4=some (.acK (σ.next+1) 0)∧fr.tmps.get 5=some (.acK (σ.next+2) 0)∧fr.tmps.get 6=some (.i (i:Nat))∧
    ∃j,j+m=G.length∧fr.tmps.get 8=some (.i (j:Nat))∧fr.tmps.get 7=some (.bool (gS (G.take j) L[i]))) ?_ G.length ?_
   .rintro m ⟨tm,ds⟩ t' ⟨rfl,hd,A,B,C,D,E,j,hj,t8,O⟩;simp only at hd A B C D E O t8;subst hd;by_cases cj:j<G.length
    .obtain⟨gb,go,S,aB,d1,d2,aJ⟩:=hG.at cj;rw[S]at A;have hk:gS (G.take (j+1)) L[i]=(gS (G.take j) L[i] && !decide (G[j].1=L[i].p)):=by unfold gS;rw[aca cj,Bool.not_or]
     by_cases ce:G[j].1=L[i].p
     .rw[UR ce,XZ,Bool.and_false]at hk;simp (disch:=omega) only[go_sem,A,B,C,D,E,O,t8,I,g.cell,c1,d1];exact⟨m-1,Q,Uj some S.symm,j+1,Q,rfl,by rw[hk]⟩
     rw[UK ce,Z0,Bool.and_true]at hk;simp (disch:=omega) only[go_sem,A,B,C,D,E,O,t8,I,g.cell,c1,d1];exact⟨m-1,Q,Uj some S.symm,j+1,Q,rfl,by rw[hk]⟩
    rw[VZ Q]at O;rw[T]at A;cases H:gS G L[i]with
    |false=>
     rw[H]at O;rw[H,Tg (by decide),Wr]at z;simp (disch:=omega) only[go_sem,A,B,C,D,E,O,t8];exact⟨n-1,Q,Uj some T.symm,wt,g,ac,X,P,i+1,x,Q,rfl,F,by rw[z];exact N⟩
    |true=>
     rw[H]at O;rw[H,Ti rfl]at z;obtain⟨v',s',ha,N',g',w',aL,hC⟩:=N.O4 (σ:=σ) (y:=40) (x:=[.u L[i].p,.u L[i].s,.slice L[i].q L[i].n L[i].e]) Q ac g w wt Q rfl rfl (by unfold aq;omega) (by unfold aq;omega);have hN:fl j6 ((L.take i).filter (gS G))++[.u L[i].p,.u L[i].s,.slice L[i].q L[i].n L[i].e]=fl j6 ((L.take (i+1)).filter (gS G)):=by rw[z];unfold fl;rw[Yo];rfl
     rw[hN,show((L.take i).filter (gS G)).length+1=((L.take (i+1)).filter (gS G)).length by rw[z,UN];rfl]at N';have W:=hC _ _ _ F Q;obtain⟨s3,U,af,w3,K⟩:=W.set rfl w' (j:=4) (x:=v') Q N'.Tr;have f2:bZ (bL [V.u 0,.u 0,.acJ] 1) [(0,3,V.agg [.u L[i].p,.u L[i].s,.slice L[i].q L[i].n L[i].e])]=some [.u L[i].p,.u L[i].s,.slice L[i].q L[i].n L[i].e]:=rfl;have al:s'.cell (σ.next+2) 4=some x:=by rw[W.bC rfl Q];rfl
     have gl:=g.next;have ap:v'.cells=[v']:=N'.cells;simp (disch:=omega) only[go_sem,A,B,C,D,E,O,t8,I,c5,g.load,ar,aG,f2,ha,U,ap,al,bq];exact⟨n-1,Q,Uj some T.symm,w3,K.ext g' Q,by rw[K.next];omega,(hC _ _ _ X Q).put K Q,(hC _ _ _ P Q).put K Q,i+1,v',Q,rfl,af,N'.put K Q⟩
   simp (disch:=omega) only[go_sem,A,B,C,D,E];exact⟨0,Q,rfl,rfl⟩
  rw[hv]at k4;have ah:=F.lj rfl;obtain⟨s3,U,ad,w3,K⟩:=P.store wt (off:=0) (vs:=[.u b,.i l,.i k,.i r,x]) Y N.Tr;have k5:s3.load (σ.next+1) 0 5=some [.u b,.i l,.i k,.i r,x]:=by rw[ad.load (off:=0) (k:=5) Q];rfl
  simp (disch:=omega) only[go_sem,B,C,D,E,k4,ah,U,k5];obtain rfl:i=L.length:=Q;rw[VZ Q]at N;exact⟨⟨x,rfl,(N.put K Q).Tj e1⟩,K.ext g Q⟩
 simp (disch:=omega) only[go_sem];exact⟨w1,e1,X,L4,0,_,Q,rfl,by rw[<- a];exact L5,Nl.nil⟩
def vy(b k n:Nat)(L:List Hd):Prop:=∀x∈L,Vg x.p x.s (b+n*(4096*2^k),4096*2^k)=false
def Mn{b l k r:Nat}{L:List Hd}{v:V}(w:GW σ)(hm:dV b l k)(hr:r≤l)(hL:VF σ L v)(Ue:L.length≤1000000)(Y:Low (L.map Hd.U3)):
  au G0 [] 130 [Vn b l k r v] σ fun y s=>(∃n,y=.i (n:Nat)∧n≤r∧(∀i,i<n->vy b k (r-1-i) L)∧(n<r->¬vy b k (r-1-n) L))∧aH σ s:=by
 refine ai g130 rfl ?_;obtain⟨q,e,hv⟩:=hL.is;have c:=kZ hm;have hk:=c.k8;obtain⟨z1,z2⟩:=IZ hm hr;have rk:=fun σ=>ZW (σ:=σ) (b:=b) (l:=l) hk
 have ad:=c.Uv;have ap:r*(4096*2^k)≤l*(4096*2^k):=UG _ hr;obtain⟨R,hR⟩:=acH (4096*2^k);unfold vy;rw[<- hR]at rk z1 ap ad⊢;obtain⟨s1,I⟩:=acH (σ.ag [.u b,.i l,.i k,.i r,v]);have w1:GW s1:=by rw[I];exact w.new _ rfl
 have J:aH σ s1:=by rw[I];exact aH.new _ _
 have Lb:To s1 σ.next 5 (Tn [.u b,.i l,.i k,.i r,v]):=by rw[I];exact To.cg σ _
 simp (disch:=omega) only[go_sem,<- I];refine bW (fun n fr t=>fr.defers=[]∧fr.tmps.get 1=some (.acK σ.next 0)∧aH s1 t∧GW t∧∃i,i+n=r∧fr.tmps.get 3=some (.i (i:Nat))∧∀j,j<i->∀x∈L,Vg x.p x.s (b+(r-1-j)*R,R)=false) ?_ r ?_
 .rintro n ⟨tm,ds⟩ t ⟨hd,E,g,wt,i,hi,F,G⟩;simp only at hd E F;subst hd;have D:=Lb.ext w1 g.ext;by_cases ci:i<r
  .have e1:IntKind.u64.wrap (((r-i-1:Nat):Int)*(R:Int))=(((r-i-1)*R:Nat):Int):=gV (by
    have:(r-i-1)*R≤r*R:=UG _ Q;omega)
   have am:(r-i-1)*R+R≤r*R:=by rw[<- WS];exact UG _ Q
   obtain⟨T,hT⟩:=acH ((r-i-1)*R);rw[<- hT]at e1 am;simp (disch:=omega) only[go_sem,E,F,D.bC rfl,D.bN rfl];refine((rk _).gw wt).mono ?_;rintro _ t2 ⟨⟨rfl,O⟩,w2⟩;have M:=D.ext wt O.ext;simp (disch:=omega) only[go_sem,E,F,D.bC rfl,D.bN rfl,M.bC rfl,M.bN rfl,e1];refine bW (fun m fr t=>fr.defers=[]∧fr.tmps.get 1=some (.acK σ.next 0)∧fr.tmps.get 3=some (.i (i:Nat))∧fr.tmps.get 4=some (.u (b+T:Nat))∧aH t2 t∧GW t∧∃j,j+m=L.length∧fr.tmps.get 5=some (.i (j:Nat))∧∀y, ∀h:y<L.length,y<j->Vg L[y].p L[y].s (b+T,R)=false) ?_ L.length ?_
   .rintro m ⟨tm,ds⟩ t' ⟨hd,E,F,S,N,P,j,hj,U,ac⟩;simp only at hd E F S U;subst hd;have W:=M.ext w2 N.ext;by_cases cj:j<L.length
    .obtain⟨bb,o,ar,ah,d1,d2,ay,al⟩:=hL.at cj;have ao:=Y _ (Xs (Wm cj));have f:=W;rw[ar]at f;have B:t'.load bb (o+j*3) 2=some [.u L[j].p,.u L[j].s]:=by rw[N.load (m:=t2.next) (by have:=O.next;have:=g.next;have:=J.next;omega),O.load (m:=t.next) (by have:=g.next;have:=J.next;omega),g.load (m:=s1.next) (by have:=J.next;omega),J.load (m:=σ.next) ah];exact al
     have ax:L[j].p+L[j].s≤9223372036854775808:=ao;simp (disch:=omega) only[go_sem,E,F,S,U,f.bC rfl,f.bN rfl,B];refine((rk _).gw P).mono ?_;rintro _ af ⟨⟨rfl,X⟩,w3⟩;have A:=f.ext P X.ext;have f1:bZ VA [(0,1,V.u (b+T:Nat)),(1,1,V.u R)]=some [.u (b+T:Nat),.u R]:=rfl;have C:af.load bb (o+j*3) 2=some [.u L[j].p,.u L[j].s]:=by rw[X.load (m:=t'.next) (by have:=N.next;have:=O.next;have:=g.next;have:=J.next;omega)];exact B
     simp (disch:=omega) only[go_sem,E,F,S,U,A.bC rfl,A.bN rfl,C,aG,f1];refine((Bq (a:=L[j].p) (b:=L[j].s) (c:=b+T) (d:=R) Q Q).gw w3).mono ?_;rintro _ av ⟨⟨rfl,g4⟩,w4⟩;have H:=A.ext w3 g4.ext;have K:av.load bb (o+j*3) 2=some [.u L[j].p,.u L[j].s]:=by rw[g4.load (m:=af.next) (by have:=X.next;have:=N.next;have:=O.next;have:=g.next;have:=J.next;omega)];exact C
     rw[oY (b:=(b+T,R))];cases Z:Vg L[j].p L[j].s (b+T,R)with
     |true=>
      simp (disch:=omega) only[go_sem,E,F,S,U,f.bC rfl,f.bN rfl,A.bC rfl,A.bN rfl,H.bC rfl,H.bN rfl,B,C,K];refine⟨⟨i,rfl,Q,G,fun _ h=>?_⟩,J.trans (g.trans (O.trans (N.trans (X.trans g4))))⟩;have:=h _ (Wm cj);rw[(Q:r-1-i=r-i-1), <- hT,Z]at this;cases this
     |false=>
      simp (disch:=omega) only[go_sem,E,F,S,U,f.bC rfl,f.bN rfl,A.bC rfl,A.bN rfl,H.bC rfl,H.bN rfl,B,C,K];refine⟨m-1,Q,N.trans (X.trans g4),w4,j+1,Q,rfl,fun y h hy=>?_⟩;rcases ZM.1 hy with hy|rfl
      .exact ac y h hy
      exact Z
    have f:=W;rw[hv]at f;simp (disch:=omega) only[go_sem,E,F,S,U,f.bC rfl];refine⟨n-1,Q,g.trans (O.trans N),P,i+1,Q,rfl,fun y hy x hx=>?_⟩;rcases ZM.1 hy with hy|rfl
    .exact G y hy x hx
    obtain⟨z,hz,rfl⟩:=Zn hx;rw[(Q:r-1-y=r-y-1), <- hT];exact ac z hz Q
   simp (disch:=omega) only[go_sem,E,F];exact⟨aH.refl _,w2,0,Q,rfl,fun y _ h=>absurd h Q⟩
  simp (disch:=omega) only[go_sem,E,F,D.bC rfl];exact⟨⟨i,rfl,Q,G,fun h=>absurd h Q⟩,J.trans g⟩
 simp (disch:=omega) only[go_sem];exact⟨aH.refl _,w1,0,Q,rfl,fun y h=>absurd h Q⟩
end
section
variable {σ σ' s:St}
def Nm{ι:Type}(has:ι->Prop)(A:ι->Nat)(id:Nat):Prop:=id=dE∨∃i,has i∧A i=id
structure T5 (σ s:St) (W W':Nat -> Prop):Prop where
 next:σ.next≤s.next
 Wo:∀ {id:Nat} {o:AM.Obj},σ.Tq.get id=some o -> o.Ty=true -> o.TG=0 -> ¬ W id -> s.Tq.get id=some o
 Xp:∀ {id:Nat} {o:AM.Obj},σ.Tq.get id=some o -> o.Ty=true -> o.TG=0 -> ¬ W id -> ¬ W' id
def T5.Yl{W a:Nat->Prop}{id n:Nat}{f:Nat->V}(h:T5 σ s W a)(L:To σ id n f)(hn:¬W id):To s id n f:=by obtain⟨m,z,t,c,d,b⟩:=L;exact⟨m,z,t,c,h.Wo d rfl rfl hn,b⟩
def T5.nm{W a:Nat->Prop}{id n:Nat}{f:Nat->V}(h:T5 σ s W a)(L:To σ id n f)(hn:¬W id):¬a id:=by obtain⟨m,z,t,d,b,c⟩:=L;exact h.Xp b rfl rfl hn
def T5.trans{W d e:Nat->Prop}{s2:St}(h:T5 σ s W d)(k:T5 s s2 d e):T5 σ s2 W e:=
 ⟨V4 h.next k.next,fun a b c hw=>k.Wo (h.Wo a b c hw) b c (h.Xp a b c hw),fun a b c hw=>k.Xp (h.Wo a b c hw) b c (h.Xp a b c hw)⟩
def T5.put{W d:Nat->Prop}{s2:St}{id:Nat}(h:T5 σ s W d)(p:VL id s s2)(Vp:σ.next≤id)(w:GW σ):T5 σ s2 W d:=
 ⟨by rw[p.next];exact h.next,fun a b c hn=>by rw[p.TE _ (by have:=w.UL a;omega)];exact h.Wo a b c hn,h.Xp⟩
def T5.ext{W:Nat->Prop}(e:TP σ s)(w:GW σ):T5 σ s W W:=⟨e.next,fun a _ _ _=>by rw[e.TE _ (w.UL a)];exact a,fun _ _ _ h=>h⟩
def T5.Ym{W d f:Nat->Prop}(h:T5 σ s W d)(k:∀{id},f id->d id∨σ.next≤id)(w:GW σ):T5 σ s W f:=
 ⟨h.next,h.Wo,fun a b c hn g=>by rcases k g with e|e;exact h.Xp a b c hn e;have:=w.UL a;omega⟩
section
variable {ι κ:Type} {has0:ι -> Prop} {A0:ι -> Nat} {c0:ι -> cA} {hasK:κ -> Prop} {AK:κ -> Nat} {cK:κ -> cA} {has:ι -> Prop} {A:ι -> Nat} {c:ι -> cA}
def Wd.eh(h:Wd σ has A c){id:Nat}(Vp:σ.next≤id):¬Nm has A id:=by
 rintro(rfl|⟨i,hi,rfl⟩)
 .have:=h.Ub.lt h.gw;omega
 have:=h.lt hi;omega
def Wd.wI(h:Wd σ has A c){id:Nat}(p:VL id σ s)(w:GW s)(hn:¬Nm has A id):Wd s has A c where
 gw:=w
 Ub:=h.Ub.fQ (p.TE _ fun e=>hn (.inl e.symm))
 V2:=h.V2
 inj:=h.inj
 Ur i hi:=(h.Ur i hi).Vl (p.TE _ fun e=>hn (.inr ⟨i,hi,e⟩))
 cut i j o hi hj hne ho hg:=by rw[p.TE _ fun e=>hn (.inr ⟨i,hi,e⟩)]at ho;have:=h.cut i j o hi hj hne ho hg;unfold St.row at this⊢;rw[p.TX];exact this
def Wd.gQ{g:FuncId}{xs:List V}{P:V->(ι->Prop)->(ι->Nat)->(ι->cA)->Prop}(h:Wd σ (Sum.elim has0 hasK) (Sum.elim A0 AK) (Sum.elim c0 cK))(f:∀σ,Wd σ has0 A0 c0->au G0 [] g xs σ fun v σ'=>∃a A' b,Wd σ' a A' b∧P v a A' b):
  au G0 [] g xs σ fun v σ'=>∃a A' b,Wd σ' (Sum.elim a hasK) (Sum.elim A' AK) (Sum.elim b cK)∧P v a A' b∧T5 σ σ' (Nm (Sum.elim has0 hasK) (Sum.elim A0 AK)) (Nm (Sum.elim a hasK) (Sum.elim A' AK)):=by
 refine(Wd.OW (Γ:=G0) (Γ':=G0) (M:=[]) (fun _ _ h=>h) (fun _ h=>nomatch h) h f).mono ?_;rintro v s ⟨a,A',b,W,x,r,Ur,d⟩;refine⟨a,A',b,W,x,r,fun {id o} c p hg hn=>?_,fun {id o} c p hg hn t=>?_⟩
 .rw[Ur id (h.gw.UL c)]
  .exact c
  rintro(rfl|⟨i,hi,rfl|⟨z,q,l,m,n,u,w⟩⟩)
  .exact hn (.inl rfl)
  .exact hn (.inr ⟨.inl i,hi,rfl⟩)
  have:=h.gw.TG _ _ _ n c p;omega
 rcases t with rfl|⟨i|k,hi,rfl⟩
 .exact hn (.inl rfl)
 .rcases d (A' i) (.inr ⟨i,hi,.inl rfl⟩)with e|e
  .rcases e with e|⟨j,y,e|⟨z,q,l,m,n,u,w⟩⟩
   .exact hn (.inl e)
   .exact hn (.inr ⟨.inl j,y,e.symm⟩)
   have:=h.gw.TG _ _ _ n c p;omega
  have l:=h.gw.UL c;have m:(Sum.elim A' AK) (Sum.inl i)=A' i:=rfl;rw[m]at l;omega
 exact hn (.inr ⟨.inr k,hi,rfl⟩)
def Nm.map{b c:Type}{has:b->Prop}{A:b->Nat}{a:c->Prop}{A':c->Nat}(e:∀k,a k->∃i,has i∧A i=A' k){id:Nat}(h:¬Nm has A id):¬Nm a A' id:=by
 rintro(rfl|⟨k,d,rfl⟩)
 .exact h (.inl rfl)
 obtain⟨i,hi,e⟩:=e k d;exact h (.inr ⟨i,hi,e⟩)
end
section
variable {κ:Type} {hasK:κ -> Prop} {AK:κ -> Nat} {cK:κ -> cA} {A:Tu -> Nat} {B:AI -> Nat} {H H':aa} {S S':AS}
def Uo.hc(h:Uo σ A H B S hasK AK cK):HC σ A H (Sum.elim S.has hasK) (Sum.elim B AK) (Sum.elim (S.X5 (A .heap) B) cK):=by
 refine Wd.sub h (fun k=>match k with| .inl x=>.inl (.inl x)| .inr (.inl x)=>.inl (.inr x)| .inr (.inr k)=>.inr k) ?_ ?_ ?_ ?_
 .rintro(x|x|x) a <;> exact a
 .rintro(x|x|x) (y|y|y) _ _ e <;> simp_all
 .rintro(x|x|x) a <;> rfl
 rintro(x|x|x) a <;> exact .inl rfl
def HC.X4{A':Tu->Nat}(h:HC s A' H' (Sum.elim S.has hasK) (Sum.elim B AK) (Sum.elim (S.X5 (A .heap) B) cK))(e:A' .heap=A .heap):Uo s A' H' B S hasK AK cK:=by
 rw[<- e]at h;refine Wd.sub h (fun k=>match k with| .inl (.inl x)=>.inl x| .inl (.inr x)=>.inr (.inl x)| .inr k=>.inr (.inr k)) ?_ ?_ ?_ ?_
 .rintro((x|x)|x) hk <;> exact hk
 .rintro((x|x)|x) ((y|y)|y) _ _ e <;> simp_all
 .rintro((x|x)|x) hk <;> rfl
 rintro((x|x)|x) hk <;> exact .inl rfl
abbrev VB(H:aa)(A:Tu->Nat)(S:AS)(B:AI->Nat)(hasK:κ->Prop)(AK:κ->Nat):Nat->Prop:=Nm (Sum.elim (Sum.elim H.has S.has) hasK) (Sum.elim (Sum.elim A B) AK)
abbrev Vu(H:aa)(A:Tu->Nat)(hasK:κ->Prop)(AK:κ->Nat):Nat->Prop:=Nm (Sum.elim H.has hasK) (Sum.elim A AK)
def Cp{id:Nat}:¬VB H A S B hasK AK id↔¬Vu H A (Sum.elim S.has hasK) (Sum.elim B AK) id:=by
 constructor
 .exact Nm.map (by rintro(x|x|x) a;exact⟨.inl (.inl x),a,rfl⟩;exact⟨.inl (.inr x),a,rfl⟩;exact⟨.inr x,a,rfl⟩)
 exact Nm.map (by rintro((x|x)|x) a;exact⟨.inl x,a,rfl⟩;exact⟨.inr (.inl x),a,rfl⟩;exact⟨.inr (.inr x),a,rfl⟩)
def T5.ah{A':Tu->Nat}(h:T5 σ s (Vu H A (Sum.elim S.has hasK) (Sum.elim B AK)) (Vu H' A' (Sum.elim S.has hasK) (Sum.elim B AK))):T5 σ s (VB H A S B hasK AK) (VB H' A' S B hasK AK):=
 ⟨h.next,fun a b c hw=>h.Wo a b c (Cp.1 hw),fun a b c hw=>Cp.2 (h.Xp a b c (Cp.1 hw))⟩
def HC.gQ{g:FuncId}{xs:List V}{P:V->(Tu->Nat)->Prop}(h:HC σ A H hasK AK cK)(b:∀σ,aw σ A H->au G0 [] g xs σ fun v σ'=>∃A',aw σ' A' H'∧P v A'):
  au G0 [] g xs σ fun v σ'=>∃A',HC σ' A' H' hasK AK cK∧P v A'∧T5 σ σ' (Vu H A hasK AK) (Vu H' A' hasK AK):=by
 refine(Wd.gQ (P:=fun v a A' d=>a=H'.has∧d=fW H' A'∧P v A') h fun s w=>(b s (jl w)).mono ?_).mono ?_
 .rintro v e ⟨A',R,c⟩;exact⟨_,_,_,lu R,rfl,rfl,c⟩
 rintro v e ⟨a,A',d,w,⟨rfl,rfl,c⟩,k⟩;exact⟨A',w,c,k⟩
def Uo.gQ{g:FuncId}{xs:List V}{P:V->(Tu->Nat)->(AI->Nat)->Prop}(h:Uo σ A H B S hasK AK cK)(d:∀σ,AR σ A H B S->au G0 [] g xs σ fun v σ'=>∃A' B',AR σ' A' H' B' S'∧P v A' B'):
  au G0 [] g xs σ fun v σ'=>∃A' B',Uo σ' A' H' B' S' hasK AK cK∧P v A' B'∧T5 σ σ' (VB H A S B hasK AK) (VB H' A' S' B' hasK AK):=by
 refine(Wd.gQ (P:=fun v c A' f=>∃a b,c=Sum.elim H'.has S'.has∧A'=Sum.elim a b∧f=Sum.elim (fW H' a) (S'.X5 (a .heap) b)∧P v a b) h fun s w=>(d s w).mono ?_).mono ?_
 .rintro v i ⟨A',B',R,e⟩;exact⟨_,_,_,R,A',B',rfl,rfl,rfl,e⟩
 rintro v i ⟨c,A',f,w,⟨a,b,rfl,rfl,rfl,e⟩,k⟩;exact⟨a,b,w,e,k⟩
end
end
section
variable {σ s:St} {H:aa} {fl pl fc:Nat -> List Nat} {H':aa}
def Hl(e:Nat):cQ (2^e)=true:=by unfold cQ;rw[ab6,Nat.mod_self,UR (Nat.pos_iff_ne_zero.1 (Yg e))];rfl
def Tv.Cn(h:Tv H fl pl fc (fun _=>False)){a s:Nat}(b:aV H a s):∃e,s=2^e:=by
 obtain⟨x,hx,b⟩:=b;rcases b with⟨_,k,_,_,rfl⟩|⟨_,c,q,_,_,_,_,rfl⟩
 .exact⟨12+k,by rw[X3]⟩
 exact⟨4+c,by rw[X3]⟩
def uL(H:aa):H.Tl*(4096*2^H.Th)=4096*H.np:=by show _=4096*(H.Tl*2^H.Th);rw[aby]
def Tv.Iv(h:Tv H fl pl fc (fun _=>False)){a s:Nat}(b:aV H a s):OfP H.Tj H.Th H.Tl (a,s):=by
 obtain⟨e,rfl⟩:=h.Cn b;obtain⟨f,k,g⟩:=h.b8 b;obtain⟨i,d⟩:=h.vR b;have j:2^e∣H.Tj:=WE d (WQ h.ok.fU);have c:0<H.Tp:=by unfold aa.Tp;have:=Yg H.Th;omega
 refine⟨Hl e,g,Nat.le_of_dvd c d,?_,f,?_⟩
 .have:=ZL i j;rw[abB f]at this;exact Yc this
 rw[uL];have:16≤2^e:=g;show a-H.Tj<_;omega
def CJ{a s b t:Nat}(h:a+s≤b∨b+t≤a):Vg a s (b,t)=false:=by
 unfold Vg;rcases h with h|h
 .rw[UK (Q:¬(b<a+s)),Bool.and_false]
 rw[UK (Q:¬(a<b+t)),Zk]
def Tv.snd(h:Tv H fl pl fc (fun _=>False)){L:List (Nat×Nat)}(l:∀a s,(a,s)∈L->aV H a s)(nd:(L.map (·.1)).Nodup):Yt H.Tj H.Th H.Tl L:=by
 refine⟨fun x hx=>h.Iv (l x.1 x.2 hx),fun x hx=>?_,fun i j hi w=>?_⟩
 .have:=h.b8 (l x.1 x.2 hx);have:=mS h.ok;omega
 have d:L[i].1≠L[j].1:=by have:=aaE.1 nd j i (by simp;omega) (by simp;omega) w;simp only[YX]at this;exact fun e=>this e.symm
 have l1:=l L[i].1 L[i].2 (Wm hi);have f:=l L[j].1 L[j].2 (Wm (Nat.lt_trans w hi));generalize L[i]=x at d l1;generalize L[j]=y at d f;obtain⟨a,s⟩:=x;obtain⟨b,t⟩:=y;simp only at d l1 f⊢;refine⟨CJ (h.Xv l1 f d),?_⟩;rintro⟨hs,ht,o,E⟩;obtain⟨x,hx,l1⟩:=l1;obtain⟨y,hy,f⟩:=f;rcases l1 with⟨_,k,_,_,rfl⟩|⟨G,c,q,K,F,_,ha,rfl⟩
 .have:=Yg k;omega
 rcases f with⟨_,k,_,_,rfl⟩|⟨p,A,z,D,n,_,r,rfl⟩
 .have:=Yg k;omega
 obtain⟨c0,sl⟩:=h.sl x hx (fun h=>h) G;have B:c0=c:=by have:=sl.TQ;omega
 subst B;obtain⟨c1,g⟩:=h.sl y hy (fun h=>h) p;have C:c1=A:=by have:=g.TQ;omega
 subst C;have I:=(w8 sl.c8).1;have J:=(w8 g.c8).1;have b1:q*(16*2^c0)<4096:=by rw[<- I,UF (16*2^c0)];exact aaP F (by have:=Yg c0;omega)
 have b2:z*(16*2^c1)<4096:=by rw[<- J,UF (16*2^c1)];exact aaP n (by have:=Yg c1;omega)
 unfold aa.Tk at ha r;have m:x=y:=by generalize q*(16*2^c0)=u at ha b1;generalize z*(16*2^c1)=v at r b2;omega
 subst m;have:c0=c1:=Q;subst this;exact o rfl
def ab9{L:List (Nat×Nat)}{f:Nat×Nat->Bool}:L.any f=true↔¬∀b∈L,f b=false:=by
 rw[aay];constructor
 .rintro⟨x,hx,c⟩ a;rw[a x hx]at c;cases c
 intro hn;refine Wq fun e=>hn fun b d=>?_
 cases c:f b with
 |false=>rfl
 |true=>exact(e ⟨b,d,c⟩).elim
def Tv.Kf(h:Tv H fl pl fc (fun _=>False))(d:V9 H){L:List (Nat×Nat)}(c:∀a s,(a,s)∈L↔aV H a s)(j:Nat):sC H.Tj (4096*2^j) (H.Tl*(4096*2^H.Th)) L↔¬∃u,fV H j u:=by
 have e:∀u,(u+1)*(4096*2^j)≤H.Tl*(4096*2^H.Th)↔(u+1)*2^j≤H.np:=fun u=>by rw[uL,aby];omega
 unfold sC;constructor
 .rintro hn ⟨u,hu⟩;obtain⟨f,g⟩:=(h.Ds d c).1 hu;exact ab9.1 (hn u ((e u).2 f)) g
 intro hn u hu;exact ab9.2 fun b=>hn ⟨u,(h.Ds d c).2 ⟨(e u).1 hu,b⟩⟩
def Tv.PT(h:Tv H fl pl fc (fun _=>False))(k:V9 H){L:List (Nat×Nat)}(g:∀a s,(a,s)∈L↔aV H a s)(nd:L.Nodup){c:Nat}(i:c<8):z8 H.Tj (H.Tl*(4096*2^H.Th)) (16*2^c) L↔¬lX H c:=by
 rw[h.IC k g nd i];unfold z8;constructor
 .rintro hn ⟨x,hx,⟨b,e,d,j⟩,hs⟩;refine hn x (by rw[uL];omega) ⟨aay.2 ⟨b,e,?_⟩,hs⟩;unfold rr;have f:Vg (H.Tj+4096*x) 4096 b=true:=d;rw[f,UR j];rfl
 rintro hn x hx ⟨ha,hs⟩;obtain⟨b,e,d⟩:=aay.1 ha;unfold rr at d;rw[Vs,Xg]at d;exact hn ⟨x,by rw[uL]at hx;omega,⟨b,e,d⟩,hs⟩
def Tv.Rt(h:Tv H fl pl fc (fun _=>False))(l:V9 H){L:List (Nat×Nat)}(k:∀a s,(a,s)∈L↔aV H a s)(nd:L.Nodup){e:Nat}(p:4≤e):jd H.Tj H.Th H.Tl (2^e) L↔¬Y2 H e:=by
 unfold jd Y2;by_cases c:e<12
 .have g:2^e<4096:=Y0 (n:=12) Q c;have j:2^e=16*2^(e-4):=by rw[show(16:Nat)=2^4 from rfl, <- X3];congr 1;omega
  rw[Ti c,aaO Q,show(4096:Nat)=4096*2^0 from rfl];have f:=h.Kf l k 0;have o:=h.PT l k nd (c:=e-4) Q;rw[<- j]at o;simp only[Nat.pow_zero,Um]at f⊢;rw[f];constructor
  .rintro⟨a,b⟩ (d|m)
   .exact o.1 (b g) d
   exact a m
  intro hn;exact⟨fun m=>hn (.inr m),fun _=>o.2 fun d=>hn (.inl d)⟩
 have g:4096≤2^e:=Vb (n:=2) (i:=12) Q Q;have j:2^e=4096*2^(e-12):=by rw[show(4096:Nat)=2^12 from rfl, <- X3];congr 1;omega
 rw[Tg c,ZN g];have f:=h.Kf l k (e-12);rw[<- j]at f;rw[f];exact⟨fun h=>h.1,fun h=>⟨h,fun d=>absurd d Q⟩⟩
theorem y8{l:Int}{e:Nat}:Y2 (H.aC l) e↔Y2 H e:=Iff.rfl
def Lh(H:aa)(l:Int):(H.aC l).Tl=H.Tl∧(H.aC l).TB=H.TB∧(H.aC l).Tp=H.Tp:=⟨rfl,rfl,rfl⟩
def Ff(H:aa)(w:Nat)(L:List (Nat×Nat))(d:Bool):Prop:=jd H.Tj H.Th H.Tl w L∧(H.TB≤H.Tl∨d=true)
def T3.Fs(g:T3 H){n a:Nat}(hn:n<18446744073709551616)(ha:a<18446744073709551616)(d:Bool){L:List (Nat×Nat)}(z:∀a s,(a,s)∈L↔aV H a s)(nd:L.Nodup)(hp:cQ a=true)(f:¬H.Tp<aE n a):
  (dg H n a d=(H,0,2)∧Ff H (aE n a) L d)∨
  ((dg H n a d).2.2=0∧jA H (dg H n a d).1 d (dg H n a d).2.1 (aE n a)∧¬Ff H (aE n a) L d∧
   (jd H.Tj H.Th H.Tl (aE n a) L->(dg H n a d).1.Tl=H.Tl+1)∧(¬jd H.Tj H.Th H.Tl (aE n a) L->(dg H n a d).1.Tl=H.Tl)):=by
 obtain⟨fl,pl,fc,h⟩:=g.UB;obtain⟨e,v,hw⟩:=iQ hn ha;have hi:=h.aC 1;obtain⟨w,E,y⟩:=Lh H 1;have k:¬(H.aC 1).Tp<2^e:=by rw[y, <- hw];exact f
 obtain⟨m,p⟩:=hi.I5 v k d;have i:=h.Rt g.V0 z nd v;rw[y8,w,E]at m;rw[y8,w]at p;have o:=(g.alloc hn ha d).1;have B:=h.ok.We;have c:dg H n a d=match ((H.aC 1).eD (2^e) d).2 with
   |some x=>(((H.aC 1).eD (2^e) d).1.aC 0,x,0)
   |none=>(((H.aC 1).eD (2^e) d).1.aC 0,0,2):=by
  unfold dg aa.df aa.held;rw[Tg (by rw[hp];decide),y,Tg f,hw];cases ((H.aC 1).eD (2^e) d).2 <;> rfl
 unfold Ff;rw[hw];cases u:((H.aC 1).eD (2^e) d).2 with
 |none=>
  rw[u]at m c;simp only at c;left;obtain⟨C,D⟩:=m.1 rfl;refine⟨?_,i.2 C,D.elim .inr fun h=>.inl Q⟩;generalize A:dg H n a d=r at o c;cases o with
  |Xx b=>rw[hp]at b;cases b
  |Yj _ b=>exact(f b).elim
  |Yi=>rfl
  |ok=>simp at c
 |some x=>
  rw[u]at m p c;simp only at c;right;have t:¬(¬Y2 H e∧(d=true∨H.Tl=H.TB)):=fun h=>nomatch m.2 h
  have l:(dg H n a d).1.Tl=((H.aC 1).eD (2^e) d).1.Tl:=by rw[c];rfl
  have j:jA H (dg H n a d).1 d (dg H n a d).2.1 (2^e):=by
   generalize A:dg H n a d=r at o c;cases o with
   |Xx b=>rw[hp]at b;cases b
   |Yj _ b=>exact(f b).elim
   |Yi=>simp at c
   |ok _ _ j=>rw[hw]at j;exact j
  refine⟨by rw[c],j,fun hs=>t ⟨i.1 hs.1,hs.2.elim (fun h=>.inr Q) .inl⟩,fun q=>?_,fun q=>?_⟩
  .rw[l];exact p.2 ⟨i.1 q,fun h=>nomatch h⟩
  rcases j.Tl with b|⟨_,_,b⟩
  .exact b
  rw[l]at b;exact(q (i.2 (p.1 b).1)).elim
def A9(ok:H.OK):dV H.Tj H.TB H.Th:=by
 have d:=ok.VI;have f:=ok.Yw;have g:=ok.Xo;have c:=ok.X7;have h:=ok.Wc;have a:=ok.fU;have b:=ok.XT;unfold aa.Tp at a b;refine⟨Q,Q,Q,Q,?_,Q,?_,?_⟩
 .rw[TZ];exact_mod_cast c
 .rw[TZ];exact_mod_cast a
 rw[TZ];have e:(4096*2^H.Th*(H.TB:Int))=((4096*2^H.Th*H.TB:Nat):Int):=by rw[Z2,Z2,Int.natCast_pow];rfl
 rw[e];generalize 4096*2^H.Th*H.TB=X at b⊢;omega
structure jV (H:aa) (L:List Hd):Prop where
 Ty:∀ a s,(a,s)∈L.map Hd.U3↔aV H a s
 nd:(L.map Hd.p).Nodup
def jV.Yy{L:List Hd}(h:jV H L):((L.map Hd.U3).map (·.1)).Nodup:=by rw[List.map_map];exact h.nd
def sN{l:List (Nat×Nat)}(h:(l.map (·.1)).Nodup):l.Nodup:=by have:=Z6.1 h;exact this.imp fun a e=>a (by rw[e])
def jV.Ue{L:List Hd}(h:jV H L)(g:T3 H):L.length≤262144:=by
 obtain⟨fl,pl,fc,hi⟩:=g.UB;have q:=ka hi.ok;have c:∀x∈L,16∣x.p-H.Tj∧H.Tj≤x.p∧x.p<H.Tj+4096*H.np:=fun x hx=>by
  have f:=(h.Ty x.p x.s).1 (Xs hx);obtain⟨A,D,B⟩:=hi.b8 f;obtain⟨e,o⟩:=hi.Cn f;have d:=(hi.vR f).1;refine⟨WE ?_ d,A,Q⟩;rw[o]at B⊢;have m:4≤e:=by
   refine Wq fun C=>?_
   have:2^e<2^4:=Y0 Q Q;omega
  exact XN 2 m
 have i:((L.map Hd.p).map fun p=>(p-H.Tj)/16).Nodup:=by refine Z6.2 (h.nd.imp_of_mem fun {a b} ha n j e=>j ?_);obtain⟨x,hx,rfl⟩:=V3.1 ha;obtain⟨y,hy,rfl⟩:=V3.1 n;obtain⟨⟨u,hu⟩,k,_⟩:=c x hx;obtain⟨⟨v,t⟩,l,_⟩:=c y hy;simp only[hu,t]at e;omega
 have:=oM 262144 0 _ i fun z w=>by obtain⟨p,r,rfl⟩:=V3.1 w;obtain⟨x,hx,rfl⟩:=V3.1 r;obtain⟨_,k,l⟩:=c x hx;omega
 simpa using this
def jA.bk{H':aa}{d:Bool}{p w:Nat}{L:List Hd}(h:jV H L)(g:T3 H)(c:jA H H' d p w)(hw:16≤w)(x:Hd)(hx:x.U3=(p,w)):jV H' (L++[x]):=by
 refine⟨fun a s=>?_,?_⟩
 .rw[WA,VJ,c.Ty,h.Ty];simp only[Xr,List.map_nil,VP,hx,TU]
 rw[WA];refine Xt.2 ⟨h.nd,Z7 ..,fun a ha b e=>?_⟩;rw[Xr,List.map_nil,VP]at e;subst e;obtain⟨y,hy,rfl⟩:=V3.1 ha;have f:=(h.Ty y.p y.s).1 (Xs hy);obtain⟨fl,pl,fc,hi⟩:=g.UB;have:=hi.b8 f;have:=c.new _ _ f;have i:x.p=p:=Uj Prod.fst hx;omega
def aai(r:aa×Nat×Nat)(w:Nat):Option (Nat×Nat×Nat):=if r.2.2=0 then some (r.1.Tl,r.2.1,w)else none
def Df{n a op P A B e:Nat}{L:List Hd}{v x:V}{d:Bool}{q:Option (Nat×Nat)}{k:Nat}{vs:List V}(hw:GW σ)(g:T3 H)(w:VF σ L v)(l:jV H L)(hn:n<18446744073709551616)(ha:a<18446744073709551616)(F:op≠2)(E:(dg H n a d).2.2=0->k=aE n a∧Ls σ 1 (aE n a) vs (.slice q (aE n a) e)∧vs.all V.Tr=true):
  au G0 [] 139 [Vn H.Tj H.TB H.Th H.Tl v,pJ op P A B d x,jx (dg H n a d).2.2 (dg H n a d).2.1 ((dg H n a d).1.Tl*H.Tp) (.slice q k e),.u n,.u a] σ
   fun y s=>JR σ s H.Tj H.TB H.Th H.Tl v L (aai (dg H n a d) (aE n a)) y∧TP σ s:=by
 obtain⟨fl,pl,fc,hi⟩:=g.UB;have z:=A9 hi.ok;have C:=hi.ok.We;have Ue:=l.Ue g;have j:=hi.snd (fun a s=>(l.Ty a s).1) l.Yy;obtain⟨p,J⟩:=g.alloc hn ha d;unfold aai;show au G0 [] _ [_,_,jx _ _ (_*(4096*2^H.Th)) _,_,_] σ _;cases i:cQ a with
 |false=>
  have f:dg H n a d=(H,0,1):=by
   generalize dg H n a d=r at p;cases p with
   |Xx=>rfl
   |Yj h=>rw[i]at h;cases h
   |Yi h=>rw[i]at h;cases h
   |ok h=>rw[i]at h;cases h
  rw[f];exact CI (L:=L) hw z C w.Tr hn ha (.inl ⟨i,rfl⟩)
 |true=>
  by_cases b:H.Tp<aE n a
  .have f:dg H n a d=(H,0,3):=by
    generalize dg H n a d=r at p;cases p with
    |Xx h=>rw[i]at h;cases h
    |Yj=>rfl
    |Yi _ h=>exact(h b).elim
    |ok _ h=>exact(h b).elim
   rw[f];exact CI (L:=L) hw z C w.Tr hn ha (.inr ⟨i,b,rfl⟩)
  rcases g.Fs hn ha d l.Ty (sN l.Yy) i b with⟨f,hs⟩|⟨f,t,hs,K,M⟩
  .rw[f];exact IM (L:=L) hw z C w Q j hn ha i b hs.1 hs.2
  obtain⟨rfl,N,O⟩:=E f;have D:=kC hn ha;have m:=jA.bk l g t D (Hd.mk (dg H n a d).2.1 (aE n a) none 0 0) rfl;obtain⟨I,R,G,o⟩:=J.UB;have c:=o.snd (fun a s=>(m.Ty a s).1) m.Yy;rw[t.Tj,t.Th,WA]at c;rw[Ti f,f];refine IT (L:=L) hw z C ?_ w Q j hn ha i b F hs K M c N O;have:=o.ok.We;rw[t.TB]at this;exact this
end
section
variable {σ σ' s:St}
section
variable {κ:Type} {hasK:κ -> Prop} {AK:κ -> Nat} {cK:κ -> cA} {A:Tu -> Nat} {H:aa}
def HC.OX{g:FuncId}{xs:List V}{P:V->Nat->Prop}{x:cA}(h:HC σ A H hasK AK cK)(i:∀σ,aw σ A H->au G0 [] g xs σ fun v s=>∃b,P v b∧HC s A H (fun _:Unit=>True) (fun _=>b) (fun _=>x)):
  au G0 [] g xs σ fun v s=>∃b,P v b∧HC s A H hasK AK cK∧jS s b x∧T5 σ s (Vu H A hasK AK) (Vu H A hasK AK):=by
 have o:Wd σ (Sum.elim (Sum.elim H.has fun _:Unit=>False) hasK) (Sum.elim (Sum.elim A fun _=>0) AK) (Sum.elim (Sum.elim (fW H A) fun _=>.map []) cK):=by
  refine Wd.sub h (fun k=>match k with| .inl (.inl s)=>.inl s| .inl (.inr u)=>.inl .heap| .inr k=>.inr k) ?_ ?_ ?_ ?_
  .rintro((k|k)|k) d
   .exact d
   .exact d.elim
   exact d
  .rintro((k|k)|k) ((j|j)|j) d hj e <;> simp_all
  .rintro((k|k)|k) d
   .rfl
   .exact d.elim
   rfl
  rintro((k|k)|k) d
  .exact .inl rfl
  .exact d.elim
  exact .inl rfl
 refine(Wd.gQ (P:=fun v f m n=>∃b,P v b∧f=(Sum.elim H.has fun _:Unit=>True)∧m=(Sum.elim A fun _=>b)∧n=(Sum.elim (fW H A) fun _=>x)) o fun s w=>(i s (jl (Wd.sub w Sum.inl (fun _ h=>h) (fun _ _ _ _ e=>ZQ e) (fun _ _=>rfl) fun _ _=>.inl rfl))).mono ?_).mono ?_
 .rintro v p ⟨b,l,W⟩;exact⟨_,_,_,W,b,l,rfl,rfl,rfl⟩
 rintro v p ⟨f,m,n,w,⟨b,l,rfl,rfl,rfl⟩,k⟩;refine⟨b,l,?_,w.Ur (.inl (.inr ())) trivial,k.next,fun a b c hn=>k.Wo a b c ?_,fun a b c hn=>?_⟩
 .refine Wd.sub w (fun k=>match k with| .inl x=>.inl (.inl x)| .inr k=>.inr k) ?_ ?_ ?_ ?_
  .rintro(x|x) d <;> exact d
  .rintro(x|x) (y|y) _ _ e <;> simp_all
  .rintro(x|x) d <;> rfl
  rintro(x|x) d <;> exact .inl rfl
 .exact Nm.map (by rintro((x|x)|x) d;exact⟨.inl x,d,rfl⟩;exact d.elim;exact⟨.inr x,d,rfl⟩) hn
 refine Nm.map ?_ (k.Xp a b c (Nm.map ?_ hn))
 .rintro(x|x) d
  .exact⟨.inl (.inl x),d,rfl⟩
  exact⟨.inr x,d,rfl⟩
 rintro((x|x)|x) d
 .exact⟨.inl x,d,rfl⟩
 .exact d.elim
 exact⟨.inr x,d,rfl⟩
def iO(H:aa)(p w:Nat):List V:=(List.range w).map fun i=>.int .u8 (H.mem (p-H.Tj+i))
def Cu(H:aa)(p w:Nat):(iO H p w).all V.Tr=true:=by unfold iO;rw[List.all_map];exact X8.2 fun _ _=>rfl
abbrev WT:List V:=[.i 0,.u 0,.acJ,.u 0,.u 0,.i 0,.i 0,.u 0,.acJ]
def BB(h:HC σ A H hasK AK cK)(g:T3 H){p:Nat}{e:Nat}(O:e≠0):
  au G0 [] 93 [.acK (A .heap) 0,.u p,.i e] σ fun v s=>v=jx e p (H.Tl*H.Tp) (.acJ)∧HC s A H hasK AK cK∧T5 σ s (Vu H A hasK AK) (Vu H A hasK AK):=by
 refine ai g93 rfl ?_;have w:=h.gw;obtain⟨j,a⟩:=acH (σ.new (.acM 9 WT .nil));have t:aH σ j:=by rw[a];exact aH.new _ _
 have M:GW j:=by rw[a];exact w.new _ rfl
 have G:=h.Ui t M;have o:To j σ.next 9 (Tn WT):=by rw[a];exact To.zero w WT Y
 have y:¬Vu H A hasK AK σ.next:=h.eh (Tx _);simp (disch:=omega) only[go_sem,<- a];refine(HC.gQ G (P:=fun v m=>m=A∧v=ns H) fun s R=>(rA R g).mono fun v S ⟨I,E⟩=>⟨A,E,rfl,I⟩).mono ?_;rintro v s2 ⟨m,d,⟨rfl,rfl⟩,k2⟩;have C:=k2.Yl o y;have K:=k2.nm o y;have b:=aQ (σ:=s2) (z:=WT) (n:=9) (vs:=[V.i e,.u p,.acJ,.u 0,.u 0,.i 0,.i 0,.u (H.Tp*H.Tl:Nat),.acJ]) Y rfl;have c:=aH.Ts s2 9 WT [V.i e,.u p,.acJ,.u 0,.u 0,.i 0,.i 0,.u (H.Tp*H.Tl:Nat),.acJ];have l:=d.gw.Ts (n:=9) (z:=WT) (vs:=[V.i e,.u p,.acJ,.u 0,.u 0,.i 0,.i 0,.u (H.Tp*H.Tl:Nat),.acJ]) Y rfl;have x:=d.Ui c l;have q:=C.ext d.gw c.ext;have r:=To.Ts s2 9 WT [V.i e,.u p,.acJ,.u 0,.u 0,.i 0,.i 0,.u (H.Tp*H.Tl:Nat),.acJ] rfl;generalize s2.Ts 9 WT [V.i e,.u p,.acJ,.u 0,.u 0,.i 0,.i 0,.u (H.Tp*H.Tl:Nat),.acJ]=T at b c l x q r;obtain⟨L,f,D,N,B⟩:=q.store l (off:=0) (vs:=[V.i e,.u p,.acJ,.u 0,.u 0,.i 0,.i 0,.u (H.Tp*H.Tl:Nat),.acJ]) Y rfl;have J:L.load σ.next 0 9=some [V.i e,.u p,.acJ,.u 0,.u 0,.i 0,.i 0,.u (H.Tp*H.Tl:Nat),.acJ]:=by rw[D.load (off:=0) (k:=9) Q];rfl
 have F:bZ WT [(0,1,V.i e),(1,1,V.u p),(7,1,V.u (H.Tp*H.Tl:Nat))]=some [V.i e,.u p,.acJ,.u 0,.u 0,.i 0,.i 0,.u (H.Tp*H.Tl:Nat),.acJ]:=rfl;simp (disch:=omega) only[go_sem,ns,aG,F,b,r.lj rfl,f,J];refine⟨by rw[UF],x.wI B N K,?_⟩;exact((T5.ext t.ext w).trans (k2.trans (T5.ext c.ext d.gw))).put B (Tx _) w
def MO(h:HC σ A H hasK AK cK)(g:T3 H){p u:Nat}(hl:aV H p u):
  au G0 [] 93 [.acK (A .heap) 0,.u p,.i (0:Nat)] σ fun v s=>(∃q,v=jx (0:Nat) p (H.Tl*H.Tp) (.slice q u 1)∧Ls s 1 u (iO H p u) (.slice q u 1))∧HC s A H hasK AK cK∧T5 σ s (Vu H A hasK AK) (Vu H A hasK AK):=by
 refine ai g93 rfl ?_;have w:=h.gw;obtain⟨T,f⟩:=acH (σ.new (.acM 9 WT .nil));have g1:aH σ T:=by rw[f];exact aH.new _ _
 have w1:GW T:=by rw[f];exact w.new _ rfl
 have y:=h.Ui g1 w1;have L1:To T σ.next 9 (Tn WT):=by rw[f];exact To.zero w WT Y
 have m1:¬Vu H A hasK AK σ.next:=h.eh (Tx _);simp (disch:=omega) only[go_sem,<- f];refine(HC.gQ y (P:=fun v m=>m=A∧v=ns H) fun s R=>(rA R g).mono fun v s' ⟨G,Z⟩=>⟨A,Z,rfl,G⟩).mono ?_;rintro v s2 ⟨m,c,⟨rfl,rfl⟩,k2⟩;have L2:=k2.Yl L1 m1;have m2:=k2.nm L1 m1;have F:=aQ (σ:=s2) (z:=WT) (n:=9) (vs:=[V.i (0:Nat),.u p,.acJ,.u 0,.u 0,.i 0,.i 0,.u (H.Tp*H.Tl:Nat),.acJ]) Y rfl;have N:=aH.Ts s2 9 WT [V.i (0:Nat),.u p,.acJ,.u 0,.u 0,.i 0,.i 0,.u (H.Tp*H.Tl:Nat),.acJ];have w3:=c.gw.Ts (n:=9) (z:=WT) (vs:=[V.i (0:Nat),.u p,.acJ,.u 0,.u 0,.i 0,.i 0,.u (H.Tp*H.Tl:Nat),.acJ]) Y rfl;have h3:=c.Ui N w3;have U:=L2.ext c.gw N.ext;have M:=To.Ts s2 9 WT [V.i (0:Nat),.u p,.acJ,.u 0,.u 0,.i 0,.i 0,.u (H.Tp*H.Tl:Nat),.acJ] rfl;generalize s2.Ts 9 WT [V.i (0:Nat),.u p,.acJ,.u 0,.u 0,.i 0,.i 0,.u (H.Tp*H.Tl:Nat),.acJ]=s3 at F N w3 h3 U M;have m3:¬Vu H m hasK AK s2.next:=c.eh (Tx _);have f1:bZ WT [(0,1,V.i (0:Nat)),(1,1,V.u p),(7,1,V.u (H.Tp*H.Tl:Nat))]=some [V.i (0:Nat),.u p,.acJ,.u 0,.u 0,.i 0,.i 0,.u (H.Tp*H.Tl:Nat),.acJ]:=rfl;obtain⟨fl,pl,fc,hI⟩:=g.UB;have a:H.eL p=some u:=hI.gX hl;have hr:=hI.b8 hl;have ad:H.eZ p u=true:=by
  unfold aa.eL at a;unfold aa.eZ;cases hb:H.hU p with
  |none=>rw[hb]at a;cases a
  |some x=>
   rw[hb]at a;simp only at a⊢;split at a
   .rename_i hx;rw[TC]at a;rw[hx,a];simp
   cases a
 have am:To s3 s2.next 9 (Tn [V.i (0:Nat),.u p,.acJ,.u 0,.u 0,.i 0,.i 0,.u (H.Tp*H.Tl:Nat),.acJ]):=M;simp (disch:=omega) only[go_sem,ns,aG,f1,F];refine(HC.gQ h3 (P:=fun v A2=>A2=m∧v=.tuple [.u u,.i 0]) fun s R=>(yE R hI g.lock p).mono fun v s' ⟨Z,G⟩=>⟨m,Z,rfl,by rw[G,a]⟩).mono ?_;rintro v s4 ⟨A2,h4,⟨rfl,rfl⟩,k4⟩;have L4:=k4.Yl U (fun hh=>m2 hh);have o:=k4.Yl M m3;have J:=k4.nm U m2;have K:=k4.nm M m3;simp (disch:=omega) only[go_sem];refine(HC.OX h4 (P:=fun v b=>v=.tuple [.acL b 0 u 1,.i 0]) (x:=.row u fun i=>.int .u8 (H.mem (p-H.Tj+i))) fun s R=>(FW R g p u Q ad).mono fun v s' ⟨b,G,W⟩=>⟨b,G,W⟩).mono ?_;rintro v s5 ⟨b,rfl,h5,hB,I⟩;have L5:=I.Yl L4 J;have r:=I.Yl o K;have ah:=I.nm L4 J;have al:=I.nm o K;obtain⟨s6,af,t,w6,L⟩:=r.set rfl h5.gw (j:=8) (x:=.acL b 0 u 1) Q rfl;simp only[Yp,Yq]at t;have h6:=h5.wI L w6 al;have n2:=k2.next;have n1:T.next=σ.next+1:=by rw[f];rfl
 have L6:=L5.put L Q;obtain⟨s7,ag,X,w7,S⟩:=L6.store w6 (off:=0) (vs:=[V.i (0:Nat),.u p,.acJ,.u 0,.u 0,.i 0,.i 0,.u (H.Tp*H.Tl:Nat),.acL b 0 u 1]) Y rfl;have k7:s7.load σ.next 0 9=some [V.i (0:Nat),.u p,.acJ,.u 0,.u 0,.i 0,.i 0,.u (H.Tp*H.Tl:Nat),.acL b 0 u 1]:=by rw[X.load (off:=0) (k:=9) Q];rfl
 simp (disch:=omega) only[go_sem,af,t.lj rfl,ag,k7];have ac:∀i,i<u->s7.cell b (0+i)=(iO H p u)[i]?:=fun i hi=>by
  obtain⟨gg,mm,zz,tt,D,E,O⟩:=hB;have C:b≠s2.next∧b≠σ.next:=by
   refine⟨fun e=>?_,fun e=>?_⟩
   .obtain⟨m',z',t',_,d,l⟩:=r;rw[<- e,E]at d;cases d;have y:=O 0 Q;have c:=l 0 Q;rw[y]at c;cases c
   obtain⟨m',z',t',_,d,l⟩:=L5;rw[<- e,E]at d;cases d;have y:=O 0 Q;have c:=l 0 Q;rw[y]at c;cases c
  have hr:Row s5 b u (fun i=>.int .u8 (H.mem (p-H.Tj+i))):=⟨gg,mm,zz,tt,D,E,O⟩
  rw[Vk,S.cell C.2,L.cell C.1,hr.cell hi];unfold iO;rw[X0,YC hi];rfl
 have B:b<s7.next:=by obtain⟨gg,mm,zz,tt,D,E,O⟩:=hB;have:=h5.gw.UL E;rw[S.next,L.next];exact this
 refine⟨⟨some (b,0),by rw[UF],⟨⟨_,_,rfl⟩,by unfold iO;simp,fun _=>⟨b,0,rfl,B,fun i hi=>ac i Q⟩⟩⟩,h6.wI S w7 ah,?_⟩;exact(((T5.ext g1.ext w).trans (k2.trans ((T5.ext N.ext c.gw).trans (k4.trans I)))).put L Q w).put S (Tx _) w
end
end
section
variable {σ σ' s:St}
def Wd.FV{ι:Type}{has:ι->Prop}{A:ι->Nat}{c:ι->cA}(h:Wd σ has A c)(e:TP σ s)(w:GW s){hx:Prop}{b:Nat}{x:cA}(d:hx->σ.next≤b)(L:hx->jS s b x):Wd s (Sum.elim has fun _:Unit=>hx) (Sum.elim A fun _=>b) (Sum.elim c fun _=>x):=by
 have W:=h.ext e w;refine⟨w,W.Ub,?_,?_,?_,?_⟩
 .rintro(i|u) hi
  .exact W.V2 hi
  have:=h.Ub.lt h.gw;have:=d hi;show b≠_;omega
 .rintro(i|u) (j|t) hi a g
  .exact Uj _ (h.inj i j hi a g)
  .have m:A i=b:=g;have:=h.lt hi;have:=d a;omega
  .have m:b=A j:=g;have:=h.lt a;have:=d hi;omega
  rfl
 .rintro(i|u) hi
  .exact W.Ur i hi
  exact L hi
 rintro(i|u) (j|t) o hi a f k hg
 .exact W.cut i j o hi a (fun e=>f (Uj _ e)) k hg
 .have l:σ.Tq.get (A i)=some o:=by rw[<- e.TE _ (h.lt hi)];exact k
  intro n;rw[e.row _ (h.gw.mem _ _ l hg).2]at n;have m:b<σ.next:=h.gw.lt _ _ n;have:=d a;omega
 .obtain⟨q,r,p⟩:=(h.Ur j a).VM;exact e.Xv h.gw w (d hi) k hg (h.lt a) r p
 exact(f rfl).elim
section
variable {κ:Type} {hasK:κ -> Prop} {AK:κ -> Nat} {cK:κ -> cA} {A:Tu -> Nat} {H:aa}
def By{l:List (Nat×Nat)}{j:Nat}(a:j<l.length*2):some (fy l j)=(fl gK l)[j]?:=by have h:=OL ik l (j/2) (j%2) Q Q;rw[(Q:j/2*2+j%2=j)]at h;rw[h];unfold fy gK;rw[U7,UQ (Q:j/2<l.length)];rcases(by omega:j%2=0∨j%2=1)with c|c <;> rw[c] <;> rfl
end
end
section
variable {σ σ' s:St}
section
variable {A:Tu -> Nat} {H:aa} {B:AI -> Nat} {S:AS}
def lQ(h:AR σ A H B S)(l:S.OK):au G0 [] 19 [.acK (B .TA) 0] σ fun v s=>U6 s S.Tm v∧aH σ s:=by
 have a:=AR.c2 h;have e:=l.Ue;unfold AS.dp at a;rcases Wi S.Tm.length with c|c
 .have f:=aaz c;have b:∃q z,σ.cell (B .TA) 2=some (.slice q 0 z):=by
   rw[c]at a;by_cases d:S.Vz=true
   .rw[Ti d]at a;exact⟨_,_,a⟩
   rw[Tg d]at a;exact⟨_,_,a⟩
  obtain⟨q,z,b⟩:=b;refine(yV b).mono ?_;rintro v s ⟨rfl,rfl⟩;refine⟨?_,aH.refl _⟩;rw[f];exact⟨⟨_,_,rfl⟩,rfl,fun h=>absurd h (XK _)⟩
 have d:S.Vz=true:=by
  cases o:S.Vz with
  |true=>rfl
  |false=>have:=l.nil o;rw[this]at c;exact absurd c (XK _)
 rw[Ti d]at a;have R:Row σ (B .Tm) (S.Tm.length*2) (fy S.Tm):=Wd.row h (i:=.inr .Tm) d rfl;have p:σ.load (B .Tm) 0 (S.Tm.length*2)=some (fl gK S.Tm):=by have k:=tv ik S.Tm;refine iP (fun j n=>?_) k Q;rw[Vk,R.cell n,By n]
 have g:(fl gK S.Tm).all V.Tr=true:=by unfold fl;rw[List.all_flatMap];exact X8.2 fun _ _=>rfl
 refine(zq a c e p g).mono ?_;rintro v s ⟨rfl,rfl⟩;refine⟨⟨⟨_,_,rfl⟩,tv ik _,fun _=>⟨σ.next,0,rfl,by rw[bg];omega,fun i hi=>?_⟩⟩,aH.new σ _⟩;rw[Vk];exact br (m:=σ.next) rfl
end
end
section
variable {σ σ' s:St}
def C7{z n m e:Nat}{q:Option (Nat×Nat)}{k:IntKind}(d:q.isSome=true->e=z)(c:m≤n):fE z (.slice q n e) (some (.int k (m:Nat))) none=some (.slice (q.map fun x=>(x.1,x.2+m*z)) (n-m) e):=by
 cases q with
 |none=>simp[fE,sliceB,XW,lI,c]
 |some x=>obtain⟨a,b⟩:=x;obtain rfl:=d rfl;simp[fE,sliceB,XW,lI,c]
def Ls.drop{z n m e:Nat}{vs:List V}{q:Option (Nat×Nat)}(h:Ls σ z n vs (.slice q n e))(f:m≤n):Ls σ z (n-m) (vs.drop (m*z)) (.slice (q.map fun x=>(x.1,x.2+m*z)) (n-m) e):=by
 refine⟨⟨_,_,rfl⟩,by rw[Z5,h.len,Nat.sub_mul],fun hn=>?_⟩;obtain⟨b,o,d,a,c⟩:=h.UH Q;cases d;refine⟨b,o+m*z,rfl,a,fun i hi=>?_⟩;have:m*z+(n-m)*z=n*z:=by rw[<- UW];congr 1;omega
 rw[Yb,c _ Q,Z4]
def NT(l:List (Nat×Nat))(i:Nat)(hi:i≤l.length):(fl gK l).drop (i*2)=fl gK (l.drop i):=by
 have a:=tv ik (l.take i);rw[Va,Xb hi]at a;have b:fl gK l=fl gK (l.take i)++fl gK (l.drop i):=by unfold fl;rw[<- Yo,YI]
 conv=>lhs;rw[b]
 rw[List.drop_append,YW Q,a,Yf];rfl
def _root_.AM.To.H7{id n off:Nat}{l vs:List V}(h:To s id n (Tn l))(a:l.length=n)(w:GW s)(k:off+vs.length≤n)(j:vs.all V.Tr=true):
  ∃s',s.store id off vs=some s'∧To s' id n (Tn (l.take off++vs++l.drop (off+vs.length)))∧GW s'∧VL id s s':=by
 obtain⟨s',d,e,f,g⟩:=h.store w k j;refine⟨s',d,e.congr (Tx _) fun i hi=>?_,f,g⟩;unfold UO Tn;simp only[U7];by_cases c:off≤i∧i<off+vs.length
 .rw[Ti c,Wh (by rw[UN,Va,a];omega),WM (by rw[Va];omega),Va,a,Xb Q]
 rw[Tg c];by_cases b:i<off
 .rw[Xj,Wh (by rw[Va,a];omega),YD,Ti b]
 rw[WM (by rw[UN,Va,a];omega),UN,Va,a,Xb Q,Z4];congr 2;omega
abbrev U4(hp ar c:Nat)(cs:V)(tk us:Nat)(mk:V)(md b l k r:Nat)(hv ot pc mks:V):List V:=
 [.acK hp 0,.ptr (some (ar,0)),.u c,cs,.u tk,.u us,mk,.i md,.u b,.i l,.i k,.i r,hv,ot,pc,mks]
def il{hp ar c tk us md b l k r:Nat}{cs mk hv ot pc mks:V}(a:[cs].all V.Tr=true)(d:[mk].all V.Tr=true)(e:[hv].all V.Tr=true)(g:[ot].all V.Tr=true)(i:[pc].all V.Tr=true)(j:[mks].all V.Tr=true):
  (U4 hp ar c cs tk us mk md b l k r hv ot pc mks).all V.Tr=true:=by
 have f:∀{v:V},[v].all V.Tr=true->v.Tr=true:=fun h=>by simpa using h
 show(true && (true && (true && (V.Tr cs && (true && (true && (V.Tr mk && (true && (true && (true && (true && (true && (V.Tr hv && (V.Tr ot && (V.Tr pc && (V.Tr mks && true))))))))))))))))=true;rw[f a,f d,f e,f g,f i,f j];rfl
def J6{hp ar c tk us md b l k r N N' e e' tk' us' d P np j:Nat}{q q' m:Option (Nat×Nat)}{mk a hv ot mks:V}{L:List Hd}{C:List (Nat×Nat)}(w:GW σ)(hL:VF σ L hv)(Ue:L.length≤1000000)(hC:Ls σ 2 N (fl gK C) (.slice q N e))(ad:C.length=N)(hN:N<9000000000000000000)(hq:q.isSome=true->e=2)(F:N'≤N)(af:m.isSome=true->j=3)(hP:P≤np)(fm:[mk].all V.Tr=true)(E:[a].all V.Tr=true)(fo:[ot].all V.Tr=true)(fk:[mks].all V.Tr=true):
  au G0 [] 83 [.agg (U4 hp ar c (.slice q N e) tk us mk md b l k r hv ot (.slice m np j) mks),WV c (.slice q' N' e') tk' us' a d,.i P] σ
   fun y s=>(∃f,y=.agg (U4 hp ar c (.slice q' N' e') tk' us' a d b l k r f ot (.slice m P j) mks)∧Nl σ s 3 (L.filter (gS (C.drop N'))).length (fl j6 (L.filter (gS (C.drop N')))) f)∧TP σ s:=by
 refine ai g83 rfl ?_;obtain⟨O,p⟩:∃z:List V,z=[.ptr none,.ptr none,.u 0,.acJ,.u 0,.u 0,.acJ,.i 0,.u 0,.i 0,.i 0,.i 0,.acJ,.acJ,.acJ,.acJ]:=⟨_,rfl⟩;have av:O.length=16:=by rw[p];rfl
 obtain⟨t,h⟩:=acH (((σ.ag (U4 hp ar c (.slice q N e) tk us mk md b l k r hv ot (.slice m np j) mks)).ag [.u c,.slice q' N' e',.u tk',.u us',a,.i d]).new (.acM 16 O .nil));have w0:GW (σ.ag (U4 hp ar c (.slice q N e) tk us mk md b l k r hv ot (.slice m np j) mks)):=w.new _ rfl;have n:GW ((σ.ag (U4 hp ar c (.slice q N e) tk us mk md b l k r hv ot (.slice m np j) mks)).ag [.u c,.slice q' N' e',.u tk',.u us',a,.i d]):=w0.new _ rfl;have J:GW t:=by rw[h];exact n.new _ rfl
 have K:TP σ t:=by rw[h];exact(Gr.g).ext
 have n1:t.next=σ.next+3:=by rw[h];rfl
 have v:To t σ.next 16 (Tn (U4 hp ar c (.slice q N e) tk us mk md b l k r hv ot (.slice m np j) mks)):=by rw[h];exact((To.cg σ _).ext w0 (Gr.g).ext).ext n (Gr.g).ext
 have T:To t (σ.next+1) 6 (Tn [.u c,.slice q' N' e',.u tk',.u us',a,.i d]):=by rw[h];exact(To.cg (σ.ag (U4 hp ar c (.slice q N e) tk us mk md b l k r hv ot (.slice m np j) mks)) _).ext n (Gr.g).ext
 have Lc:To t (σ.next+2) 16 (Tn O):=by rw[h];have:=To.zero n O (by rw[p];simp);rw[av]at this;exact this
 have ap:=C7 (z:=2) (k:=.i64) hq F;have H:=hC.drop F;rw[NT C N' Q]at H;have hG:U6 t (C.drop N') (.slice (q.map fun x=>(x.1,x.2+N'*2)) (N-N') e):=by have:=H.ext K;unfold U6;rw[Z5,ad];exact this
 rw[p]at h;simp (disch:=omega) only[go_sem,<- h,v.bC rfl,v.bN rfl,T.bC rfl,ap];refine((za J (hL.ext K) hG Ue (by rw[Z5];omega)).gw J).mono ?_;rintro _ s2 ⟨⟨⟨f,rfl,N2⟩,e2⟩,w2⟩;have o:=v.ext J e2;have U:=T.ext J e2;have X:=Lc.ext J e2;have ls:=hL.Tr;obtain⟨s3,ah,R,w3,M⟩:=o.H7 rfl w2 (off:=8) (vs:=[.u b,.i l,.i k,.i r,f]) Y (WB N2.Tr);have W:=U.put M Q;obtain⟨s4,al,A,w4,p4⟩:=R.H7 rfl w3 (off:=2) (vs:=[.u c,.slice q' N' e',.u tk',.u us',a,.i d]) Y (XU rfl E);have G:=mB (z:=3) (k:=.i64) af hP;obtain⟨s5,am,S,w5,p5⟩:=A.H7 rfl w4 (off:=14) (vs:=[.slice m P j]) Y rfl;have I:=il (hp:=hp) (ar:=ar) (c:=c) (tk:=tk') (us:=us') (md:=d) (b:=b) (l:=l) (k:=k) (r:=r) (cs:=.slice q' N' e') (mk:=a) (hv:=f) (ot:=ot) (pc:=.slice m P j) (mks:=mks) rfl E N2.Tr fo rfl fk;have D:To s5 σ.next 16 (Tn (U4 hp ar c (.slice q' N' e') tk' us' a d b l k r f ot (.slice m P j) mks)):=S;have B:To s4 σ.next 16 (Tn (U4 hp ar c (.slice q' N' e') tk' us' a d b l k r f ot (.slice m np j) mks)):=A;have Z:=((X.put M Q).put p4 Q).put p5 Q;obtain⟨s6,ao,ac,w6,p6⟩:=Z.store w5 (off:=0) (vs:=U4 hp ar c (.slice q' N' e') tk' us' a d b l k r f ot (.slice m P j) mks) Y I;have k6:s6.load (σ.next+2) 0 16=some (U4 hp ar c (.slice q' N' e') tk' us' a d b l k r f ot (.slice m P j) mks):=by rw[ac.load (off:=0) (k:=16) Q];rfl
 simp (disch:=omega) only[go_sem,v.bC rfl,v.bN rfl,T.bC rfl,o.bC rfl,o.bN rfl,ah,W.bN rfl,al,B.bC rfl,G,am,D.bN rfl,ao,k6];refine⟨⟨f,rfl,?_⟩,p6.ext (p5.ext (p4.ext (M.ext (K.trans e2) Q) Q) Q) Q⟩;exact((((N2.put M Q).put p4 Q).put p5 Q).put p6 Q).Tj K
end
section
variable {σ σ' s:St}
def CY{q:Option (Nat×Nat)}{n e z y:Nat}{x:List V}{A:V}{s':St}(w:GW s)(ha:dj (s.ag x) z y (.slice q n e) (.acL s.next 0 1 z)=some (A,s')):
  s.next≤s'.next∧(∃b m,A=.acL b 0 m z∧s.next≤b)∧∀{id:Nat} {o:AM.Obj},s.Tq.get id=some o->o.Ty=true->o.TG=0->(∀o,q≠some (id,o))->s'.Tq.get id=some o:=by
 have u:GW (s.ag x):=w.new _ rfl;have j:(s.ag x).next=s.next+1:=rfl;unfold dj at ha;simp only at ha;split at ha
 .cases ha
 rw[Tg Q]at ha;split at ha
 .cases ha
 rename_i B I;cases q with
 |none=>
  unfold dc at ha;split at ha
  .by_cases d:n=0
   .simp only[Ti d]at ha;rw[TC,TU]at ha;obtain⟨rfl,rfl⟩:=ha;refine⟨by show s.next≤s.next+1+1;omega,⟨_,_,rfl,Q⟩,fun {id o} a _ _ _=>by
     have b:=(aH.new s (.acM x.length [] (ofList x))).ext.TE id (w.UL a);exact((aH.new (s.ag x) (.acM B.length [] (ofList B))).ext.TE id (u.UL (b.trans a))).trans (b.trans a)⟩
   simp only[Tg d]at ha;cases ha
  cases ha
 |some p=>
  obtain⟨b,o⟩:=p;have C:o=0:=by
   unfold dc at ha;split at ha
   .by_cases f:o=0
    .exact f
    simp only[Tg f]at ha;cases ha
   cases ha
  subst C;obtain⟨g,L,M,t,TE,hg,Ur,H,r,F,h⟩:=kF ha;refine⟨by rw[r,j];omega,⟨_,_,H,Q⟩,fun {id o} f G i l=>?_⟩;have c:(s.ag x).Tq.get id=some o:=((aH.new s (.acM x.length [] (ofList x))).ext.TE id (w.UL f)).trans f;have D:id≠b:=fun e=>l 0 (by rw[e])
  have E:id≠(s.ag x).next:=by have:=u.UL c;omega
  have v:¬(g≠0∧id∈(s.ag x).row g):=fun⟨J,K⟩=>J ((u.TG _ _ _ K c G).symm.trans i)
  rw[h,Tg E,Tg (fun k=>v ⟨k.1,YG k.2⟩),Tg D,Tg v];exact c
inductive ML where
 |ot | pc | mk | ch | ma | hd
 deriving DecidableEq
structure Li where
 h:Prop
 a:Nat
 c:cA
def LM(m:ML->Li)(i:ML)(z n:Nat)(vs:List V)(v:V):Prop:=
 vs.length=n*z∧(((m i).h∧v=.acL ((m i).a) 0 n z∧∃N f,(m i).c=.row N f∧n*z≤N∧∀j,j<n*z->vs[j]?=some (f j))∨(v=.acJ∧n=0))
def LM.Tr{m:ML->Li}{i:ML}{z n:Nat}{vs:List V}{v:V}(h:LM m i z n vs v):[v].all V.Tr=true:=by rcases h.2 with⟨_,rfl,_⟩|⟨rfl,_⟩ <;> rfl
def LM.is{m:ML->Li}{i:ML}{z n:Nat}{vs:List V}{v:V}(h:LM m i z n vs v):∃q e,v=.slice q n e∧(q.isSome=true->e=z):=by
 rcases h.2 with⟨_,rfl,_⟩|⟨rfl,rfl⟩
 .exact⟨_,_,rfl,fun _=>rfl⟩
 exact⟨_,_,rfl,fun h=>nomatch h⟩
def LM.TN{m:ML->Li}{i j:ML}{z n:Nat}{vs:List V}{v:V}{x:Li}(h:LM m i z n vs v)(a:i≠j):LM (cu m j x) i z n vs v:=by unfold LM;rw[aA a];exact h
def LM.nil{m:ML->Li}{i:ML}{z:Nat}:LM m i z 0 [] (.acJ):=⟨Y,.inr ⟨rfl,rfl⟩⟩
def LM.cut{m:ML->Li}{i:ML}{z n k e:Nat}{q:Option (Nat×Nat)}{vs:List V}(h:LM m i z n vs (.slice q n e))(l:k≤n):LM m i z k (vs.take (k*z)) (.slice q k e):=by
 have o:k*z≤n*z:=UG _ l;obtain⟨b,⟨hi,a,N,f,c,p,d⟩|⟨a,rfl⟩⟩:=h
 .refine⟨by rw[Va,b];omega,.inl ⟨hi,by cases a;rfl,N,f,c,Q,fun j g=>?_⟩⟩;rw[YD,Ti g];exact d j Q
 obtain rfl:k=0:=Q;exact⟨Y,.inr ⟨by cases a;rfl,rfl⟩⟩
section
variable {κ:Type} {hasK:κ -> Prop} {AK:κ -> Nat} {cK:κ -> cA} {A:Tu -> Nat} {H:aa} {B:AI -> Nat} {S:AS} {m:ML -> Li}
abbrev TS{κ:Type}(σ:St)(A:Tu->Nat)(H:aa)(B:AI->Nat)(S:AS)(m:ML->Li)(hasK:κ->Prop)(AK:κ->Nat)(cK:κ->cA):Prop:=
 Uo σ A H B S (Sum.elim (fun i=>(m i).h) hasK) (Sum.elim (fun i=>(m i).a) AK) (Sum.elim (fun i=>(m i).c) cK)
abbrev UA{κ:Type}(H:aa)(A:Tu->Nat)(S:AS)(B:AI->Nat)(m:ML->Li)(hasK:κ->Prop)(AK:κ->Nat):Nat->Prop:=VB H A S B (Sum.elim (fun i=>(m i).h) hasK) (Sum.elim (fun i=>(m i).a) AK)
def LM.ls{i:ML}{z n:Nat}{vs:List V}{v:V}(hv:LM m i z n vs v)(h:TS s A H B S m hasK AK cK):Ls s z n vs v:=by
 obtain⟨b,⟨hi,rfl,N,f,c,g,d⟩|⟨rfl,rfl⟩⟩:=hv
 .have R:Row s (m i).a N f:=Wd.row h (i:=.inr (.inl i)) hi c;refine⟨⟨_,_,rfl⟩,b,fun hn=>⟨(m i).a,0,rfl,Wd.lt h (i:=.inr (.inl i)) hi,fun j e=>?_⟩⟩;rw[Vk,R.cell Q,d j e]
 exact⟨⟨_,_,rfl⟩,b,fun h=>absurd h (XK _)⟩
def TS.TN(h:TS σ A H B S m hasK AK cK)(e:TP σ s)(w:GW s)(i:ML){hx:Prop}{b:Nat}{x:cA}(l:hx->σ.next≤b)(L:hx->jS s b x):
  TS s A H B S (cu m i ⟨hx,b,x⟩) hasK AK cK∧∀{id},UA H A S B (cu m i ⟨hx,b,x⟩) hasK AK id->UA H A S B m hasK AK id∨σ.next≤id:=by
 refine⟨Wd.sub (Wd.FV h e w l L) (fun k=>match k with| .inl x=>.inl (.inl x)| .inr (.inl j)=>if j=i then .inr ()else .inl (.inr (.inl j))| .inr (.inr k)=>.inl (.inr (.inr k))) ?_ ?_ ?_ ?_,?_⟩
 .rintro(x|j|x) g
  .exact g
  .by_cases c:j=i
   .subst c;have f:(cu m j ⟨hx,b,x⟩ j).h:=g;rw[aF]at f
    simpa using f
   have f:(cu m i ⟨hx,b,x⟩ j).h:=g;rw[aA c]at f
   simpa [c]using f
  exact g
 .rintro(x|j|x) (y|k|y) _ _ e
  .simpa using e
  .by_cases c:k=i <;> simp[c]at e
  .simp at e
  .by_cases c:j=i <;> simp[c]at e
  .by_cases c:j=i <;> by_cases d:k=i <;> simp[c,d]at e
   .rw[c,d]
   rw[e]
  .by_cases c:j=i <;> simp[c]at e
  .simp at e
  .by_cases c:k=i <;> simp[c]at e
  simpa using e
 .rintro(x|j|x) g
  .rfl
  .by_cases c:j=i
   .subst c;show(cu m j _ j).a=_;rw[aF];simp
   show(cu m i _ j).a=_;rw[aA c];simp[c]
  rfl
 .rintro(x|j|x) g
  .exact .inl rfl
  .by_cases c:j=i
   .subst c;left;show(cu m j _ j).c=_;rw[aF];simp
   left;show(cu m i _ j).c=_;rw[aA c];simp[c]
  exact .inl rfl
 rintro id (rfl|⟨x|j|x,g,rfl⟩)
 .exact .inl (.inl rfl)
 .exact .inl (.inr ⟨.inl x,g,rfl⟩)
 .by_cases c:j=i
  .subst c;have f:(cu m j ⟨hx,b,x⟩ j).h:=g;rw[aF]at f;right;show σ.next≤(cu m j _ j).a;rw[aF];exact l f
  have f:(cu m i ⟨hx,b,x⟩ j).h:=g;rw[aA c]at f;exact .inl (.inr ⟨.inr (.inl j),f,(show(m j).a=(cu m i _ j).a by rw[aA c])⟩)
 exact .inl (.inr ⟨.inr (.inr x),g,rfl⟩)
def TS.UC(h:TS σ A H B S m hasK AK cK)(i:ML){hx:Prop}{c:cA}(p:hx->(m i).h)(o:hx->(m i).c=c∨∃n f n' f',(m i).c=.row n f∧c=.row n' f'∧n'≤n∧∀j,j<n'->f j=f' j):
  TS σ A H B S (cu m i ⟨hx,(m i).a,c⟩) hasK AK cK∧∀{id},UA H A S B (cu m i ⟨hx,(m i).a,c⟩) hasK AK id->UA H A S B m hasK AK id:=by
 have l:∀k:(Tu ⊕ AI) ⊕ ML ⊕ κ,(Sum.elim (Sum.elim H.has S.has) (Sum.elim (fun j=>(cu m i ⟨hx,(m i).a,c⟩ j).h) hasK)) k->(Sum.elim (Sum.elim H.has S.has) (Sum.elim (fun j=>(m j).h) hasK)) k∧(Sum.elim (Sum.elim A B) (Sum.elim (fun j=>(cu m i ⟨hx,(m i).a,c⟩ j).a) AK)) k=(Sum.elim (Sum.elim A B) (Sum.elim (fun j=>(m j).a) AK)) k:=by
  rintro(x|j|x) g
  .exact⟨g,rfl⟩
  .have b:(cu m i ⟨hx,(m i).a,c⟩ j).h:=g;by_cases d:j=i
   .subst d;rw[aF]at b;exact⟨p b,show(cu m j _ j).a=(m j).a by rw[aF]⟩
   rw[aA d]at b;exact⟨b,show(cu m i _ j).a=(m j).a by rw[aA d]⟩
  exact⟨g,rfl⟩
 refine⟨Wd.sub h id (fun k g=>(l k g).1) (fun _ _ _ _ e=>e) (fun k g=>(l k g).2) ?_,?_⟩
 .rintro(x|j|x) g
  .exact .inl rfl
  .have b:(cu m i ⟨hx,(m i).a,c⟩ j).h:=g;by_cases d:j=i
   .subst d;rw[aF]at b;show(cu m j _ j).c=(m j).c∨∃n f n' f',(m j).c=.row n f∧(cu m j _ j).c=.row n' f'∧n'≤n∧∀i,i<n'->f i=f' i;rw[aF];rcases o b with e|e
    .exact .inl e.symm
    exact .inr e
   left;show(cu m i _ j).c=_;rw[aA d];rfl
  exact .inl rfl
 rintro id (rfl|⟨k,g,rfl⟩)
 .exact .inl rfl
 exact .inr ⟨k,(l k g).1,(l k g).2.symm⟩
def TS.push(h:TS σ A H B S m hasK AK cK)(i:ML){z n y:Nat}{vs x:List V}{v:V}(hv:LM m i z n vs v)(hz:z≠0)(hx:x.length=z)(hf:x.all V.Tr=true)(hy:(n+1)*y≤aq)(hn:n+1≤aq):
  ∃X s' l,dj (σ.ag x) z y v (.acL σ.next 0 1 z)=some (X,s')∧TS s' A H B S (cu m i l) hasK AK cK∧LM (cu m i l) i z (n+1) (vs++x) X∧T5 σ s' (UA H A S B m hasK AK) (UA H A S B (cu m i l) hasK AK):=by
 haveI:DecidableEq ((Tu ⊕ AI) ⊕ (ML ⊕ κ)):=fun a b=>Classical.propDecidable (a=b)
 have U:∀j,j≠i->(Sum.inr (Sum.inl j):(Tu ⊕ AI) ⊕ (ML ⊕ κ))≠Sum.inr (Sum.inl i):=fun j c h=>c (ZQ (Sum.inr.inj h))
 obtain⟨C,hv⟩:=hv;obtain⟨t,M,I,D,E⟩:∃t:ML->Li,(∀j,j≠i->t j=m j)∧TS σ A H B S t hasK AK cK∧(∀{id},UA H A S B t hasK AK id->UA H A S B m hasK AK id)∧
   (((t i).h∧v=.acL ((t i).a) 0 n z∧(t i).c=.row (n*z) (Tn vs))∨(¬(t i).h∧v=.acJ∧n=0)):=by
  rcases hv with⟨hi,rfl,N,f,T,Z,L⟩|⟨rfl,rfl⟩
  .obtain⟨F,G⟩:=h.UC i (hx:=True) (c:=.row (n*z) (Tn vs)) (fun _=>hi) (fun _=>.inr ⟨N,f,_,_,T,rfl,Z,fun j d=>(iD (L j d)).symm⟩);exact⟨_,fun j c=>aA c,F,G,.inl ⟨by rw[aF];trivial,by rw[aF],by rw[aF]⟩⟩
  obtain⟨F,G⟩:=h.UC i (hx:=False) (c:=.map []) (fun h=>h.elim) (fun h=>h.elim);exact⟨_,fun j c=>aA c,F,G,.inr ⟨by rw[aF];exact fun h=>h,rfl,rfl⟩⟩
 obtain⟨b,s',ha,W⟩:=Wd.push I (i0:=.inr (.inl i)) (xl:=n) (esz:=z) (bytes:=y) (f:=Tn vs) (vs:=x) (sl:=v) E Q hx hy hn hf;obtain⟨q,e,hq,k3⟩:∃q e,v=.slice q n e∧∀id o,q=some (id,o)->UA H A S B t hasK AK id:=by
  rcases E with⟨hi,rfl,T⟩|⟨hi,rfl,rfl⟩
  .exact⟨_,_,rfl,fun id o e=>by cases e;exact .inr ⟨.inr (.inl i),hi,rfl⟩⟩
  exact⟨_,_,rfl,fun id o e=>nomatch e⟩
 have w:=ha;rw[hq]at w;obtain⟨k1,⟨u,mm,J,ac⟩,k2⟩:=CY h.gw w;have K:u=b:=by have:=(Prod.mk.inj (XP (V.slice.inj J).1)).1;exact this.symm
 subst K;have r:(vs++x).length=(n+1)*z:=by rw[UN,C,hx,WS]
 have s:∀j,j≠i->cu m i ⟨True,u,.row ((n+1)*z) (Tn (vs++x))⟩ j=t j:=fun j c=>by rw[aA c,M j c]
 have g:cu m i ⟨True,u,.row ((n+1)*z) (Tn (vs++x))⟩ i=⟨True,u,.row ((n+1)*z) (Tn (vs++x))⟩:=aF;refine⟨_,s',⟨True,u,.row ((n+1)*z) (Tn (vs++x))⟩,ha,?_,⟨r,.inl ⟨by rw[g];trivial,by rw[g],_,_,by rw[g],Tx _,fun j d=>?_⟩⟩,k1,fun {id o} P C hg hn=>k2 P C hg fun o e=>hn (D (k3 id o e)),fun {id o} P C hg hn O=>?_⟩
 .refine W.sub id ?_ (fun _ _ _ _ e=>e) ?_ ?_
  .rintro((j|j)|(j|j)) d
   .exact .inl d
   .exact .inl d
   .by_cases c:j=i
    .exact .inr (by rw[c];rfl)
    left;have p:(cu m i ⟨True,u,.row ((n+1)*z) (Tn (vs++x))⟩ j).h:=d;rw[s j c]at p;exact p
   exact .inl d
  .rintro((j|j)|(j|j)) d
   .exact(aA (by intro h;cases h)).symm
   .exact(aA (by intro h;cases h)).symm
   .by_cases c:j=i
    .subst c;show(cu m j _ j).a=_;rw[g];exact aF.symm
    show(cu m i _ j).a=_;rw[s j c];exact(show _=_ from(Tg (U j c))).symm
   exact(aA (by intro h;cases h)).symm
  rintro((j|j)|(j|j)) d
  .exact .inl (aA (by intro h;cases h)).symm
  .exact .inl (aA (by intro h;cases h)).symm
  .by_cases c:j=i
   .subst c;right;refine⟨_,_,_,_,aF ..,(show(cu m j _ j).c=_ by rw[g]),(by rw[WS];exact Tx _),fun k hk=>?_⟩;show(if k<n*z then Tn vs k else Tn x (k-n*z))=Tn (vs++x) k;unfold Tn;simp only[U7];by_cases R:k<n*z
    .rw[Ti R,Wh Q]
    rw[Tg R,WM Q,C]
   left;show(cu m i _ j).c=_;rw[s j c];exact(show _=_ from(Tg (U j c))).symm
  exact .inl (aA (by intro h;cases h)).symm
 .rw[UQ (by rw[r];exact d)];exact Uj some (iD (UQ (by rw[r];exact d))).symm
 rcases O with rfl|⟨(j|j)|(j|j),d,rfl⟩
 .exact hn (.inl rfl)
 .exact hn (.inr ⟨.inl (.inl j),d,rfl⟩)
 .exact hn (.inr ⟨.inl (.inr j),d,rfl⟩)
 .by_cases c:j=i
  .subst c;have I:=h.gw.UL P;have Y:(Sum.elim (Sum.elim A B) (Sum.elim (fun j'=>(cu m j ⟨True,u,.row ((n+1)*z) (Tn (vs++x))⟩ j').a) AK)) (.inr (.inl j))=u:=by show(cu m j _ j).a=u;rw[g]
   rw[Y]at I;omega
  refine hn (D (.inr ⟨.inr (.inl j),?_,?_⟩))
  .have p:(cu m i ⟨True,u,.row ((n+1)*z) (Tn (vs++x))⟩ j).h:=d;rw[s j c]at p;exact p
  show(t j).a=(cu m i _ j).a;rw[s j c]
 exact hn (.inr ⟨.inr (.inr j),d,rfl⟩)
def TS.take(h:TS σ A H B S m hasK AK cK)(e:TP σ s)(w:GW s)(i:ML){z n:Nat}{vs:List V}{v:V}(N:Nl σ s z n vs v):
  ∃l,TS s A H B S (cu m i l) hasK AK cK∧LM (cu m i l) i z n vs v∧T5 σ s (UA H A S B m hasK AK) (UA H A S B (cu m i l) hasK AK):=by
 rcases N.UH with⟨rfl,rfl⟩|⟨b,rfl,f,R⟩
 .obtain⟨a,c⟩:=h.TN e w i (hx:=False) (b:=0) (x:=.map []) (fun h=>h.elim) (fun h=>h.elim);exact⟨_,a,⟨N.len,.inr ⟨rfl,rfl⟩⟩,(T5.ext e h.gw).Ym c h.gw⟩
 obtain⟨a,c⟩:=h.TN e w i (hx:=True) (b:=b) (x:=.row (n*z) (Tn vs)) (fun _=>f) (fun _=>R);refine⟨_,a,⟨N.len,.inl ⟨by rw[aF];trivial,by rw[aF],_,_,by rw[aF],Tx _,fun j d=>?_⟩⟩,(T5.ext e h.gw).Ym c h.gw⟩;rw[UQ (by rw[N.len];exact d)];exact Uj some (iD (UQ (by rw[N.len];exact d))).symm
def TS.ext(h:TS σ A H B S m hasK AK cK)(e:TP σ s)(w:GW s):TS s A H B S m hasK AK cK:=Wd.ext h e w
end
end
end
end Go.Proofs.YtlgmpheammbacaaGreatDoor
