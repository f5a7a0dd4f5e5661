import Derived.Test.YtlgmpheammbacaaGreatDoorPyq
import Derived.Test.YtlgmpheammbacaaGreatDoorKtStart
set_option linter.all false
set_option maxRecDepth 1000000
set_option maxHeartbeats 8000000
attribute [local irreducible] AM.T.get AM.T.set
namespace Go.Proofs.YtlgmpheammbacaaGreatDoor
open AM Go
noncomputable section
section
attribute [local go_sem] bJ bO bM bP bI bo bj bV bD bK VG Wa VU WZ dx dv cH bg cU bq bG cX cZ br bH cY cB UR UK aj az aD TH TK TZ bm bF aW aO aI bz aX bt aY dM aR bU dN aZ bc aT bA
variable {σ σ' s:St}
section
variable {κ:Type} {hasK:κ -> Prop} {AK:κ -> Nat} {cK:κ -> cA} {A:Tu -> Nat} {H:aa} {B:AI -> Nat} {S:AS} {m:ML -> Li} {D:DT} {g:Gm} {E:List Nat} {N:Nat} {v:V}
def GP{n:Nat}{d:Bool}(h:Uo σ A H B S hasK AK cK)(g:T3 H)(hn:n<18446744073709551616):
  au G0 [] 71 [.acK (A .heap) 0,.u n,.bool d] σ fun v s=>v=.tuple [.u (dg H n 1 d).2.1,.i (dg H n 1 d).2.2]∧
   ∃A',A' .heap=A .heap∧Uo s A' (dg H n 1 d).1 B S hasK AK cK∧T5 σ s (VB H A S B hasK AK) (VB (dg H n 1 d).1 A' S B hasK AK):=by
 obtain⟨_,_,_,m⟩:=g.UB;refine((HC.gQ (H':=(dg H n 1 d).1) (P:=fun v A'=>v=.tuple [.u (dg H n 1 d).2.1,.i (dg H n 1 d).2.2]∧A' .heap=A .heap) h.hc fun s R=>?_)).mono fun v s ⟨A',l,⟨f,c⟩,k⟩=>⟨f,A',c,l.X4 c,k.ah⟩
 refine ai g71 rfl ?_;obtain⟨v,o,⟨A1,j,c,f⟩,e⟩:=CS R m g.lock hn (a:=1) Q d;have b:V5 G0 [] 61 [.acK (A .heap) 0,.u 1,.u n,.bool d] s v o:=e;subst f;simp only[go_sem];refine ab b ?_;simp only[go_sem];exact⟨A1,j,rfl,c⟩
def jP.ZT{n a:Nat}{d:Bool}{r:aa×Nat×Nat}(h:jP H n a d r)(b:r.2.2=0):jA H r.1 d r.2.1 (aE n a):=by
 cases h with
 |ok _ _ g=>exact g
 |Xx=>exact absurd b (by show ¬(1:Nat)=0;omega)
 |Yj=>exact absurd b (by show ¬(3:Nat)=0;omega)
 |Yi=>exact absurd b (by show ¬(2:Nat)=0;omega)
def oL{id n hi:Nat}{z:List V}{es:List (T4×St)}(hn:n=z.length)(h:∀m x,es[m]?=some x->m≤hi->x.2.Tq.get id=some (.acM n z .nil)):eN id z hi 0 es=true:=by
 have a:∀(es:List (T4×St)) (k:Nat),(∀m x,es[m]?=some x->k+m≤hi->x.2.Tq.get id=some (.acM n z .nil))->eN id z hi k es=true:=by
  intro es;induction es with
  |nil=>intro k _;rfl
  |cons x r e=>
   intro k h;obtain⟨d,s⟩:=x;unfold eN;rw[e (k+1) fun m x hx b=>h (m+1) x (by simpa using hx) Q,Bool.and_true];by_cases c:k≤hi
   .have:=h 0 (d,s) rfl Q;simp only at this;rw[Ti c,this];simp only[hn,jC,aaV,WL]
   rw[Tg c]
 exact a es 0 fun m x hx b=>h m x hx Q
theorem Eh(G:jw σ A H B S m hasK AK cK D g E N v){wh mo:Int}{n al:Nat}{dn:Bool}{da:V}(hn:n<18446744073709551616)(hN:N<2000000000000)(cn:da.cells=[da]):
  au G0 [] 84 [v,.agg (V7 5 wh mo n al dn da)] σ fun y s=>VH σ s A H B S m hasK AK cK D g E N y fun H' S' g'=>S'=S∧g'.P=g.P:=by
 obtain⟨h,ok,cs,mk,hv,ot,pc,C,rfl,j⟩:=G;have g0:=ok.Uk;refine ai g84 rfl ?_;obtain⟨s1,bY⟩:=acH (((σ.ag (Uw A B H S cs mk hv ot pc C)).ag (V7 5 wh mo n al dn da)).new (.acM 16 zG .nil));obtain⟨w1,e1,n1,La,Lb,Lc⟩:=lF h rfl rfl bY;obtain⟨c1,c2,c0,c3,c4,c5⟩  :=j.cells;have h1:TS s1 A H B S m hasK AK cK:=Wd.ext h e1 w1;obtain⟨r,hr⟩:=acH (dg H n 1 dn);simp (maxSteps:=9^9) (disch:=omega) only[go_sem,Uw,<- bY,c0,c1,c2,c3,c4,c5,cn,La.cl,La.ld,Lb.cl];refine((GP (d:=dn) h1 g0 hn).gw w1).mono ?_;rw[<- hr];rintro _ s2 ⟨⟨rfl,A2,w,h2,k2⟩,w2⟩;have ap:=La.T9 k2;have b6:=Lb.T9 k2;have b8:=Lc.T9 k2;have b4:=(T5.ext e1 h.gw).trans k2;have f7:bZ [.i 0,.u 0,.u 0,.u 0,.bool false,.acJ] [(0,1,.i 1),(1,1,.u 0),(2,1,.u n),(3,1,.u 0),(4,1,.bool dn),(5,1,.acJ)]=some [.i 1,.u 0,.u n,.u 0,.bool dn,.acJ]:=rfl;simp (maxSteps:=9^9) (disch:=omega) only[go_sem,ap.cl,b6.cl,aG,f7];obtain⟨L,a⟩:∃x,x=s2.Ts 6 [.i 0,.u 0,.u 0,.u 0,.bool false,.acJ] [.i 1,.u 0,.u n,.u 0,.bool dn,.acJ]:=⟨_,rfl⟩;obtain⟨s3,o⟩:=acH (L.new (.acM 5 Un .nil));have bb:GW L:=by rw[a];exact w2.Ts Y rfl
 have bw:TP s2 L:=by rw[a];exact(Gr.g).ext
 have K:L.next=s2.next+1:=by rw[a];rfl
 have w3:GW s3:=by rw[o];exact bb.new _ rfl
 have bx:TP L s3:=by rw[o];exact(Gr.g).ext
 have e3:TP s2 s3:=bw.trans bx;have n3:s3.next=s2.next+2:=by rw[o,cH,K]
 have cy:=b4.next;have cx:=k2.next;have ay:Lo L (UA r.1 A2 S B m hasK AK) s2.next 6 [.i 1,.u 0,.u n,.u 0,.bool dn,.acJ]:=⟨by rw[a];exact To.Ts s2 6 _ _ rfl,rfl,Wd.eh h2 (Tx _)⟩
 have af:=ay.ext bx bb;have bl:Lo s3 (UA r.1 A2 S B m hasK AK) (s2.next+1) 5 Un:=⟨by
  rw[o, <- K];exact To.zero bb Un Y,rfl,Wd.eh h2 Q⟩
 have co:s3.Tq.get (s2.next+1)=some (.acM 5 Un .nil):=by rw[o, <- K];show T.get (T.set _ _ _) _=_;rw[T.aJ,Ti rfl]
 have t:=ap.ext e3 w2;have b9:=b8.ext e3 w2;have I:=ap.ext bw w2;have h3:TS s3 A2 r.1 B S m hasK AK cK:=Wd.ext h2 e3 w3;have nn:(s2.Ts 6 [.i 0,.u 0,.u 0,.u 0,.bool false,.acJ] [.i 1,.u 0,.u n,.u 0,.bool dn,.acJ]).next=s2.next+1:=rfl;simp (maxSteps:=9^9) (disch:=omega) only[go_sem,<- a,<- o,K,t.cl,t.ld,af.ld];rw[<- w];refine((FP g0 hn Q hr (Uo.hc h3)).gw w3).mono ?_;rintro _ s4 ⟨⟨⟨q,k,z,bs,rfl,cm⟩,h4,kp⟩,w4⟩;have aM:TS s4 A2 r.1 B S m hasK AK cK:=HC.X4 (A:=A2) h4 rfl;have k4:=kp.ah;have e:=t.T9 k4;have bi:=b9.T9 k4;have W:=af.T9 k4;have bu:=bl.T9 k4;have bT:=k4.Wo co rfl rfl bl.nm;have b5:=(b4.trans (T5.ext e3 w2)).trans k4;have n4:=k4.next;simp (maxSteps:=9^9) (disch:=omega) only[go_sem,e.cl,e.ld,W.ld];refine((KR (P:=0) (B:=0) w4 g0 (j.hd.ls aM) ok.bk hn hr rfl cm).gw w4).mono ?_;rintro _ s5 ⟨⟨⟨L',v',rfl,bN⟩,e5⟩,w5⟩;have R:=e.ext e5 w4;have ca:=bi.ext e5 w4;have aB:=W.ext e5 w4;have bv:=bu.ext e5 w4;have cw:s5.Tq.get (s2.next+1)=some (.acM 5 Un .nil):=(e5.TE _ (w4.UL bT)).trans bT;have bS:∀s6,eN (s2.next+1) Un 2 0 [([],s3),([],s4),([],s5),([],s6)]=true:=fun s6=>oL rfl fun m x hx hm=>by rcases(by omega:m=0∨m=1∨m=2)with rfl|rfl|rfl <;> (simp at hx;subst hx;assumption)
 obtain⟨ao,b1,b2,b3,⟨r0,⟨q',m',z',rfl⟩,Nv⟩|⟨r0,rfl,cr,cp⟩⟩:=bN
 .obtain⟨l6,h6,m6,k6⟩:=TS.take aM e5 w5 .hd Nv;have J:=e.T9 k6;have ax:=bi.T9 k6;have aC:=W.T9 k6;have am:=bu.T9 k6;obtain⟨s6,aS,cg,w6,M⟩:=am.set w5 (off:=0) (vs:=[.u r.1.Tj,.i r.1.TB,.i r.1.Th,.i r.1.Tl,v']) Y (WB Nv.Tr);have av:=J.put M Q;have cb:=ax.put M Q;have cf:=aC.put M Q;have h7:=h6.eX M w6 am.nm;obtain⟨v8,s8,l8,ck,h8,m8,k8⟩:=h7.push .ot (y:=8) (x:=[.u r.2.1]) (j.ot.TN (by intro h;cases h)) Q rfl rfl (by have:=ok.Ue;unfold aq;omega) (by have:=ok.Ue;unfold aq;omega);have w8:=h8.gw;have bd:=av.T9 k8;have cc:=cb.T9 k8;have ci:=cg.T9 k8;obtain⟨s9,cq,be,w9,p9⟩:=bd.set w8 (off:=13) (vs:=[v8]) Y m8.Tr;have h9:=h8.eX p9 w9 bd.nm;have ce:=cc.put p9 Q;have cj:=ci.put p9 Q;obtain⟨aU,X,O,ad,F⟩:=be.set w9 (off:=8) (vs:=[.u r.1.Tj,.i r.1.TB,.i r.1.Th,.i r.1.Tl,v']) Y (WB Nv.Tr);have aL:=h9.eX F ad be.nm;have f:=ce.put F Q;have p:Lo aU _ σ.next 16 (U4 (A .heap) (B .TA) S.TD cs S.Tz S.TI mk S.TW r.1.Tj r.1.TB r.1.Th r.1.Tl v' v8 pc C):=O;have aP:=il (hp:=A .heap) (ar:=B .TA) (c:=S.TD) (tk:=S.Tz) (us:=S.TI) (md:=S.TW) (b:=r.1.Tj) (l:=r.1.TB) (k:=r.1.Th) (r:=r.1.Tl) j.ch.Tr j.ma.Tr Nv.Tr m8.Tr j.pc.Tr j.ks.Tr;obtain⟨cv,Z,U,ba,ac⟩:=f.set ad (off:=0) (vs:=U4 (A .heap) (B .TA) S.TD cs S.Tz S.TI mk S.TW r.1.Tj r.1.TB r.1.Th r.1.Tl v' v8 pc C) Y aP;have d0:((r.2.2:Nat):Int)=0:=Q;have f8:bZ (bL [V.u 0] 1) [(0,1,.u r.2.1)]=some [.u r.2.1]:=rfl;have c8:=cV (by simpa using m8.Tr);have c9:=Nv.cells;have n8:=k8.next;have n6:=M.next;have n5:=e5.next;simp (maxSteps:=9^9) (disch:=omega) only[go_sem,aS,d0,<- a,<- o,K,I.cl,I.ld,ay.ld,t.cl,t.ld,af.ld,e.cl,e.ld,W.ld,R.cl,R.ld,aB.ld,av.cl,av.ld,cf.ld,bS,w,ck,aG,f8,c8,c9,cq,cj.ld,X,p.ld,Z,U.ld];have ct:=ok.V1 (hr▸(g0.alloc hn Q dn).2) (jP.ZT (hr▸(g0.alloc hn Q dn).1) r0) ao;refine⟨A2,B,r.1,S,_,_,_,rfl,⟨aL.eX ac ba f.nm,ct,cs,mk,v',v8,pc,C,by rw[Uw,w],((j.re rfl rfl).Ky m6).QI (LM.aa7 m8)⟩,w,rfl,rfl,(jP.ZT (hr▸(g0.alloc hn Q dn).1) r0).acb,?_,rfl,rfl⟩;exact(((((b5.trans k6).put M Q h.gw).trans k8).put p9 (Tx _) h.gw).put F (Tx _) h.gw).put ac Q h.gw
 obtain rfl:hv=v':=cr.symm;obtain⟨s6,aS,am,w6,M⟩:=bv.set w5 (off:=0) (vs:=[.u r.1.Tj,.i r.1.TB,.i r.1.Th,.i r.1.Tl,hv]) Y (WB j.hd.Tr);have h5:TS s5 A2 r.1 B S m hasK AK cK:=Wd.ext aM e5 w5;have h6:=h5.eX M w6 bv.nm;have J:=R.put M Q;have ax:=ca.put M Q;have aC:=aB.put M Q;obtain⟨aU,X,O,ad,F⟩:=J.set w6 (off:=8) (vs:=[.u r.1.Tj,.i r.1.TB,.i r.1.Th,.i r.1.Tl,hv]) Y (WB j.hd.Tr);have aL:=h6.eX F ad J.nm;have f:=ax.put F Q;have p:Lo aU _ σ.next 16 (U4 (A .heap) (B .TA) S.TD cs S.Tz S.TI mk S.TW r.1.Tj r.1.TB r.1.Th r.1.Tl hv ot pc C):=O;have aP:=il (hp:=A .heap) (ar:=B .TA) (c:=S.TD) (tk:=S.Tz) (us:=S.TI) (md:=S.TW) (b:=r.1.Tj) (l:=r.1.TB) (k:=r.1.Th) (r:=r.1.Tl) j.ch.Tr j.ma.Tr j.hd.Tr j.ot.Tr j.pc.Tr j.ks.Tr;obtain⟨cv,Z,U,ba,ac⟩:=f.set ad (off:=0) (vs:=U4 (A .heap) (B .TA) S.TD cs S.Tz S.TI mk S.TW r.1.Tj r.1.TB r.1.Th r.1.Tl hv ot pc C) Y aP;have d0:¬((r.2.2:Nat):Int)=0:=Q;simp (maxSteps:=9^9) (disch:=omega) only[go_sem,aS,d0,<- a,<- o,K,I.cl,I.ld,ay.ld,t.cl,t.ld,af.ld,e.cl,e.ld,W.ld,R.cl,R.ld,aB.ld,J.cl,J.ld,aC.ld,am.ld,bS,w,c0,c1,c2,c3,c4,c5,X,p.ld,Z,U.ld];have b0:=((((b5.trans (T5.ext e5 w4)).put M Q h.gw).put F (Tx _) h.gw).put ac Q h.gw)
 have bC:=aL.eX ac ba f.nm;rw[cp]at bC b0 ao⊢;exact⟨A2,B,H,S,m,g,_,rfl,⟨bC,ok.nb,cs,mk,hv,ot,pc,C,by rw[Uw,w],j.re rfl rfl⟩,w,rfl,rfl,kx.refl,b0,rfl,rfl⟩
end
end
section
variable {σ:St} {A:Tu -> Nat} {H H':aa} {fl pl fc:Nat -> List Nat} {lb o N:Nat} {f:Nat -> V}
abbrev HD(σ:St)(A:Tu->Nat)(H:aa)(lb o N:Nat)(f:Nat->V):Prop:=HC σ A H (fun _:Unit=>True) (fun _=>lb) (fun _=>.ro o N f)
def HD.mk(R:aw σ A H)(L:pN σ lb o N f)(hn:∀s,H.has s->A s≠lb)(hw:lb≠dE):HD σ A H lb o N f:=by
 have W:=lu R;obtain⟨m,z,t,_,d,_⟩:=id L;refine⟨W.gw,W.Ub,?_,?_,?_,?_⟩
 .rintro(i|i) hi
  .exact W.V2 hi
  exact hw
 .rintro(i|i) (j|j) hi c e
  .exact Uj _ (W.inj i j hi c e)
  .exact(hn i hi e).elim
  .exact(hn j c e.symm).elim
  rfl
 .rintro(i|i) hi
  .exact W.Ur i hi
  exact L
 rintro(i|i) (j|j) ob hi c a b hg
 .exact W.cut i j ob hi c (fun e=>a (Uj _ e)) b hg
 .intro k;exact hg (W.gw.TG _ _ _ k d rfl).symm
 .have e:AM.Obj.cells true 0 m z t=ob:=XP (d.symm.trans b);rw[<- e]at hg;exact(hg rfl).elim
 exact(a rfl).elim
def HD.ro(h:HD σ A H lb o N f):pN σ lb o N f:=Wd.KY h (i:=.inr ()) trivial rfl
def HD.ne(h:HD σ A H lb o N f):∀s,H.has s->A s≠lb:=fun s hs e=>nomatch h.inj (.inl s) (.inr ()) hs trivial e
def HD.nw(h:HD σ A H lb o N f):lb≠dE:=h.V2 (i:=.inr ()) trivial
def J2{e:V}:au G0 [] 179 [e] σ fun v σ'=>v=.tuple []∧σ'=σ:=by refine ai g179 rfl ?_;obtain⟨v,σ',⟨b,hs⟩,a⟩:=qM (σ:=σ) (e:=e);subst b hs;simp only[go_sem];refine ab a ?_;simp only[go_sem]
def JS(h:HD σ A H lb o N f)(ok:H.OK){p n:Nat}{vs:Nat->Nat}(hv:∀i,i<n->f i=.int .u8 (vs i))(ac:n≤N)(hn:0<n)(b:H.In p n):
  au G0 [] 131 [.acK (A .TY) 0,.u p,.acL lb o n 1] σ fun v s=>v=.i 0∧HD s A (H.wr (p-H.Tj) n vs) lb o N f:=by
 refine ai g131 rfl ?_;have V:=h.Wx;have c:HD (σ.new (.acM 1 [.i 0] .nil)) A H lb o N f:=Wd.new h (.acM 1 [.i 0] .nil) rfl;have q:=To.fx σ [.i 0] 1 (.inl Y);simp only[go_sem,TH,TK];obtain⟨le,r⟩:=acH (σ.next);have P:∀s,H.has s->A s≠le:=fun s hs=>by have:=V.lt hs;omega
 have R:¬Nm (Sum.elim H.has fun _:Unit=>True) (Sum.elim A fun _=>lb) le:=Wd.eh h Q;rw[<- r]at q⊢;obtain⟨ag,U⟩:=acH (σ.new (.acM 1 [.i 0] .nil));rw[<- U]at c q⊢;have E:=c.Wx;obtain⟨v,σ',⟨C,hs⟩,hr⟩:=z9 E ok b.Tj (kJ ok b);subst C hs;have I:=b.Vd;have ad:=ke ok;have G:IntKind.u64.wrap (n:Int)=(n:Int):=bm Q;have d:σ'.load lb o n=some ((List.range n).map fun j=>.int .u8 (vs j)):=by have:=c.ro.load (off:=0) (k:=n) Q;rw[X2]at this;rw[this];refine Uj some (ZH fun j X=>?_);rw[Vk];exact hv j (Ws.mp X)
 obtain⟨v,g,⟨F,T,Wo⟩,w⟩:=JP E ok d hn b;have D:pN g lb o N f:=by obtain⟨m,z,t,Z,J,W⟩:=c.ro;exact⟨m,z,t,Z,(Wo _ _ c.ne J rfl rfl).trans J,W⟩
 have K:HD g A (H.wr (p-H.Tj) n vs) lb o N f:=HD.mk F D c.ne c.nw;have M:=T.TE _ _ _ q P;obtain⟨l,y,O,w4,S⟩:=M.store F.gw (off:=0) (vs:=[.i 0]) Y rfl;have L:HD l A (H.wr (p-H.Tj) n vs) lb o N f:=Wd.wI K S w4 R;have a:=O.cell (i:=0) Q;simp only[UO,Tx,WK,TH,TK,Vk,Nat.lt_add_one,TT,Yf,abi]at a;obtain⟨v5,ah,⟨af,B⟩,x⟩:=J2 (σ:=l) (e:=.acK le 0);subst B;simp only[go_sem,TH,TK,G];refine ab hr ?_;simp only[go_sem,TH,TK,G];refine ab w ?_;simp only[go_sem,TH,TK,az,y,b7];refine⟨.inl ⟨_,g179⟩,ab x ?_⟩;simp only[go_sem,a];exact L
def HD.call{g:FuncId}{xs:List V}{P:V->Prop}(h:HD σ A H lb o N f)(c:∀σ,aw σ A H->au G0 [] g xs σ fun v s=>aw s A H'∧P v):
  au G0 [] g xs σ fun v s=>HD s A H' lb o N f∧P v:=by
 refine(HC.call (Γ:=G0) (Γ':=G0) (M:=[]) (H':=H') (P:=fun v d=>d=A∧P v) (fun _ _ h=>h) (fun _ h=>nomatch h) h fun s hs=>(c s hs).mono fun v i ⟨a,b⟩=>⟨A,a,rfl,b⟩).mono ?_;rintro v s ⟨d,w,rfl,e⟩;exact⟨w,e⟩
def KH{e:Nat}(h:aw σ A H)(hg:T3 H)(a n:Nat)(q:Option (Nat×Nat))(j:n<18446744073709551616)(m:n=0∨H.eZ a n=false):
  au G0 [] 85 [.acK (A .heap) 0,.u a,.slice q n e] σ fun r s=>aw s A H∧r=.i (if n=0 then 0 else 4):=by
 refine ai g85 rfl ?_;obtain⟨fl,pl,fc,x⟩:=hg.UB;obtain⟨v,B,⟨k,b⟩,o⟩:=kL h hg.lock;subst b;simp only[go_sem];refine ab o ?_;by_cases c:n=0
 .have d:(n:Int)=0:=Q;obtain⟨v,y,⟨g,b⟩,f⟩:=fg k rfl;subst b;simp only[go_sem,d,b7];refine⟨.inr fi,ab f ?_⟩;rw[Ti c];simp only[go_sem];rw[ff hg.lock]at g;exact g
 have d:¬(n:Int)=0:=Q;have hw:H.eZ a n=false:=by rcases m with l|l;exact(c l).elim;exact l
 obtain⟨v,s2,⟨b,z,t⟩,p⟩:=k.dF (px k (x.aC 1) a n);rw[ky,hw]at b;subst b;obtain⟨v,y,⟨g,b⟩,f⟩:=fg t rfl;subst b;have w:IntKind.u64.wrap (n:Int)=(n:Int):=bm j;simp only[go_sem,d,w];refine ab p ?_;simp only[go_sem,d,b7];refine⟨.inr fi,ab f ?_⟩;rw[Tg c];simp only[go_sem];rw[ff hg.lock]at g;exact g
def Kn(h:HD σ A H lb o N f)(hg:T3 H)(a n:Nat){vs:Nat->Nat}(E:∀i,i<n->f i=.int .u8 (vs i))(q:n≤N)(hn:0<n)(hy:H.eZ a n=true):
  au G0 [] 85 [.acK (A .heap) 0,.u a,.acL lb o n 1] σ fun r s=>HD s A (H.wr (a-H.Tj) n vs) lb o N f∧r=.i 0:=by
 refine ai g85 rfl ?_;obtain⟨fl,pl,fc,F⟩:=hg.UB;have j:=F.aC 1;obtain⟨v,V,⟨I,g⟩,t⟩:=HD.call h fun s hs=>kL hs hg.lock
 subst g;have d:¬(n:Int)=0:=Q;obtain⟨v,s2,⟨l,g⟩,y⟩:=HD.call (H':=H.aC 1) I fun s hs=>((hs.dF (px hs j a n))).mono fun v T ⟨a,b,c⟩=>⟨c,a⟩
 rw[ky,hy]at g;subst g;have k:(H.aC 1).In a n:=by
  unfold aa.eZ at hy;cases p:H.hU a with
  |none=>rw[p]at hy;cases hy
  |some x=>
   obtain⟨P,w⟩:=x;rw[p]at hy;have m:=abP hy;simp only at m;obtain⟨R,S,U⟩:=F.rm p;exact j.F2 (P:=P) (w:=w) R S hn Q
 have O:=ke j.ok;have G:=k.Vd;have L:IntKind.u64.wrap (n:Int)=(n:Int):=bm Q;have q5:=l.Wx.cell (s:=.heap) trivial (i:=5) (Q:5<7);rw[show(H.aC 1).cell A .heap 5=.acK (A .Ud) 0 from rfl]at q5;obtain⟨v,W,⟨g,D⟩,z⟩:=gG l.Wx;subst g D;obtain⟨v,X,⟨g,J⟩,B⟩:=JS l j.ok E q hn k;subst g;obtain⟨v,Y,⟨K,g⟩,C⟩:=HD.call (H':=H.wr (a-H.Tj) n vs) J fun s hs=>(fg hs rfl).mono fun v T ⟨m,M⟩=>⟨by
  have e:(((H.aC 1).wr (a-H.Tj) n vs).aC 0)=H.wr (a-H.Tj) n vs:=by show(H.aC 0).wr (a-H.Tj) n vs=_;rw[show H.aC 0=H from by rw[<- hg.lock];rfl]
  rw[<- e];exact m,M⟩
 subst g;simp only[go_sem];refine ab t ?_;simp only[go_sem,d,L];refine ab y ?_;simp only[go_sem,d,q5];refine ab z ?_;simp only[go_sem,d,q5];refine ab B ?_;simp only[go_sem,b7];refine⟨.inr fi,ab C ?_⟩;simp only[go_sem];exact K
end
section
variable {σ σ':St} {A:Tu -> Nat} {B:AI -> Nat} {H H':aa} {S S':AS}
def uF(w:Int)(L:Nat):Nat:=(if w.tmod L<0 then w.tmod L+L else w.tmod L).toNat
def zB{w:Int}{L:Nat}(d:0<L):-(L:Int)<w.tmod L∧w.tmod L<L:=by
 have a:(0:Int)<L:=Q;refine⟨?_,Int.tmod_lt_of_pos w a⟩;rcases Int.lt_or_le w 0 with c|c
 .have b:=Int.tmod_lt_of_pos (-w) a;rw[Int.neg_tmod]at b;omega
 have:=Int.tmod_nonneg (L:Int) c;omega
def FI{w:Int}{L:Nat}(a:0<L):uF w L<L:=by have:=zB (w:=w) a;unfold uF;split <;> omega
def KW{w:Int}{L:Nat}(e:0<L)(f:L<4000000000000):au G0 [] 73 [.i w,.i L] σ fun r s=>r=.i (uF w L)∧s=σ:=by
 refine ai g73 rfl ?_;have g:=zB (w:=w) e;have b:((L:Nat):Int)≠0:=Q;by_cases c:w.tmod L<0
 .have a:IntKind.i64.wrap (w.tmod L+(L:Int))=(uF w L:Int):=by rw[dw Q Q];unfold uF;rw[Ti c];omega
  simp only[go_sem,aZ,b,TV,Ug,c,a]
 have a:w.tmod L=(uF w L:Int):=by unfold uF;rw[Tg c];omega
 have d:¬((uF w L:Int)<0):=Q;simp only[go_sem,aZ,b,TV,Ug,a,d]
def Uo.drop{κ:Type}{hasK:κ->Prop}{AK:κ->Nat}{cK:κ->cA}(h:Uo σ A H B S hasK AK cK):AR σ A H B S:=h.left
def U9(st:List V)(hp ar:Nat):List V:=.acK hp 0 :: .acK ar 0 ::st
def opV(k w m:Int)(n a:Nat)(d:Bool)(x:V):List V:=[.i k,.i w,.i m,.u n,.u a,.bool d,x]
section
variable {k w m:Int} {n a:Nat} {d:Bool}
theorem lV(l:List V):(V.agg l).cells=l:=rfl
end
end
section
variable {H:aa} {fl pl fc:Nat -> List Nat}
def Tv.EM(h:Tv H fl pl fc (fun _=>False)){P w a:Nat}(r:aV H P w)(C:P≤a)(D:a<P+w):∃b,H.hU a=some b:=by
 have J:=h.b8 r;have B:=od H;obtain⟨x,hx,n⟩:=r;obtain⟨i,rfl⟩:∃i,a=P+i:=⟨a-P,Q⟩
 unfold aa.hU;rw[Tg Q];obtain⟨k,v,g⟩:=h.pg x hx (fun e=>e);rcases n with⟨d,j,E,y,o⟩|⟨d,c,q,o,z,A,p,F⟩
 .have l:j=k:=by have:=g.Th;omega
  subst l;obtain⟨rfl,al⟩:=g.Xi d;have hy:(x+i/4096)/2^j=x/2^j:=(dB al).2 ⟨Q,by have:i/4096<2^j:=ZK Q;omega⟩;have e:(P+i-H.Tj)/4096=x+i/4096:=by rw[y];unfold aa.Tk;omega
  rw[e];have m:(H.Tf (x+i/4096)).kind=2∨(H.Tf (x+i/4096)).kind=3:=by rcases g.kinds hy with f|f <;> omega
  rw[Tg Q,Ti m];exact⟨_,rfl⟩
 have s:=h.Ua hx (fun e=>e) d o;have G:=ey s.c8 z;have I:=aK c;have e:(P+i-H.Tj)/4096=x:=by rw[p];unfold aa.Tk;omega
 have f:(P+i-H.Tj)%4096=q*(16*2^c)+i:=by rw[p];unfold aa.Tk;omega
 have t:(H.Tf x).TQ.toNat=c:=Q;have u:(q*(16*2^c)+i)/(16*2^c)=q:=by rw[UF,aab Q,aaJ Q];rfl
 rw[e,Ti d,f,t,u,Ti A];exact⟨_,rfl⟩
def Tv.Jx(h:Tv H fl pl fc (fun _=>False)){P w a:Nat}(b:aV H P w)(j:P≤a)(k:a<P+w):H.hU a=some (P,w):=by
 obtain⟨⟨g,n⟩,e⟩:=h.EM b j k;obtain⟨f,l,m⟩:=h.rm e;obtain rfl:g=P:=Wq fun c=>by have:=h.Xv f b c;omega
 have i:=h.gX f;have d:=h.gX b;rw[i,TC]at d;rw[e,d]
def Tv.acp(h:Tv H fl pl fc (fun _=>False)){P w a n:Nat}(c:aV H P w)(b:P≤a)(hn:0<n)(d:a+n≤P+w):H.eZ a n=true:=by unfold aa.eZ;rw[h.Jx c b Q];exact UR (by show n≤P+w-a;omega)
end
section
attribute [local go_sem] bJ bO bM bP bI bo bj bV bD bK VG Wa VU WZ dx dv cH bg cU bq bG cX cZ br bH cY cB UR UK aj az aD TH TK TZ bm bF aW aO aI bz aX bt aY dM aR bU dN aZ bc aT bA
variable {σ σ' s:St}
section
variable {κ:Type} {hasK:κ -> Prop} {AK:κ -> Nat} {cK:κ -> cA} {A:Tu -> Nat} {H:aa} {B:AI -> Nat} {S:AS} {m:ML -> Li} {D:DT} {g:Gm} {E:List Nat} {N:Nat} {v:V}
def T5.pre{W d e:Nat->Prop}(k:T5 σ s W d)(h:∀{id}, ¬e id->¬W id):T5 σ s e d:=⟨k.next,fun a b c hn=>k.Wo a b c (h hn),fun a b c hn=>k.Xp a b c (h hn)⟩
def T5.post{W d e:Nat->Prop}(k:T5 σ s W d)(h:∀{id}, ¬d id->¬e id):T5 σ s W e:=⟨k.next,k.Wo,fun a b c hn=>h (k.Xp a b c hn)⟩
def JT(h:Uo σ A H B S hasK AK cK)(g:T3 H){k0:κ}(C:hasK k0){o N:Nat}{f:Nat->V}(z:cK k0=.ro o N f){P w a n:Nat}{vs:Nat->Nat}(G:aV H P w)(m:P≤a)(p:a+n≤P+w)(hn:0<n)(q:n≤N)(hv:∀i,i<n->f i=.int .u8 (vs i)):
  au G0 [] 85 [.acK (A .heap) 0,.u a,.acL (AK k0) o n 1] σ fun v s=>v=.i 0∧Uo s A (H.wr (a-H.Tj) n vs) B S hasK AK cK∧T5 σ s (VB H A S B hasK AK) (VB (H.wr (a-H.Tj) n vs) A S B hasK AK):=by
 haveI:DecidableEq κ:=fun a b=>Classical.propDecidable (a=b)
 obtain⟨fl,pl,fc,I⟩:=g.UB;have hy:=I.acp G m hn p;have E:Wd σ (Sum.elim (Sum.elim H.has fun _:Unit=>True) (Sum.elim S.has fun k=>hasK k∧k≠k0)) (Sum.elim (Sum.elim A fun _=>AK k0) (Sum.elim B AK)) (Sum.elim (Sum.elim (fW H A) fun _=>.ro o N f) (Sum.elim (S.X5 (A .heap) B) cK)):=by
  refine Wd.sub h (fun k=>match k with| .inl (.inl s)=>.inl (.inl s)| .inl (.inr _)=>.inr k0| .inr (.inl x)=>.inl (.inr x)| .inr (.inr k)=>.inr k) ?_ ?_ ?_ ?_
  .rintro((x|x)|(x|x)) hx
   .exact hx
   .exact C
   .exact hx
   exact hx.1
  .rintro((x|x)|(x|x)) ((y|y)|(y|y)) hx hy e <;> simp_all
  .rintro((x|x)|(x|x)) hx <;> rfl
  rintro((x|x)|(x|x)) hx
  .exact .inl rfl
  .exact .inl z.symm
  .exact .inl rfl
  exact .inl rfl
 refine(Wd.gQ (P:=fun v l r t=>v=.i 0∧l=(Sum.elim (H.wr (a-H.Tj) n vs).has fun _:Unit=>True)∧r=(Sum.elim A fun _=>AK k0)∧t=(Sum.elim (fW (H.wr (a-H.Tj) n vs) A) fun _=>.ro o N f)) E fun s w=>(Kn (vs:=vs) w g a n hv q hn hy).mono ?_).mono ?_
 .rintro v J ⟨D,hv⟩;exact⟨_,_,_,D,hv,rfl,rfl,rfl⟩
 rintro v J ⟨l,r,t,W,⟨rfl,rfl,rfl,rfl⟩,k⟩;have j:∀x:(Tu ⊕ AI) ⊕ κ,(Sum.elim (Sum.elim (H.wr (a-H.Tj) n vs).has S.has) hasK) x->∃y:(Tu ⊕ Unit) ⊕ (AI ⊕ κ),y=(match x with| .inl (.inl s)=>.inl (.inl s)| .inl (.inr x)=>.inr (.inl x)| .inr k=>if k=k0 then .inl (.inr ())else .inr (.inr k))∧
   (Sum.elim (Sum.elim (H.wr (a-H.Tj) n vs).has fun _:Unit=>True) (Sum.elim S.has fun k=>hasK k∧k≠k0)) y∧(Sum.elim (Sum.elim A B) AK) x=(Sum.elim (Sum.elim A fun _=>AK k0) (Sum.elim B AK)) y∧
   (Sum.elim (Sum.elim (fW (H.wr (a-H.Tj) n vs) A) (S.X5 (A .heap) B)) cK) x=(Sum.elim (Sum.elim (fW (H.wr (a-H.Tj) n vs) A) fun _=>.ro o N f) (Sum.elim (S.X5 (A .heap) B) cK)) y:=by
  rintro((x|x)|x) hx
  .exact⟨_,rfl,hx,rfl,rfl⟩
  .exact⟨_,rfl,hx,rfl,rfl⟩
  by_cases c:x=k0
  .subst c;exact⟨.inl (.inr ()),Y,trivial,rfl,z⟩
  exact⟨.inr (.inr x),by simp[c],⟨hx,c⟩,rfl,rfl⟩
 refine⟨rfl,Wd.sub W (fun x=>match x with| .inl (.inl s)=>.inl (.inl s)| .inl (.inr x)=>.inr (.inl x)| .inr k=>if k=k0 then .inl (.inr ())else .inr (.inr k)) (fun x hx=>?_) ?_ (fun x hx=>?_) (fun x hx=>?_),(k.pre fun hn=>Nm.map ?_ hn).post fun hn=>Nm.map (fun x hx=>?_) hn⟩
 .obtain⟨y,rfl,m,_⟩:=j x hx;exact m
 .rintro((x|x)|x) ((y|y)|y) hx hy e
  .simpa using e
  .simp at e
  .by_cases c:y=k0 <;> simp[c]at e
  .simp at e
  .simpa using e
  .by_cases c:y=k0 <;> simp[c]at e
  .by_cases c:x=k0 <;> simp[c]at e
  .by_cases c:x=k0 <;> simp[c]at e
  by_cases c:x=k0 <;> by_cases d:y=k0 <;> simp[c,d]at e
  .rw[c,d]
  rw[e]
 .obtain⟨y,rfl,_,p,_⟩:=j x hx;exact p
 .obtain⟨y,rfl,_,_,F⟩:=j x hx;exact .inl F
 .rintro((x|x)|(x|x)) hx
  .exact⟨.inl (.inl x),hx,rfl⟩
  .exact⟨.inr k0,C,rfl⟩
  .exact⟨.inl (.inr x),hx,rfl⟩
  exact⟨.inr x,hx.1,rfl⟩
 obtain⟨y,_,m,p,_⟩:=j x hx;exact⟨y,m,p.symm⟩
def KT(h:Uo σ A H B S hasK AK cK)(g:T3 H){a e:Nat}{q:Option (Nat×Nat)}:
  au G0 [] 85 [.acK (A .heap) 0,.u a,.slice q 0 e] σ fun v s=>v=.i 0∧Uo s A H B S hasK AK cK∧T5 σ s (VB H A S B hasK AK) (VB H A S B hasK AK):=by
 refine((HC.gQ (H':=H) (P:=fun v b=>v=.i 0∧b=A) h.hc fun s R=>?_)).mono fun v s ⟨b,d,⟨l,f⟩,k⟩=>by subst f;exact⟨l,d.X4 rfl,k.ah⟩
 exact(KH R g a 0 q Q (.inl rfl)).mono fun r m ⟨c,j⟩=>⟨A,c,by rw[j];rfl,rfl⟩
def I3(hasK:κ->Prop)(AK:κ->Nat)(cK:κ->cA)(D:DT)(x:V):Prop:=∃q L e,x=.slice q L e∧L<9223372036854775808∧
 (0<L->e=1∧∃k o N f, ∃a:Nat->Nat,hasK k∧cK k=.ro o N f∧q=some (AK k,o)∧L≤N∧(∀i,i<L->a i<256∧f i=.int .u8 (a i:Nat))∧∀n,n≤L->D q n 1 ((List.range n).map a))
def NN{o:Nat}{vs:Nat->Nat}:H.wr o 0 vs=H:=by
 have:(fun i=>if o≤i∧i<o+0 then vs (i-o)else H.mem i)=H.mem:=funext fun i=>Tg Q
 unfold aa.wr;rw[this]
def JA(h:TS σ A H B S m hasK AK cK)(g:T3 H){e:Option (Nat×Nat)}{L p k P w a:Nat}(d:0<L->p=1∧∃k o N f, ∃b:Nat->Nat,hasK k∧cK k=.ro o N f∧e=some (AK k,o)∧L≤N∧(∀i,i<L->b i<256∧f i=.int .u8 (b i:Nat))∧∀n,n≤L->D e n 1 ((List.range n).map b))(C:k≤L)(E:aV H P w)(r:P≤a)(t:a+k≤P+w):
  ∃b:Nat->Nat,(∀j,j<k->b j<256)∧(0<k->D e k p ((List.range k).map b))∧
   au G0 [] 85 [.acK (A .heap) 0,.u a,.slice e k p] σ fun v s=>v=.i 0∧TS s A (H.wr (a-H.Tj) k b) B S m hasK AK cK∧T5 σ s (UA H A S B m hasK AK) (UA (H.wr (a-H.Tj) k b) A S B m hasK AK):=by
 rcases Wi k with c|c
 .subst c;refine⟨fun _=>0,fun j l=>absurd l Q,fun l=>absurd l Q,?_⟩;rw[NN];exact KT h g
 obtain⟨rfl,F,o,N,f,b,x,y,rfl,G,q,z⟩:=d Q;refine⟨b,fun j l=>(q j Q).1,fun _=>z k C,?_⟩;exact JT (k0:=.inr F) h g x y E r t c Q fun i hi=>(q i Q).2
def Kh{l:List Hd}{i k:Nat}{x:Hd}(b:k<l.length):(l.set i x).take (k+1)=(l.set i x).take k++[if k=i then x else l[k]]:=by
 have a:k<(l.set i x).length:=by rw[ZG];exact b
 rw[X1 a,List.getElem_set];by_cases c:i=k
 .rw[Ti c,Ti c.symm]
 rw[Tg c,Tg (fun e=>c e.symm)]
theorem QQ(G:jw σ A H B S m hasK AK cK D g E N v){wh mo:Int}{n al:Nat}{dn:Bool}{da:V}(hN:N<2000000000000)(hd:I3 hasK AK cK D da):
  au G0 [] 31 [v,.agg (V7 7 wh mo n al dn da)] σ fun y s=>VH σ s A H B S m hasK AK cK D g E N y fun H' S' g'=>g'.P.length≤g.P.length:=by
 obtain⟨h,ok,cs,mk,hv,ot,pc,w,rfl,C⟩:=G;obtain⟨f,L,d,rfl,hL,W⟩:=hd;have aU:(V.slice f L d).cells=[.slice f L d]:=rfl;refine ai g31 rfl ?_;obtain⟨s1,ao⟩:=acH (((σ.ag (Uw A B H S cs mk hv ot pc w)).ag (V7 7 wh mo n al dn (.slice f L d))).new (.acM 16 zG .nil));obtain⟨w1,e1,n1,U,Lb,Lc⟩:=lF h rfl rfl ao;obtain⟨pq,pe,rfl,cf⟩:=C.pc.is;obtain⟨c1,c2,c0,c3,c4,c5⟩:=C.cells;have h1:TS s1 A H B S m hasK AK cK:=Wd.ext h e1 w1;have cc:=ok.Ue;by_cases c:g.P.length=0
 .obtain⟨s2,b0,I,w2,p2⟩:=Lc.set w1 (off:=0) (vs:=Uw A B H S cs mk hv ot (.slice pq g.P.length pe) w) Y (C.Tr A B H S);have d0:¬(0:Int)<((g.P.length:Nat):Int):=Q;simp (maxSteps:=9^9) (disch:=omega) only[go_sem,Uw,<- ao,c0,c1,c2,c3,c4,c5,aU,U.cl,U.ld,Lb.cl,d0,b0,I.ld];exact⟨A,B,H,S,m,g,_,rfl,⟨TS.eX h1 p2 w2 Lc.nm,ok.nb,cs,mk,hv,ot,_,w,rfl,C⟩,rfl,rfl,rfl,kx.refl,(T5.ext e1 h.gw).put p2 Q h.gw,Tx _⟩
 have X:0<g.P.length:=Q;obtain⟨i,hi⟩:=acH (uF wh g.P.length);have af:i<g.P.length:=hi▸FI X;obtain⟨pb,po,am,ce,J,hp1, -, -⟩:=VF.at (C.pc.ls h1) af;cases am;obtain⟨x,hx⟩:=acH (g.P[i]);rw[<- hx]at J hp1;have b4:x∈g.P:=by rw[hx];exact Wm af
 obtain⟨cg,ch,aM,aP,b9⟩:=ok.ZU b4;have cb:=ok.range ch aM;have d0:(0:Int)<((g.P.length:Nat):Int):=Q;simp (maxSteps:=9^9) (disch:=omega) only[go_sem,Uw,<- ao,c0,c1,c2,c3,c4,c5,aU,U.cl,U.ld,Lb.cl,d0];refine(KW X Q).mono ?_;rintro _ s' ⟨rfl,bY⟩;rw[bY, <- hi];by_cases cL:x.s<L
 case' pos=>
  have dL:((x.s:Nat):Int)<((L:Nat):Int):=Q;have aS:=mB (z:=1) (k:=.u64) (fun _=>(W Q).1:f.isSome=true->d=1) (Q:x.s≤L);simp (maxSteps:=9^9) (disch:=omega) only[go_sem,U.cl,Lb.cl,J,hp1,dL,aS];obtain⟨k,hk⟩:=acH (x.s);rw[<- hk]
 case' neg=>
  have dL:¬((x.s:Nat):Int)<((L:Nat):Int):=Q;simp (maxSteps:=9^9) (disch:=omega) only[go_sem,U.cl,Lb.cl,J,hp1,dL];obtain⟨k,hk⟩:=acH L;rw[<- hk]
 all_goals
  have bC:k≤L:=Q;have bS:k≤x.s:=Q;obtain⟨bs,bv,bw,ba⟩:=JA (D:=D) (a:=x.p) h1 ok.Uk W bC (ok.Vo ch aM) aP Q;refine(ba.gw w1).mono ?_;rintro _ s2 ⟨⟨rfl,h2,k2⟩,w2⟩;obtain⟨ap,bd⟩:=ok.YB (i:=i) (q:=f) (e:=d) af (by rw[<- hx];exact bS) bv bw;rw[<- hx]at ap bd;have av:=U.T9 k2;have I:=Lc.T9 k2;have n2:=k2.next;obtain⟨P',ad⟩:=acH (g.P.set i ⟨x.p,x.s,f,k,d⟩);have bu:P'.length=g.P.length:=by rw[ad,ZG]
  simp (maxSteps:=9^9) (disch:=omega) only[go_sem,U.cl,J];refine bW (fun n fr t=>fr.defers=[]∧fr.tmps.get 2=some (.acK σ.next 0)∧fr.tmps.get 4=some (.acK (σ.next+2) 0)∧fr.tmps.get 12=some (.i i)∧fr.tmps.get 13=some (.slice f k d)∧fr.tmps.get 14=some (.bool true)∧GW t∧TP s2 t∧
   ∃j y,j+n=g.P.length∧fr.tmps.get 16=some (.i (j:Nat))∧fr.tmps.get 15=some y∧Nl s2 t 3 j (fl j6 (P'.take j)) y) ?_ g.P.length ?_
  .rintro n ⟨tm,ds⟩ t ⟨hd,t2,t4,K,M,O,wt,et,j,y,hj,T,R,Nx⟩;simp only at hd t2 t4 K M O R T;subst hd;have Z:=av.ext et w2;have ca:=I.ext et w2;by_cases cj:j<g.P.length
   .obtain⟨ck,cm,am, -, -, -,ah, -⟩:=VF.at (C.pc.ls (TS.ext h2 et wt)) cj;cases am;obtain⟨z,hz⟩:=acH (g.P[j]);rw[<- hz]at ah;obtain⟨t1,o⟩:=acH (t.Ts 3 [.u 0,.u 0,.acJ] [.u z.p,.u z.s,.slice z.q z.n z.e]);have bb:GW t1:=by rw[o];exact wt.Ts Y rfl
    have ac:TP t t1:=by rw[o];exact(Gr.g).ext
    have ci:t1.next=t.next+1:=by rw[o];rfl
    have Ld:To t1 t.next 3 (Tn [.u z.p,.u z.s,.slice z.q z.n z.e]):=by rw[o];exact To.Ts t 3 _ _ rfl
    have F:=Kh (l:=g.P) (i:=i) (k:=j) (x:=⟨x.p,x.s,f,k,d⟩) cj;rw[<- ad, <- hz]at F;by_cases aJ:j=i
    .subst aJ;have b5:z=x:=by rw[hz,hx]
     rw[Ti rfl]at F;obtain⟨u2,b3,bl,b8,b6⟩:=Ld.H7 rfl bb (off:=2) (vs:=[.slice f k d]) Y rfl;have aL:TP t u2:=b6.ext ac (Tx _);have aC:To u2 t.next 3 (Tn [.u z.p,.u z.s,.slice f k d]):=bl;obtain⟨v',s',ha,N',g',w',bT,hC⟩:=(Nx.Ui wt aL).tM (y:=40) (x:=[.u z.p,.u z.s,.slice f k d]) (et.trans aL) w2 b8 Q rfl rfl (by unfold aq;omega) (by unfold aq;omega);have f2:bZ (bL [V.u 0,.u 0,.acJ] 1) [(0,3,.agg [.u z.p,.u z.s,.slice f k d])]=some [.u z.p,.u z.s,.slice f k d]:=rfl;simp (maxSteps:=9^9) (disch:=omega) only[go_sem,t2,t4,K,M,O,R,T,Z.cl,ah,<- o,b3,aC.bN rfl,aG,f2,ha];refine⟨n-1,Q,w',g',j+1,v',Q,rfl,rfl,?_⟩;rw[F,Ae,pU, <- b5];exact N'
    have d1:¬(j:Int)=(i:Int):=Q;rw[Tg aJ]at F;obtain⟨v',s',ha,N',g',w',bT,hC⟩:=(Nx.Ui wt ac).tM (y:=40) (x:=[.u z.p,.u z.s,.slice z.q z.n z.e]) (et.trans ac) w2 bb Q rfl rfl (by unfold aq;omega) (by unfold aq;omega);have f2:bZ (bL [V.u 0,.u 0,.acJ] 1) [(0,3,.agg [.u z.p,.u z.s,.slice z.q z.n z.e])]=some [.u z.p,.u z.s,.slice z.q z.n z.e]:=rfl;simp (maxSteps:=9^9) (disch:=omega) only[go_sem,t2,t4,K,M,O,R,T,Z.cl,ah,<- o,d1,Ld.bN rfl,aG,f2,ha];refine⟨n-1,Q,w',g',j+1,v',Q,rfl,rfl,?_⟩;rw[F,Ae,pU];exact N'
   obtain rfl:j=g.P.length:=Q;rw[VZ Q, <- bu]at Nx;obtain⟨l3,h3,m3,k3⟩:=TS.take h2 et wt .pc Nx;have ax:=av.T9 k3;have bi:=I.T9 k3;have nt:=et.next;obtain⟨s4,b1,be,w4,p4⟩:=ax.set wt (off:=14) (vs:=[y]) Y m3.Tr;have aB:=bi.put p4 Q;have h4:=TS.eX h3 p4 w4 ax.nm;have cy:=cV (by simpa using m3.Tr);have ay:Lo s4 _ σ.next 16 (U4 (A .heap) (B .TA) S.TD cs S.Tz S.TI mk S.TW H.Tj H.TB H.Th H.Tl hv ot y w):=be;have bx:=il (hp:=A .heap) (ar:=B .TA) (c:=S.TD) (tk:=S.Tz) (us:=S.TI) (md:=S.TW) (b:=H.Tj) (l:=H.TB) (k:=H.Th) (r:=H.Tl) C.ch.Tr C.ma.Tr C.hd.Tr C.ot.Tr m3.Tr C.ks.Tr;obtain⟨s5,b2,bk,w5,p5⟩:=aB.set w4 (off:=0) (vs:=U4 (A .heap) (B .TA) S.TD cs S.Tz S.TI mk S.TW H.Tj H.TB H.Th H.Tl hv ot y w) Y bx;simp (maxSteps:=9^9) (disch:=omega) only[go_sem,t2,t4,K,M,O,R,T,Z.cl,cy,b1,ay.ld,b2,bk.ld];rw[<- ad]at ap;exact⟨A,B,_,S,_,_,_,rfl,⟨TS.eX h4 p5 w5 aB.nm,ap,cs,mk,hv,ot,y,w,rfl,(C.re rfl rfl).Pg m3⟩,rfl,rfl,rfl,bd,(((((T5.ext e1 h.gw).trans k2).trans k3).put p4 (Tx _) h.gw).put p5 Q h.gw),by show P'.length≤_;omega⟩
  simp (maxSteps:=9^9) (disch:=omega) only[go_sem];exact⟨w2,TP.refl _,0,_,Q,rfl,rfl,by rw[VU];exact Nl.nil⟩
end
end
section
variable {σ σ':St}
def FE(l:List V):((List.range l.length).map fun j=>Tn l (0+j))=l:=by
 refine Z3 Y fun i b a=>?_
 simp only[YX,abl,Vk,Tn];rw[U7,UQ a];rfl
section
variable {ι:Type} {has:ι -> Prop} {A:ι -> Nat} {c:ι -> cA}
def Wd.lj(h:Wd σ has A c){i:ι}(hi:has i){l:List V}{n:Nat}(a:l.length=n)(e:c i=.row n (Tn l)):σ.load (A i) 0 n=some l:=by subst a;rw[h.load hi e (off:=0) (k:=l.length) Q,FE]
def Wd.eX[DecidableEq ι](h:Wd σ has A c){i:ι}(hi:has i){n:Nat}{f:Nat->V}(e:c i=.row n f){vs:List V}(g:vs.length=n)(b:vs.all V.Tr=true):
  ∃s,σ.store (A i) 0 vs=some s∧Wd s has A (cu c i (.row n (Tn vs))):=by
 obtain⟨s,hs,W,_⟩:=h.store hi e (off:=0) (vs:=vs) Q b;refine⟨s,hs,W.Qh fun j _=>?_⟩;by_cases a:j=i
 .subst a;right;refine⟨n,_,n,_,aF ..,aF ..,Tx _,fun k d=>?_⟩;unfold UO;rw[Ti ⟨VK _,Q⟩];rfl
 left;rw[aA a,aA a]
end
def I2(w:GW σ)(hw:Vv σ)(l z:List V)(g:z≠[]):Wd ((σ.ag l).new (.acM z.length z .nil)) (fun _:Bool=>True) (fun b=>cond b (σ.next+1) σ.next) (fun b=>cond b (.row z.length (Tn z)) (.row l.length (Tn l))):=by
 have c:=Wd.DL (ι:=Bool) w hw (fun _=>0) (fun _=>.map []);have d:=c.cells (i0:=false) (fun h=>h) l;have f:=d.alloc (i0:=true) (by rintro(h|h);exact h;cases h) (z:=z) (n:=z.length) (.inl g);refine f.sub id ?_ (fun _ _ _ _ e=>e) ?_ ?_
 .rintro(_|_) a
  .exact .inl (.inr rfl)
  exact .inr rfl
 .rintro(_|_) a
  .show _=cu _ _ _ _;rw[show id false=false from rfl,aA (by intro h;cases h),aF];rfl
  show _=cu _ _ _ _;rw[show id true=true from rfl,aF];rfl
 rintro(_|_) a
 .left;show _=cu _ _ _ _;rw[show id false=false from rfl,aA (by intro h;cases h),aF];rfl
 right;refine⟨z.length,_,z.length,_,aF ..,rfl,Tx _,fun i hi=>?_⟩;show z.getD (i%z.length) .undef=z.getD i .undef;rw[WR hi]
def jI{b l o:Int}(hw:GW σ):au G0 [] 37 [Uu b l o] σ fun v s=>v=Uu b l o∧aH σ s:=by refine ai g37 rfl ?_;have L:=m7 σ b l o;have g:aH σ (σ.ag [.u b,.i l,.i o]):=aH.new σ _;have d:GW (σ.ag [.u b,.i l,.i o]):=hw.new _ rfl;generalize hs:σ.ag [.u b,.i l,.i o]=a at L g d;have e:=L.Ui d (aH.new a (.acM 3 [.u 0,.i 0,.i 0] .nil));have h:=e.cell (i:=0) Q;have m:=e.cell (i:=1) Q;have p:=e.cell (i:=2) Q;rw[show Tn [V.u b,.i l,.i o] 0=.u b from rfl]at h;rw[show Tn [V.u b,.i l,.i o] 1=.i l from rfl]at m;rw[show Tn [V.u b,.i l,.i o] 2=.i o from rfl]at p;have f:=aQ (σ:=a) (z:=[.u 0,.i 0,.i 0]) (vs:=[V.u b,.i l,.i o]) (n:=3) Y rfl;have q:=To.Ts a 3 [.u 0,.i 0,.i 0] [V.u b,.i l,.i o] rfl;have c:=q.load (off:=0) (k:=3) Q;rw[show((List.range 3).map fun j=>Tn [V.u b,.i l,.i o] (0+j))=[V.u b,.i l,.i o]from rfl]at c;have r:bZ [V.u 0,.i 0,.i 0] [(0,1,V.u b),(1,1,V.i l),(2,1,V.i o)]=some [V.u b,.i l,.i o]:=rfl;simp only[go_sem,Uu,aj,fC,hs,h,m,p,aG,r,TH,TK,f,c];exact g.trans (aH.Ts _ _ _ _)
abbrev uv:List V:=[.ptr none,.ptr none,.u 0,.acJ,.u 0,.u 0,.acJ,.i 0,.u 0,.i 0,.i 0,.i 0,.acJ,.acJ,.acJ,.acJ]
abbrev Vc(c:Nat)(b l o:Int):List V:=[.u c,.acJ,.u 0,.u 0,.acJ,.i 0,.u b,.i l,.i o,.i 0,.acJ,.acJ,.acJ,.acJ]
theorem Kt:uv.length=16:=rfl
def je(b l o:Int)(c:Nat):Prop:=dV b l o∧c≠0∧c≤(di b.toNat l.toNat o.toNat).Tp
abbrev Bg(σ:St)(q:Nat)(b l o:Int):Prop:=Wd σ (fun _:Bool=>True) (fun x=>cond x (q+1) q) (fun x=>cond x (.row 16 (Tn uv)) (.row 3 (Tn [.u b,.i l,.i o])))
def Bg.Uu{q:Nat}{b l o:Int}(h:Bg σ q b l o):σ.load q 0 3=some [.u b,.i l,.i o]:=Wd.lj h (i:=false) trivial rfl rfl
def Bg.Wl{q:Nat}{b l o:Int}(h:Bg σ q b l o):σ.load (q+1) 0 16=some uv:=Wd.lj h (i:=true) trivial rfl rfl
def Bg.put{q:Nat}{b l o:Int}(h:Bg σ q b l o):∃s,σ.store (q+1) 0 uv=some s∧s.load (q+1) 0 16=some uv∧Vv s:=by obtain⟨s,a,W⟩:=Wd.eX h (i:=true) trivial rfl (vs:=uv) rfl rfl;exact⟨s,a,Wd.lj W (i:=true) trivial rfl (aF ..),W.Ub⟩
def tR{b l o:Int}(d:0≤b)(h:dV b l o):dV (b.toNat:Int) (l.toNat:Int) (o.toNat:Int)=dV b l o:=by have a:=h.o0;have c:=h.l1;rw[YV Q,YV Q,YV Q]
def O6{b l o:Int}(a:dV b l o):au G0 [] 44 [AM.V.agg [.u b,.i l,.i o]] σ fun v s=>v=.u ((di b.toNat l.toNat o.toNat).Tp:Nat)∧aH σ s:=by
 have d:=a.o0;have e:=a.o8;obtain⟨k,rfl⟩:∃k:Nat,o=(k:Int):=⟨o.toNat,Q⟩
 refine(OY (σ:=σ) (b:=b) (l:=l) (k:=k) Q).mono ?_;rintro v s ⟨c,rfl⟩;exact⟨c,aH.new _ _⟩
def CV{s:St}{q:Nat}{l:List V}(L:To s q 6 (Tn l))(h:l.length=6:=by rfl):s.load q 0 6=some l:=by rw[L.load (off:=0) (k:=6) Q, <- h,FE]
theorem ny{c:Nat}{b l o:Int}{hp ar:Nat}:(U9 (Vc c b l o) hp ar).length=16:=rfl
def CZ(w:GW σ)(hw:Vv σ){b l o:Int}{c:Nat}(q:0≤b)(hb:b<18446744073709551616)(hc:c<18446744073709551616):
  au G0 [] 26 [Uu b l o,.u c] σ fun v s=>(je b l o c->∃A B,v=.tuple [.agg (U9 (Vc c b l o) (A .heap) (B .TA)),.bool true,.bool false]∧AR s A (di b.toNat l.toNat o.toNat) B (ie c))∧(¬je b l o c->v=.tuple [.agg uv,.bool false,.bool false]∧Vv s):=by
 refine ai g26 rfl ?_;have W1:Bg ((σ.ag [.u b,.i l,.i o]).new (.acM 16 uv .nil)) σ.next b l o:=I2 w hw [.u b,.i l,.i o] uv Y;have ap:(σ.ag [.u b,.i l,.i o]).next=σ.next+1:=rfl;generalize aB:(σ.ag [.u b,.i l,.i o]).new (.acM 16 uv .nil)=s1 at W1;have l1:=W1.Uu;obtain⟨v,s3,⟨m1,m2⟩,ax⟩:=Wd.Mg W1 (b:=b) (l:=l) (o:=o) q hb;have W:V5 G0 [] 16 [.agg [.u b,.i l,.i o]] s1 v s3:=ax;simp only[go_sem,Uu,aj,fC,ap,TH,TK,aB,l1];refine ab W ?_;by_cases p:dV b l o
 .obtain⟨A,rfl,t⟩:=m2 p;have aS:=wE (b:=b.toNat) (l:=l.toNat) (o:=o.toNat) (by rw[tR q p];exact p);have l3:=Bg.Uu (Wd.right t);obtain⟨v,J,⟨rfl,ah,P⟩,C⟩:=Wd.dF t (jI (σ:=s3) (b:=b) (l:=l) (o:=o) t.gw);obtain⟨v,s5,⟨rfl,al,W5⟩,D⟩:=Wd.dF P (Ad (σ:=J) (b:=b) (l:=l) (o:=o) q hb P.gw);have d:V5 G0 [] 37 [.agg [.u b,.i l,.i o]] s3 (.agg [.u b,.i l,.i o]) J:=C;have f:V5 G0 [] 63 [.agg [.u b,.i l,.i o]] J (.bool (decide (dV b l o))) s5:=D;obtain⟨v,s6,x,ay⟩:=HC.Lg W5 aS hc;simp only[go_sem,l3];refine ab d ?_;simp only[go_sem];refine ab f ?_;simp only[go_sem,p,TV,Uq,Ug];refine ab ay ?_;by_cases c0:c=0
  .rw[Ti c0]at x;obtain⟨rfl,m⟩:=x;have a:¬je b l o c:=fun h=>h.2.1 c0
   have L:(c:Int)=0:=Q;have H:=Bg.Wl (Wd.right m);obtain⟨r,aJ,l7,w7⟩:=Bg.put (Wd.right m);simp only[go_sem,L,H,lV,Kt,aJ,l7,TV,Uq,Ug];exact⟨fun h=>(a h).elim,fun _=>w7⟩
  have L:¬(c:Int)=0:=Q;rw[Tg c0]at x;by_cases c1:(di b.toNat l.toNat o.toNat).Tp<c
  .rw[Ti c1]at x;obtain⟨rfl,m⟩:=x;have a:¬je b l o c:=fun h=>by have:=h.2.2;omega
   have H:=Bg.Uu (Wd.right m);obtain⟨v,r,⟨rfl,am,W7⟩,E⟩:=Wd.dF m (jI (σ:=s6) (b:=b) (l:=l) (o:=o) m.gw);obtain⟨v,K,⟨rfl,ao,R⟩,F⟩:=Wd.dF W7 (O6 (σ:=r) (b:=b) (l:=l) (o:=o) p);have g:V5 G0 [] 37 [.agg [.u b,.i l,.i o]] s6 (.agg [.u b,.i l,.i o]) r:=E;have j:V5 G0 [] 44 [.agg [.u b,.i l,.i o]] r _ K:=F;have l8:=Bg.Wl (Wd.right R);obtain⟨s9,Z,l9,w9⟩:=Bg.put (Wd.right R);have d1:(((di b.toNat l.toNat o.toNat).Tp:Nat):Int)<(c:Int):=Q;simp only[go_sem,L,H,TV,Uq,Ug];refine ab g ?_;simp only[go_sem];refine ab j ?_;simp only[go_sem,L,d1,l8,lV,Kt,Z,l9,TV,Uq,Ug];exact⟨fun h=>(a h).elim,fun _=>w9⟩
  rw[Tg c1]at x;obtain⟨ar,rfl,m⟩:=x;have av:je b l o c:=⟨p,c0,Q⟩
  have H:=Bg.Uu (Wd.right m);obtain⟨v,r,⟨rfl,am,W7⟩,E⟩:=Wd.dF m (jI (σ:=s6) (b:=b) (l:=l) (o:=o) m.gw);obtain⟨v,K,⟨rfl,ao,R⟩,F⟩:=Wd.dF W7 (O6 (σ:=r) (b:=b) (l:=l) (o:=o) p);have g:V5 G0 [] 37 [.agg [.u b,.i l,.i o]] s6 (.agg [.u b,.i l,.i o]) r:=E;have j:V5 G0 [] 44 [.agg [.u b,.i l,.i o]] r _ K:=F;have d1:¬(((di b.toNat l.toNat o.toNat).Tp:Nat):Int)<(c:Int):=Q;have ac:=aQ (σ:=K) (z:=[.u 0,.acJ,.u 0,.u 0,.acJ,.i 0]) (vs:=[V.u c,.acJ,.u 0,.u 0,.acJ,.i 0]) (n:=6) Y rfl;have LL:=To.Ts K 6 [.u 0,.acJ,.u 0,.u 0,.acJ,.i 0] [V.u c,.acJ,.u 0,.u 0,.acJ,.i 0] rfl;have S:=Wd.Ts R (n:=6) (z:=[.u 0,.acJ,.u 0,.u 0,.acJ,.i 0]) (vs:=[V.u c,.acJ,.u 0,.u 0,.acJ,.i 0]) Y rfl;have aU:K.next≠σ.next+1:=by have:=Wd.lt R (i:=.inr true) trivial;exact U2 (aaQ this)
  generalize Z:K.Ts 6 [.u 0,.acJ,.u 0,.u 0,.acJ,.i 0] [V.u c,.acJ,.u 0,.u 0,.acJ,.i 0]=s9 at LL S ac;have l9:=Bg.Uu (Wd.right S);have k9:=CV LL;obtain⟨v,ad,⟨rfl,T,M⟩,U⟩:=Wd.dF S (jI (σ:=s9) (b:=b) (l:=l) (o:=o) S.gw);have y:V5 G0 [] 37 [.agg [.u b,.i l,.i o]] s9 (.agg [.u b,.i l,.i o]) ad:=U;have aM:=Bg.Uu (Wd.right M);have aL:=CV (LL.Ui S.gw T);obtain⟨I,X,N⟩:=Wd.eX M (i:=.inr true) trivial rfl (vs:=U9 (Vc c b l o) (A .heap) ar) rfl rfl;have O:AR I A (di b.toNat l.toNat o.toNat) (fun _=>ar) (ie c):=N.sub Sum.inl (fun _ h=>h) (fun _ _ _ _ e=>ZQ e) (fun _ _=>rfl) fun k _=>.inl (by
   rw[aA (by intro h;cases h)];rfl)
  have aP:I.load (σ.next+1) 0 16=some (U9 (Vc c b l o) (A .heap) ar):=Wd.lj N (i:=.inr true) trivial rfl (aF ..);have G:ad.store (σ.next+1) 0 (U9 (Vc c b l o) (A .heap) ar)=some I:=X;have f5:bZ [V.u 0,.i 0,.i 0,.i 0,.acJ] [(0,3,V.agg [.u b,.i l,.i o]),(3,1,V.i 0),(4,1,V.acJ)]=some [V.u b,.i l,.i o,.i 0,.acJ]:=rfl;have f6:bZ [V.u 0,.acJ,.u 0,.u 0,.acJ,.i 0] [(0,1,V.u c),(1,1,V.acJ),(2,1,V.u 0),(3,1,V.u 0),(4,1,V.acJ),(5,1,V.i 0)]=some [V.u c,.acJ,.u 0,.u 0,.acJ,.i 0]:=rfl;have af:bZ uv [(0,1,V.acK (A .heap) 0),(1,1,V.acK ar 0),(2,6,V.agg [V.u c,.acJ,.u 0,.u 0,.acJ,.i 0]),(8,5,V.agg [V.u b,.i l,.i o,.i 0,.acJ]),(13,1,V.acJ),(14,1,V.acJ),(15,1,V.acJ)]=some (U9 (Vc c b l o) (A .heap) ar):=rfl;simp only[go_sem,L,H,TV,Uq,Ug];refine ab g ?_;simp only[go_sem];refine ab j ?_;simp only[go_sem,L,d1,TV,Uq,Ug,aG,f6,lV,TH,TK,ac,k9,l9];refine ab y ?_;simp only[go_sem,aG,f5,af,k9,aL,l9,aM,lV,ny,G,aP];exact⟨fun _=>⟨A,fun _=>ar,rfl,O⟩,fun h=>(h av).elim⟩
 obtain⟨rfl,t⟩:=m1 p;have l3:=Bg.Uu t;obtain⟨v,J,⟨rfl,ah,P⟩,C⟩:=Wd.dF t (jI (σ:=s3) (b:=b) (l:=l) (o:=o) t.gw);obtain⟨v,s5,⟨rfl,al,W5⟩,D⟩:=Wd.dF P (Ad (σ:=J) (b:=b) (l:=l) (o:=o) q hb P.gw);have d:V5 G0 [] 37 [.agg [.u b,.i l,.i o]] s3 (.agg [.u b,.i l,.i o]) J:=C;have f:V5 G0 [] 63 [.agg [.u b,.i l,.i o]] J (.bool (decide (dV b l o))) s5:=D;have l5:=Bg.Wl W5;obtain⟨s6,aC,H,w6⟩:=Bg.put W5;have a:¬je b l o c:=fun h=>p h.1
 simp only[go_sem,l3];refine ab d ?_;simp only[go_sem];refine ab f ?_;simp only[go_sem,p,l5,lV,Kt,aC,H,TV,Uq];exact⟨fun h=>(a h).elim,fun _=>w6⟩
end
section
variable {σ σ':St} {A:Tu -> Nat} {B:AI -> Nat} {H H':aa} {S S':AS}
section
variable {κ:Type} {hasK:κ -> Prop} {AK:κ -> Nat} {cK:κ -> cA}
end
section
variable {ρ:Type} {hasR:ρ -> Prop} {AR':ρ -> Nat} {cR:ρ -> cA} {A1 A2:Tu -> Nat} {B1 B2:AI -> Nat} {H1 H2:aa} {S1 S2:AS}
end
structure Wb where
 k:Int
 w:Int
 m:Int
 n:Nat
 a:Nat
 d:Bool
 x:V
 hn:n<18446744073709551616
 ha:a<18446744073709551616
 hx:x.Tr=true
def Wb.v(p:Wb):List V:=opV p.k p.w p.m p.n p.a p.d p.x
theorem nC(p:Wb):p.v.length=7:=rfl
abbrev RI:=Option Bool
structure Rows (hasR:RI -> Prop) (R:RI -> Nat) (cR:RI -> cA) (x y hp1 ar1 hp2 ar2 ob oo N:Nat) (ops:Nat -> Wb) (st:List V):Prop where
 hx:hasR (some false)
 hy:hasR (some true)
 ax:R (some false)=x
 ay:R (some true)=y
 cx:cR (some false)=.row 16 (Tn (U9 st hp1 ar1))
 cy:cR (some true)=.row 16 (Tn (U9 st hp2 ar2))
 op:0<N -> hasR none∧R none=ob∧cR none=.ro oo (N*7) fun j=>Tn (ops (j / 7)).v (j%7)
variable {hasR:RI -> Prop} {R:RI -> Nat} {cR:RI -> cA} {x y hp1 ar1 hp2 ar2 ob oo N:Nat} {ops:Nat -> Wb} {st:List V} {s:St}
end
end
end Go.Proofs.YtlgmpheammbacaaGreatDoor
namespace Go.Proofs.YtlgmpheammbacaaGreatDoor
open Go.ChangeShapes Go.WideShapes Go.ChangeAt Go.WideMaps Go.WideElems Go.RowKit
open AM
theorem Y3:Tryz.prog.underlying 3=some (.int .i64):=by kernel_rfl
theorem LG:Tryz.prog.underlying 28=some (.int .u64):=by kernel_rfl
def ar4:Tryz.prog.underlying 4=some .bool:=by kernel_rfl
def ar5:Tryz.prog.underlying 5=some (.int .u8):=by kernel_rfl
def Ru:Tryz.prog.cellsOf 3=1:=by kernel_rfl
def Rg:Tryz.prog.cellsOf 28=1:=by kernel_rfl
def RU:Tryz.prog.cellsOf 4=1:=by kernel_rfl
def Sc:Tryz.prog.cellsOf 5=1:=by kernel_rfl
def Rh:Tryz.prog.cellsOf 67=1:=by kernel_rfl
def O3:Tryz.prog.cellsOf 69=7:=by kernel_rfl
def KI:IntKind.u64.min=0:=by decide
def KC:IntKind.u64.max=18446744073709551615:=by decide
def Pt:IntKind.u8.min=0:=by decide
def Qi:IntKind.u8.max=255:=by decide
def JG(W:World)(x:Value):Prop:=x=.slice none 0 0∨(∃ad,x=.slice (some ad) 0 0)∨
 ∃bk off len cap C E fz,x=.slice (some ⟨bk,off,none⟩) len cap∧len≤cap∧cap≤maxLen∧0<cap∧W.heap[bk]?=some (.cells C E fz)∧off+cap≤C.size∧∃bs:Nat->Nat, ∀i,i<len->bs i<256∧C[off+i]?=some (.int .u8 (bs i))
theorem MD{W:World}{H:Type}{enc:TypeId×Value->H}{n:Nat}{x:Value}{y:DataW H×List MemPlace}(h:DataW.trod enc Tryz.prog W 0 (fun _=>true) true n 67 [x]=some y):JG W x:=by
 rcases DataW.trod_slice Tryz.underlying67 h with⟨t,_⟩|⟨d,len,a,s,G,B,_,t,_,_,A,v,L,o,F,_⟩
 .left;simpa using t
 right;have hx:x=.slice (some d) len a:=by simpa using t
 subst hx;rcases Wi a with c|c
 .obtain rfl:len=0:=Q;subst c;exact .inl ⟨d,rfl⟩
 right;rw[Sc]at o F;have q:∀k,k<a->∃cs y,cs.length=1∧(∀j,j<1->W.cell? ((d.add (k*1)).add j)=cs[j]?)∧DataW.trod enc Tryz.prog W 0 (fun _=>true) true B 5 cs=some y:=by
  intro k r;have:∃y,(W.cells? 0 (d.add (k*1)) 1).bind (DataW.trod enc Tryz.prog W 0 (fun _=>true) true B 5)=some y:=by
   rcases Vm k len with c|c
   .rw[o k c];exact⟨_,UQ Q⟩
   obtain⟨O,g⟩:=F rfl;have:=g (k-len) Q;rw[(Q:len+(k-len)=k)]at this;rw[this];exact⟨_,UQ Q⟩
  obtain⟨y,hy⟩:=this;obtain⟨cs,w,hy⟩:=Option.bind_eq_some_iff.1 hy;obtain⟨_,i,b⟩:=World.cells?_some w;exact⟨cs,y,i,b,hy⟩
 obtain⟨hs,C,E,l,m⟩:d.spot=none∧∃C E l,W.heap[d.block]?=some (.cells C E l):=by
  obtain⟨cs,y,i,b,_⟩:=q 0 c;have:=b 0 Q;rw[aaS]at this;have K:((d.add 0).add 0)=d:=rfl;rw[K,UQ Q]at this;unfold World.cell? at this;split at this
  .rename_i C E l m;refine⟨?_,C,E,l,m⟩;split at this
   .cases this
   rename_i hs;simpa using hs
  cases this
 obtain⟨bk,e,I⟩:=d;simp only at hs m;subst hs;have D:∀k,k<a->∃cs y,cs.length=1∧C[e+k]?=cs[0]?∧DataW.trod enc Tryz.prog W 0 (fun _=>true) true B 5 cs=some y:=by intro k r;obtain⟨cs,y,i,b,hy⟩:=q k r;refine⟨cs,y,i,?_,hy⟩;have:=b 0 Q;rw[jg,jg]at this;rw[<- this];simp[World.cell?,m]
 have p:e+a≤C.size:=by obtain⟨cs,y,i,g,_⟩:=D (a-1) Q;rw[UQ Q]at g;have:=(aas.1 g).1;omega
 have f:∀k, ∃z:Nat,k<len->z<256∧C[e+k]?=some (.int .u8 (z:Nat)):=by
  intro k;by_cases r:k<len
  .obtain⟨cs,y,i,g,hy⟩:=D k Q;obtain⟨z,rfl,_,hw⟩:=Z1 ar5 hy;simp[Lit.wf]at hw;have M:=Pt;have N:=Qi;refine⟨z.toNat,fun _=>⟨Q,?_⟩⟩;rw[g];have:((z.toNat:Nat):Int)=z:=Q;rw[this];rfl
  exact⟨0,fun h=>(r h).elim⟩
 obtain⟨J,u⟩:=Classical.axiomOfChoice f;exact⟨bk,e,len,a,C,E,l,rfl,A,v,c,m,p,J,u⟩
theorem KF{W:World}{H:Type}{enc:TypeId×Value->H}{n:Nat}{cs:List Value}{y:DataW H×List MemPlace}(hlen:cs.length=7)(h:DataW.trod enc Tryz.prog W 0 (fun _=>true) true n 69 cs=some y):
  ∃k w m nn a d x,cs=[.int .i64 k,.int .i64 w,.int .i64 m,.int .u64 nn,.int .u64 a,.bool d,x]∧0≤nn∧nn<18446744073709551616∧0≤a∧a<18446744073709551616∧JG W x:=by
 obtain⟨xs,m,_,_,hl,hxl,hf⟩:=DataW.trod_struct Tryz.underlying69 h;have f0:DataW.trod enc Tryz.prog W 0 (fun _=>true) true m 3 ((cs.drop 0).take (Tryz.prog.cellsOf 3))=xs[0]?:=by have:=hf 0 _ rfl;exact this
 have f1:DataW.trod enc Tryz.prog W 0 (fun _=>true) true m 3 ((cs.drop 1).take (Tryz.prog.cellsOf 3))=xs[1]?:=by have:=hf 1 _ rfl;exact this
 have f2:DataW.trod enc Tryz.prog W 0 (fun _=>true) true m 3 ((cs.drop 2).take (Tryz.prog.cellsOf 3))=xs[2]?:=by have:=hf 2 _ rfl;exact this
 have f3:DataW.trod enc Tryz.prog W 0 (fun _=>true) true m 28 ((cs.drop 3).take (Tryz.prog.cellsOf 28))=xs[3]?:=by have:=hf 3 _ rfl;exact this
 have f4:DataW.trod enc Tryz.prog W 0 (fun _=>true) true m 28 ((cs.drop 4).take (Tryz.prog.cellsOf 28))=xs[4]?:=by have:=hf 4 _ rfl;exact this
 have f5:DataW.trod enc Tryz.prog W 0 (fun _=>true) true m 4 ((cs.drop 5).take (Tryz.prog.cellsOf 4))=xs[5]?:=by have:=hf 5 _ rfl;exact this
 have f6:DataW.trod enc Tryz.prog W 0 (fun _=>true) true m 67 ((cs.drop 6).take (Tryz.prog.cellsOf 67))=xs[6]?:=by have:=hf 6 _ rfl;exact this
 have hxl:xs.length=7:=hxl
 match cs,hlen with
 | [c0,c1,c2,c3,c4,c5,c6],_=>
  match xs,hxl with
  | [x0,x1,x2,x3,x4,x5,x6],_=>
   simp only[Ru,Rg,RU,Rh,List.drop_zero,List.drop_succ_cons,List.take_succ_cons,List.take_zero,List.getElem?_cons_zero,List.getElem?_cons_succ]at f0 f1 f2 f3 f4 f5 f6;obtain⟨k,e0,_⟩:=DataW.trod_int Y3 f0;obtain⟨w,e1,_⟩:=DataW.trod_int Y3 f1;obtain⟨m',e2,_⟩:=DataW.trod_int Y3 f2;obtain⟨nn,e3,_,b3⟩:=DataW.trod_int LG f3;obtain⟨a,e4,_,b4⟩:=DataW.trod_int LG f4;obtain⟨d,e5,_⟩:=DataW.trod_bool ar4 f5;simp[Lit.wf]at b3 b4;have a1:=KI;have a2:=KC;simp only[List.cons.injEq,and_true]at e0 e1 e2 e3 e4 e5;subst e0 e1 e2 e3 e4 e5;exact⟨k,w,m',nn,a,d,c6,rfl,by omega,by omega,by omega,by omega,MD f6⟩
def rH(l:List XR)(i0:Nat)(x:AM.V):Prop:=∃q L e,x=.slice q L e∧L<9223372036854775808∧
 (0<L->e=1∧∃j b n o, ∃a:Nat->Nat,l[j]?=some ⟨b,n,some (o,(List.range L).map fun i=>AM.V.int .u8 (a i:Nat))⟩∧q=some (i0+j,o)∧∀i,i<L->a i<256)
theorem Qf{W:World}{H:Type}{enc:TypeId×Value->H}{n b id:Nat}{cs:List Value}{y:DataW H×List MemPlace}(hb:b<W.heap.size)(hlen:cs.length=7)(h:DataW.trod enc Tryz.prog W 0 (fun _=>true) true n 69 cs=some y):
  ∃(p:Wb) (x:XR),(∀φ,CD W φ x)∧(∀φ:TF,φ id=some (x.b,x.n)->LR φ p.v cs)∧∀(l:List XR) (i0 j:Nat),l[j]?=some x->id=i0+j->rH l i0 p.x:=by
 obtain⟨k,w,m,nn,a,d,x,rfl,n0,n1,a0,a1,hx⟩:=KF hlen h;obtain⟨nn,rfl⟩:∃z:Nat,nn=(z:Int):=⟨nn.toNat,by omega⟩
 obtain⟨a,rfl⟩:∃z:Nat,a=(z:Int):=⟨a.toNat,by omega⟩
 have mk:∀(v:AM.V) (hv:v.Tr=true) (r:XR),(∀φ,CD W φ r)->(∀φ:TF,φ id=some (r.b,r.n)->VR φ v x)->(∀(l:List XR) (i0 j:Nat),l[j]?=some r->id=i0+j->rH l i0 v)->∃(p:Wb) (r:XR),(∀φ,CD W φ r)∧(∀φ:TF,φ id=some (r.b,r.n)->LR φ p.v [.int .i64 k,.int .i64 w,.int .i64 m,.int .u64 nn,.int .u64 a,.bool d,x])∧∀(l:List XR) (i0 j:Nat),l[j]?=some r->id=i0+j->rH l i0 p.x:=by intro v hv r hr hφ hd;exact⟨⟨k,w,m,nn,a,d,v,by omega,by omega,hv⟩,r,hr,fun φ hp=>⟨_,_,rfl,rfl,_,_,rfl,rfl,_,_,rfl,rfl,_,_,rfl,rfl,_,_,rfl,rfl,_,_,rfl,rfl,_,_,rfl,hφ φ hp,rfl⟩,hd⟩
 rcases hx with rfl|⟨ad,rfl⟩|⟨bk,off,len,cap,C,E,fz,rfl,hlc,hcm,hc,hC,hfit,bs,hbs⟩
 .exact mk (.slice none 0 0) rfl ⟨b,0,none⟩ (fun φ=>⟨hb,fun p hp=>nomatch hp⟩) (fun φ _=>⟨rfl,rfl⟩) fun l i0 j _ _=>⟨_,0,_,rfl,by omega,fun h=>absurd h (by omega)⟩
 .exact mk (.slice (some (id,1)) 0 0) rfl ⟨b,0,none⟩ (fun φ=>⟨hb,fun p hp=>nomatch hp⟩) (fun φ _=>.inr ⟨rfl,by omega,ad,rfl⟩) fun l i0 j _ _=>⟨_,0,_,rfl,by omega,fun h=>absurd h (by omega)⟩
 have hml:len<9223372036854775808:=by unfold maxLen at hcm;omega
 refine mk (.slice (some (id,off)) len 1) rfl ⟨bk,C.size,some (off,(List.range len).map fun i=>.int .u8 (bs i:Nat))⟩ (fun φ=>⟨(Array.getElem?_eq_some_iff.1 hC).1,fun p hp=>?_⟩) (fun φ hp=>.inl ⟨bk,C.size,off,cap,hp,rfl,hlc,by omega,.inl rfl⟩) fun l i0 j hj e=>⟨_,len,1,rfl,hml,fun _=>⟨rfl,j,bk,C.size,off,bs,hj,by rw[e],fun i hi=>(hbs i hi).1⟩⟩
 cases hp;refine⟨C,E,fz,hC,rfl,by simp;omega,fun i v hi=>?_⟩;rw[List.getElem?_map]at hi;rcases Nat.lt_or_ge i len with c|c
 .rw[List.getElem?_range c]at hi;cases hi;exact⟨_,(hbs i c).2,rfl⟩
 rw[List.getElem?_eq_none (by simpa using c)]at hi;cases hi
def oG{W:World}{H:Type}{enc:TypeId×Value->H}{Tj:Nat}{v:Value}{d:DataW H}{p:List MemPlace}(V:Value.okWide Tryz.prog W .any Tj 52 v)(hd:DataW.Trod enc Tryz.prog W 0 (fun _=>true) true 52 v d p)(i0:Nat):
  ∃(l:List XR) (q:Option (Nat×Nat)) (M e oo:Nat) (ops:Nat->Wb),(∀a len c,v=.slice (some a) len c->M=len)∧(M=0∨∃a c,v=.slice (some a) M c)∧
   (∀g:TF,(∀j x,l[j]?=some x->g (i0+j)=some (x.b,x.n))->VR g (.slice q M e) v∧∀x∈l,CD W g x)∧
   (0<M->q=some (i0,oo)∧e=7∧∃b n vs,l[0]?=some ⟨b,n,some (oo,vs)⟩∧vs.length=M*7∧∀j,j<M*7->vs[j]?=some (Tn (ops (j/7)).v (j%7)))∧
   ∀i,i<M->rH l i0 (ops i).x:=by
 rcases G7 Tryz.underlying52 V hd (by rw[O3];omega)with rfl|⟨b,off,len,c,C,E,fz,rfl,hC,hlc,hcm,hfit,hel⟩
 .exact⟨[],none,0,0,0,fun _=>⟨0,0,0,0,0,false,.acJ,Q,Q,rfl⟩,fun a len c h=>(by cases h),.inl rfl,fun g _=>⟨⟨rfl,rfl⟩,fun x hx=>nomatch hx⟩,fun h=>absurd h Q,fun i hi=>absurd hi Q⟩
 rw[O3]at hfit hel;have m:b<W.heap.size:=(aas.1 hC).1;rcases Wi len with T|T
 .subst T;refine⟨[⟨b,off+c*7,none⟩],some (i0,off),0,7,0,fun _=>⟨0,0,0,0,0,false,.acJ,Q,Q,rfl⟩,fun a D s h=>(by cases h;rfl),.inl rfl,fun g k=>⟨.inl ⟨b,off+c*7,off,c,k 0 _ rfl,rfl,hlc,Q,.inl rfl⟩,fun x hx=>?_⟩,fun h=>absurd h Q,fun i hi=>absurd hi Q⟩;rw[VP]at hx;subst hx;exact⟨m,fun p r=>nomatch r⟩
 have P:∀i, ∃z:Wb×XR,i<len->(∀g,CD W g z.2)∧(∀g:TF,g (i0+1+i)=some (z.2.b,z.2.n)->∀j,j<7->∃y,C[off+i*7+j]?=some y∧VR g (Tn z.1.v j) y)∧∀(l:List XR) (U j:Nat),l[j]?=some z.2->i0+1+i=U+j->rH l U z.1.x:=by
  intro i;by_cases hi:i<len
  .obtain⟨cs,n,y,I,G,R⟩:=hel i hi;obtain⟨p,x,hx,k,X⟩:=Qf (id:=i0+1+i) m I R;refine⟨(p,x),fun _=>⟨hx,fun g r j F=>?_,X⟩⟩;have N:p.v[j]?=some (Tn p.v j):=by unfold Tn;rw[U7,UQ (by rw[nC];exact F)];rfl
   obtain⟨y,hy,S⟩:=(k g r).get j _ N;exact⟨y,by rw[G j F];exact hy,S⟩
  exact⟨(⟨0,0,0,0,0,false,.acJ,Q,Q,rfl⟩,⟨0,0,none⟩),fun h=>(hi h).elim⟩
 obtain⟨f,J⟩:=Classical.axiomOfChoice P;have K:=hfit Q;have Y:len*7≤c*7:=UG _ hlc;obtain⟨vs,B⟩:=acH ((List.range (len*7)).map fun j=>Tn (f (j/7)).1.v (j%7));have o:vs.length=len*7:=by rw[B];simp
 have A:∀j,j<len*7->vs[j]?=some (Tn (f (j/7)).1.v (j%7)):=by intro j F;rw[B,X0,YC F];rfl
 obtain⟨l,O⟩:∃l:List XR,l=⟨b,C.size,some (off,vs)⟩ ::(List.range len).map fun i=>(f i).2:=⟨_,rfl⟩
 have u:l[0]?=some ⟨b,C.size,some (off,vs)⟩:=by rw[O];rfl
 have w:∀i,i<len->l[1+i]?=some (f i).2:=by intro i hi;rw[O,aaI,ZF,X0,YC hi];rfl
 refine⟨l,some (i0,off),len,7,off,fun i=>(f i).1,fun a D s h=>(by cases h;rfl),.inr ⟨_,_,rfl⟩,fun g k=>⟨.inl ⟨b,C.size,off,c,k 0 _ u,rfl,hlc,Q,.inl rfl⟩,fun x hx=>?_⟩,fun _=>⟨rfl,rfl,b,C.size,vs,u,o,A⟩,fun i hi=>(J i hi).2.2 l i0 (1+i) (w i hi) Q⟩;rw[O,U8]at hx;rcases hx with rfl|hx
 .refine⟨m,fun p r=>?_⟩;simp only[TC]at r;subst r;refine⟨C,E,fz,hC,rfl,by show off+vs.length≤_;rw[o];omega,fun i v hi=>?_⟩;have L:i<len*7:=by have:=(ab0.1 hi).1;rw[<- o];exact this
  have hi:vs[i]?=some v:=hi;rw[A i L]at hi;cases hi;have t:i/7<len:=Q;obtain⟨y,hy,S⟩:=(J (i/7) t).2.1 g (by rw[Yb];exact k (1+i/7) _ (w _ t)) (i%7) Q;rw[(Q:off+i/7*7+i%7=off+i)]at hy;exact⟨y,hy,S⟩
 obtain⟨i,hi,rfl⟩:=V3.1 hx;exact(J i (Ws.1 hi)).1 g
def ud(l:List XR)(j:Nat):Prop:=∃x p,l[j]?=some x∧x.o=some p
def sD(j:Nat):Nat:=1+j
def pX(l:List XR)(j:Nat):cA:=match (l[j]?).bind (·.o)with
 |some p=>.ro p.1 p.2.length (Tn p.2)
 |none=>.map []
def Ai{l:List XR}{j b n o:Nat}{vs:List AM.V}(h:l[j]?=some ⟨b,n,some (o,vs)⟩):ud l j∧pX l j=.ro o vs.length (Tn vs):=⟨⟨_,_,h,rfl⟩,by unfold pX;rw[h];rfl⟩
def xWd(l:List XR):Wd (Wf l) (ud l) sD (pX l):=by
 refine⟨xGW _,SU _,fun {i} _=>?_,fun i j _ _ e=>?_,fun i hi=>?_,fun i j o hi d c a hg=>?_⟩
 .show 1+i≠0;omega
 .have:1+i=1+j:=e;omega
 .obtain⟨x,⟨o,b⟩,hx,a⟩:=hi;have e:pX l i=.ro o b.length (Tn b):=by unfold pX;rw[hx,Option.bind_some,a]
  rw[e];exact RD l hx a
 rcases E7 l _ o a with⟨_,rfl⟩|⟨_,x,p,_,_,rfl⟩ <;> exact(hg rfl).elim
def DX(l:List XR):DT:=fun q n e c=>∃j b d o a,l[j]?=some ⟨b,d,some (o,a)⟩∧q=some (sD j,o)∧e=1∧n≤a.length∧c.length=n∧∀i,i<n->a[i]?=some (.int .u8 (c.getD i 0:Nat))
def rH.ok{l:List XR}{x:AM.V}(h:rH l 1 x):I3 (ud l) sD (pX l) (DX l) x:=by
 obtain⟨q,L,e,rfl,k,h⟩:=h;refine⟨q,L,e,rfl,k,fun g=>?_⟩;obtain⟨rfl,j,b,n,o,a,d,rfl,m⟩:=h g;obtain⟨p,r⟩:=Ai d;have f:∀i,i<L->((List.range L).map fun i=>AM.V.int .u8 (a i:Nat))[i]?=some (.int .u8 (a i:Nat)):=fun i hi=>by rw[X0,YC hi];rfl
 refine⟨rfl,j,o,_,_,a,p,r,rfl,Y,fun i hi=>⟨m i hi,iD (f i hi)⟩,fun s c=>⟨j,b,n,o,_,d,rfl,rfl,by simpa using c,Y,fun i hi=>?_⟩⟩;rw[f i Q,U7,X0,YC hi];rfl
end Go.Proofs.YtlgmpheammbacaaGreatDoor
namespace Go.Proofs.YtlgmpheammbacaaGreatDoor
open AM Go
noncomputable section
attribute [local go_sem] bJ bO bM bP bI bo bj bV bD bK VG Wa VU WZ dx dv cH bg cU bq bG cX cZ br bH cY cB UR UK aj az aD TH TK TZ bm bF aW aO aI bz aX bt aY dM aR bU dN aZ bc aT bA
section
variable {σ σ' s:St}
section
variable {κ:Type} {hasK:κ -> Prop} {AK:κ -> Nat} {cK:κ -> cA} {A:Tu -> Nat} {H:aa} {B:AI -> Nat} {S:AS} {m:ML -> Li} {D:DT} {g:Gm} {E:List Nat} {N:Nat} {v:V}
def Dd{n a:Nat}{d:Bool}(h:Uo σ A H B S hasK AK cK)(g:T3 H)(j:S.OK)(hn:n<18446744073709551616)(ha:a<18446744073709551616){r:aa×AS×Nat×Nat}(l:r=dX H S n a d):
  au G0 [] 18 [.acK (B .TA) 0,.u n,.u a,.bool d] σ fun v s=>v=.tuple [.u r.2.2.1,.i r.2.2.2]∧
   ∃A' B',A' .heap=A .heap∧B' .TA=B .TA∧Uo s A' r.1 B' r.2.1 hasK AK cK∧T5 σ s (VB H A S B hasK AK) (VB r.1 A' r.2.1 B' hasK AK):=by
 subst l;refine(Uo.gQ (P:=fun v A' B'=>v=.tuple [.u (dX H S n a d).2.2.1,.i (dX H S n a d).2.2.2]∧A' .heap=A .heap∧B' .TA=B .TA) h fun s R=>?_).mono fun v s ⟨A',B',b,⟨f,c,e⟩,k⟩=>⟨f,A',B',c,e,b,k⟩
 refine(Dx R g j hn ha d).mono ?_;rintro v s ⟨A',B',b,c,e,f⟩;exact⟨A',B',b,f,c,e⟩
def x9.Zy{n a:Nat}{d:Bool}{r:aa×Nat×Nat}{i:aa×AS×Nat×Nat}(h:x9 H S n a d r i):
  (cQ a=false∧i=(H,S,0,1))∨(cQ a=true∧H.Tp<aE n a∧i=(H,S,0,3))∨
  (cQ a=true∧¬H.Tp<aE n a∧∃p,S.Wj n a=some p∧i=(H, { S with Tz:=p+n-(S.Tm.getLast?.getD (0,0)).1,TI:=(S.TI+n)%18446744073709551616 },p,0))∨
  (cQ a=true∧¬H.Tp<aE n a∧S.Wj n a=.none∧∃S2,i=(r.1,S2,r.2.1,r.2.2)∧((r.2.2≠0∧r.1=H∧S2=S)∨(r.2.2=0∧T3 r.1∧jA H r.1 d r.2.1 (aE (max n S.TD) a)∧n≤aE (max n S.TD) a∧
   S2={ S with Vz:=true,Tm:=S.Tm++[(r.2.1,aE (max n S.TD) a)],Tz:=n,TI:=(S.TI+n)%18446744073709551616 }))):=by
 cases h with
 |Xx e=>exact .inl ⟨e,rfl⟩
 |big e b=>exact .inr (.inl ⟨e,b,rfl⟩)
 |Uv e b f=>exact .inr (.inr (.inl ⟨e,b,_,f,rfl⟩))
 |none e b f c k m=>exact .inr (.inr (.inr ⟨e,b,f,S,by rw[k,m],.inl ⟨c,k,rfl⟩⟩))
 |new e b f c g l j=>exact .inr (.inr (.inr ⟨e,b,f,_,by rw[c],.inr ⟨c,g,l,j,rfl⟩⟩))
def Ju{n a c md:Nat}{v mk:V}(i:U6 σ S.Tm v)(Ue:S.Tm.length<9000000000000000000)(ha:0<a)(k:∀t∈S.Tm,t.1+t.2≤9223372036854775808)(hs:∀t∈S.Tm,t.1+S.Tz+a+n<18446744073709551616)(j:S.Wj n a=.none):
  au G0 [] 90 [WV c v S.Tz S.TI mk md,.u n,.u a] σ fun y s=>(∃x:Nat,y=.tuple [.u x,.bool false])∧aH σ s:=by
 cases d:S.Tm.getLast? with
 |none=>
  have hn:=abm.1 d;obtain⟨q,e,rfl⟩:=i.is;rw[hn];exact LF.mono fun y s ⟨f,g⟩=>⟨⟨0,f⟩,g⟩
 |some t=>
  have b:=Zp d;have h:S.Wj n a=if ji (t.1+S.Tz) a+n≤t.1+t.2 then some (ji (t.1+S.Tz) a)else .none:=AS.zn ha d
  refine(C4 i d Ue ha (k t b) (hs t b)).mono fun y s ⟨f,g⟩=>⟨⟨ji (t.1+S.Tz) a,?_⟩,g⟩
  by_cases c:ji (t.1+S.Tz) a+n≤t.1+t.2
  .rw[h,Ti c]at j;cases j
  rw[f,UK c]
def KM{n a c md p:Nat}{v mk:V}(i:U6 σ S.Tm v)(Ue:S.Tm.length<9000000000000000000)(ha:0<a)(j:∀t∈S.Tm,t.1+t.2≤9223372036854775808)(hs:∀t∈S.Tm,t.1+S.Tz+a+n<18446744073709551616)(b:S.Wj n a=some p):
  au G0 [] 90 [WV c v S.Tz S.TI mk md,.u n,.u a] σ fun y s=>y=.tuple [.u p,.bool true]∧aH σ s:=by
 cases f:S.Tm.getLast? with
 |none=>unfold AS.Wj at b;rw[f]at b;cases b
 |some t=>
  have d:=Zp f;have e:S.Wj n a=if ji (t.1+S.Tz) a+n≤t.1+t.2 then some (ji (t.1+S.Tz) a)else .none:=AS.zn ha f
  refine(C4 i f Ue ha (j t d) (hs t d)).mono fun y s ⟨g,h⟩=>⟨?_,h⟩
  by_cases c:ji (t.1+S.Tz) a+n≤t.1+t.2
  .rw[e,Ti c]at b;obtain rfl:=XP b;rw[g,UR c]
  rw[e,Tg c]at b;cases b
def Bh(H:aa)(S:AS)(g:Gm)(n a:Nat)(H':aa)(S':AS)(b:Gm):Prop:=
 (H'=H∧S'=S∧b.P=g.P)∨(∃x,b.P=g.P++[x]∧x.p%a=0∧0<a∧((H'=H∧S'.Tm=S.Tm)∨∃p d,jA H H' d p (aE (max (max n 1) S.TD) a)∧¬H.Tp<aE (max (max n 1) S.TD) a∧S'.Tm=S.Tm++[(p,aE (max (max n 1) S.TD) a)]))
theorem FT(G:jw σ A H B S m hasK AK cK D g E N v){kd wh mo:Int}{n al:Nat}{dn:Bool}{da:V}(hn:n<18446744073709551616)(F:al<18446744073709551616)(hN:N<2000000000000)(f2:da.cells=[da]):
  au G0 [] 35 [v,.agg (V7 kd wh mo n al dn da)] σ fun y s=>VH σ s A H B S m hasK AK cK D g E N y fun H' S' g'=>Bh H S g n al H' S' g':=by
 obtain⟨h,ok,cs,mk,hv,ot,pc,o,rfl,f⟩:=G;have g0:=ok.Uk;refine ai g35 rfl ?_;obtain⟨s1,eZ⟩:=acH (((σ.ag (Uw A B H S cs mk hv ot pc o)).ag (V7 kd wh mo n al dn da)).new (.acM 16 zG .nil));obtain⟨w1,e1,n1,La,Lb,Lc⟩:=lF h rfl rfl eZ;obtain⟨c1,c2,c0,c3,c4,c5⟩  :=f.cells;have h1:TS s1 A H B S m hasK AK cK:=Wd.ext h e1 w1;obtain⟨r,hr⟩:=acH (dX H S n al dn);simp (maxSteps:=9^9) (disch:=omega) only[go_sem,Uw,<- eZ,c0,c1,c2,c3,c4,c5,f2,La.cl,La.ld,Lb.cl];refine((Dd h1 g0 ok.ok hn F hr).gw w1).mono ?_;rintro _ s2 ⟨⟨rfl,A2,B2,af,bl,h2,k2⟩,w2⟩;have d7:=La.T9 k2;have ea:=Lb.T9 k2;have fr:=Lc.T9 k2;have gt:=(T5.ext e1 h.gw).trans k2;have hu:=k2.next;obtain⟨fl,pl,fc,iv⟩:=g0.UB;have hk:=ke iv.ok;have ha:=ok.TD;have hl:=ok.tk;obtain⟨d,cg⟩:=acH (max n 1);have hi:=(rn g0 ok.TD hn F dn).Zy;rw[<- hr, <- cg]at hi;obtain⟨q,hq⟩:=acH (dg H (max d S.TD) al dn);rw[<- hq]at hi;simp (maxSteps:=9^9) (disch:=omega) only[go_sem,d7.cl,ea.cl];refine((MN (n:=n)).gw w2).mono ?_;rw[<- cg];rintro _ s3 ⟨⟨rfl,g3⟩,w3⟩;have dF:=d7.ext g3.ext w2;have eb:=ea.ext g3.ext w2;have fs:=fr.ext g3.ext w2;simp (maxSteps:=9^9) (disch:=omega) only[go_sem,dF.cl,dF.ld,eb.cl];refine((oX w3 (A9 iv.ok) (by omega:d<18446744073709551616) F).gw w3).mono ?_;rintro _ s4 ⟨⟨rfl,g4⟩,w4⟩;have O:=dF.ext g4.ext w3;have be:=eb.ext g4.ext w3;have bi:=fs.ext g4.ext w3;have n3:=g3.next;have n4:=g4.next;have er:=g3.ext.trans g4.ext;have h4:TS s4 A2 r.1 B2 r.2.1 m hasK AK cK:=Wd.ext h2 er w4;have cy:=gt.trans (T5.ext er w2);have cj:∀{H' S'},H'=H->S'=S->∀s5,TS s5 A2 H' B2 S' m hasK AK cK->T5 σ s5 (UA H A S B m hasK AK) (UA H' A2 S' B2 m hasK AK)->VH σ s5 A H B S m hasK AK cK D g E N (.tuple [.agg (U4 (A .heap) (B .TA) S.TD cs S.Tz S.TI mk S.TW H.Tj H.TB H.Th H.Tl hv ot pc o),.bool true]) fun H' S' g'=>Bh H S g n al H' S' g':=by rintro H' S' rfl rfl s5 h5 k5;exact⟨A2,B2,H',S',m,g,_,rfl,⟨h5,ok.nb,cs,mk,hv,ot,pc,o,by rw[Uw,af,bl],f.re rfl rfl⟩,af,bl,rfl,kx.refl,k5,.inl ⟨rfl,rfl,rfl⟩⟩
 rcases hi with⟨c6,C⟩|⟨c6,c7,C⟩|⟨c6,c7,p,hf,C⟩|⟨c6,c7,hf,S2,C,cb⟩
 .obtain⟨s5,d2,aP,w5,p5⟩:=bi.set w4 (off:=0) (vs:=Uw A B H S cs mk hv ot pc o) Y (f.Tr A B H S);rw[Ti c6];have z1:r.2.2.1=0:=by rw[C]
  have z2:r.2.2.2=1:=by rw[C]
  simp (maxSteps:=9^9) (disch:=omega) only[go_sem,O.cl,O.ld,be.cl,z1,z2,c0,c1,c2,c3,c4,c5,d2,aP.ld,VN,Int.natCast_one];exact cj (by rw[C]) (by rw[C]) s5 (h4.eX p5 w5 bi.nm) (cy.put p5 Q h.gw)
 .obtain⟨s5,d2,aP,w5,p5⟩:=bi.set w4 (off:=0) (vs:=Uw A B H S cs mk hv ot pc o) Y (f.Tr A B H S);have b5:4096*2^H.Th<aE d al:=c7;rw[Tg (by rw[c6];exact nofun),Ti b5];have z1:r.2.2.1=0:=by rw[C]
  have z2:r.2.2.2=3:=by rw[C]
  have z3:((3:Nat):Int)=3:=rfl;simp (maxSteps:=9^9) (disch:=omega) only[go_sem,O.cl,O.ld,be.cl,z1,z2,z3,c0,c1,c2,c3,c4,c5,d2,aP.ld,VN];exact cj (by rw[C]) (by rw[C]) s5 (h4.eX p5 w5 bi.nm) (cy.put p5 Q h.gw)
 .have b5:¬4096*2^H.Th<aE d al:=c7;rw[Tg (by rw[c6];exact nofun),Tg b5];have M:=zg c6;have gb:=my (n:=d) Q F;have gc:=o5 (n:=d) (a:=al) Q F;have f4:=ok.EP;have bu:=ok.range;obtain⟨t,ht,ev,hg,hb⟩:=AS.IV M hf;have ho:=bu t (Zp ht);simp (maxSteps:=9^9) (disch:=omega) only[go_sem,O.cl,O.ld,be.cl,c0,c1,c2,c3,c4,c5,VN];refine((KM (f.ch.ls h4) Q M (fun t ht=>(bu t ht).2.1) (fun t ht=>by have:=bu t ht;omega) hf).gw w4).mono ?_;rintro _ s5 ⟨⟨rfl,g5⟩,w5⟩;have aM:=O.ext g5.ext w4;have cr:=be.ext g5.ext w4;have aP:=bi.ext g5.ext w4;have h5:TS s5 A2 r.1 B2 r.2.1 m hasK AK cK:=Wd.ext h4 g5.ext w5;simp (maxSteps:=9^9) (disch:=omega) only[go_sem,aM.cl,aM.ld,cr.cl,c0,c1,c2,c3,c4,c5,VN];refine((JL w5 (f.ch.ls h5) ht Q Q Q f.ma.Tr).gw w5).mono ?_;rintro _ s6 ⟨⟨rfl,e6⟩,w6⟩;have av:=aM.ext e6 w5;have dI:=aP.ext e6 w5;have h6:TS s6 A2 r.1 B2 r.2.1 m hasK AK cK:=Wd.ext h5 e6 w6;obtain⟨s7,gn,bN,w7,p7⟩:=av.set w6 (off:=2) (vs:=[.u S.TD,cs,.u (p+d-t.1:Nat),.u ((S.TI+d)%18446744073709551616:Nat),mk,.i S.TW]) Y (XU f.ch.Tr f.ma.Tr);have h7:=TS.eX h6 p7 w7 av.nm;have dL:=dI.put p7 Q;have bS:Lo s7 _ σ.next 16 (U4 (A .heap) (B .TA) S.TD cs (p+d-t.1) ((S.TI+d)%18446744073709551616) mk S.TW H.Tj H.TB H.Th H.Tl hv ot pc o):=bN;have f5:=ok.Ue;obtain⟨v8,s8,l8,f0,h8,m8,k8⟩:=TS.push h7 .pc (y:=40) (x:=[.u p,.u d,.acJ]) f.pc Q rfl rfl (by unfold aq;omega) (by unfold aq;omega);have R:=bS.T9 k8;have dO:=dL.T9 k8;have c8:=cV (by simpa using m8.Tr);obtain⟨s9,U,ad,w9,p9⟩:=R.set h8.gw (off:=14) (vs:=[v8]) Y m8.Tr;have h9:=TS.eX h8 p9 w9 R.nm;have ct:=dO.put p9 Q;have d9:Lo s9 _ σ.next 16 (U4 (A .heap) (B .TA) S.TD cs (p+d-t.1) ((S.TI+d)%18446744073709551616) mk S.TW H.Tj H.TB H.Th H.Tl hv ot v8 o):=ad;have ce:=il (hp:=A .heap) (ar:=B .TA) (c:=S.TD) (tk:=p+d-t.1) (us:=(S.TI+d)%18446744073709551616) (md:=S.TW) (b:=H.Tj) (l:=H.TB) (k:=H.Th) (r:=H.Tl) f.ch.Tr f.ma.Tr f.hd.Tr f.ot.Tr m8.Tr f.ks.Tr;obtain⟨cP,e0,aU,X,fd⟩:=ct.set w9 (off:=0) (vs:=U4 (A .heap) (B .TA) S.TD cs (p+d-t.1) ((S.TI+d)%18446744073709551616) mk S.TW H.Tj H.TB H.Th H.Tl hv ot v8 o) Y ce;have f8:bZ [V.u 0,.u 0,.acJ] [(0,1,.u p),(1,1,.u d),(2,1,.acJ)]=some [.u p,.u d,.acJ]:=rfl;have f9:bZ (bL [V.u 0,.u 0,.acJ] 1) [(0,3,.agg [.u p,.u d,.acJ])]=some [.u p,.u d,.acJ]:=rfl;have n8:=k8.next;have n5:=g5.next;have n6:=e6.next;have n7:=p7.next;have z1:r.2.2.1=p:=by rw[C]
  have z2:r.2.2.2=0:=by rw[C]
  simp (maxSteps:=9^9) (disch:=omega) only[go_sem,gn,c0,c1,c2,c3,c4,c5,bS.cl,bS.ld,aG,f8,f9,f0,c8,U,d9.ld,z1,z2,e0,aU.ld,VN];have ca:r.2.1={ S with Tz:=p+d-(S.Tm.getLast?.getD (0,0)).1,TI:=(S.TI+d)%18446744073709551616 }:=by rw[C]
  have cJ:=ok.acj (S':=r.2.1) M Q hf ca;have hH:r.1=H:=by rw[C]
  have dQ:=TS.eX h9 fd X ct.nm;have am:=((((((cy.trans (T5.ext g5.ext w4)).trans (T5.ext e6 w5)).put p7 Q h.gw).trans k8).put p9 Q h.gw).put fd Q h.gw)
  have ex:r.2.1.Tm=S.Tm:=by rw[ca]
  have ge:r.2.1.ms=S.ms:=by rw[ca]
  refine⟨A2,B2,r.1,r.2.1,_,_,_,rfl,⟨dQ,hH▸cJ,cs,mk,hv,ot,v8,o,?_,((f.re ex ge).Pg (LM.aa7 m8))⟩,af,bl,by rw[ca],by rw[hH];exact kx.refl,am,.inr ⟨_,rfl,?_,M,.inl ⟨hH,ex⟩⟩⟩
  .rw[Uw,af,bl,ca,hH,ht];rfl
  exact ev
 have b5:¬4096*2^H.Th<aE d al:=c7;rw[Tg (by rw[c6];exact nofun),Tg b5];have M:=zg c6;have gb:=my (n:=d) Q F;have gc:=o5 (n:=d) (a:=al) Q F;have f4:=ok.EP;have bu:=ok.range;simp (maxSteps:=9^9) (disch:=omega) only[go_sem,O.cl,O.ld,be.cl,c0,c1,c2,c3,c4,c5,VN];refine((Ju (f.ch.ls h4) Q M (fun t ht=>(bu t ht).2.1) (fun t ht=>by have:=bu t ht;omega) hf).gw w4).mono ?_;rintro _ s5 ⟨⟨⟨x5,rfl⟩,g5⟩,w5⟩;subst C;have aM:=O.ext g5.ext w4;have cr:=be.ext g5.ext w4;have aP:=bi.ext g5.ext w4;have h5:TS s5 A2 q.1 B2 S2 m hasK AK cK:=Wd.ext h4 g5.ext w5;obtain⟨z6,bw⟩:∃z6:List V,z6=[.i 0,.u 0,.u 0,.u 0,.bool false,.acJ]:=⟨_,rfl⟩;obtain⟨s6,aB⟩:=acH (s5.new (.acM 6 z6 .nil));have w6:GW s6:=by rw[aB];exact w5.new _ rfl
 have e6:TP s5 s6:=by rw[aB];exact(Gr.g).ext
 have n6:s6.next=s5.next+1:=by rw[aB,cH]
 have eK:s6.Tq.get s5.next=some (.acM 6 z6 .nil):=by rw[aB];show T.get (T.set _ _ _) _=_;rw[T.aJ,Ti rfl]
 have ft:Lo s6 (UA q.1 A2 S2 B2 m hasK AK) s5.next 6 z6:=⟨by rw[aB,bw];exact To.zero w5 [.i 0,.u 0,.u 0,.u 0,.bool false,.acJ] Y,by rw[bw];rfl,Wd.eh h5 (Tx _)⟩
 have av:=aM.ext e6 w5;have dH:=cr.ext e6 w5;have dI:=aP.ext e6 w5;rw[bw]at aB;simp (maxSteps:=9^9) (disch:=omega) only[go_sem,aM.cl,aM.ld,cr.cl,<- aB,av.cl,av.ld,dH.cl];refine((PI (n:=d)).gw w6).mono ?_;rintro _ s7 ⟨⟨rfl,g7⟩,w7⟩;have bN:=av.ext g7.ext w6;have ed:=dH.ext g7.ext w6;have dL:=dI.ext g7.ext w6;have eo:=ft.ext g7.ext w6;have gf:s7.Tq.get s5.next=some (.acM 6 z6 .nil):=(g7.TE _ Q).trans eK;obtain⟨s8,go,fu,w8,p8⟩:=eo.set w7 (off:=0) (vs:=[.i 3,.u 0,.u al,.u (max d S.TD:Nat),.bool dn,.acJ]) Y rfl;have dm:∀s8,eN s5.next z6 1 0 [([],s6),([],s7),([],s8)]=true:=fun s8=>oL (by rw[bw]) fun m x hx hm=>by
  match m,hx with
  | 0,hx=>cases hx;exact eK
  | 1,hx=>cases hx;exact gf
  |m+2,_=>omega
 rw[bw]at dm;have f7:bZ [.i 0,.u 0,.u 0,.u 0,.bool false,.acJ] [(0,1,.i 3),(1,1,.u 0),(2,1,.u al),(3,1,.u (max d S.TD:Nat)),(4,1,.bool dn),(5,1,.acJ)]=some [.i 3,.u 0,.u al,.u (max d S.TD:Nat),.bool dn,.acJ]:=rfl;have n5:=g5.next;have n7:=g7.next;have n8:=p8.next;have R:=bN.put p8 Q;have g1:=ed.put p8 Q;have dO:=dL.put p8 Q;have bb:Lo s8 (UA q.1 A2 S2 B2 m hasK AK) s5.next 6 [.i 3,.u 0,.u al,.u (max d S.TD:Nat),.bool dn,.acJ]:=by have:=fu;rw[bw]at this;exact this
 have h8:TS s8 A2 q.1 B2 S2 m hasK AK cK:=TS.eX (Wd.ext (Wd.ext h5 e6 w6) g7.ext w7) p8 w8 eo.nm;obtain⟨s9,U⟩:=acH (s8.new (.acM 5 Un .nil));have w9:GW s9:=by rw[U];exact w8.new _ rfl
 have e9:TP s8 s9:=by rw[U];exact(Gr.g).ext
 have n9:s9.next=s8.next+1:=by rw[U,cH]
 have eL:s9.Tq.get s8.next=some (.acM 5 Un .nil):=by rw[U];show T.get (T.set _ _ _) _=_;rw[T.aJ,Ti rfl]
 have eq:Lo s9 (UA q.1 A2 S2 B2 m hasK AK) s8.next 5 Un:=⟨by rw[U];exact To.zero w8 Un Y,rfl,Wd.eh h8 (Tx _)⟩
 have ad:=R.ext e9 w8;have ct:=dO.ext e9 w8;have cv:=bb.ext e9 w8;have h9:TS s9 A2 q.1 B2 S2 m hasK AK cK:=Wd.ext h8 e9 w9;simp (maxSteps:=9^9) (disch:=omega) only[go_sem,av.cl,av.ld,dH.cl,bN.cl,bN.ld,ed.cl,aG,f7,go,<- aB,dm,R.cl,R.ld,bb.ld,<- U,ad.cl,ad.ld,cv.ld];rw[<- af];refine((FP g0 Q F hq (Uo.hc h9)).gw w9).mono ?_;rintro _ cP ⟨⟨⟨x,kk,z,bs,rfl,f1⟩,dQ,kp⟩,X⟩;have b8:TS cP A2 q.1 B2 S2 m hasK AK cK:=HC.X4 (A:=A2) dQ rfl;have am:=kp.ah;have I:=ad.T9 am;have aU:=ct.T9 am;have ax:=cv.T9 am;have df:=eq.T9 am;have ci:=am.Wo eL rfl rfl eq.nm;have du:=(((((cy.trans (T5.ext g5.ext w4)).trans (T5.ext e6 w5)).trans (T5.ext g7.ext w6)).put p8 Q h.gw).trans (T5.ext e9 w8)).trans am;have hA:=am.next;have fX:VF cP g.L hv:=f.hd.ls b8;simp (maxSteps:=9^9) (disch:=omega) only[go_sem,I.cl,I.ld,ax.ld];refine((Kb (P:=0) X g0 fX ok.bk Q F hq rfl f1).gw X).mono ?_;rintro _ fm ⟨⟨⟨L',v',rfl,ew⟩,e11⟩,w11⟩;have ap:=I.ext e11 X;have ee:=aU.ext e11 X;have b0:=ax.ext e11 X;have dh:=df.ext e11 X;have eD:fm.Tq.get s8.next=some (.acM 5 Un .nil):=(e11.TE _ (X.UL ci)).trans ci;have hB:=e11.next;have dq:∀cp,eN s8.next Un 2 0 [([],s9),([],cP),([],fm),([],cp)]=true:=fun cp=>oL rfl fun m x hx hm=>by
  match m,hx with
  | 0,hx=>cases hx;exact eL
  | 1,hx=>cases hx;exact ci
  | 2,hx=>cases hx;exact eD
  |m+3,_=>omega
 obtain⟨dl,b1,b2,b3,⟨r0,⟨q',m',z',rfl⟩,Nv⟩|⟨r0,rfl,gq,hh⟩⟩:=ew
 .obtain⟨c8,_⟩|⟨_,f6,cf,eC,ay⟩:=cb
  .exact absurd r0 c8
  obtain⟨p,hp⟩:=acH (q.2.1);obtain⟨W,bv⟩:∃w,w=aE (max d S.TD) al:=⟨_,rfl⟩;rw[<- hp, <- bv]at cf ay;rw[<- bv]at eC;rw[<- hp, <- bv]at dl Nv;have cJ:=ok.acB (S':=S2) (n:=d) Q f6 cf dl eC ay;have cc:S2.Tm=S.Tm++[(p,W)]:=by rw[ay]
  have gl:=cJ.range (p,W) (by rw[cc];simp);obtain⟨hw,dS,fa,co⟩:=TS.take b8 e11 w11 .hd Nv;have Z:=I.T9 co;have bT:=aU.T9 co;have b4:=ax.T9 co;have bd:=df.T9 co;obtain⟨cp,ck,dk,cq,J⟩:=bd.set w11 (off:=0) (vs:=[.u q.1.Tj,.i q.1.TB,.i q.1.Th,.i q.1.Tl,v']) Y (WB Nv.Tr);have dU:=TS.eX dS J cq bd.nm;have ac:=Z.put J Q;have ba:=bT.put J Q;have en:=b4.put J Q;obtain⟨cR,cm,d4,bx,ao⟩:=ac.set cq (off:=8) (vs:=[.u q.1.Tj,.i q.1.TB,.i q.1.Th,.i q.1.Tl,v']) Y (WB Nv.Tr);have b9:=TS.eX dU ao bx ac.nm;have bY:=ba.put ao Q;have ep:=dk.put ao Q;have K:Lo cR _ σ.next 16 (U4 (A .heap) (B .TA) S.TD cs S.Tz S.TI mk S.TW q.1.Tj q.1.TB q.1.Th q.1.Tl v' ot pc o):=d4;have aS:Lo cR _ s8.next 5 [.u q.1.Tj,.i q.1.TB,.i q.1.Th,.i q.1.Tl,v']:=ep;obtain⟨vb,vo,e8,hs,gR,gT,gX,cn⟩:=VF.at (fa.ls b9) (i:=g.L.length) Y;have d1:(g.L++[Hd.mk p W q' m' z'])[g.L.length]'(by simp)=Hd.mk p W q' m' z':=by simp
  rw[d1]at cn;have ez:(g.L++[Hd.mk p W q' m' z']).length=g.L.length+1:=by simp
  rw[ez]at e8;have g2:=ok.bk.Ue g0;have d0:((q.2.2:Nat):Int)=0:=Q;subst e8;have f8:bZ [V.u 0,.u 0,.acJ] [(0,1,.u p),(1,1,.u d),(2,1,.acJ)]=some [.u p,.u d,.acJ]:=rfl;have f9:bZ (bL [V.u 0,.u 0,.acJ] 1) [(0,3,.agg [.u p,.u d,.acJ])]=some [.u p,.u d,.acJ]:=rfl;simp (maxSteps:=9^9) (disch:=omega) only[go_sem,ck,d0,<- hp,<- U,R.cl,R.ld,bb.ld,ad.cl,ad.ld,cv.ld,I.cl,I.ld,ax.ld,ap.cl,ap.ld,b0.ld,ac.cl,ac.ld,en.ld,dk.ld,dq,af,c0,c1,c2,c3,c4,c5,cm,K.cl,K.ld,aS.cl,aS.ld,Zq,cn];refine((Qg bx (x:=(p,W)) (f.ch.TN (j:=.hd) nofun |>.ls b9) Q f.ma.Tr).gw bx).mono ?_;rintro _ hK ⟨⟨⟨u,rfl,Nu⟩,e15⟩,w15⟩;obtain⟨hy,fx,fb,cw⟩:=TS.take b9 e15 w15 .ch Nu;have cS:=K.T9 cw;have eg:=bY.T9 cw;have hD:=ao.next;have hC:=J.next;have hE:=cw.next;obtain⟨fn,e3,d5,bC,cL⟩:=cS.set w15 (off:=2) (vs:=[.u S.TD,u,.u (0:Nat),.u S.TI,mk,.i S.TW]) Y (XU Nu.Tr f.ma.Tr);have es:=TS.eX fx cL bC cS.nm;have ei:=eg.put cL Q;have aC:Lo fn _ σ.next 16 (U4 (A .heap) (B .TA) S.TD u 0 S.TI mk S.TW q.1.Tj q.1.TB q.1.Th q.1.Tl (.acL vb vo (g.L.length+1) 3) ot pc o):=d5;have hF:=cL.next;simp (maxSteps:=9^9) (disch:=omega) only[go_sem,e3,Nu.cells,c2,K.cl,K.ld,aC.cl,aC.ld,aS.cl,cn,Zq];have fS:U6 fn (S.Tm++[(p,W)]) u:=fb.ls es;refine((JL bC fS (t:=(p,W)) List.getLast?_concat (by rw[UN];simp;omega) (abt _ _) (by simp only at gl;omega) f.ma.Tr).gw bC).mono ?_;rintro _ hL ⟨⟨rfl,b6⟩,w18⟩;have gp:p+d-((p,W).1:Nat)=d:=Z9 ..;rw[gp];have db:=aC.ext b6 bC;have ej:=ei.ext b6 bC;have fz:=TS.ext es b6 w18;have hG:=b6.next;obtain⟨gB,e4,d6,gN,cO⟩:=db.set w18 (off:=2) (vs:=[.u S.TD,u,.u d,.u ((S.TI+d)%18446744073709551616:Nat),mk,.i S.TW]) Y (XU Nu.Tr f.ma.Tr);have fD:=TS.eX fz cO gN db.nm;have ek:=ej.put cO Q;have aL:Lo gB _ σ.next 16 (U4 (A .heap) (B .TA) S.TD u d ((S.TI+d)%18446744073709551616) mk S.TW q.1.Tj q.1.TB q.1.Th q.1.Tl (.acL vb vo (g.L.length+1) 3) ot pc o):=d6;have hI:=cO.next;have f5:=ok.Ue;obtain⟨v8,hM,hz,eu,et,cE,cx⟩:=TS.push fD .pc (y:=40) (x:=[.u p,.u d,.acJ]) ((f.pc.TN (j:=.hd) nofun).TN (j:=.ch) nofun) Q rfl rfl (by unfold aq;omega) (by unfold aq;omega);have dd:=aL.T9 cx;have el:=ek.T9 cx;have hJ:=cx.next;have c8:=cV (by simpa using cE.Tr);obtain⟨gE,e5,d8,fo,d3⟩:=dd.set et.gw (off:=14) (vs:=[v8]) Y cE.Tr;have fQ:=TS.eX et d3 fo dd.nm;have de:=el.put d3 Q;have dz:Lo gE _ σ.next 16 (U4 (A .heap) (B .TA) S.TD u d ((S.TI+d)%18446744073709551616) mk S.TW q.1.Tj q.1.TB q.1.Th q.1.Tl (.acL vb vo (g.L.length+1) 3) ot v8 o):=d8;have ce:=il (hp:=A .heap) (ar:=B .TA) (c:=S.TD) (tk:=d) (us:=(S.TI+d)%18446744073709551616) (md:=S.TW) (b:=q.1.Tj) (l:=q.1.TB) (k:=q.1.Th) (r:=q.1.Tl) Nu.Tr f.ma.Tr Nv.Tr f.ot.Tr cE.Tr f.ks.Tr;obtain⟨hO,e7,em,gQ,fk⟩:=de.set fo (off:=0) (vs:=U4 (A .heap) (B .TA) S.TD u d ((S.TI+d)%18446744073709551616) mk S.TW q.1.Tj q.1.TB q.1.Th q.1.Tl (.acL vb vo (g.L.length+1) 3) ot v8 o) Y ce;simp (maxSteps:=9^9) (disch:=omega) only[go_sem,Nu.cells,c2,c0,c3,c5,e4,aL.cl,aL.ld,aG,f8,f9,eu,c8,e5,dz.ld,<- hp,d0,e7,em.ld];have fR:=TS.eX fQ fk gQ de.nm;have gs:=((((((((((du.trans co).put J Q h.gw).put ao (Tx _) h.gw).trans cw).put cL (Tx _) h.gw).trans (T5.ext b6 bC)).put cO (Tx _) h.gw).trans cx).put d3 (Tx _) h.gw).put fk Q h.gw)
  have eA:S2.ms=S.ms:=by rw[ay]
  have fv:=(((f.re (A':=A2) (B':=B2) (H':=q.1) rfl rfl).Ky fa).RL (S':=S2) eA (by rw[cc];exact fb)).Pg (L':=g.P++[⟨p,d,none,0,0⟩]) (LM.aa7 (l:=g.P) (x:=⟨p,d,none,0,0⟩) cE);refine⟨A2,B2,q.1,S2,_,_,_,rfl,⟨fR,cJ,u,mk,_,ot,v8,o,?_,fv⟩,af,bl,by rw[ay],cf.acb,gs,.inr ⟨_,rfl,?_,M,.inr ⟨p,dn,?_,?_,?_⟩⟩⟩
  .rw[Uw,af,bl,ay]
  .show p%al=0;have h1:=cf.al;have f3:al∣W:=by obtain⟨j,hj⟩:=tg c6;obtain⟨e,he,eS⟩:=iQ (n:=max d S.TD) (a:=al) Q F;have ds:=my (n:=max d S.TD) Q F;rw[bv,eS,hj];rw[eS,hj]at ds;exact XN 2 ((Nat.pow_le_pow_iff_right Q).1 ds)
   exact Yc (WE f3 (WQ h1))
  .rw[<- cg, <- bv];exact cf
  .rw[<- cg];have:=(mC (H:=H) (n:=max d S.TD) (a:=al) Q F)
   have:=(mC (H:=H) (n:=d) (a:=al) Q F)
   omega
  rw[<- cg, <- bv];exact cc
 obtain⟨_,eQ,ay⟩|⟨c8,_⟩:=cb
 rotate_left
 .exact absurd c8 r0
 obtain rfl:hv=v':=gq.symm;obtain⟨cp,ck,bd,cq,J⟩:=dh.set w11 (off:=0) (vs:=[.u q.1.Tj,.i q.1.TB,.i q.1.Th,.i q.1.Tl,hv]) Y (WB f.hd.Tr);have dS:TS cp A2 q.1 B2 S2 m hasK AK cK:=TS.eX (Wd.ext b8 e11 w11) J cq dh.nm;have Z:=ap.put J Q;have bT:=ee.put J Q;have b4:=b0.put J Q;obtain⟨cR,cm,ac,bx,ao⟩:=Z.set cq (off:=8) (vs:=[.u q.1.Tj,.i q.1.TB,.i q.1.Th,.i q.1.Tl,hv]) Y (WB f.hd.Tr);have dU:=TS.eX dS ao bx Z.nm;have ba:=bT.put ao Q;have dy:Lo cR (UA q.1 A2 S2 B2 m hasK AK) σ.next 16 (U4 (A .heap) (B .TA) S.TD cs S.Tz S.TI mk S.TW q.1.Tj q.1.TB q.1.Th q.1.Tl hv ot pc o):=ac;have ce:=il (hp:=A .heap) (ar:=B .TA) (c:=S.TD) (tk:=S.Tz) (us:=S.TI) (md:=S.TW) (b:=q.1.Tj) (l:=q.1.TB) (k:=q.1.Th) (r:=q.1.Tl) f.ch.Tr f.ma.Tr f.hd.Tr f.ot.Tr f.pc.Tr f.ks.Tr;obtain⟨gA,e2,bY,gF,fe⟩:=ba.set bx (off:=0) (vs:=U4 (A .heap) (B .TA) S.TD cs S.Tz S.TI mk S.TW q.1.Tj q.1.TB q.1.Th q.1.Tl hv ot pc o) Y ce;have d0:¬((q.2.2:Nat):Int)=0:=Q;simp (maxSteps:=9^9) (disch:=omega) only[go_sem,ck,d0,<- U,R.cl,R.ld,bb.ld,ad.cl,ad.ld,cv.ld,I.cl,I.ld,ax.ld,ap.cl,ap.ld,b0.ld,Z.cl,Z.ld,b4.ld,bd.ld,dq,af,c0,c1,c2,c3,c4,c5,cm,dy.ld,e2,bY.ld];have gr:=((((du.trans (T5.ext e11 X)).put J Q h.gw).put ao (Tx _) h.gw).put fe Q h.gw)
 have b9:=TS.eX dU fe gF ba.nm;have hR:=cj eQ ay gA b9 gr;rw[<- eQ]at hR⊢;exact hR
end
end
section
variable {σ σ' s:St}
section
variable {κ:Type} {hasK:κ -> Prop} {AK:κ -> Nat} {cK:κ -> cA} {A:Tu -> Nat} {H:aa} {B:AI -> Nat} {S:AS} {m:ML -> Li} {D:DT} {g:Gm} {E:List Nat} {N:Nat} {v:V}
def NF{a:Nat}(h:Uo σ A H B S hasK AK cK)(g:T3 H):
  au G0 [] 72 [.acK (A .heap) 0,.u a] σ fun v s=>v=.i ((H.aC 1).mh a).2∧
   ∃A',A' .heap=A .heap∧Uo s A' (jR H a) B S hasK AK cK∧T5 σ s (VB H A S B hasK AK) (VB (jR H a) A' S B hasK AK):=by
 obtain⟨_,_,_,e⟩:=g.UB;refine((HC.gQ (H':=jR H a) (P:=fun v A'=>v=.i ((H.aC 1).mh a).2∧A'=A) h.hc fun s R=>?_)).mono fun v s ⟨A',c,⟨j,d⟩,k⟩=>by subst d;exact⟨j,_,rfl,c.X4 rfl,k.ah⟩
 exact(FK R e g.lock a).mono fun r l ⟨b,f⟩=>⟨A,b,f,rfl⟩
def NQ(g:T3 H){a w:Nat}(c:aV H a w):((H.aC 1).mh a).2=0:=by obtain⟨_,_,_,b⟩:=g.UB;have d:=b.aC 1;have e:=b.b8 c;have f:=b.ok.Wc;unfold aa.mh;rw[Tg Q,d.gX (iU.2 c)]
def rI{l:List Nat}{i k:Nat}(b:k<l.length):(l.take (k+1)).eraseIdx i=(l.take k).eraseIdx i++if k=i then []else [l[k]]:=by
 rw[X1 b];by_cases c:k=i
 .subst c;have a:(l.take k).length=k:=by rw[Va];omega
  rw[Ti rfl,Wr,List.eraseIdx_append_of_length_le Q,abY (l:=l.take k) Q,a,Yf,List.eraseIdx_cons_zero,Wr]
 rw[Tg c];by_cases d:k<i
 .rw[abY (by rw[UN,Va];simp;omega),abY (by rw[Va];omega)]
 rw[List.eraseIdx_append_of_lt_length (by rw[Va];omega)]
def EN(G:jw σ A H B S m hasK AK cK D g E N v){wh mo:Int}{n al:Nat}{dn:Bool}{da:V}(hN:N<2000000000000)(ap:da.cells=[da]):
  au G0 [] 84 [v,.agg (V7 6 wh mo n al dn da)] σ fun y s=>VH σ s A H B S m hasK AK cK D g E N y fun H' S' g'=>S'=S∧g'.P=g.P:=by
 obtain⟨h,ok,cs,mk,hv,ot,pc,e,rfl,q⟩:=G;have g0:=ok.Uk;refine ai g84 rfl ?_;obtain⟨s1,X⟩:=acH (((σ.ag (Uw A B H S cs mk hv ot pc e)).ag (V7 6 wh mo n al dn da)).new (.acM 16 zG .nil));obtain⟨w1,e1,n1,K,Lb,Lc⟩:=lF h rfl rfl X;obtain⟨c1,c2,c0,c3,c4,c5⟩  :=q.cells;have h1:TS s1 A H B S m hasK AK cK:=Wd.ext h e1 w1;obtain⟨oq,oe,rfl,b2⟩:=q.ot.is;have hO:g.O.length≤N:=ok.Ue.2.1;by_cases c:g.O.length=0
 .obtain⟨s2,bv,aC,w2,p2⟩:=Lc.set w1 (off:=0) (vs:=Uw A B H S cs mk hv (.slice oq g.O.length oe) pc e) Y (q.Tr A B H S);have d0:((g.O.length:Nat):Int)=0:=Q;simp (disch:=omega) only[go_sem,Uw,<- X,c0,c1,c2,c3,c4,c5,ap,K.cl,K.ld,Lb.cl,d0,bv,aC.ld];exact⟨A,B,H,S,m,g,_,rfl,⟨TS.eX h1 p2 w2 Lc.nm,ok.nb,cs,mk,hv,_,pc,e,rfl,q⟩,rfl,rfl,rfl,kx.refl,(T5.ext e1 h.gw).put p2 Q h.gw,rfl,rfl⟩
 have J:0<g.O.length:=Q;obtain⟨i,hi⟩:=acH (uF wh g.O.length);have U:i<g.O.length:=hi▸FI J;obtain⟨ob,oo,W,bT,bl, -⟩:=Ls.get B5 (q.ot.ls h1) Q U;cases W;have bb:s1.cell ob (oo+i)=some (.u g.O[i]):=by have:=bl 0 Q;rw[Um]at this;exact this
 simp (disch:=omega) only[go_sem,Uw,<- X,c0,c1,c2,c3,c4,c5,ap,K.cl,K.ld,Lb.cl,c];refine(KW J Q).mono ?_;rintro _ s' ⟨rfl,bu⟩;rw[bu, <- hi];simp (disch:=omega) only[go_sem,K.cl,bb,Um];refine bW (fun n fr t=>fr.defers=[]∧fr.tmps.get 2=some (.acK σ.next 0)∧fr.tmps.get 4=some (.acK (σ.next+2) 0)∧fr.tmps.get 12=some (.i i)∧fr.tmps.get 13=some (.u g.O[i])∧GW t∧TP s1 t∧
  ∃k x,k+n=g.O.length∧fr.tmps.get 15=some (.i (k:Nat))∧fr.tmps.get 14=some x∧Nl s1 t 1 ((g.O.take k).eraseIdx i).length (fl NL ((g.O.take k).eraseIdx i)) x) ?_ g.O.length ?_
 .rintro n ⟨tm,ds⟩ t ⟨hd,t2,t4,C,o,wt,T,k,x,hk,I,F,Nx⟩;simp only at hd t2 t4 C o F I;subst hd;have M:=K.ext T w1;have bY:=Lc.ext T w1;by_cases ck:k<g.O.length
  .obtain⟨b3,b4,W,bi,av, -⟩:=Ls.get B5 (q.ot.ls (h1.ext T wt)) Q ck;cases W;have bd:t.cell ob (oo+k)=some (.u g.O[k]):=by have:=av 0 Q;rw[Um]at this;exact this
   have b0:((g.O.take k).eraseIdx i).length≤k:=by have:=List.length_eraseIdx_le (g.O.take k) i;rw[Va]at this;omega
   by_cases R:k=i
   .have d1:(k:Int)=(i:Int):=Q;simp (disch:=omega) only[go_sem,t2,t4,C,o,F,I,M.cl,d1];refine⟨n-1,Q,wt,T,k+1,x,Q,by rw[R],rfl,?_⟩;rw[rI ck,Ti R,Wr];exact Nx
   have d1:¬(k:Int)=(i:Int):=Q;obtain⟨v',s',ha,N',g',w',b1,hC⟩:=Nx.tM (y:=8) (x:=[.u g.O[k]]) T w1 wt Q rfl rfl (by unfold aq;omega) (by unfold aq;omega);have f2:bZ (bL [V.u 0] 1) [(0,1,.u g.O[k])]=some [.u g.O[k]]:=rfl;simp (disch:=omega) only[go_sem,t2,t4,C,o,F,I,M.cl,d1,Um,bd,aG,f2,ha];refine⟨n-1,Q,w',g',k+1,v',Q,rfl,rfl,?_⟩;rw[rI ck,Tg R,Ae,pU,UN];exact N'
  obtain rfl:k=g.O.length:=Q;rw[ZI]at Nx;obtain⟨l3,h3,m3,k3⟩:=TS.take h1 T wt .ot Nx;have ac:=K.T9 k3;have aJ:=Lc.T9 k3;have cx:=cV (by simpa using m3.Tr);obtain⟨Z,bw,ax,w4,p4⟩:=ac.set wt (off:=13) (vs:=[x]) Y m3.Tr;have aL:=aJ.put p4 Q;have h4:=h3.eX p4 w4 ac.nm;have p:Lo Z _ σ.next 16 (U4 (A .heap) (B .TA) S.TD cs S.Tz S.TI mk S.TW H.Tj H.TB H.Th H.Tl hv x pc e):=ax;have f3:bZ [V.u 0,.u 0] [(0,1,.u g.O[i]),(1,1,.u 0)]=some [.u g.O[i],.u 0]:=rfl;have f4:bZ (bL [V.u 0,.u 0] 1) [(0,2,.agg [.u g.O[i],.u 0])]=some [.u g.O[i],.u 0]:=rfl;obtain⟨s5,f⟩:=acH (Z.ag [.u g.O[i],.u 0]);have e5:TP Z s5:=by rw[f];exact(Gr.g).ext
  have w5:GW s5:=by rw[f];exact w4.new _ rfl
  have ay:=p.ext e5 w4;have aM:=aL.ext e5 w4;have h5:=h4.ext e5 w5;have hG:U6 s5 [(g.O[i],0)] (.acL Z.next 0 1 2):=⟨⟨_,_,rfl⟩,rfl,fun _=>⟨Z.next,0,rfl,by rw[f,bg];omega,fun j hj=>by rw[Vk,f,br (m:=Z.next) rfl];rfl⟩⟩
  have am:=q.QI m3;simp (disch:=omega) only[go_sem,t2,t4,C,o,F,I,M.cl,cx,bw,p.cl,p.ld,aG,f3,f4,<- f];have ba:VF s5 g.L hv:=am.hd.ls h5;refine((za w5 ba hG (by have:=ok.bk.Ue g0;omega) Y).gw w5).mono ?_;rintro _ s6 ⟨⟨⟨z,rfl,Nh⟩,e6⟩,w6⟩;obtain⟨l6,h6,m6,k6⟩:=TS.take h5 e6 w6 .hd Nh;have ad:=ay.T9 k6;have aP:=aM.T9 k6;have n6:=k6.next;have n5:s5.next=Z.next+1:=by rw[f];rfl
  have n4:=p4.next;have nt:=T.next;obtain⟨s7,bx,aB,w7,p7⟩:=ad.set w6 (off:=8) (vs:=[.u H.Tj,.i H.TB,.i H.Th,.i H.Tl,z]) Y (WB Nh.Tr);have h7:=h6.eX p7 w7 ad.nm;have aS:=aP.put p7 Q;have d:Lo s7 _ σ.next 16 (U4 (A .heap) (B .TA) S.TD cs S.Tz S.TI mk S.TW H.Tj H.TB H.Th H.Tl z x pc e):=aB;simp (disch:=omega) only[go_sem,t2,t4,o,Nh.cells,bx,d.cl,d.ld];obtain⟨w,hw⟩:=ok.ol g.O[i] (.inl (Wm U));refine((NF (a:=g.O[i]) h7 g0).gw w7).mono ?_;rintro _ s8 ⟨⟨rfl,A8,ao,h8,k8⟩,w8⟩;have af:=d.T9 k8;have ah:=aS.T9 k8;have be:=il (hp:=A .heap) (ar:=B .TA) (c:=S.TD) (tk:=S.Tz) (us:=S.TI) (md:=S.TW) (b:=H.Tj) (l:=H.TB) (k:=H.Th) (r:=H.Tl) q.ch.Tr q.ma.Tr Nh.Tr m3.Tr q.pc.Tr q.ks.Tr;obtain⟨s9,bC,aU,w9,p9⟩:=ah.set w8 (off:=0) (vs:=U4 (A .heap) (B .TA) S.TD cs S.Tz S.TI mk S.TW H.Tj H.TB H.Th H.Tl z x pc e) Y be;have n8:=k8.next;have n7:=p7.next;simp (disch:=omega) only[go_sem,t2,t4,o,NQ g0 hw,d.cl,d.ld,af.ld,af.cl,bC,aU.ld,VN];obtain⟨bS,bs⟩:=ok.yR U;have sm:=(fh [g.O[i]] g0).2.1;have bN:cz H [g.O[i]]=jR H g.O[i]:=rfl;rw[bN]at sm;refine⟨A8,B,_,S,_,_,_,rfl,⟨TS.eX h8 p9 w9 ah.nm,bS,cs,mk,z,x,pc,e,by rw[Uw,ao,sm.Tj,sm.TB,sm.Th,sm.Tl],(am.re rfl rfl).Ky m6⟩,ao,rfl,rfl,bs,?_,rfl,rfl⟩;exact((((((((T5.ext e1 h.gw).trans k3).put p4 Q h.gw).trans (T5.ext e5 w4)).trans k6).put p7 Q h.gw).trans k8)).put p9 Q h.gw
 simp (disch:=omega) only[go_sem];exact⟨w1,TP.refl _,0,_,Q,rfl,rfl,by rw[VU,List.eraseIdx_nil];exact Nl.nil⟩
end
end
end
end Go.Proofs.YtlgmpheammbacaaGreatDoor
