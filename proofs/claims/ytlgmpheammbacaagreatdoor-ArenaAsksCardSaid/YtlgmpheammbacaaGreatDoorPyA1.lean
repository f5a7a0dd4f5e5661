import Derived.Test.YtlgmpheammbacaaGreatDoorPys
set_option linter.all false
set_option maxRecDepth 1000000
set_option maxHeartbeats 8000000
attribute [local irreducible] AM.T.get AM.T.set
namespace Go.Proofs.YtlgmpheammbacaaGreatDoor
open AM Go
noncomputable section
section
variable {σ σ':St} {A:Tu -> Nat} {H:aa} {fl pl fc:Nat -> List Nat}
def ga(b:Tv H fl pl fc (fun _=>False)){a s:Nat}:(a,s)∈bf H↔aV H a s:=by
 unfold bf gi aV;rw[abo];constructor
 .rintro⟨x,hx,h⟩;rw[Ws]at hx;exact⟨x,hx,(gJ b hx).1 h⟩
 rintro⟨x,hx,h⟩;exact⟨x,Ws.2 hx,(gJ b hx).2 h⟩
end
section
variable {σ σ':St} {A:Tu -> Nat} {B:AI -> Nat} {H H':aa} {S S':AS}
section
variable {k w m:Int} {n a:Nat} {d:Bool}
def th(g:T3 H):(bf H).length≤262144:=by obtain⟨_,_,_,a⟩:=g.UB;have b:=ka a.ok;have c:=nq H H.np;show(gi H H.np).length≤_;omega
end
end
section
variable {σ σ':St} {A:Tu -> Nat} {B:AI -> Nat} {H H':aa} {S S':AS}
section
variable {κ:Type} {hasK:κ -> Prop} {AK:κ -> Nat} {cK:κ -> cA}
end
section
variable {ρ:Type} {hasR:ρ -> Prop} {AR':ρ -> Nat} {cR:ρ -> cA} {A1 A2:Tu -> Nat} {B1 B2:AI -> Nat} {H1 H2:aa} {S1 S2:AS}
end
variable {hasR:RI -> Prop} {R:RI -> Nat} {cR:RI -> cA} {x y hp1 ar1 hp2 ar2 ob oo N:Nat} {ops:Nat -> Wb} {st:List V} {s:St}
def Jl(H:aa):∃a b c d,ns H=.agg [.u a,.u b,.i c,.i d]∧cF [true,true,true,true] [V.u a,.u b,.i c,.i d] [V.u a,.u b,.i c,.i d]=some true:=by refine⟨_,_,_,_,rfl,?_⟩;simp[cF,nr]
end
end
end Go.Proofs.YtlgmpheammbacaaGreatDoor
namespace Go.Proofs.YtlgmpheammbacaaGreatDoor
open Go.ChangeShapes Go.WideShapes Go.ChangeAt Go.WideMaps Go.WideElems Go.RowKit
open AM
def vB{F:FuncId}{B:jj}(hg:G0.get F=some (.code B))(k:∀(l:List XR) (b m o:Int) (c M oo e:Nat) (q:Option (Nat×Nat)) (ops:Nat->Wb),0≤b->b<18446744073709551616->c<18446744073709551616->M≤1990000000000->pT (ud l) sD (pX l) (DX l) q e M oo ops →
   au G0 [] F [Uu b m o,.u c,.slice q M e] (Wf l) fun v _=>v=.bool true){W:World}{H:Type}{enc:TypeId×Value->H}{Tj:Nat}{y z v3:Value}{d:DataW H}{p:List MemPlace}(t:gh Tryz.prog Tryz.prog.globals.size G0)(h:laidMetH Tryz.prog iW W)(C:Value.okWide Tryz.prog W .any Tj 30 y)(D:Value.okWide Tryz.prog W .any Tj 28 z)(E:Value.okWide Tryz.prog W .any Tj 52 v3)(hd:DataW.Trod enc Tryz.prog W 0 (fun _=>true) true 52 v3 d p)(G:∀a len f,v3=.slice (some a) len f->len≤1990000000000):
  Calls Tryz.prog F #[y,z,v3] W fun e A=>e=.returned (.bool true)∧Below W.heap.size W A:=by
 obtain⟨b,m,o,rfl,b1,b2⟩:=AP C;obtain⟨c,rfl,c1⟩:=BA D;obtain⟨l,q,M,e,oo,ops,J,n,w,i,g⟩:=oG E hd 1;obtain⟨I,s⟩:=w (nF W l) fun j x hx=>rC hx
 have r:M≤1990000000000:=by
  rcases n with rfl|⟨a,f,e⟩
  .omega
  exact G _ _ _ e
 refine jK (l:=l) (xs:=[Uu b m o,.u c,.slice q M e]) t h s ?_ hg (k l b m o c M oo e q ops b1 b2 c1 r (rp (j0:=0) i g));exact⟨_,_,rfl,⟨_,rfl,⟨_,_,rfl,rfl,_,_,rfl,rfl,_,_,rfl,rfl,rfl⟩⟩,_,_,rfl,rfl,_,_,rfl,I,rfl⟩
end Go.Proofs.YtlgmpheammbacaaGreatDoor
namespace Go.Proofs.YtlgmpheammbacaaGreatDoor
open AM Go
noncomputable section
section
variable {H H':aa} {S S':AS}
def qn{fl pl fc:Nat->List Nat}(i:Tv H fl pl fc (fun _=>False)):((bf H).map (·.1)).Nodup:=by rw[List.Nodup,Z6];exact(jD i).imp fun h e=>Q
def jA.acC(g:T3 H)(b:T3 H'){d:Bool}{p w:Nat}(c:jA H H' d p w):(bf H').Perm ((p,w) ::bf H):=by
 obtain⟨fl,pl,fc,i⟩:=g.UB;obtain⟨j,k,f,e⟩:=b.UB;refine(ab3 (sN (qn e)) (WO.2 ⟨fun h=>?_,sN (qn i)⟩)).2 fun x=>?_
 .exact c.rN g b ((ga i).1 h) rfl
 obtain⟨a,u⟩:=x;rw[ga e,c.Ty,U8,ga i,TU,or_comm]
end
section
attribute [local go_sem] bJ bO bM bP bI bo bj bV bD bK VG Wa VU WZ dx dv cH bg cU bq bG cX cZ br bH cY cB UR UK aj az aD TH TK TZ bm bF aW aO aI bz aX bt aY dM aR bU dN aZ bc aT bA
variable {σ σ' s:St}
theorem GC{x y:AM.Tt}{tm:T V}:AM.cN (.XA true [x,y]) tm=AM.kS true (x.eval tm) [y.eval tm]:=rfl
def Hy{l k:List (Nat×Nat)}(h:l.Perm k):dC l=dC k:=by
 induction h with
 |nil=>rfl
 |cons x _ c=>simp only[dC,Xr,List.sum_cons]at *;omega
 |swap x y l=>simp only[dC,Xr,List.sum_cons];omega
 |trans _ _ a b=>exact a.trans b
abbrev zO:List V:=[.i 0,.i 0,.i 0,.u 0,.u 0,.bool false,.acJ]
abbrev zS:List V:=[.u 0,.u 0,.i 0,.i 0]
abbrev WI(H:aa):List V:=[.u (H.Tp*H.Tl:Nat),.u (dC (bf H)%18446744073709551616:Nat),.i (bf H).length,.i (gk H H.np)]
def DN(H:aa):cF [true,true,true,true] (WI H) (WI H)=some true:=by obtain⟨a,b,c,d,hs,e⟩:=Jl H;have:WI H=[.u a,.u b,.i c,.i d]:=V.agg.inj hs;rw[this];exact e
section
variable {κ:Type} {hasK:κ -> Prop} {AK:κ -> Nat} {cK:κ -> cA} {A:Tu -> Nat} {H:aa} {B:AI -> Nat} {S:AS} {m:ML -> Li} {D:DT} {g:Gm} {E:List Nat} {N:Nat} {v:V}
def F1(h:TS σ A H B S m hasK AK cK)(g:T3 H):au G0 [] 30 [.acK (A .heap) 0] σ fun v s=>v=.agg (WI H)∧TS s A H B S m hasK AK cK∧T5 σ s (UA H A S B m hasK AK) (UA H A S B m hasK AK):=by refine(HC.gQ (H':=H) (P:=fun v c=>v=ns H∧c=A) (Uo.hc h) fun σ e=>(rA e g).mono fun v s ⟨a,b⟩=>⟨A,b,a,rfl⟩).mono ?_;rintro v s ⟨c,d,⟨rfl,rfl⟩,k⟩;exact⟨rfl,HC.X4 d rfl,k.ah⟩
theorem CO{b l o:Int}{c M oo e:Nat}{q:Option (Nat×Nat)}{ops:Nat->Wb}(W0:Wd σ hasK AK cK)(b1:0≤b)(hb:b<18446744073709551616)(hc:c<18446744073709551616)(hM:M≤1990000000000)(cR:pT hasK AK cK D q e M oo ops):
  au G0 [] 7 [Uu b l o,.u c,.slice q M e] σ fun v _=>v=.bool true:=by
 refine ai g7 rfl ?_;obtain⟨s1,aB⟩:=acH (σ.ag [.u b,.i l,.i o]);have w1:GW s1:=by rw[aB];exact W0.gw.new _ rfl
 have e1:TP σ s1:=by rw[aB];exact(Gr.g).ext
 have W1:=W0.ext e1 w1;have L1:Lo s1 (Nm hasK AK) σ.next 3 [.u b,.i l,.i o]:=⟨by rw[aB];exact To.cg σ _,rfl,W0.eh (Tx _)⟩
 simp (maxSteps:=9^9) (disch:=omega) only[go_sem,Uu,<- aB];refine((W1.AG (P:=fun v=>v=.bool true) fun s w hw=>qJ w hw).gw w1).mono ?_;rintro _ s2 ⟨⟨rfl,W2,k2⟩,w2⟩;have L2:=L1.T9 k2;simp (maxSteps:=9^9) (disch:=omega) only[go_sem,L2.ld];refine((W2.BI b1 hb hc).gw w2).mono ?_;rintro y s3 ⟨⟨m1,m2⟩,w3⟩;by_cases ho:je b l o c
 .obtain⟨A,B,rfl,h3,k3⟩:=m1 ho;have L3:=L2.T9 k3;obtain⟨m0,G4,j,eL⟩:=mO D b1 ho h3;obtain⟨s4,c5⟩:=acH (s3.Ts 16 zG (U9 (Vc c b l o) (A .heap) (B .TA)));have dd:=aQ (σ:=s3) (z:=zG) (vs:=U9 (Vc c b l o) (A .heap) (B .TA)) (n:=16) (Vt ny) rfl;rw[<- c5]at G4 j dd;have e4:TP s3 s4:=by rw[c5];exact(Gr.g).ext
  have bv:Lo s4 (UA (di b.toNat l.toNat o.toNat) A (ie c) B m0 hasK AK) σ.next 3 [.u b,.i l,.i o]:=⟨L3.UH.ext w3 e4,rfl,fun h=>L3.nm (eL _ h)⟩
  have b2:(V.agg (U9 (Vc c b l o) (A .heap) (B .TA))).cells=U9 (Vc c b l o) (A .heap) (B .TA):=rfl;simp (maxSteps:=9^9) (disch:=omega) only[go_sem,b2,ny,dd];obtain⟨x,hx⟩:=acH (s3.next);rw[<- hx]at j⊢;have fn:σ.next<x:=by rw[hx];exact L3.UH.lt w3
  have ew:=ho.1.o0;have fs:=ho.1.o8;have ek:((o.toNat:Nat):Int)=o:=YV ew;have eb:((b.toNat:Nat):Int)=b:=YV b1;refine bW (fun n fr t=>fr.defers=[]∧fr.tmps.get 1=some (.u c)∧fr.tmps.get 2=some (.slice q M e)∧fr.tmps.get 3=some (.acK σ.next 0)∧fr.tmps.get 7=some (.acK x 0)∧∃i,i+n=M∧fr.tmps.get 10=some (.i (i:Nat))∧
   ∃A B H S m g ls,jw t A H B S m hasK AK cK D g [] i (.agg ls)∧Lo t (UA H A S B m hasK AK) x 16 ls∧Lo t (UA H A S B m hasK AK) σ.next 3 [.u b,.i l,.i o]∧S.TD=c∧H.Tp=4096*2^o.toNat) ?_ M ?_
  .rintro n ⟨tm,ds⟩ t ⟨hd,t1,t2,t3,T,i,hi,L,A,B,H,S,m,g,ls,G,Lx,Lc,ay,am⟩;simp only at hd t1 t2 t3 T L;subst hd;by_cases ci:i<M
   .obtain⟨ob,rfl,rfl,eo⟩:=cR.load ci;obtain⟨cy, -⟩:=eo (Wd.right (Wd.right G.w));have wt:=G.w.gw;have bd:=cR.dat i ci;obtain⟨p,hp⟩:=acH (ops i);rw[<- hp]at cy bd;have ct:p.v.all V.Tr=true:=by unfold Wb.v opV;simp only[List.all_cons,List.all_nil,p.hx];rfl
    obtain⟨u1,ap⟩:=acH (t.Ts 7 zO p.v);have ao:=aQ (σ:=t) (z:=zO) (vs:=p.v) (n:=7) (Vt (nC _)) ct;rw[<- ap]at ao;have aM:GW u1:=by rw[ap];exact wt.Ts (Vt (nC _)) ct
    have bY:TP t u1:=by rw[ap];exact(Gr.g).ext
    have fQ:t.next<u1.next:=by rw[ap];exact Nat.lt_succ_self _
    have ac:Lo u1 (UA H A S B m hasK AK) t.next 7 p.v:=⟨by rw[ap];exact To.Ts t 7 zO _ (nC _),nC _,Wd.eh G.w (Tx _)⟩
    have U:=Lx.ext bY wt;have ca:=Lc.ext bY wt;have G1:jw u1 A H B S m hasK AK cK D g [] i (.agg ls):=⟨TS.ext G.w bY aM,G.ok,G.v⟩;obtain⟨y,hy⟩:=acH (t.next);rw[<- hy]at ac ao;have fz:x<y:=by have:=Lx.UH.lt wt;omega
    have er:u1.load x 0 16=some ls:=by rw[U.ld Q,VG,VZ (Vt U.len)]
    have ep:u1.load y 0 7=some p.v:=by rw[ac.ld Q,VG,VZ (Vt ac.len)]
    have cp:(V.agg p.v).cells=p.v:=aj;have en:u1.cell y 0=some (.i p.k):=ac.cl Q;simp (maxSteps:=9^9) (disch:=omega) only[go_sem,t1,t2,t3,T,L,cy,cp,nC,ao,<- hy,en];by_cases k1:p.k=1
    .have eK:¬(p.k≠1):=Q;obtain⟨h1,K,cs,mk,hv,ot,pc,Z,eq,d8⟩:=G1;cases eq;simp (maxSteps:=9^9) (disch:=omega) only[go_sem,eK,Uw,T,U.cl];refine((F1 h1 K.Uk).gw aM).mono ?_;rintro _ u2 ⟨⟨rfl,h2,k2⟩,w2⟩;obtain⟨z,hz⟩:=acH (u2.next);have bx:=U.T9 k2;have dy:=ac.T9 k2;have bl:=ca.T9 k2;obtain⟨u3,C⟩:=acH (u2.Ts 4 zS (WI H));have J:=aQ (σ:=u2) (z:=zS) (vs:=WI H) (n:=4) Y rfl;have E:GW u3:=by rw[C];exact w2.Ts Y rfl
     have e3:TP u2 u3:=by rw[C];exact(Gr.g).ext
     have dQ:Lo u3 (UA H A S B m hasK AK) z 4 (WI H):=⟨by rw[C,hz];exact To.Ts u2 4 zS _ rfl,rfl,by rw[hz];exact Wd.eh h2 (Tx _)⟩
     have W:=bx.ext e3 w2;have dz:=dy.ext e3 w2;have bu:=bl.ext e3 w2;have ax:=TS.ext h2 e3 E;rw[<- C, <- hz]at J;have ez:(WI H).length=4:=rfl;simp (maxSteps:=9^9) (disch:=omega) only[go_sem,Uw,T,<- hz,ez,J,W.cl];refine((lQ (Uo.drop ax) K.ok).gw E).mono ?_;rintro cv u4 ⟨⟨ea,g4⟩,w4⟩;obtain⟨q4,e4,rfl⟩:=ea.is;have j:=W.ext g4.ext E;have bw:=dz.ext g4.ext E;have bv:=bu.ext g4.ext E;have dS:=dQ.ext g4.ext E;have h4:=TS.ext ax g4.ext w4;have G4:jw u4 A H B S m hasK AK cK D g [] i (.agg (Uw A B H S cs mk hv ot pc Z)):=⟨h4,K,cs,mk,hv,ot,pc,Z,rfl,d8⟩;have cO:u4.load x 0 16=some (Uw A B H S cs mk hv ot pc Z):=by rw[j.ld Q,VG,VZ (Vt j.len)]
     have cL:u4.load y 0 7=some p.v:=by rw[bw.ld Q,VG,VZ (Vt bw.len)]
     simp (maxSteps:=9^9) (disch:=omega) only[go_sem,T,cO,cL];refine((FT G4 (kd:=p.k) (wh:=p.w) (mo:=p.m) (n:=p.n) (al:=p.a) (dn:=p.d) (da:=p.x) p.hn p.ha Q (cV p.hx)).gw w4).mono ?_;rintro _ u5 ⟨⟨A',B',H',S',m',g',v',rfl,⟨h5,av,bT,b5,b4,b6,b9,ar,rfl,b0⟩,hA,hB,hch',bs,k5,hP⟩,w5⟩;have d5:=j.T9 k5;have dF:=bw.T9 k5;have df:=bv.T9 k5;have dU:=dS.T9 k5;obtain⟨F,f⟩:=acH (Uw A' B' H' S' bT b5 b4 b6 b9 ar);have gf:F.all V.Tr=true:=by rw[f];exact b0.Tr A' B' H' S'
     have R:F.length=16:=by rw[f];rfl
     have el:F[0]?=some (.acK (A' .heap) 0):=by rw[f];rfl
     have em:F[1]?=some (.acK (B' .TA) 0):=by rw[f];rfl
     rw[<- f];obtain⟨r,hr⟩:=acH (u5.next);obtain⟨u6,aC⟩:=acH (u5.Ts 16 zG F);have bi:=aQ (σ:=u5) (z:=zG) (vs:=F) (n:=16) (Vt R) gf;have w6:GW u6:=by rw[aC];exact w5.Ts (Vt R) gf
     have e6:TP u5 u6:=by rw[aC];exact(Gr.g).ext
     have du:Lo u6 (UA H' A' S' B' m' hasK AK) r 16 F:=⟨by rw[aC,hr];exact To.Ts u5 16 zG _ R,R,by rw[hr];exact Wd.eh h5 (Tx _)⟩
     have bC:=d5.ext e6 w5;have dH:=dF.ext e6 w5;have dh:=df.ext e6 w5;have d0:=dU.ext e6 w5;have h6:=TS.ext h5 e6 w6;rw[<- aC, <- hr]at bi;have cJ:u6.load r 0 16=some F:=by rw[du.ld Q,VG,VZ (Vt R)]
     obtain⟨u7,eD,bN,w7,p7⟩:=bC.set w6 (off:=0) (vs:=F) Q gf;rw[VU,YH,YW (by rw[bC.len,R];exact Tx _),Wr]at bN;have fD:x<z:=by have:=U.UH.lt aM;have:=k2.next;omega
     have dI:=dH.put p7 Q;have dk:=dh.put p7 Q;have d1:=d0.put p7 Q;have h7:=TS.eX h6 p7 w7 bC.nm;simp (maxSteps:=9^9) (disch:=omega) only[go_sem,T,<- hr,R,bi,cJ,eD,bN.cl,el];refine((F1 h7 av.Uk).gw w7).mono ?_;rintro _ u8 ⟨⟨rfl,h8,k8⟩,w8⟩;obtain⟨z2,aL⟩:=acH (u8.next);have d6:=bN.T9 k8;have dL:=dI.T9 k8;have dl:=dk.T9 k8;have d2:=d1.T9 k8;obtain⟨u9,aJ⟩:=acH (u8.Ts 4 zS (WI H'));have bk:=aQ (σ:=u8) (z:=zS) (vs:=WI H') (n:=4) Y rfl;have w9:GW u9:=by rw[aJ];exact w8.Ts Y rfl
     have e9:TP u8 u9:=by rw[aJ];exact(Gr.g).ext
     have d4:Lo u9 (UA H' A' S' B' m' hasK AK) z2 4 (WI H'):=⟨by rw[aJ,aL];exact To.Ts u8 4 zS _ rfl,rfl,by rw[aL];exact Wd.eh h8 (Tx _)⟩
     have cj:=d6.ext e9 w8;have dO:=dL.ext e9 w8;have dm:=dl.ext e9 w8;have d3:=d2.ext e9 w8;have h9:=TS.ext h8 e9 w9;rw[<- aJ, <- aL]at bk;have db:(WI H').length=4:=rfl;simp (maxSteps:=9^9) (disch:=omega) only[go_sem,T,<- aL,db,bk,cj.cl,em];refine((lQ (Uo.drop h9) av.ok).gw w9).mono ?_;rintro fe de ⟨⟨ah,X⟩,w10⟩;obtain⟨fR,fk,rfl⟩:=ah.is;have ba:=cj.ext X.ext w9;have ad:=dO.ext X.ext w9;have I:=dm.ext X.ext w9;have aS:=d3.ext X.ext w9;have aU:=d4.ext X.ext w9;have cm:=TS.ext h9 X.ext w10;have cw:de.load z 0 4=some (WI H):=by rw[aS.ld Q];rfl
     have cx:de.load z2 0 4=some (WI H'):=by rw[aU.ld Q];rfl
     by_cases cl:S'.Tm.length=S.Tm.length
     .have ed:H'=H:=by
       rcases hP with⟨a,_⟩|⟨_,_,_,_,(⟨a,_⟩|⟨_,_,_,_,a⟩)⟩
       .exact a
       .exact a
       rw[a,UN,YF]at cl;omega
      have ex:cF [true,true,true,true] (WI H') (WI H)=some true:=by rw[ed];exact DN H
      have bS:((S'.Tm.length:Nat):Int)=(S.Tm.length:Int):=Q;simp (maxSteps:=9^9) (disch:=omega) only[go_sem,T,L,bS,cw,cx,ex];exact⟨n-1,Q,t1,t2,t3,i+1,Q,rfl,A',B',H',S',m',g',_,⟨cm,av,bT,b5,b4,b6,b9,ar,Uj _ f,b0⟩,ba,I,hch'.trans ay,bs.Tp.trans am⟩
     obtain⟨w,pn,hw,gv,bb,hS⟩:∃w pn,w=aE (max (max p.n 1) S.TD) p.a∧(∃d,jA H H' d pn w)∧¬H.Tp<w∧S'.Tm=S.Tm++[(pn,w)]:=by
      rcases hP with⟨_,a,_⟩|⟨_,_,_,_,(⟨_,a⟩|⟨pn,d,a1,a2,a3⟩)⟩
      .exact absurd (by rw[a]) cl
      .exact absurd (by rw[a]) cl
      exact⟨_,pn,rfl,⟨d,a1⟩,a2,a3⟩
     obtain⟨d,gv⟩:=gv;have e7:S'.Tm.length=S.Tm.length+1:=by rw[hS,UN,YF]
     have c1:=gv.acC K.Uk av.Uk;have fa:dC (bf H')=w+dC (bf H):=by rw[Hy c1];simp[dC]
     have e5:(bf H').length=(bf H).length+1:=by rw[c1.length_eq,TH]
     have cr:=th K.Uk;have e8:=K.pos;have cP:max (max p.n 1) S.TD=max c p.n:=by rw[<- ay];omega
     have c2:(2:Nat)^o.toNat≤2^8:=Vb Q Q;have fx:w≤1048576:=by rw[am]at bb;simp at c2;omega
     have fu:=p.hn;have ft:=p.ha;have eA:(if 4096*2^o.toNat<aE (max c p.n) p.a then 0 else aE (max c p.n) p.a)=w:=by
      have:¬4096*2^o.toNat<aE (max c p.n) p.a:=by rw[<- am, <- cP, <- hw];exact bb
      rw[Tg this, <- cP, <- hw]
     obtain⟨cb,co,b3,fm,ee,eg,b2⟩:=ah.at (i:=S.Tm.length) Q;cases b3;have be:S'.Tm[S.Tm.length]'Q=(pn,w):=by simp[hS]
     rw[be]at ee eg b2;have bS:¬((S'.Tm.length:Int)=(S.Tm.length:Int)):=Q;simp (maxSteps:=9^9) (disch:=omega) only[go_sem,t3,T,L,bS,cl,I.ld];refine((jI (b:=b) (l:=l) (o:=o) w10).gw w10).mono ?_;rintro _ eS ⟨⟨rfl,N⟩,w11⟩;have aP:=I.ext N.ext w10;have af:=ad.ext N.ext w10;have hz:=LD (σ:=eS) (b:=b) (l:=l) (k:=o.toNat) (s:=max c p.n) (a:=p.a) Q Q p.ha;rw[ek,eA]at hz;have cS:p.v[3]?=some (.u p.n):=rfl;have c0:p.v[4]?=some (.u p.a):=rfl;simp (maxSteps:=9^9) (disch:=omega) only[go_sem,t1,t3,T,L,I.ld,aP.ld,ad.cl,af.cl,cS,c0,GC,BO,Uu];refine(hz.gw w11).mono ?_;rintro _ eZ ⟨⟨rfl,O⟩,w12⟩;have cc:=aP.ext O.ext w11;have e0:=af.ext O.ext w11;have ch:=(ba.ext N.ext w10).ext O.ext w11;have ce:=(aS.ext N.ext w10).ext O.ext w11;have cf:=(aU.ext N.ext w10).ext O.ext w11;have d9:=TS.ext (TS.ext cm N.ext w11) O.ext w12;have cn:U6 eZ S'.Tm (.acL cb co S'.Tm.length 2):=Ls.ext (Ls.ext ah N.ext) O.ext;obtain⟨fb,fd,b3,e2,ei,cq,ej⟩:=cn.at (i:=S.Tm.length) Q;cases b3;rw[be]at ei cq ej;have fv:dC (bf H)≤262144*4194304:=by
      obtain⟨fl,pl,fc,iv⟩:=K.Uk.UB;have h1:=Be (m:=4194304) (l:=bf H) fun x hx=>by have h1:=iv.b8 ((ga iv).1 (show(x.1,x.2)∈bf H from hx));have h2:=mS iv.ok;have h3:=ka iv.ok;omega
      exact V4 h1 (UG _ cr)
     have es:dC (bf H)%18446744073709551616=dC (bf H):=WR Q;have et:dC (bf H')%18446744073709551616=dC (bf H'):=WR Q;have c3:(WI H)[1]?=some (.u (dC (bf H):Nat)):=by show some (V.u (dC (bf H)%18446744073709551616:Nat))=_;rw[es]
     have c4:(WI H')[1]?=some (.u (dC (bf H'):Nat)):=by show some (V.u (dC (bf H')%18446744073709551616:Nat))=_;rw[et]
     have eu:(WI H)[2]?=some (.i (bf H).length):=rfl;have ev:(WI H')[2]?=some (.i (bf H').length):=rfl;have fo:=K.EP;have f1:((bf H').length:Int)=(bf H).length+1:=Q;have f2:((dC (bf H'):Nat):Int)=(dC (bf H):Nat)+(w:Nat):=Q;have f3:((S'.Tm.length:Nat):Int)=(S.Tm.length:Nat)+1:=Q;simp (maxSteps:=9^9) (disch:=omega) only[go_sem,t1,t3,T,L,I.ld,ad.cl,af.cl,cS,c0,dD,cq,cf.cl,ce.cl,c3,c4,eu,ev,f1,f2,f3];exact⟨n-1,Q,t2,i+1,Q,rfl,A',B',H',S',m',g',_,⟨d9,av,bT,b5,b4,b6,b9,ar,Uj _ f,b0⟩,ch,cc,hch'.trans ay,bs.Tp.trans am⟩
    simp (maxSteps:=9^9) (disch:=omega) only[go_sem,k1,T,er,ep,TV,Ug];refine((qq G1 p Q bd).gw aM).mono ?_;rintro _ u2 ⟨⟨A',B',H',S',m',g',v',rfl,⟨h2,eQ,cs,mk,hv,ot,pc,Z,rfl,ck⟩,hA,hB,hch',bs,k2,hP⟩,wu2⟩;have bx:=U.T9 k2;have bl:=ca.T9 k2;obtain⟨F,f⟩:=acH (Uw A' B' H' S' cs mk hv ot pc Z);have gf:F.all V.Tr=true:=by rw[f];exact ck.Tr A' B' H' S'
    have R:F.length=16:=by rw[f];rfl
    rw[<- f];obtain⟨u3,C⟩:=acH (u2.Ts 16 zG F);have J:=aQ (σ:=u2) (z:=zG) (vs:=F) (n:=16) (Vt R) gf;have E:GW u3:=by rw[C];exact wu2.Ts (Vt R) gf
    have e3:TP u2 u3:=by rw[C];exact(Gr.g).ext
    have dq:Lo u3 (UA H' A' S' B' m' hasK AK) u2.next 16 F:=⟨by rw[C];exact To.Ts u2 16 zG _ R,R,Wd.eh h2 (Tx _)⟩
    have W:=bx.ext e3 wu2;have bu:=bl.ext e3 wu2;have ax:=TS.ext h2 e3 E;rw[<- C]at J;have cE:u3.load u2.next 0 16=some F:=by rw[dq.ld Q,VG,VZ (Vt R)]
    obtain⟨u4,eC,j,w4,p4⟩:=W.set E (off:=0) (vs:=F) Q gf;simp (maxSteps:=9^9) (disch:=omega) only[go_sem,T,L,R,J,cE,eC];refine⟨n-1,Q,t1,t2,t3,i+1,Q,rfl,A',B',H',S',m',g',_,⟨TS.eX ax p4 w4 W.nm,eQ,cs,mk,hv,ot,pc,Z,Uj _ f,ck⟩,?_,bu.put p4 ?_,hch'.trans ay,bs.Tp.trans am⟩
    .rw[VU,YH,YW (by rw[W.len,R];exact Tx _),Wr]at j;exact j
    omega
   have d7:¬((i:Int)<(M:Int)):=Q;simp (maxSteps:=9^9) (disch:=omega) only[go_sem,t1,t2,t3,T,L,ci,d7]
  simp (maxSteps:=9^9) (disch:=omega) only[go_sem];exact⟨0,Q,rfl,A,B,_,_,m0,_,_,G4,j,bv,rfl,rfl⟩
 obtain rfl:=m2 ho;simp (maxSteps:=9^9) (disch:=omega) only[go_sem]
end
end
end
end Go.Proofs.YtlgmpheammbacaaGreatDoor
