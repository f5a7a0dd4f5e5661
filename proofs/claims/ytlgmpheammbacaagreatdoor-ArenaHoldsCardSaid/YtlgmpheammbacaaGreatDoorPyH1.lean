import Derived.Test.YtlgmpheammbacaaGreatDoorPys
set_option linter.all false
set_option maxRecDepth 1000000
set_option maxHeartbeats 8000000
attribute [local irreducible] AM.T.get AM.T.set
namespace Go.Proofs.YtlgmpheammbacaaGreatDoor
open AM Go
noncomputable section
section
variable {σ:St} {A:Tu -> Nat} {H H':aa} {fl pl fc:Nat -> List Nat}
def OH(h:aw σ A H)(hg:T3 H)(a n:Nat)(k:n=0∨H.eZ a n=false):
  au G0 [] 33 [.acK (A .heap) 0,.u a,.u n] σ fun r s=>aw s A H∧r=.tuple [.acJ,.i (if n=0 then 0 else 4)]:=by
 refine ai g33 rfl ?_;obtain⟨fl,pl,fc,p⟩:=hg.UB;obtain⟨v,w,⟨j,b⟩,l⟩:=kL h hg.lock;subst b;simp only[go_sem];refine ab l ?_;by_cases c:n=0
 .have d:(n:Int)=0:=Q;obtain⟨v,q,⟨g,b⟩,f⟩:=fg j rfl;subst b;simp only[go_sem,d,b7];refine⟨.inr fi,ab f ?_⟩;rw[Ti c];simp only[go_sem];rw[ff hg.lock]at g;exact g
 have d:¬(n:Int)=0:=Q;have hw:H.eZ a n=false:=by rcases k with e|e;exact(c e).elim;exact e
 obtain⟨v,s2,⟨b,t,o⟩,m⟩:=j.dF (px j (p.aC 1) a n);rw[ky,hw]at b;subst b;obtain⟨v,q,⟨g,b⟩,f⟩:=fg o rfl;subst b;simp only[go_sem,d];refine ab m ?_;simp only[go_sem,d,b7];refine⟨.inr fi,ab f ?_⟩;rw[Tg c];simp only[go_sem];rw[ff hg.lock]at g;exact g
end
section
attribute [local go_sem] bJ bO bM bP bI bo bj bV bD bK VG Wa VU WZ dx dv cH bg cU bq bG cX cZ br bH cY cB UR UK aj az aD TH TK TZ bm bF aW aO aI bz aX bt aY dM aR bU dN aZ bc aT bA
variable {σ σ' s:St}
def P1{vs:List V}{u v:V}{n:Nat}{x:Nat->Nat}(hu:Ls σ 1 n vs u)(hv:Ls σ 1 n vs v)(hx:∀i,i<n->vs[i]?=some (.int .u8 (x i:Nat)))(Ue:n≤100000000):au G0 [] 34 [u,v] σ fun y s=>y=.bool true∧s=σ:=by
 refine ai g34 rfl ?_;obtain⟨B,r,a⟩:=hu.is;obtain⟨C,w,f⟩:=hv.is;simp (disch:=omega) only[go_sem,a,f];refine bW (fun m fr t=>fr.defers=[]∧fr.tmps.get 0=some u∧fr.tmps.get 1=some v∧t=σ∧∃i,i+m=n∧fr.tmps.get 5=some (.i (i:Nat))) ?_ n ?_
 .rintro m ⟨D,ds⟩ t ⟨hd,h,j,rfl,i,hi,o⟩;simp only at hd h j o;subst hd;by_cases c:i<n
  .obtain⟨p,z,e,_,k⟩:=hu.UH Q;obtain⟨q,A,g,_,l⟩:=hv.UH Q;have b:=k i Q;have d:=l i Q;rw[hx i c]at b d;rw[e]at h;rw[g]at j;simp (disch:=omega) only[go_sem,h,j,o,b,d,Um];exact⟨m-1,Q,Uj some e.symm,Uj some g.symm,i+1,Q,rfl⟩
  rw[a]at h;simp (disch:=omega) only[go_sem,h,j,o]
 simp (disch:=omega) only[go_sem];exact⟨Uj some a.symm,Uj some f.symm,0,Q,rfl⟩
def Zc(P N:Nat)(b:Nat×Nat):Bool:=decide (b.1≤P∧P-b.1≤b.2∧N≤b.2-(P-b.1))
theorem Jk{d:List (Nat×Nat)}{P N:Nat}{l y:V}(w:GW σ)(E:U6 σ d l)(Ue:d.length≤100000000)(H:P<18446744073709551616)(hs:∀b∈d,b.2<18446744073709551616)(hy:y.cells=[y]):
  au G0 [] 32 [l,.agg [.u P,.u N,y]] σ fun v s=>v=.bool (d.any (Zc P N))∧aH σ s:=by
 refine ai g32 rfl ?_;obtain⟨q,e,z⟩:=E.is;obtain⟨B,g⟩:=acH (σ.ag [.u P,.u N,y]);have r:aH σ B:=by rw[g];exact aH.new _ _
 have p:To B σ.next 3 (Tn [.u P,.u N,y]):=by rw[g];exact To.cg σ _
 simp (maxSteps:=9^9) (disch:=omega) only[go_sem,<- g,hy,z];refine bW (fun m fr t=>fr.defers=[]∧fr.tmps.get 0=some l∧fr.tmps.get 3=some (.acK σ.next 0)∧t=B∧∃i,i+m=d.length∧fr.tmps.get 5=some (.i (i:Nat))∧d.any (Zc P N)=(d.drop i).any (Zc P N)) ?_ d.length ?_
 .rintro m ⟨J,ds⟩ t ⟨hd,f,n,rfl,i,hi,o,a⟩;simp only at hd f n o;subst hd;by_cases c:i<d.length
  .obtain⟨G,I,ha,A,j,k,_⟩:=E.at c;rw[ha]at f;rw[<- r.cell (m:=σ.next) A]at j k;rw[a,List.drop_eq_getElem_cons c,List.any_cons];rw[List.drop_eq_getElem_cons c,List.any_cons]at a;have x:=hs _ (Wm c);obtain⟨b,F⟩:=acH (d[i]);rw[<- F]at j k a x⊢;by_cases c1:b.1≤P
   .by_cases C:P-b.1≤b.2
    .by_cases D:N≤b.2-(P-b.1)
     .rw[show Zc P N b=true from UR ⟨c1,C,D⟩];simp (maxSteps:=9^9) (disch:=omega) only[go_sem,f,n,o,j,k,p.bC rfl,aaw];exact r
     rw[show Zc P N b=false from UK fun h=>D h.2.2]at a⊢;simp (maxSteps:=9^9) (disch:=omega) only[go_sem,f,n,o,j,k,p.bC rfl];exact⟨m-1,Q,Uj some ha.symm,i+1,Q,rfl,Y⟩
    rw[show Zc P N b=false from UK fun h=>C h.2.1]at a⊢;simp (maxSteps:=9^9) (disch:=omega) only[go_sem,f,n,o,j,k,p.bC rfl];exact⟨m-1,Q,Uj some ha.symm,i+1,Q,rfl,Y⟩
   rw[show Zc P N b=false from UK fun h=>c1 h.1]at a⊢;simp (maxSteps:=9^9) (disch:=omega) only[go_sem,f,n,o,j,k,p.bC rfl];exact⟨m-1,Q,Uj some ha.symm,i+1,Q,rfl,Y⟩
  rw[z]at f;simp (maxSteps:=9^9) (disch:=omega) only[go_sem,f,n,o];rw[List.drop_eq_nil_of_le Q]at a;exact⟨Uj V.bool a.symm,r⟩
 simp (maxSteps:=9^9) (disch:=omega) only[go_sem];exact⟨Uj some z.symm,0,Q,rfl,rfl⟩
end
end
end Go.Proofs.YtlgmpheammbacaaGreatDoor
namespace Go.Proofs.YtlgmpheammbacaaGreatDoor
open Go.ChangeShapes Go.WideShapes Go.ChangeAt Go.WideMaps Go.WideElems Go.RowKit
open AM
def DX.ls{l:List XR}{q:Option (Nat×Nat)}{n e:Nat}{a:List Nat}(h:DX l q n e a){s:St}(W:Wd s (ud l) sD (pX l)):Ls s 1 n (a.map fun x=>AM.V.int .u8 (x:Nat)) (.slice q n e):=by obtain⟨j,b,p,o,r,d,rfl,rfl,hn,f,g⟩:=h;obtain⟨c,k⟩:=Ai d;have R:=W.KY c k;refine⟨⟨_,_,rfl⟩,by rw[Wz,f,Um],fun m=>⟨sD j,o,rfl,W.lt c,fun i hi=>?_⟩⟩;rw[R.cell Q,X0,UQ Q];refine Uj some ?_;rw[iD (g i Q),U7,UQ Q];rfl
end Go.Proofs.YtlgmpheammbacaaGreatDoor
namespace Go.Proofs.YtlgmpheammbacaaGreatDoor
open AM Go
noncomputable section
variable {σ σ' s:St}
section
variable {ι κ:Type} {hasK:κ -> Prop} {AK:κ -> Nat} {cK:κ -> cA}
end
def lP{κ:Type}{hasK:κ->Prop}{AK:κ->Nat}{cK:κ->cA}{A:Tu->Nat}{B:AI->Nat}{b l o:Int}{c:Nat}(D:DT)(d:0≤b)(e:je b l o c)(h:Uo s A (di b.toNat l.toNat o.toNat) B (ie c) hasK AK cK):
  ∃m,jw (s.Ts 16 zG (U9 (Vc c b l o) (A .heap) (B .TA))) A (di b.toNat l.toNat o.toNat) B (ie c) m hasK AK cK D ⟨[],[],[],[]⟩ [] 0 (.agg (U9 (Vc c b l o) (A .heap) (B .TA)))∧
   Lo (s.Ts 16 zG (U9 (Vc c b l o) (A .heap) (B .TA))) (UA (di b.toNat l.toNat o.toNat) A (ie c) B m hasK AK) s.next 16 (U9 (Vc c b l o) (A .heap) (B .TA)):=
 let ⟨m,a,b,_⟩:=mO D d e h
 ⟨m,a,b⟩
section
variable {κ:Type} {hasK:κ -> Prop} {AK:κ -> Nat} {cK:κ -> cA} {D:DT}
end
end
end Go.Proofs.YtlgmpheammbacaaGreatDoor
namespace Go.Proofs.YtlgmpheammbacaaGreatDoor
open Go.ChangeShapes Go.WideShapes Go.ChangeAt Go.WideMaps Go.WideElems Go.RowKit
open AM
def vB{F:FuncId}{C:jj}(hg:G0.get F=some (.code C))(k:∀(l:List XR) (b m o:Int) (c M y e:Nat) (q:Option (Nat×Nat)) (ops:Nat->Wb),0≤b->b<18446744073709551616->c<18446744073709551616->M≤1990000000000->pT (ud l) sD (pX l) (DX l) q e M y ops →
   au G0 [] F [Uu b m o,.u c,.slice q M e] (Wf l) fun v _=>v=.bool true){W:World}{H:Type}{enc:TypeId×Value->H}{Tj:Nat}{z A v3:Value}{d:DataW H}{p:List MemPlace}(t:gh Tryz.prog Tryz.prog.globals.size G0)(h:laidMetH Tryz.prog iW W)(D:Value.okWide Tryz.prog W .any Tj 30 z)(E:Value.okWide Tryz.prog W .any Tj 28 A)(G:Value.okWide Tryz.prog W .any Tj 52 v3)(hd:DataW.Trod enc Tryz.prog W 0 (fun _=>true) true 52 v3 d p)(I:∀a len f,v3=.slice (some a) len f->len≤1990000000000):
  Calls Tryz.prog F #[z,A,v3] W fun e B=>e=.returned (.bool true)∧Below W.heap.size W B:=by
 obtain⟨b,m,o,rfl,b1,b2⟩:=AP D;obtain⟨c,rfl,c1⟩:=BA E;obtain⟨l,q,M,e,y,ops,K,n,w,i,g⟩:=oG G hd 1;obtain⟨J,s⟩:=w (nF W l) fun j x hx=>rC hx
 have r:M≤1990000000000:=by
  rcases n with rfl|⟨a,f,e⟩
  .omega
  exact I _ _ _ e
 refine jK (l:=l) (xs:=[Uu b m o,.u c,.slice q M e]) t h s ?_ hg (k l b m o c M y e q ops b1 b2 c1 r (rp (j0:=0) i g));exact⟨_,_,rfl,⟨_,rfl,⟨_,_,rfl,rfl,_,_,rfl,rfl,_,_,rfl,rfl,rfl⟩⟩,_,_,rfl,rfl,_,_,rfl,J,rfl⟩
end Go.Proofs.YtlgmpheammbacaaGreatDoor
namespace Go.Proofs.YtlgmpheammbacaaGreatDoor
open AM Go
noncomputable section
attribute [local go_sem] bJ bO bM bP bI bo bj bV bD bK VG Wa VU WZ dx dv cH bg cU bq bG cX cZ br bH cY cB UR UK aj az aD TH TK TZ bm bF aW aO aI bz aX bt aY dM aR bU dN aZ bc aT bA
variable {σ σ' s:St}
abbrev zP:List V:=[.u 0,.u 0,.acJ]
section
variable {κ:Type} {hasK:κ -> Prop} {AK:κ -> Nat} {cK:κ -> cA} {A:Tu -> Nat} {H:aa} {B:AI -> Nat} {S:AS} {m:ML -> Li} {D:DT} {g:Gm} {E:List Nat} {N:Nat} {v:V}
def PC(h:TS σ A H B S m hasK AK cK)(g:T3 H){a n:Nat}(hw:0<n->H.eZ a n=true):
  au G0 [] 33 [.acK (A .heap) 0,.u a,.u n] σ fun v s=>(∃u,v=.tuple [u,.i 0]∧Ls s 1 n (iO H a n) u)∧TS s A H B S m hasK AK cK∧T5 σ s (UA H A S B m hasK AK) (UA H A S B m hasK AK):=by
 by_cases hn:0<n
 .refine(HC.OX (Uo.hc h) (P:=fun v b=>v=.tuple [.acL b 0 n 1,.i 0]) (x:=.row n fun i=>.int .u8 (H.mem (a-H.Tj+i))) fun s R=>(FW R g a n hn (hw hn)).mono fun v j ⟨b,p,W⟩=>⟨b,p,W⟩).mono ?_;rintro v j ⟨b,rfl,c,f,k⟩;have d:Row j b n (fun i=>.int .u8 (H.mem (a-H.Tj+i))):=f;refine⟨⟨_,rfl,⟨_,_,rfl⟩,by unfold iO;simp,fun _=>⟨b,0,rfl,?_,fun i hi=>?_⟩⟩,HC.X4 c rfl,k.ah⟩
  .obtain⟨q,t,z,w,l,o,r⟩:=f;exact c.gw.UL o
  rw[Vk,d.cell Q];unfold iO;rw[X0,YC Q];rfl
 obtain rfl:n=0:=Q;refine(HC.gQ (H':=H) (P:=fun v e=>v=.tuple [.acJ,.i 0]∧e=A) (Uo.hc h) fun σ d=>(OH d g a 0 (.inl rfl)).mono fun v s ⟨x,y⟩=>⟨A,x,y,rfl⟩).mono ?_;rintro v s ⟨e,c,⟨rfl,rfl⟩,k⟩;exact⟨⟨_,rfl,⟨_,_,rfl⟩,rfl,fun h=>absurd h (XK _)⟩,HC.X4 c rfl,k.ah⟩
def HE{p n:Nat}:(se H p n).map (fun x=>AM.V.int .u8 (x:Nat))=iO H p n:=by unfold se iO;rw[List.map_map];rfl
theorem Bu{b l o:Int}{c M oo e:Nat}{q:Option (Nat×Nat)}{ops:Nat->Wb}(hD:∀{q n e bs} {s:St},D q n e bs->Wd s hasK AK cK->Ls s 1 n (bs.map fun x=>AM.V.int .u8 (x:Nat)) (.slice q n e))(W0:Wd σ hasK AK cK)(cx:0≤b)(hb:b<18446744073709551616)(hc:c<18446744073709551616)(hM:M≤1990000000000)(c0:pT hasK AK cK D q e M oo ops):
  au G0 [] 6 [Uu b l o,.u c,.slice q M e] σ fun v _=>v=.bool true:=by
 refine ai g6 rfl ?_;obtain⟨s1,aP⟩:=acH (σ.ag [.u b,.i l,.i o]);have w1:GW s1:=by rw[aP];exact W0.gw.new _ rfl
 have e1:TP σ s1:=by rw[aP];exact(Gr.g).ext
 have W1:=W0.ext e1 w1;have L1:Lo s1 (Nm hasK AK) σ.next 3 [.u b,.i l,.i o]:=⟨by rw[aP];exact To.cg σ _,rfl,W0.eh (Tx _)⟩
 simp (maxSteps:=9^9) (disch:=omega) only[go_sem,Uu,<- aP];refine((W1.AG (P:=fun v=>v=.bool true) fun s w hw=>qJ w hw).gw w1).mono ?_;rintro _ s2 ⟨⟨rfl,W2,k2⟩,w2⟩;have L2:=L1.T9 k2;simp (maxSteps:=9^9) (disch:=omega) only[go_sem,L2.ld];refine((W2.BI cx hb hc).gw w2).mono ?_;rintro y s3 ⟨⟨m1,m2⟩,w3⟩;by_cases ho:je b l o c
 .obtain⟨A,B,rfl,h3,k3⟩:=m1 ho;obtain⟨m0,G4,L⟩:=lP D cx ho h3;obtain⟨s4,d8⟩:=acH (s3.Ts 16 zG (U9 (Vc c b l o) (A .heap) (B .TA)));have c5:=aQ (σ:=s3) (z:=zG) (vs:=U9 (Vc c b l o) (A .heap) (B .TA)) (n:=16) (Vt ny) rfl;rw[<- d8]at G4 L c5;have dS:(V.agg (U9 (Vc c b l o) (A .heap) (B .TA))).cells=U9 (Vc c b l o) (A .heap) (B .TA):=rfl;simp (maxSteps:=9^9) (disch:=omega) only[go_sem,dS,ny,c5];obtain⟨x,hx⟩:=acH (s3.next);rw[<- hx]at L⊢;refine bW (fun n fr t=>fr.defers=[]∧fr.tmps.get 2=some (.slice q M e)∧fr.tmps.get 7=some (.acK x 0)∧∃i,i+n=M∧fr.tmps.get 10=some (.i (i:Nat))∧
   ∃A B H S m g ls,jw t A H B S m hasK AK cK D g [] i (.agg ls)∧Lo t (UA H A S B m hasK AK) x 16 ls) ?_ M ?_
  .rintro n ⟨tm,ds⟩ t ⟨hd,t2,t7,i,hi,ad,A,B,H,S,m,g,ls,⟨h0,ac,co,dh,de,dk,es,b0,cP,b9⟩,Lx⟩;simp only at hd t2 t7 ad;subst hd;have P0:=b9.pc.ls h0;obtain⟨qp,ep,rfl⟩:=P0.is;have bS:ls=Uw A B H S co dh de dk (.slice qp g.P.length ep) b0:=V.agg.inj cP;have ay:ls[14]?=some (.slice qp g.P.length ep):=by rw[bS];rfl
   have G:jw t A H B S m hasK AK cK D g [] i (.agg ls):=⟨h0,ac,co,dh,de,dk,_,b0,cP,b9⟩;have d1:=ac.Ue;have wt:=G.w.gw;by_cases ci:i<M
   .obtain⟨ob,rfl,rfl,ca⟩:=c0.load ci;obtain⟨ek, -⟩:=ca (Wd.right (Wd.right G.w));obtain⟨u1,Z⟩:=acH (t.new (.acM 16 zG .nil));have dl:GW u1:=by rw[Z];exact wt.new _ rfl
    have cp:TP t u1:=by rw[Z];exact(Gr.g).ext
    have eq:u1.next=t.next+1:=by rw[Z];rfl
    have cS:u1.Tq.get t.next=some (.acM 16 zG .nil):=by rw[Z];show T.get (T.set _ _ _) _=_;rw[T.aJ,Ti rfl]
    have ck:Lo u1 (UA H A S B m hasK AK) t.next 16 zG:=⟨by rw[Z];exact To.zero wt zG Y,rfl,Wd.eh G.w (Tx _)⟩
    have b2:=Lx.ext cp wt;have G1:jw u1 A H B S m hasK AK cK D g [] i (.agg ls):=⟨TS.ext G.w cp dl,G.ok,G.v⟩;obtain⟨aB, -⟩:=ca (Wd.right (Wd.right G1.w));have en:x<t.next:=Lx.UH.lt wt;have cb:u1.load x 0 16=some ls:=by rw[b2.ld Q,VG,VZ (Vt b2.len)]
    have ed:(ops i).v.length=7:=nC _;simp (maxSteps:=9^9) (disch:=omega) only[go_sem,t2,t7,ad,Lx.cl,ay,<- Z,cb,aB];refine((qq G1 (ops i) Q (c0.dat i ci)).gw dl).mono ?_;rintro _ u2 ⟨⟨A',B',H',S',m',g',v',rfl,⟨h2,I,cs,mk,hv,ot,pc,cf,rfl,al⟩,hA,hB,hch,bs,k2,hP⟩,wu2⟩;have P2:=al.pc.ls h2;obtain⟨ch,b6,rfl⟩:=P2.is;obtain⟨GL,ah⟩:=acH (Uw A' B' H' S' cs mk hv ot (.slice ch g'.P.length b6) cf);have gf:GL.all V.Tr=true:=by rw[ah];exact al.Tr A' B' H' S'
    have gl:GL.length=16:=by rw[ah];rfl
    have bC:GL[1]?=some (.acK (B' .TA) 0):=by rw[ah];rfl
    have O:GL[14]?=some (.slice ch g'.P.length b6):=by rw[ah];rfl
    rw[<- ah];have dq:=b2.T9 k2;have b1:=ck.T9 k2;have d4:=k2.Wo cS rfl rfl ck.nm;obtain⟨u3,da,cm,dm,p3⟩:=b1.set wu2 (off:=0) (vs:=GL) Q gf;rw[VU,YH,YW (by rw[b1.len,gl];exact Tx _),Wr]at cm;have dF:=TS.eX h2 p3 dm b1.nm;have b3:=dq.put p3 Q;have cE:eN t.next zG 1 0 [([],u1),([],u2),([],u3)]=true:=oL rfl fun m x hx hm=>by
     match m,hx with
     | 0,hx=>cases hx;exact cS
     | 1,hx=>cases hx;exact d4
     |m+2,_=>omega
    have bN:u3.load t.next 0 16=some GL:=by rw[cm.ld Q,VG,VZ (Vt gl)]
    obtain⟨u4,db,L,w4,p4⟩:=b3.set dm (off:=0) (vs:=GL) Q gf;rw[VU,YH,YW (by rw[b3.len,gl];exact Tx _),Wr]at L;have h4:=TS.eX dF p4 w4 b3.nm;have d0:=I.Ue;by_cases cl:g'.P.length=g.P.length+1
    .have b5:((g'.P.length:Nat):Int)=(g.P.length:Nat)+1:=Q;obtain⟨f,be,dI,eg⟩:∃f,g'.P=g.P++[f]∧f.p%(ops i).a=0∧0<(ops i).a:=by
      by_cases k1:(ops i).k=1
      .rcases hP.1 k1 with⟨_,_,e⟩|⟨f,e,h1,h2,_⟩
       .rw[e]at cl;omega
       exact⟨f,e,h1,h2⟩
      have:=hP.2 k1;omega
     have cR:f∈g'.P:=by rw[be];simp
     have cL:g'.P[g.P.length]'Q=f:=by simp[be]
     obtain⟨aP,cc,cy,dO,ei⟩:=I.ZU cR;have em:=I.range cc cy;have d3:S'.Tm.any (Zc f.p f.s)=true:=aay.2 ⟨cc,cy,UR ⟨dO,Q,Q⟩⟩;have P4:VF u4 g'.P (.slice ch g'.P.length b6):=al.pc.ls h4;obtain⟨pb,po,aM,el,d5,d6,c4, -⟩:=VF.at P4 (i:=g.P.length) Q;cases aM;rw[cL]at d5 d6 c4;obtain⟨y,hy⟩:=acH (u4.next);obtain⟨ex,am⟩:=acH (j6 f);have cq:ex.all V.Tr=true:=by rw[am];rfl
     have af:ex.length=3:=by rw[am];rfl
     have aU:ex[0]?=some (.u f.p):=by rw[am];rfl
     have b8:ex[1]?=some (.u f.s):=by rw[am];rfl
     have E:u4.load pb (po+g.P.length*3) 3=some ex:=by rw[am];exact c4
     obtain⟨u5,bd⟩:=acH (u4.Ts 3 zP ex);have bY:=aQ (σ:=u4) (z:=zP) (vs:=ex) (n:=3) (Vt af) cq;have w5:GW u5:=by rw[bd];exact w4.Ts (Vt af) cq
     have e5:TP u4 u5:=by rw[bd];exact(Gr.g).ext
     have L5:Lo u5 (UA H' A' S' B' m' hasK AK) y 3 ex:=⟨by rw[bd,hy];exact To.Ts u4 3 zP _ af,af,by rw[hy];exact Wd.eh h4 (Tx _)⟩
     have b4:=L.ext e5 w4;have h5:=TS.ext h4 e5 w5;rw[<- bd, <- hy]at bY;obtain⟨-,dQ⟩:=ca (Wd.right (Wd.right h5));have bx:=dQ 4 Q;have cw:(ops i).v[4]?=some (.u (ops i).a):=rfl;have ce:u5.load y 0 3=some ex:=by rw[L5.ld Q,VG,VZ (Vt af)]
     simp (maxSteps:=9^9) (disch:=omega) only[go_sem,t2,t7,ad,gl,da,cb,aB,<- Z,cE,bN,db,L.cl,O,b5,E,<- hy,af,bY,L5.cl,aU,bx,cw,dI,b4.cl,bC,ce];refine((lQ (Uo.drop h5) I.ok).gw w5).mono ?_;rintro cv u6 ⟨⟨dH,g6⟩,w6⟩;have L6:=L5.ext g6.ext w5;have du:=b4.ext g6.ext w5;have h6:=TS.ext h5 g6.ext w6;have bT:u6.load y 0 3=some ex:=by rw[L6.ld Q,VG,VZ (Vt af)]
     have ej:=I.EP;have cO:=Jk (P:=f.p) (N:=f.s) (y:=.slice f.q f.n f.e) w6 dH Q Q (fun b hb=>by have:=I.range b hb;omega) rfl;rw[d3,show(V.agg [.u f.p,.u f.s,.slice f.q f.n f.e])=.agg ex by rw[am];rfl]at cO;simp (maxSteps:=9^9) (disch:=omega) only[go_sem,ce,bT];refine(cO.gw w6).mono ?_;rintro _ u7 ⟨⟨rfl,g7⟩,w7⟩;have L7:=L6.ext g7.ext w6;have dy:=du.ext g7.ext w6;have h7:=TS.ext h6 g7.ext w7;simp (maxSteps:=9^9) (disch:=omega) only[go_sem,ce,bT,dD,L5.cl,aU,b8,bx,cw,b4.cl,bC];have dL:∀z∈g.P,apa z.U3 f.U3:=fun z hz=>by have hd:=I.XS;rw[be,WA,Xt]at hd;exact hd.2.2 _ (Xs hz) _ Y
     refine bW (fun n' fr J=>fr.defers=[]∧fr.tmps.get 2=some (.acL ob oo M 7)∧fr.tmps.get 7=some (.acK x 0)∧fr.tmps.get 10=some (.i (i:Nat))∧fr.tmps.get 11=some (.i (g.P.length:Nat))∧fr.tmps.get 14=some (.acK y 0)∧
      ∃j,j+n'=g.P.length∧fr.tmps.get 15=some (.i (j:Nat))∧TS J A' H' B' S' m' hasK AK cK∧Lo J (UA H' A' S' B' m' hasK AK) x 16 GL∧Lo J (UA H' A' S' B' m' hasK AK) y 3 ex) ?_ g.P.length ?_
     .rintro n' ⟨eb,dz⟩ J ⟨ax,r2,r7,bk,bl,bu,j,hj,bv,K,W,L8⟩;simp only at ax r2 r7 bk bl bu bv;subst ax;have ap:=K.gw;by_cases cj:j<g.P.length
      .have P8:VF J g'.P (.acL pb po g'.P.length 3):=al.pc.ls K;obtain⟨er,et,aM,c3,aC,aL,E, -⟩:=VF.at P8 (i:=j) Q;cases aM;obtain⟨d,ao⟩:=acH (g'.P[j]'Q);rw[<- ao]at aC aL E;have bi:d∈g'.P:=by rw[ao];exact Wm _
       have df:d∈g.P:=by
        have:d=g.P[j]'cj:=by rw[ao];simp only[be];rw[List.getElem_append_left cj]
        rw[this];exact Wm _
       have ha:=dL d df;have ee:d.p+d.s≤f.p∨f.p+f.s≤d.p:=ha;obtain⟨d9,dd,bb,cJ,dU⟩:=I.ZU bi;have d7:=I.range dd bb;obtain⟨X,C⟩:=acH (j6 d);have av:X.all V.Tr=true:=by rw[C];rfl
       have r:X.length=3:=by rw[C];rfl
       have ba:X[0]?=some (.u d.p):=by rw[C];rfl
       have cr:X[1]?=some (.u d.s):=by rw[C];rfl
       have R:J.load pb (po+j*3) 3=some X:=by rw[C];exact E
       obtain⟨t9,U⟩:=acH (J.Ts 3 zP X);have F:=aQ (σ:=J) (z:=zP) (vs:=X) (n:=3) (Vt r) av;have w9:GW t9:=by rw[U];exact ap.Ts (Vt r) av
       have e9:TP J t9:=by rw[U];exact(Gr.g).ext
       have L9:Lo t9 (UA H' A' S' B' m' hasK AK) J.next 3 X:=⟨by rw[U];exact To.Ts J 3 zP _ r,r,Wd.eh K (Tx _)⟩
       have ar:=W.ext e9 ap;have aS:=L8.ext e9 ap;have h9:=TS.ext K e9 w9;rw[<- U]at F;by_cases c1:f.p<d.p+d.s
       .have c2:¬d.p<f.p+f.s:=Q;simp (maxSteps:=9^9) (disch:=omega) only[go_sem,r2,r7,bk,bl,bu,bv,cj,W.cl,O,R,r,F,L9.cl,aS.cl,ba,cr,aU,b8];exact⟨n'-1,Q,j+1,Q,rfl,h9,ar,aS⟩
       simp (maxSteps:=9^9) (disch:=omega) only[go_sem,r2,r7,bk,bl,bu,bv,cj,W.cl,O,R,r,F,L9.cl,aS.cl,ba,cr,aU,b8];exact⟨n'-1,Q,j+1,Q,rfl,h9,ar,aS⟩
      simp (maxSteps:=9^9) (disch:=omega) only[go_sem,r2,r7,bk,bl,bu,bv,cj];exact⟨n-1,Q,i+1,Q,rfl,A',B',H',S',m',g',_,⟨K,I,cs,mk,hv,ot,_,cf,Uj _ ah,al⟩,W⟩
     simp (maxSteps:=9^9) (disch:=omega) only[go_sem,t2,t7,ad];exact⟨0,Q,rfl,h7,dy,L7⟩
    have b5:¬((g'.P.length:Int)=(g.P.length:Int)+1):=Q;simp (maxSteps:=9^9) (disch:=omega) only[go_sem,t2,t7,ad,gl,da,cb,aB,<- Z,cE,bN,db,L.cl,O,b5];exact⟨n-1,Q,i+1,Q,rfl,A',B',H',S',m',g',_,⟨h4,I,cs,mk,hv,ot,_,cf,Uj _ ah,al⟩,L⟩
   simp (maxSteps:=9^9) (disch:=omega) only[go_sem,t2,t7,ad,ci,Lx.cl];refine bW (fun n' fr J=>fr.defers=[]∧fr.tmps.get 7=some (.acK x 0)∧∃j,j+n'=g.P.length∧fr.tmps.get 17=some (.i (j:Nat))∧TS J A H B S m hasK AK cK∧Lo J (UA H A S B m hasK AK) x 16 ls) ?_ g.P.length ?_
   .rintro n' ⟨eb,dz⟩ J ⟨ax,r7,j,hj,bw,K,W⟩;simp only at ax r7 bw;subst ax;have ap:=K.gw;have d2:ls[0]?=some (.acK (A .heap) 0):=by rw[bS];rfl
    by_cases cj:j<g.P.length
    .have P8:VF J g.P (.slice qp g.P.length ep):=b9.pc.ls K;obtain⟨pb,po,aM,c3,aC,aL,E, -⟩:=VF.at P8 (i:=j) cj;cases aM;obtain⟨d,ao⟩:=acH (g.P[j]'cj);rw[<- ao]at aC aL E;have bi:d∈g.P:=by rw[ao];exact Wm _
     obtain⟨d9,dd,bb,cJ,dU⟩:=ac.ZU bi;have d7:=ac.range dd bb;obtain⟨eo,ea⟩:=ac.bytes d bi;obtain⟨X,C⟩:=acH (j6 d);have av:X.all V.Tr=true:=by rw[C];rfl
     have r:X.length=3:=by rw[C];rfl
     have ba:X[0]?=some (.u d.p):=by rw[C];rfl
     have ct:X[2]?=some (.slice d.q d.n d.e):=by rw[C];rfl
     have R:J.load pb (po+j*3) 3=some X:=by rw[C];exact E
     obtain⟨t9,U⟩:=acH (J.Ts 3 zP X);have F:=aQ (σ:=J) (z:=zP) (vs:=X) (n:=3) (Vt r) av;have w9:GW t9:=by rw[U];exact ap.Ts (Vt r) av
     have e9:TP J t9:=by rw[U];exact(Gr.g).ext
     have L9:Lo t9 (UA H A S B m hasK AK) J.next 3 X:=⟨by rw[U];exact To.Ts J 3 zP _ r,r,Wd.eh K (Tx _)⟩
     have ar:=W.ext e9 ap;have h9:=TS.ext K e9 w9;rw[<- U]at F;obtain⟨y,hy⟩:=acH (J.next);rw[<- hy]at F L9;obtain⟨fl,pl,fc,iv⟩:=ac.Uk.UB;simp (maxSteps:=9^9) (disch:=omega) only[go_sem,r7,bw,cj,W.cl,ay,R,r,F,<- hy,L9.cl,ar.cl,d2,ba,ct];refine((PC h9 ac.Uk (a:=d.p) (n:=d.n) fun hn=>iv.acp (ac.Vo dd bb) cJ hn Q).gw w9).mono ?_;rintro _ ad ⟨⟨⟨u,rfl,hu⟩,h10,k10⟩,w10⟩;have dn:=L9.T9 k10;have cn:=ar.T9 k10;have hv:Ls ad 1 d.n (iO H d.p d.n) (.slice d.q d.n d.e):=by
      by_cases hn:0<d.n
      .have:=hD (ea hn) (Wd.right (Wd.right h10))
       rwa [HE]at this
      exact⟨⟨_,_,rfl⟩,by unfold iO;simp,fun h=>absurd h hn⟩
     simp (maxSteps:=9^9) (disch:=omega) only[go_sem,dn.cl,ct];refine((P1 (x:=fun i=>H.mem (d.p-H.Tj+i)) hu hv (fun i hi=>by unfold iO;rw[X0,YC hi];rfl) Q).gw w10).mono ?_;rintro _ eu ⟨⟨rfl,rfl⟩,w11⟩;simp (maxSteps:=9^9) (disch:=omega) only[go_sem,r7,bw];exact⟨n'-1,Q,j+1,Q,rfl,h10,cn⟩
    simp (maxSteps:=9^9) (disch:=omega) only[go_sem,r7,bw,cj,W.cl,ay]
   simp (maxSteps:=9^9) (disch:=omega) only[go_sem,t7];exact⟨0,Q,rfl,h0,Lx⟩
  simp (maxSteps:=9^9) (disch:=omega) only[go_sem];exact⟨0,Q,rfl,A,B,_,_,m0,_,_,G4,L⟩
 obtain rfl:=m2 ho;simp (maxSteps:=9^9) (disch:=omega) only[go_sem]
end
end
end Go.Proofs.YtlgmpheammbacaaGreatDoor
