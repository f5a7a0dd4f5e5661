import Derived.Test.YtlgmpheammbacaaGreatDoorPyr
set_option linter.all false
set_option maxRecDepth 1000000
set_option maxHeartbeats 8000000
attribute [local irreducible] AM.T.get AM.T.set
namespace Go.Proofs.YtlgmpheammbacaaGreatDoor
open AM Go
noncomputable section
attribute [local go_sem] bJ bO bM bP bI bo bj bV bD bK VG Wa VU WZ dx dv cH bg cU bq bG cX cZ br bH cY cB UR UK aj az aD TH TK TZ bm bF aW aO aI bz aX bt aY dM aR bU dN aZ bc aT bA
section
variable {σ σ' s:St}
section
variable {κ:Type} {hasK:κ -> Prop} {AK:κ -> Nat} {cK:κ -> cA} {A:Tu -> Nat} {H:aa} {B:AI -> Nat} {S:AS} {m:ML -> Li} {D:DT} {g:Gm} {E:List Nat} {N:Nat} {v:V}
def Q5(G:jw σ A H B S m hasK AK cK D g E N v){wh mo:Int}{n al:Nat}{dn:Bool}{da:V}(hn:n<18446744073709551616)(u:al<18446744073709551616)(hN:N<2000000000000)(d:da.cells=[da]):
  au G0 [] 31 [v,.agg (V7 1 wh mo n al dn da)] σ fun y s=>VH σ s A H B S m hasK AK cK D g E N y fun H' S' t=>Bh H S g n al H' S' t:=by
 obtain⟨h,ok,cs,mk,J,ot,pc,j,rfl,I⟩:=G;refine ai g31 rfl ?_;obtain⟨s1,e⟩:=acH (((σ.ag (Uw A B H S cs mk J ot pc j)).ag (V7 1 wh mo n al dn da)).new (.acM 16 zG .nil));obtain⟨L,F,n1,z,C,M⟩:=lF h rfl rfl e;obtain⟨c1,P,O,R,T,U⟩  :=I.cells;have h1:TS s1 A H B S m hasK AK cK:=Wd.ext h F L;simp (disch:=omega) only[go_sem,Uw,<- e,O,c1,P,R,T,U,d,z.cl,z.ld,C.cl,C.ld];refine((FT ⟨h1,ok,cs,mk,J,ot,pc,j,rfl,I⟩ hn u hN d).gw L).mono ?_;rintro _ s2 ⟨⟨o,p,H',S',m',t,v',rfl,⟨h2,x,c,i,f,k,l,a,rfl,r⟩,hA,hB,hch,bs,k2,hP⟩,w2⟩;have b:=M.T9 k2;obtain⟨X,Z,W,d3,d4,d5⟩:=r.cells;obtain⟨s3,w,q,w3,K⟩:=b.set w2 (off:=0) (vs:=Uw o p H' S' c i f k l a) Y (r.Tr o p H' S');simp (disch:=omega) only[go_sem,Uw,W,X,Z,d3,d4,d5,w,q.ld];exact⟨o,p,H',S',m',t,_,rfl,⟨h2.eX K w3 b.nm,x,c,i,f,k,l,a,rfl,r⟩,hA,hB,hch,bs,((T5.ext F h.gw).trans k2).put K Q h.gw,hP⟩
theorem Rm(G:jw σ A H B S m hasK AK cK D g E N v){kd wh mo:Int}{n al:Nat}{dn:Bool}{da:V}(J:kd=5∨kd=6∨kd=8)(hn:n<18446744073709551616)(I:N<2000000000000)(a:da.cells=[da]):
  au G0 [] 31 [v,.agg (V7 kd wh mo n al dn da)] σ fun y s=>VH σ s A H B S m hasK AK cK D g E N y fun H' S' e=>S'=S∧e.P=g.P:=by
 have hf:∀{σ:St},jw σ A H B S m hasK AK cK D g E N v->au G0 [] 84 [v,.agg (V7 kd wh mo n al dn da)] σ fun y s=>VH σ s A H B S m hasK AK cK D g E N y fun H' S' e=>S'=S∧e.P=g.P:=by
  intro σ G;rcases J with rfl|rfl|rfl
  .exact Eh G hn I a
  .exact EN G I a
  exact DZ G a
 obtain⟨h,ok,cs,mk,K,ot,pc,k,rfl,F⟩:=G;refine ai g31 rfl ?_;obtain⟨s1,f⟩:=acH (((σ.ag (Uw A B H S cs mk K ot pc k)).ag (V7 kd wh mo n al dn da)).new (.acM 16 zG .nil));obtain⟨M,C,n1,x,z,O⟩:=lF h rfl rfl f;obtain⟨c1,T,R,U,W,X⟩  :=F.cells;have h1:TS s1 A H B S m hasK AK cK:=Wd.ext h C M;rcases J with rfl|rfl|rfl
 all_goals
  simp (maxSteps:=9^9) (disch:=omega) only[go_sem,Uw,<- f,R,c1,T,U,W,X,a,x.cl,x.ld,z.cl,z.ld];refine((hf ⟨h1,ok,cs,mk,K,ot,pc,k,rfl,F⟩).gw M).mono ?_;rintro _ s2 ⟨⟨p,q,H',S',m',e,v',rfl,⟨h2,w,d,j,i,l,o,b,rfl,t⟩,hA,hB,hch,bs,k2,hP⟩,w2⟩;have c:=O.T9 k2;obtain⟨d1,d2,Z,d3,d4,d5⟩:=t.cells;obtain⟨s3,u,r,w3,L⟩:=c.set w2 (off:=0) (vs:=Uw p q H' S' d j i l o b) Y (t.Tr p q H' S');simp (maxSteps:=9^9) (disch:=omega) only[go_sem,Uw,Z,d1,d2,d3,d4,d5,u,r.ld];exact⟨p,q,H',S',m',e,_,rfl,⟨h2.eX L w3 c.nm,w,d,j,i,l,o,b,rfl,t⟩,hA,hB,hch,bs,((T5.ext C h.gw).trans k2).put L Q h.gw,hP⟩
end
end
section
variable {σ σ' s:St}
section
variable {κ:Type} {hasK:κ -> Prop} {AK:κ -> Nat} {cK:κ -> cA} {A:Tu -> Nat} {H:aa} {B:AI -> Nat} {S:AS} {m:ML -> Li} {D:DT} {g:Gm} {E:List Nat} {N:Nat} {v:V}
def AD(h:Uo σ A H B S hasK AK cK)(j:S.OK)(o:S.Wk=false->S.ms=[])(l:∀m∈S.ms,m.n<S.TW)(a:S.TW<10000000000000)(d:S.ms.length≤10000000000000):
  au G0 [] 40 [.acK (B .TA) 0] σ fun v s=>v=.i S.TW∧∃B',B' .TA=B .TA∧Uo s A H B' (gU S) hasK AK cK∧T5 σ s (VB H A S B hasK AK) (VB H A (gU S) B' hasK AK):=by
 refine(Uo.gQ (H':=H) (S':=gU S) (P:=fun v f B'=>v=.i S.TW∧f=A∧B' .TA=B .TA) h fun s R=>?_).mono fun v s ⟨f,B',b,⟨e,g,c⟩,k⟩=>⟨e,B',c,g▸b,g▸k⟩
 refine(PG R j o l a d).mono ?_;rintro v s ⟨B',e,b,c⟩;exact⟨A,B',b,e,rfl,c⟩
theorem QH(G:jw σ A H B S m hasK AK cK D g E N v){wh mo:Int}{n al:Nat}{dn:Bool}{da:V}(hN:N<2000000000000)(ap:da.cells=[da]):
  au G0 [] 31 [v,.agg (V7 2 wh mo n al dn da)] σ fun y s=>VH σ s A H B S m hasK AK cK D g E N y fun H' S' g'=>g'.P=g.P:=by
 obtain⟨h,ok,cs,mk,C,ot,pc,F,rfl,d⟩:=G;refine ai g31 rfl ?_;obtain⟨s1,z⟩:=acH (((σ.ag (Uw A B H S cs mk C ot pc F)).ag (V7 2 wh mo n al dn da)).new (.acM 16 zG .nil));obtain⟨w1,e1,n1,f,Lb,Lc⟩:=lF h rfl rfl z;obtain⟨L,J,rfl,aC⟩:=d.ch.is;obtain⟨pq,pe,rfl,aL⟩:=d.pc.is;obtain⟨c1,c2,c0,c3,c4,c5⟩  :=d.cells;have h1:TS s1 A H B S m hasK AK cK:=Wd.ext h e1 w1;have aJ:=ok.Ue;simp (maxSteps:=9^9) (disch:=omega) only[go_sem,Uw,<- z,c0,c1,c2,c3,c4,c5,ap,f.cl,f.ld,Lb.cl,Lb.ld];refine((AD h1 ok.ok ok.ms.nil ok.ms.lt Q Q).gw w1).mono ?_;rintro _ s2 ⟨⟨rfl,B2,w,h2,M⟩,w2⟩;have e:=f.T9 M;have ac:=Lc.T9 M;simp (maxSteps:=9^9) (disch:=omega) only[go_sem,Uw,f.cl,f.ld,e.cl,e.ld];refine((Nd w2 (d.ma.ls h2) Q Q).gw w2).mono ?_;rintro _ s3 ⟨⟨⟨u,rfl,I⟩,e3⟩,w3⟩;obtain⟨l3,h3,m3,O⟩:=TS.take h2 e3 w3 .ma I;have j:=e.T9 O;have ad:=ac.T9 O;have t:=(d.re (A':=A) (B':=B2) (H':=H) rfl rfl).Te (S':=gU S) rfl m3;obtain⟨s4,ax,X,w4,U⟩:=j.set w3 (off:=2) (vs:=[.u S.TD,.slice L S.Tm.length J,.u S.Tz,.u S.TI,u,.i (S.TW+1:Nat)]) Y (XU rfl I.Tr);have h4:=TS.eX h3 U w4 j.nm;have af:=ad.put U Q;have a:Lo s4 _ σ.next 16 (U4 (A .heap) (B .TA) S.TD (.slice L S.Tm.length J) S.Tz S.TI u (S.TW+1) H.Tj H.TB H.Th H.Tl C ot (.slice pq g.P.length pe) F):=X;obtain⟨W,s5,l5,ao,h5,T,R⟩:=TS.push h4 .mk (y:=8) (x:=[.i g.P.length]) t.ks Q rfl rfl (by have:=ok.kl;unfold aq;omega) (by have:=ok.kl;unfold aq;omega);have o:=a.T9 R;have ah:=af.T9 R;have c6:=cV (by simpa using T.Tr);have n5:=R.next;have n4:=U.next;have n3:=O.next;have n2:=M.next;obtain⟨s6,ay,Z,w6,p6⟩:=o.set h5.gw (off:=15) (vs:=[W]) Y T.Tr;have h6:=TS.eX h5 p6 w6 o.nm;have q:=ah.put p6 Q;have p:Lo s6 _ σ.next 16 (U4 (A .heap) (B .TA) S.TD (.slice L S.Tm.length J) S.Tz S.TI u (S.TW+1) H.Tj H.TB H.Th H.Tl C ot (.slice pq g.P.length pe) W):=Z;have av:=il (hp:=A .heap) (ar:=B .TA) (c:=S.TD) (tk:=S.Tz) (us:=S.TI) (md:=S.TW+1) (b:=H.Tj) (l:=H.TB) (k:=H.Th) (r:=H.Tl) d.ch.Tr I.Tr d.hd.Tr d.ot.Tr d.pc.Tr T.Tr;obtain⟨s7,aB,am,w7,p7⟩:=q.set w6 (off:=0) (vs:=U4 (A .heap) (B .TA) S.TD (.slice L S.Tm.length J) S.Tz S.TI u (S.TW+1) H.Tj H.TB H.Th H.Tl C ot (.slice pq g.P.length pe) W) Y av;have f8:bZ (bL [V.i 0] 1) [(0,1,.i g.P.length)]=some [.i g.P.length]:=rfl;simp (maxSteps:=9^9) (disch:=omega) only[go_sem,I.cells,c0,c1,c3,c4,ax,a.cl,a.ld,aG,f8,ao,c6,ay,p.ld,aB,am.ld];have h7:=TS.eX h6 p7 w7 q.nm;refine⟨A,B2,H,gU S,_,_,_,rfl,⟨h7,ok.mark,_,u,C,ot,_,W,by rw[Uw,w];rfl,t.Sk (LM.aa7 (l:=g.K) (x:=g.P.length) T)⟩,rfl,w,rfl,kx.refl,?_,rfl⟩;exact((((((T5.ext e1 h.gw).trans M).trans O).put U (Tx _) h.gw).trans R).put p6 (Tx _) h.gw).put p7 Q h.gw
end
end
section
variable {σ σ' s:St}
section
variable {κ:Type} {hasK:κ -> Prop} {AK:κ -> Nat} {cK:κ -> cA} {A:Tu -> Nat} {H:aa} {B:AI -> Nat} {S:AS} {m:ML -> Li} {D:DT} {g:Gm} {E:List Nat} {N:Nat} {v:V}
def LP(h:Uo σ A H B S hasK AK cK)(g:T3 H)(o:S.OK)(p:xZ S){pre e:List Mk}{k:Mk}(c:S.ms=pre++k ::e)(a:S.ms.length≤10000000000000):
  au G0 [] 42 [.acK (B .TA) 0,.i k.n] σ fun v s=>v=.i 0∧Uo s A (cz H (eV S k.Tm)) B (j9 S pre.length k) hasK AK cK∧T5 σ s (VB H A S B hasK AK) (VB (cz H (eV S k.Tm)) A (j9 S pre.length k) B hasK AK):=by
 refine(Uo.gQ (H':=cz H (eV S k.Tm)) (S':=j9 S pre.length k) (P:=fun v f j=>v=.i 0∧f=A∧j=B) h fun s R=>?_).mono fun v s ⟨f,j,b,⟨d,l,m⟩,k⟩=>by subst l m;exact⟨d,b,k⟩
 exact(HN (i:=0) R g o p c a).mono fun v s ⟨d,b⟩=>⟨A,B,b,d,rfl,rfl⟩
def JF(h:Uo σ A H B S hasK AK cK)(j:xZ S){n:Int}(b:∀m∈S.ms,(m.n:Int)≠n):
  au G0 [] 42 [.acK (B .TA) 0,.i n] σ fun v s=>v=.i 9∧Uo s A H B S hasK AK cK∧T5 σ s (VB H A S B hasK AK) (VB H A S B hasK AK):=by
 refine(Uo.gQ (H':=H) (S':=S) (P:=fun v d e=>v=.i 9∧d=A∧e=B) h fun s R=>?_).mono fun v s ⟨d,e,a,⟨c,f,g⟩,k⟩=>by subst f g;exact⟨c,a,k⟩
 exact(D0 R j b).mono fun v s ⟨c,a⟩=>⟨A,B,a,c,rfl,rfl⟩
def DB(h:Uo σ A H B S hasK AK cK)(g:T3 H)(f:S.OK):
  au G0 [] 43 [.acK (B .TA) 0] σ fun v s=>Uo s A (cz H (eV S 0)) B (gL S) hasK AK cK∧T5 σ s (VB H A S B hasK AK) (VB (cz H (eV S 0)) A (gL S) B hasK AK):=by
 refine(Uo.gQ (H':=cz H (eV S 0)) (S':=gL S) (P:=fun v b c=>b=A∧c=B) h fun s R=>?_).mono fun v s ⟨b,c,a,⟨d,e⟩,k⟩=>by subst d e;exact⟨a,k⟩
 exact(My R g f).mono fun v s a=>⟨A,B,a,rfl,rfl⟩
theorem QY(G:jw σ A H B S m hasK AK cK D g E N v){wh mo:Int}{n al:Nat}{dn:Bool}{da:V}(hN:N<2000000000000)(am:da.cells=[da]):
  au G0 [] 31 [v,.agg (V7 3 wh mo n al dn da)] σ fun y s=>VH σ s A H B S m hasK AK cK D g E N y fun H' S' g'=>g'.P.length≤g.P.length:=by
 obtain⟨h,ok,cs,mk,hv,ot,pc,av,rfl,d⟩:=G;refine ai g31 rfl ?_;obtain⟨s1,T⟩:=acH (((σ.ag (Uw A B H S cs mk hv ot pc av)).ag (V7 3 wh mo n al dn da)).new (.acM 16 zG .nil));obtain⟨w1,e1,n1,C,Lb,Lc⟩:=lF h rfl rfl T;obtain⟨cq,ce,rfl,ah⟩:=d.ch.is;obtain⟨pq,pe,rfl,bl⟩:=d.pc.is;obtain⟨mq,me,rfl,aL⟩:=d.ma.is;obtain⟨c1,c2,c0,c3,c4,c5⟩  :=d.cells;have h1:TS s1 A H B S m hasK AK cK:=Wd.ext h e1 w1;have bN:=ok.Ue;obtain⟨w,j⟩:∃w:Int,w=if mo.tmod 2=0∧0<S.TW then(uF wh S.TW:Int)else mo:=⟨_,rfl⟩
 have aS:0<S.TW->au G0 [] 73 [.i wh,.i S.TW] s1 fun r s=>r=.i (uF wh S.TW)∧s=s1:=fun h0=>KW h0 Q
 rcases(Q:(mo.tmod 2=0∧0<S.TW)∨(mo.tmod 2=0∧¬0<S.TW)∨¬mo.tmod 2=0)with⟨cm,c6⟩|⟨cm,c6⟩|cm
 case' inl=>
  simp (maxSteps:=9^9) (disch:=omega) only[go_sem,Uw,<- T,c0,c1,c2,c3,c4,c5,am,C.cl,C.ld,Lb.cl,Lb.ld,cm,c6];refine(aS c6).mono ?_;rintro _ s' ⟨rfl,bv⟩;rw[Ti ⟨cm,c6⟩]at j;rw[bv, <- j];simp (maxSteps:=9^9) (disch:=omega) only[go_sem,C.cl]
 case' inr.inl=>
  rw[Tg (fun h=>c6 h.2)]at j;subst j;simp (maxSteps:=9^9) (disch:=omega) only[go_sem,Uw,<- T,c0,c1,c2,c3,c4,c5,am,C.cl,C.ld,Lb.cl,Lb.ld,cm,c6]
 case' inr.inr=>
  rw[Tg (fun h=>cm h.1)]at j;subst j;simp (maxSteps:=9^9) (disch:=omega) only[go_sem,Uw,<- T,c0,c1,c2,c3,c4,c5,am,C.cl,C.ld,Lb.cl,Lb.ld,cm]
 all_goals
  by_cases aJ:∃m∈S.ms,(m.n:Int)=w
  .obtain⟨i,hi,aP⟩:∃i, ∃hi:i<S.ms.length,((S.ms[i]).n:Int)=w:=by obtain⟨m0,bi,e⟩:=aJ;obtain⟨i,hi,rfl⟩:=Zn bi;exact⟨i,hi,e⟩
   obtain⟨a,q⟩:=acH (S.ms[i]);rw[<- q]at aP;have aM:S.ms=S.ms.take i++a ::S.ms.drop (i+1):=by rw[q,List.getElem_cons_drop,YI]
   have bu:(S.ms.take i).length=i:=by rw[Va];omega
   have O:a∈S.ms:=by rw[q];exact Wm hi
   subst aP;refine((LP h1 ok.Uk ok.ok ok.ms aM Q).gw w1).mono ?_;rintro _ s2 ⟨⟨rfl,h2,X⟩,w2⟩;obtain⟨ax,bs⟩:=ok.Zg aM;rw[bu]at h2 X ax;have o:=C.T9 X;have ac:=Lc.T9 X;simp (maxSteps:=9^9) (disch:=omega) only[go_sem,o.cl,o.ld];refine((Kv w2 (d.ma.ls h2) Q ah aL ok.ms.le).gw w2).mono ?_;rintro _ z ⟨⟨⟨t,M,e',J,rfl⟩|⟨R,_⟩,e3⟩,w3⟩
   rotate_left
   .exact absurd rfl (R a O)
   obtain rfl:t=i:=by
    have hp:=aaE.1 ok.ms.Yz;rcases Nat.lt_trichotomy t i with c|c|c
    .have:=(hp t i M hi c).1;rw[<- q]at this;omega
    .exact c
    have:=(hp i t hi M c).1;rw[<- q]at this;omega
   rw[<- q];have h3:TS z A _ B _ m hasK AK cK:=Wd.ext h2 e3 w3;have Z:=o.ext e3 w2;have ad:=ac.ext e3 w2;obtain⟨x,f⟩:=acH (z.Ts 6 [.u 0,.acJ,.u 0,.u 0,.acJ,.i 0] [.u S.TD,.slice cq a.Tm ce,.u a.Tz,.u a.TI,.slice mq t me,.i S.TW]);have w4:GW x:=by rw[f];exact w3.Ts Y rfl
   have I:TP z x:=by rw[f];exact(Gr.g).ext
   have n4:x.next=z.next+1:=by rw[f];rfl
   have aB:Lo x (UA (cz H (eV S a.Tm)) A (j9 S t a) B m hasK AK) z.next 6 [.u S.TD,.slice cq a.Tm ce,.u a.Tz,.u a.TI,.slice mq t me,.i S.TW]:=⟨by rw[f];exact To.Ts z 6 _ _ rfl,rfl,Wd.eh h3 (Tx _)⟩
   have h4:TS x A _ B _ m hasK AK cK:=Wd.ext h3 I w4;have p:=Z.ext I w3;have F:=ad.ext I w3;obtain⟨ap,bw⟩:=ok.XC a O;have bY:=ok.ms.lt a O;have bT:=ok.kl;have U:=ok.ms.le a O;have bx:=ok.bk.Ue ok.Uk;have bC:=ok.EP;obtain⟨kb,ko,rfl,bS,bd, -⟩:=Ls.get Lv (d.ks.ls h4) Q (by omega:a.n<g.K.length);have W:x.cell kb (ko+a.n)=some (.i g.K[a.n]):=by have:=bd 0 Q;rw[Um]at this;exact this
   have be:g.K.getD a.n 0=g.K[a.n]:=by rw[U7,UQ Q];rfl
   rw[be]at ap ax;simp (maxSteps:=9^9) (disch:=omega) only[go_sem,<- f,p.cl,p.ld,aB.ld,W,Um];have aC:VF x g.L hv:=d.hd.ls h4;refine((J6 w4 aC Q (d.ch.ls h4) rfl Q ah U bl ap d.ma.Tr rfl d.ot.Tr rfl).gw w4).mono ?_;rintro _ s5 ⟨⟨⟨aU,rfl,Nh⟩,e5⟩,w5⟩;obtain⟨l6,h6,m6,k6⟩:=TS.take h4 e5 w5 .hd Nh;have ay:=F.T9 k6;have bb:=il (hp:=A .heap) (ar:=B .TA) (c:=S.TD) (cs:=.slice cq a.Tm ce) (tk:=a.Tz) (us:=a.TI) (mk:=.slice mq t me) (md:=S.TW) (b:=H.Tj) (l:=H.TB) (k:=H.Th) (r:=H.Tl) (pc:=.slice pq g.K[a.n] pe) rfl rfl Nh.Tr d.ot.Tr rfl d.ks.Tr;obtain⟨s7,ao,af,w7,p7⟩:=ay.set w5 (off:=0) (vs:=U4 (A .heap) (B .TA) S.TD (.slice cq a.Tm ce) a.Tz a.TI (.slice mq t me) S.TW H.Tj H.TB H.Th H.Tl aU ot (.slice pq g.K[a.n] pe) (.acL kb ko g.K.length 1)) Y bb;simp (maxSteps:=9^9) (disch:=omega) only[go_sem,<- f,p.cl,p.ld,aB.ld,W,Um,Nh.cells,c3,ao,af.ld];have sm:=(fh (eV S a.Tm) ok.Uk).2.1;have ba:VT A B (cz H (eV S a.Tm)) (j9 S t a) m { g with P:=g.P.take g.K[a.n] } (.slice cq a.Tm ce) (.slice mq t me) hv ot (.slice pq g.K[a.n] pe) (.acL kb ko g.K.length 1):=⟨d.ch.eV ik U,d.ma.eV BT Q,d.hd,d.ot,d.pc.eV xx ap,d.ks⟩
   refine⟨A,B,_,_,_,_,_,rfl,⟨TS.eX h6 p7 w7 ay.nm,ax,_,_,aU,ot,_,_,by rw[Uw,sm.Tj,sm.TB,sm.Th,sm.Tl];rfl,ba.Ky m6⟩,rfl,rfl,rfl,bs,?_,by show(g.P.take _).length≤_;rw[Va];omega⟩;exact((((((T5.ext e1 h.gw).trans X).trans (T5.ext e3 w2)).trans (T5.ext I w3)).trans k6).put p7 Q h.gw)
  have R:∀k∈S.ms,(k.n:Int)≠w:=fun k hk e=>aJ ⟨k,hk,e⟩
  refine((JF h1 ok.ms R).gw w1).mono ?_;rintro _ s2 ⟨⟨rfl,h2,X⟩,w2⟩;have o:=C.T9 X;have ac:=Lc.T9 X;simp (maxSteps:=9^9) (disch:=omega) only[go_sem,o.cl,o.ld];refine((Kv w2 (d.ma.ls h2) Q ah aL ok.ms.le).gw w2).mono ?_;rintro _ z ⟨⟨⟨t,M,e',J,rfl⟩|⟨_,rfl⟩,e3⟩,w3⟩
  .exact absurd e' (R _ (Wm M))
  have h3:TS z A H B S m hasK AK cK:=Wd.ext h2 e3 w3;have Z:=o.ext e3 w2;have ad:=ac.ext e3 w2;obtain⟨x,f⟩:=acH (z.Ts 6 [.u 0,.acJ,.u 0,.u 0,.acJ,.i 0] [.u S.TD,.slice cq S.Tm.length ce,.u S.Tz,.u S.TI,.slice mq S.ms.length me,.i S.TW]);have w4:GW x:=by rw[f];exact w3.Ts Y rfl
  have I:TP z x:=by rw[f];exact(Gr.g).ext
  have h4:TS x A H B S m hasK AK cK:=Wd.ext h3 I w4;have p:=Z.ext I w3;have F:=ad.ext I w3;obtain⟨s7,ao,af,w7,p7⟩:=F.set w4 (off:=0) (vs:=Uw A B H S (.slice cq S.Tm.length ce) (.slice mq S.ms.length me) hv ot (.slice pq g.P.length pe) av) Y (d.Tr A B H S);simp (maxSteps:=9^9) (disch:=omega) only[go_sem,<- f,p.cl,p.ld,c0,c1,c2,c3,c4,c5,ao,af.ld];exact⟨A,B,H,S,m,g,_,rfl,⟨TS.eX h4 p7 w7 F.nm,ok.nb,_,_,hv,ot,_,av,rfl,d⟩,rfl,rfl,rfl,kx.refl,((((T5.ext e1 h.gw).trans X).trans (T5.ext e3 w2)).trans (T5.ext I w3)).put p7 Q h.gw,Tx _⟩
end
end
section
variable {σ σ' s:St}
section
variable {κ:Type} {hasK:κ -> Prop} {AK:κ -> Nat} {cK:κ -> cA} {A:Tu -> Nat} {H:aa} {B:AI -> Nat} {S:AS} {m:ML -> Li} {D:DT} {g:Gm} {E:List Nat} {N:Nat} {v:V}
def QN(G:jw σ A H B S m hasK AK cK D g E N v){wh mo:Int}{n al:Nat}{dn:Bool}{da:V}(hN:N<2000000000000)(aB:da.cells=[da]):
  au G0 [] 31 [v,.agg (V7 4 wh mo n al dn da)] σ fun y s=>VH σ s A H B S m hasK AK cK D g E N y fun H' S' g'=>g'.P.length≤g.P.length:=by
 obtain⟨h,ok,cs,mk,hv,ot,pc,j,rfl,a⟩:=G;refine ai g31 rfl ?_;obtain⟨s1,z⟩:=acH (((σ.ag (Uw A B H S cs mk hv ot pc j)).ag (V7 4 wh mo n al dn da)).new (.acM 16 zG .nil));obtain⟨w1,e1,n1,X,Lb,Lc⟩:=lF h rfl rfl z;obtain⟨K,J,rfl,ay⟩:=a.ch.is;obtain⟨pq,pe,rfl,aJ⟩:=a.pc.is;obtain⟨c1,c2,c0,c3,c4,c5⟩  :=a.cells;have h1:TS s1 A H B S m hasK AK cK:=Wd.ext h e1 w1;have bi:=ok.Ue;simp (disch:=omega) only[go_sem,Uw,<- z,c0,c1,c2,c3,c4,c5,aB,X.cl,X.ld,Lb.cl,Lb.ld];refine((DB h1 ok.Uk ok.ok).gw w1).mono ?_;rintro _ s2 ⟨⟨h2,O⟩,w2⟩;have f:=X.T9 O;have ad:=Lc.T9 O;obtain⟨o,e⟩:=acH (s2.Ts 6 [.u 0,.acJ,.u 0,.u 0,.acJ,.i 0] [.u S.TD,.slice K S.Tm.length J,.u S.Tz,.u S.TI,mk,.i S.TW]);have x:[V.u S.TD,.slice K S.Tm.length J,.u S.Tz,.u S.TI,mk,.i S.TW].all V.Tr=true:=XU rfl a.ma.Tr;have aU:(s2.new (.acM 6 [.u 0,.acJ,.u 0,.u 0,.acJ,.i 0] .nil)).store s2.next 0 [.u S.TD,.slice K S.Tm.length J,.u S.Tz,.u S.TI,mk,.i S.TW]=some o:=by rw[e];exact aQ Y x
 have w3:GW o:=by rw[e];exact w2.Ts Y x
 have M:TP s2 o:=by rw[e];exact(Gr.g).ext
 have n3:o.next=s2.next+1:=by rw[e];rfl
 have h3:TS o A _ B _ m hasK AK cK:=Wd.ext h2 M w3;have Z:=f.ext M w2;have af:=ad.ext M w2;have n2:=O.next;have d:Lo o (UA (cz H (eV S 0)) A (gL S) B m hasK AK) s2.next 6 [.u S.TD,.slice K S.Tm.length J,.u S.Tz,.u S.TI,mk,.i S.TW]:=⟨by rw[e];exact To.Ts s2 6 _ _ rfl,rfl,Wd.eh h2 (Tx _)⟩
 obtain⟨s4,aL,am,w4,R⟩:=d.set w3 (off:=1) (vs:=[.acJ]) Y rfl;obtain⟨s5,aM,ao,w5,T⟩:=am.set w4 (off:=2) (vs:=[.u 0]) Y rfl;obtain⟨s6,aP,ap,w6,U⟩:=ao.set w5 (off:=3) (vs:=[.u 0]) Y rfl;obtain⟨s7,aS,av,w7,W⟩:=ap.set w6 (off:=4) (vs:=[.acJ]) Y rfl;have t:Lo s7 (UA (cz H (eV S 0)) A (gL S) B m hasK AK) s2.next 6 [.u S.TD,.acJ,.u (0:Nat),.u (0:Nat),.acJ,.i S.TW]:=av;have ac:=(((Z.put R Q).put T Q).put U Q).put W Q;have ah:=(((af.put R Q).put T Q).put U Q).put W Q;have h7:TS s7 A (cz H (eV S 0)) B (gL S) m hasK AK cK:=TS.eX (TS.eX (TS.eX (TS.eX h3 R w4 d.nm) T w5 d.nm) U w6 d.nm) W w7 d.nm;simp (disch:=omega) only[go_sem,Uw,f.cl,f.ld,c2,aU,aL,aM,aP,aS,ac.ld,t.ld];have bd:=ok.bk.Ue ok.Uk;have be:=ok.EP;have w:VF s7 g.L hv:=a.hd.ls h7;refine((J6 (N':=0) (q':=none) (e':=0) (tk':=0) (us':=0) (P:=0) w7 w Q (a.ch.ls h7) rfl Q ay (VK _) aJ (VK _) a.ma.Tr rfl a.ot.Tr a.ks.Tr).gw w7).mono ?_;rintro _ s8 ⟨⟨⟨F,rfl,Nh⟩,e8⟩,w8⟩;obtain⟨l9,h9,m9,k9⟩:=TS.take h7 e8 w8 .hd Nh;have q:=ah.T9 k9;have aC:=il (hp:=A .heap) (ar:=B .TA) (c:=S.TD) (cs:=.acJ) (tk:=0) (us:=0) (mk:=.acJ) (md:=S.TW) (b:=H.Tj) (l:=H.TB) (k:=H.Th) (r:=H.Tl) (pc:=.slice pq 0 pe) rfl rfl Nh.Tr a.ot.Tr rfl a.ks.Tr;obtain⟨bl,C,p,bb,I⟩:=q.set w8 (off:=0) (vs:=U4 (A .heap) (B .TA) S.TD (.acJ) 0 0 (.acJ) S.TW H.Tj H.TB H.Th H.Tl F ot (.slice pq 0 pe) j) Y aC;simp (disch:=omega) only[go_sem,Nh.cells,c3,c5,C,p.ld];obtain⟨ba,bs⟩:=ok.aan;have sm:=(fh (eV S 0) ok.Uk).2.1;rw[VG]at m9;have ax:VT A B (cz H (eV S 0)) (gL S) m { g with P:=[] } (.acJ) (.acJ) hv ot (.slice pq 0 pe) j:=⟨LM.nil,LM.nil,a.hd,a.ot,a.pc.eV xx (VK _),a.ks⟩;refine⟨A,B,_,_,_,_,_,rfl,⟨TS.eX h9 I bb q.nm,ba,_,_,F,ot,_,_,by rw[Uw,sm.Tj,sm.TB,sm.Th,sm.Tl];rfl,ax.Ky m9⟩,rfl,rfl,rfl,bs,?_,VK _⟩;exact((((((((T5.ext e1 h.gw).trans O).trans (T5.ext M w2)).put R Q h.gw).put T Q h.gw).put U Q h.gw).put W Q h.gw).trans k9).put I Q h.gw
end
end
section
variable {σ σ' s:St}
section
variable {κ:Type} {hasK:κ -> Prop} {AK:κ -> Nat} {cK:κ -> cA} {A:Tu -> Nat} {H:aa} {B:AI -> Nat} {S:AS} {m:ML -> Li} {D:DT} {g:Gm} {E:List Nat} {N:Nat} {v:V}
def VH.mono{y:V}{P Q:aa->AS->Gm->Prop}(h:VH σ s A H B S m hasK AK cK D g E N y P)(k:∀H' S' l,P H' S' l->Q H' S' l):VH σ s A H B S m hasK AK cK D g E N y Q:=by obtain⟨n,o,H',S',p,l,q,a,b,c,d,e,f,i,j⟩:=h;exact⟨n,o,H',S',p,l,q,a,b,c,d,e,f,i,k _ _ _ j⟩
theorem QT(G:jw σ A H B S m hasK AK cK D g E N v){kd wh mo:Int}{n al:Nat}{dn:Bool}{da:V}(F:kd≠1∧kd≠2∧kd≠3∧kd≠4∧kd≠5∧kd≠6∧kd≠8∧kd≠7)(e:da.cells=[da]):
  au G0 [] 31 [v,.agg (V7 kd wh mo n al dn da)] σ fun y s=>VH σ s A H B S m hasK AK cK D g E N y fun H' S' z=>z.P.length≤g.P.length:=by
 obtain⟨h,ok,cs,mk,i,ot,pc,a,rfl,d⟩:=G;refine ai g31 rfl ?_;obtain⟨T,b⟩:=acH (((σ.ag (Uw A B H S cs mk i ot pc a)).ag (V7 kd wh mo n al dn da)).new (.acM 16 zG .nil));obtain⟨q,o,W,j,k,l⟩:=lF h rfl rfl b;obtain⟨c1,t,r,u,w,x⟩:=d.cells;have C:TS T A H B S m hasK AK cK:=Wd.ext h o q;obtain⟨I,J,K,L,M,O,k8,R⟩:=F;obtain⟨s2,f,c,U,p⟩:=l.set q (off:=0) (vs:=Uw A B H S cs mk i ot pc a) Y (d.Tr A B H S);simp (maxSteps:=9^9) (disch:=omega) only[go_sem,Uw,<- b,r,c1,t,u,w,x,e,j.cl,j.ld,k.cl,k.ld,I,J,K,L,M,O,R,k8,f,c.ld];exact⟨A,B,H,S,m,g,_,rfl,⟨TS.eX C p U l.nm,ok.nb,cs,mk,i,ot,pc,a,rfl,d⟩,rfl,rfl,rfl,kx.refl,(T5.ext o h.gw).put p Q h.gw,Tx _⟩
def O1(p:Wb)(H:aa)(S:AS)(g:Gm)(H':aa)(S':AS)(b:Gm):Prop:=(p.k=1->Bh H S g p.n p.a H' S' b)∧(p.k≠1->b.P.length≤g.P.length)
def qq(G:jw σ A H B S m hasK AK cK D g E N v)(p:Wb)(d:N<2000000000000)(hd:I3 hasK AK cK D p.x):
  au G0 [] 31 [v,.agg p.v] σ fun y s=>VH σ s A H B S m hasK AK cK D g E N y (O1 p H S g):=by
 obtain⟨k,q,o,n,al,i,e,hn,f,hx⟩:=p;have a:e.cells=[e]:=cV hx;have hd:I3 hasK AK cK D e:=hd;show au G0 [] 31 [v,.agg (V7 k q o n al i e)] σ _;by_cases l:k=1
 .subst l;exact(Q5 G hn f d a).mono fun y s h=>h.mono fun _ _ _ h=>⟨fun _=>h,fun c=>absurd rfl c⟩
 have b:∀{r:aa} {t:AS} {j:Gm},j.P.length≤g.P.length->O1 ⟨k,q,o,n,al,i,e,hn,f,hx⟩ H S g r t j:=fun h=>⟨fun c=>absurd c l,fun _=>h⟩
 by_cases u:k=2
 .subst u;exact(QH G d a).mono fun y s h=>h.mono fun _ _ _ h=>b (by rw[h];exact Tx _)
 by_cases w:k=3
 .subst w;exact(QY G d a).mono fun y s h=>h.mono fun _ _ _ h=>b h
 by_cases z:k=4
 .subst z;exact(QN G d a).mono fun y s h=>h.mono fun _ _ _ h=>b h
 by_cases C:k=5∨k=6∨k=8
 .exact(Rm G C hn d a).mono fun y s h=>h.mono fun _ _ _ h=>b (by rw[h.2];exact Tx _)
 by_cases F:k=7
 .subst F;exact(QQ G d hd).mono fun y s h=>h.mono fun _ _ _ h=>b h
 exact(QT G Q a).mono fun y s h=>h.mono fun _ _ _ h=>b h
end
end
section
variable {σ σ' s:St}
section
variable {ι κ:Type} {hasK:κ -> Prop} {AK:κ -> Nat} {cK:κ -> cA}
def Wd.IX{g:FuncId}{xs:List V}{P:V->(ι->Prop)->(ι->Nat)->(ι->cA)->Prop}(h:Wd σ hasK AK cK)(c:∀σ,GW σ->Vv σ->au G0 [] g xs σ fun v σ'=>∃a A' b,Wd σ' a A' b∧P v a A' b):
  au G0 [] g xs σ fun v σ'=>∃a A' b,Wd σ' (Sum.elim a hasK) (Sum.elim A' AK) (Sum.elim b cK)∧P v a A' b∧T5 σ σ' (Nm hasK AK) (Nm (Sum.elim a hasK) (Sum.elim A' AK)):=by
 refine(Wd.gQ (h.pad (fun _=>0) fun _=>.map []) fun s w=>c s w.gw w.Ub).mono ?_;rintro v s ⟨a,A',b,W,d,k⟩;refine⟨a,A',b,W,d,k.pre fun hn=>Nm.map ?_ hn⟩;rintro(i|i) hi
 .exact hi.elim
 exact⟨i,hi,rfl⟩
def Wd.AG{g:FuncId}{xs:List V}{P:V->Prop}(h:Wd σ hasK AK cK)(a:∀σ,GW σ->Vv σ->au G0 [] g xs σ fun v σ'=>P v∧Vv σ'):
  au G0 [] g xs σ fun v σ'=>P v∧Wd σ' hasK AK cK∧T5 σ σ' (Nm hasK AK) (Nm hasK AK):=by
 refine(Wd.IX (ι:=Empty) (P:=fun v _ _ _=>P v) h fun s w hw=>((a s w hw).gw w).mono ?_).mono ?_
 .rintro v e ⟨⟨b,c⟩,w'⟩;exact⟨_,(fun _=>0),(fun _=>.map []),Wd.DL w' c _ _,b⟩
 rintro v e ⟨d,f,j,W,b,k⟩;exact⟨b,W.right,k.post fun hn=>Nm.map (fun i hi=>⟨.inr i,hi,rfl⟩) hn⟩
def Wd.BI(h:Wd σ hasK AK cK){b l o:Int}{c:Nat}(d:0≤b)(j:b<18446744073709551616)(m:c<18446744073709551616):
  au G0 [] 26 [Uu b l o,.u c] σ fun v s=>(je b l o c->∃A B,v=.tuple [.agg (U9 (Vc c b l o) (A .heap) (B .TA)),.bool true,.bool false]∧Uo s A (di b.toNat l.toNat o.toNat) B (ie c) hasK AK cK∧T5 σ s (Nm hasK AK) (VB (di b.toNat l.toNat o.toNat) A (ie c) B hasK AK))∧(¬je b l o c->v=.tuple [.agg uv,.bool false,.bool false]):=by
 by_cases e:je b l o c
 .refine(Wd.IX (ι:=Tu ⊕ AI) (P:=fun v a g i=>∃A B,v=.tuple [.agg (U9 (Vc c b l o) (A .heap) (B .TA)),.bool true,.bool false]∧a=Sum.elim (di b.toNat l.toNat o.toNat).has (ie c).has∧g=Sum.elim A B∧i=Sum.elim (fW (di b.toNat l.toNat o.toNat) A) ((ie c).X5 (A .heap) B)) h fun s w hw=>(CZ w hw d j m).mono ?_).mono ?_
  .rintro v n ⟨p,_⟩;obtain⟨A,B,f,R⟩:=p e;exact⟨_,_,_,R,A,B,f,rfl,rfl,rfl⟩
  rintro v n ⟨a,g,i,W,⟨A,B,f,rfl,rfl,rfl⟩,k⟩;exact⟨fun _=>⟨A,B,f,W,k⟩,fun h=>(h e).elim⟩
 refine(CZ h.gw h.Ub d j m).mono ?_;rintro v n ⟨_,q⟩;exact⟨fun h=>(e h).elim,fun h=>(q h).1⟩
end
def Mj{b l o:Int}{c:Nat}(h:je b l o c):jt (di b.toNat l.toNat o.toNat) (ie c):=
 ⟨⟨(fun b d=>nomatch (show b∈[]from d)),VK _,abF _,by
  have f:=h.2.2;have g:=h.1.o8;have i:=h.1.o0;have j:2^o.toNat≤256:=by
   have:(2:Nat)^o.toNat≤2^8:=Vb Q Q
   simpa using this
  have e:(di b.toNat l.toNat o.toNat).Tp=4096*2^o.toNat:=rfl;show c≤_;omega,(fun _=>rfl),(fun _=>rfl),VK _⟩,⟨List.Pairwise.nil,(fun m a=>nomatch (show m∈[]from a)),(fun m a=>nomatch (show m∈[]from a)),fun _=>rfl,(fun m a=>nomatch (show m∈[]from a))⟩,h.2.2⟩
def J8{D:DT}{b l o:Int}{c:Nat}(f:0≤b)(e:je b l o c):eP D (di b.toNat l.toNat o.toNat) (ie c) ⟨[],[],[],[]⟩ [] 0:=by
 have hg:=wR (b:=b.toNat) (l:=l.toNat) (o:=o.toNat) (by rw[tR f e.1];exact e.1);have g:=Mj e;have p:(di b.toNat l.toNat o.toNat).np=0:=by unfold aa.np;show 0*_=0;omega
 have d:∀a w, ¬aV (di b.toNat l.toNat o.toNat) a w:=by rintro a w ⟨x,hx,_⟩;omega
 exact { Uk:=hg,Vo:=(fun b i=>nomatch i),TD:=e.2.2,pos:=Nat.pos_of_ne_zero e.2.1,nil:=fun _=>rfl,Ww:=fun _=>rfl,ms:=g.ms,bk:=⟨fun a s=>⟨(fun h=>nomatch h),fun h=>(d _ _ h).elim⟩,List.nodup_nil⟩,Vd:=XI.nil,XS:=List.Pairwise.nil,XC:=(fun m n=>nomatch n),mono:=List.Pairwise.nil,kl:=rfl,kn:=(fun k j=>nomatch j),TJ:=fun a w h=>(d a w h).elim,ol:=fun a ha=>(by rcases ha with h|h <;> cases h),nd:=List.nodup_nil,Ue:=⟨Tx _,Tx _,Tx _,Tx _⟩,bytes:=(fun x hx=>nomatch hx) }
def mO{κ:Type}{hasK:κ->Prop}{AK:κ->Nat}{cK:κ->cA}{A:Tu->Nat}{B:AI->Nat}{b l o:Int}{c:Nat}(D:DT)(d:0≤b)(f:je b l o c)(h:Uo s A (di b.toNat l.toNat o.toNat) B (ie c) hasK AK cK):
  ∃m,jw (s.Ts 16 zG (U9 (Vc c b l o) (A .heap) (B .TA))) A (di b.toNat l.toNat o.toNat) B (ie c) m hasK AK cK D ⟨[],[],[],[]⟩ [] 0 (.agg (U9 (Vc c b l o) (A .heap) (B .TA)))∧
   Lo (s.Ts 16 zG (U9 (Vc c b l o) (A .heap) (B .TA))) (UA (di b.toNat l.toNat o.toNat) A (ie c) B m hasK AK) s.next 16 (U9 (Vc c b l o) (A .heap) (B .TA))∧
   ∀i,UA (di b.toNat l.toNat o.toNat) A (ie c) B m hasK AK i->VB (di b.toNat l.toNat o.toNat) A (ie c) B hasK AK i:=by
 have w:=h.gw;have j:TS s A (di b.toNat l.toNat o.toNat) B (ie c) (fun _=>⟨False,0,.map []⟩) hasK AK cK:=by
  refine Wd.sub h (fun k=>match k with| .inl x=>.inl x| .inr (.inl _)=>.inl (.inl .heap)| .inr (.inr k)=>.inr k) ?_ ?_ ?_ ?_
  .rintro(x|x|x) hx
   .exact hx
   .exact hx.elim
   exact hx
  .rintro(x|x|x) (y|y|y) hx hy e
   .simpa using e
   .exact hy.elim
   .simp at e
   .exact hx.elim
   .exact hx.elim
   .exact hx.elim
   .simp at e
   .exact hy.elim
   simpa using e
  .rintro(x|x|x) hx
   .rfl
   .exact hx.elim
   rfl
  rintro(x|x|x) hx
  .exact .inl rfl
  .exact hx.elim
  exact .inl rfl
 have e:TP s (s.Ts 16 zG (U9 (Vc c b l o) (A .heap) (B .TA))):=(Gr.g).ext;have r:GW (s.Ts 16 zG (U9 (Vc c b l o) (A .heap) (B .TA))):=w.Ts (Vt ny) rfl;refine⟨_,⟨TS.ext j e r,J8 d f,.acJ,.acJ,.acJ,.acJ,.acJ,.acJ,?_,⟨LM.nil,LM.nil,LM.nil,LM.nil,LM.nil,LM.nil⟩⟩,⟨To.Ts s 16 zG _ ny,ny,Wd.eh j (Tx _)⟩,?_⟩
 .have t:=f.1.l1;have v:=f.1.o0;have n:((b.toNat:Nat):Int)=b:=YV d;have p:((l.toNat:Nat):Int)=l:=YV Q;have q:((o.toNat:Nat):Int)=o:=YV Q;show V.agg [.acK (A .heap) 0,.acK (B .TA) 0,.u c,.acJ,.u 0,.u 0,.acJ,.i 0,.u b,.i l,.i o,.i 0,.acJ,.acJ,.acJ,.acJ] =
   .agg [.acK (A .heap) 0,.acK (B .TA) 0,.u c,.acJ,.u 0,.u 0,.acJ,.i 0,.u (b.toNat:Nat),.i (l.toNat:Nat),.i (o.toNat:Nat),.i 0,.acJ,.acJ,.acJ,.acJ]
  rw[n,p,q]
 rintro i (h|⟨k,a,e⟩)
 .exact .inl h
 match k,a,e with
 | .inl x,a,e=>exact .inr ⟨.inl x,a,e⟩
 | .inr (.inl x),a,e=>exact(show False from a).elim
 | .inr (.inr x),a,e=>exact .inr ⟨.inr x,a,e⟩
section
variable {κ:Type} {hasK:κ -> Prop} {AK:κ -> Nat} {cK:κ -> cA} {D:DT}
structure pT (hasK:κ -> Prop) (AK:κ -> Nat) (cK:κ -> cA) (D:DT) (q:Option (Nat × Nat)) (e M oo:Nat) (ops:Nat -> Wb):Prop where
 row:0<M -> ∃ k f,hasK k∧q=some (AK k,oo)∧e=7∧cK k=.ro oo (M*7) f∧∀ j,j<M*7 -> f j=Tn (ops (j / 7)).v (j%7)
 dat:∀ i,i<M -> I3 hasK AK cK D (ops i).x
def pT.load{q:Option (Nat×Nat)}{e M b:Nat}{ops:Nat->Wb}(h:pT hasK AK cK D q e M b ops){i:Nat}(hi:i<M):∃c,q=some (c,b)∧e=7∧∀{s:St},Wd s hasK AK cK->s.load c (b+i*7) 7=some (ops i).v∧∀j,j<7->s.cell c (b+i*7+j)=(ops i).v[j]?:=by
 obtain⟨k,f,n,o,l,g,m⟩:=h.row Q;refine⟨AK k,o,l,fun {s} W=>?_⟩;have R:=W.KY n g;have a:∀j,j<7->s.cell (AK k) (b+i*7+j)=(ops i).v[j]?:=by intro j d;have:=R.cell (i:=i*7+j) Q;rw[<- Yb]at this;rw[this,m _ Q,(Q:(i*7+j)/7=i),(Q:(i*7+j)%7=j),UQ (by rw[nC];exact d)];exact Uj some (iD (UQ (by rw[nC];exact d)))
 exact⟨iP a (nC _) Q,a⟩
end
end
end
end Go.Proofs.YtlgmpheammbacaaGreatDoor
namespace Go.Proofs.YtlgmpheammbacaaGreatDoor
open Go.ChangeShapes Go.WideShapes Go.ChangeAt Go.WideMaps Go.WideElems Go.RowKit
open AM
def F6{W:World}{Tj:Nat}{t:TypeId}{k:IntKind}{v:Value}(ht:Tryz.prog.underlying t=some (.int k))(h:Cell.okWide Tryz.prog W .any Tj t v):∃n,v=.int k n∧k.min≤n∧n≤k.max:=by unfold Cell.okWide at h;rw[ht]at h;unfold Cell.ok at h;simp only[ht]at h;cases v <;> first|exact⟨_,by obtain⟨e,_⟩:=h;rw[e],h.2.1,h.2.2⟩|exact h.elim
def RA:Tryz.prog.cellTypes Tryz.prog.depth 30=some [28,3,3]:=by kernel_rfl
def QF:Tryz.prog.bytesOf 69=72:=by kernel_rfl
def vO{W:World}{H:Type}{enc:TypeId×Value->H}{d:DataW H}{v:Value}{p:List MemPlace}(l:(DataW.weights Tryz.prog 52 d).all (·≤reachBytes)=true)(hd:DataW.Trod enc Tryz.prog W 0 (fun _=>true) true 52 v d p)(a:Addr)(len c:Nat)(hv:v=.slice (some a) len c):len≤1990000000000:=by
 subst hv;obtain⟨k,q⟩:=hd;rcases DataW.trod_slice Tryz.underlying52 q with⟨h,_⟩|⟨m,f,e,b,g,n,_,h,hx,_,_,_,j,_⟩
 .simp[Value.cells]at h
 have o:Value.slice (some a) len c=.slice (some m) f e:=by simpa [Value.cells]using h
 cases o;have i:d=.slice (b.map (·.1)) (g.map (·.1)):=Uj Prod.fst hx;subst i;have r:reachBytes=140737488351232:=rfl;simp only[DataW.weights,Tryz.underlying52,List.all_append,List.all_cons,Vs,Xg,Wz,QF,r,j]at l;have:=l.1;omega
def rp{l:List XR}{q:Option (Nat×Nat)}{M e d j0:Nat}{ops:Nat->Wb}(c:0<M->q=some (1+j0,d)∧e=7∧∃b n vs,l[j0]?=some ⟨b,n,some (d,vs)⟩∧vs.length=M*7∧∀j,j<M*7->vs[j]?=some (Tn (ops (j/7)).v (j%7)))(a:∀i,i<M->rH l 1 (ops i).x):pT (ud l) sD (pX l) (DX l) q e M d ops:=by refine⟨fun f=>?_,fun i hi=>(a i hi).ok⟩;obtain⟨rfl,rfl,b,n,vs,g,h,k⟩:=c f;obtain⟨o,p⟩:=Ai g;exact⟨j0,_,o,rfl,rfl,by rw[p,h],fun j m=>iD (k j m)⟩
theorem AP{W:World}{Tj:Nat}{v1:Value}(h1:Value.okWide Tryz.prog W .any Tj 30 v1):∃b l o:Int,v1=.agg #[.int .u64 b,.int .i64 l,.int .i64 o]∧0≤b∧b<18446744073709551616:=by
 have m1:=KI;have m2:=KC;unfold Value.okWide at h1;rw[Tryz.underlying30]at h1;obtain⟨cs,rfl,hsz,ts,hts,_,hcell⟩:=h1;rw[show Tryz.prog.cellsOf 30=3 by kernel_rfl]at hsz;rw[RA]at hts;cases hts;obtain⟨ls⟩:=cs;have hl:ls.length=3:=hsz
 match ls,hl with
 | [a0,a1,a2],_=>
  have g:∀i v,(#[a0,a1,a2]:Array Value)[i]?=some v->∃u,([28,3,3]:List TypeId)[i%3]?=some u∧Cell.okWide Tryz.prog W .any Tj u v:=hcell;obtain⟨u,e,k0⟩:=g 0 a0 rfl;cases e;obtain⟨u,e,k1⟩:=g 1 a1 rfl;cases e;obtain⟨u,e,k2⟩:=g 2 a2 rfl;cases e;obtain⟨bb,rfl,b1,b2⟩:=F6 LG k0;obtain⟨ll,rfl,_⟩:=F6 Y3 k1;obtain⟨oo,rfl,_⟩:=F6 Y3 k2;exact⟨bb,ll,oo,rfl,by omega,by omega⟩
theorem BA{W:World}{Tj:Nat}{v2:Value}(h2:Value.okWide Tryz.prog W .any Tj 28 v2):∃c:Nat,v2=.int .u64 (c:Nat)∧c<18446744073709551616:=by
 have m1:=KI;have m2:=KC;unfold Value.okWide at h2;rw[LG]at h2;obtain⟨c,rfl,c1,c2⟩:=F6 LG h2;obtain⟨c,rfl⟩:∃z:Nat,c=(z:Int):=⟨c.toNat,by omega⟩
 exact⟨c,rfl,by omega⟩
def rC{W:World}{l:List XR}{j:Nat}{x:XR}(h:l[j]?=some x):nF W l (1+j)=some (x.b,x.n):=by unfold nF;rw[Tg Q,(Q:1+j-1=j),h];rfl
end Go.Proofs.YtlgmpheammbacaaGreatDoor
