import Derived.Test.YtlgmpheammbacaaGreatDoorSml
set_option maxRecDepth 1000000
set_option linter.unusedVariables false
set_option linter.unusedSimpArgs false
attribute [local irreducible] AM.T.get AM.T.set
namespace Go.Proofs.YtlgmpheammbacaaGreatDoor
open AM Go
noncomputable section
variable {σ σ':St} {A:Slot -> Nat} {H H':Heap} {fl pl fc:Nat -> List Nat}
section
variable {κ:Type} {hasK:κ -> Prop} {BK:κ -> Nat} {cK:κ -> Cont} {l:List (Nat × Nat)} {b:Nat}
theorem LW.call {g:FuncId} {xs:List V} {P:V -> Prop} (h:LW σ A H l b hasK BK cK)
  (spec:∀ σ,HRep σ A H -> Runs G0 [] g xs σ fun v σ'=>HRep σ' A H' /\ P v) :
  Runs G0 [] g xs σ fun v σ'=>LW σ' A H' l b hasK BK cK /\ P v:=by
 have h1:Wd σ (Sum.elim H.has (Sum.elim (fun _:Unit=>l≠[]) hasK)) (Sum.elim A (Sum.elim (fun _=>b) BK)) (Sum.elim (heapC H A) (Sum.elim (fun _=>.row (l.length*2) (blkV l)) cK)):=by
  refine Wd.sub h (fun k=>match k with | .inl s=>.inl (.inl s) | .inr (.inl u)=>.inl (.inr u) | .inr (.inr k)=>.inr k) ?_ ?_ ?_ ?_
  ·rintro (k | k | k) hk <;> exact hk
  ·rintro (k | k | k) (j | j | j) hk hj e <;> simp_all
  ·rintro (k | k | k) hk <;> rfl
  ·rintro (k | k | k) hk <;> exact .inl rfl
 refine (HC.call (Γ:=G0) (Γ':=G0) (M:=[]) (H':=H') (P:=fun v A'=>A=A' /\ P v) (fun _ _ h=>h) (fun _ h=>nomatch h) h1 fun s hs=>(spec s hs).mono fun v s' ⟨h1,h2⟩=>⟨A,h1,rfl,h2⟩).mono ?_
 rintro v s ⟨A',W,rfl,hp⟩
 refine ⟨Wd.sub W (fun k=>match k with | .inl (.inl s)=>.inl s | .inl (.inr u)=>.inr (.inl u) | .inr k=>.inr (.inr k)) ?_ ?_ ?_ ?_,hp⟩
 ·rintro ((k | k) | k) hk <;> exact hk
 ·rintro ((k | k) | k) ((j | j) | j) hk hj e <;> simp_all
 ·rintro ((k | k) | k) hk <;> rfl
 ·rintro ((k | k) | k) hk <;> exact .inl rfl
theorem LW.live {g:FuncId} {xs:List V} (h:HC σ A H hasK BK cK)
  (spec:∀ σ,HRep σ A H -> Runs G0 [] g xs σ fun r s=>∃ b,r=listV (liveL H) b /\ LH s A H (liveL H) b) :
  Runs G0 [] g xs σ fun r s=>∃ b,r=listV (liveL H) b /\ LW s A H (liveL H) b hasK BK cK:=by
 have h1:Wd σ (Sum.elim (Sum.elim H.has fun _:Unit=>False) hasK) (Sum.elim (Sum.elim A fun _=>0) BK) (Sum.elim (Sum.elim (heapC H A) fun _=>.map []) cK):=by
  refine Wd.sub h (fun k=>match k with | .inl (.inl s)=>.inl s | .inl (.inr u)=>.inl .heap | .inr k=>.inr k) ?_ ?_ ?_ ?_
  ·rintro ((k | k) | k) hk
   ·exact hk
   ·exact hk.elim
   ·exact hk
  ·rintro ((k | k) | k) ((j | j) | j) hk hj e <;> simp_all
  ·rintro ((k | k) | k) hk
   ·rfl
   ·exact hk.elim
   ·rfl
  ·rintro ((k | k) | k) hk
   ·exact .inl rfl
   ·exact hk.elim
   ·exact .inl rfl
 refine (Wd.call (Γ:=G0) (Γ':=G0) (M:=[]) (P:=fun v has' A' c'=>∃ b,v=listV (liveL H) b /\ has'=(Sum.elim H.has fun _:Unit=>liveL H≠[]) /\ A'=(Sum.elim A fun _=>b) /\ c'=(Sum.elim (heapC H A) fun _=>.row ((liveL H).length*2) (blkV (liveL H)))) (fun _ _ h=>h) (fun _ h=>nomatch h) h1 fun s w=>(spec s (wd_hrep w.left)).mono ?_).mono ?_
 ·rintro v s' ⟨b,hv,W⟩
  exact ⟨_,_,_,W,b,hv,rfl,rfl,rfl⟩
 ·rintro v s' ⟨has',A',c',w,b,hv,rfl,rfl,rfl⟩
  exact ⟨b,hv,w⟩
end
def freeTo (H:Heap) (n:Nat):Nat:=((List.range n).filter fun x=>decide ((H.page x).kind=0 \/ (H.page x).kind=1)).length
theorem freeTo_succ (H:Heap) (n:Nat):freeTo H (n+1)=freeTo H n+if (H.page n).kind=0 \/ (H.page n).kind=1 then 1 else 0:=by
 unfold freeTo
 rw [List.range_succ,List.filter_append,List.length_append]
 by_cases c:(H.page n).kind=0 \/ (H.page n).kind=1 <;> simp [c]
theorem freeTo_le (H:Heap) (n:Nat):freeTo H n <= n:=by
 unfold freeTo
 exact Nat.le_trans (List.length_filter_le _ _) (Nat.le_of_eq List.length_range)
def statsV (H:Heap):V:=.agg [.int .u64 (H.rsz*H.regs:Nat),.int .u64 (sumB (liveL H)%18446744073709551616:Nat),.int .i64 (liveL H).length,.int .i64 (freeTo H H.np)]
theorem chk3 {n:Nat} {z:List V} {d:Dfs} {s:St} (hz:sameL z z=true) (hn:z.length=n):checkH σ.next z 2 0 [(d,σ.new (.cells false 0 n z .nil)),(d,σ.new (.cells false 0 n z .nil)),(d,σ.new (.cells false 0 n z .nil)),(d,s)]=true:=by
 have hg:(σ.new (.cells false 0 n z .nil)).objs.get σ.next=some (.cells false 0 n z .nil):=by simp only [St.new,T.get_set,if_true]
 simp only [checkH,hg,hz,hn,beq_self_eq_true,Bool.true_and]
 rfl
theorem HC.box {κ:Type} [DecidableEq κ] {hasK:κ -> Prop} {BK:κ -> Nat} {cK:κ -> Cont} {b n:Nat} {f:Nat -> V} (h:HC σ A H hasK BK cK) (L:Lcl σ b n f) (hne:∀ i,(Sum.elim H.has hasK) i -> (Sum.elim A BK) i≠b) :
  HC σ A H (Sum.elim hasK fun _:Unit=>True) (Sum.elim BK fun _=>b) (Sum.elim cK fun _=>.row n f):=by
 refine Wd.sub (Wd.box h L hne) (fun k=>match k with | .inl s=>.inl (.inl s) | .inr (.inl k)=>.inl (.inr k) | .inr (.inr u)=>.inr u) ?_ ?_ ?_ ?_
 ·rintro (k | k | k) hk <;> exact hk
 ·rintro (k | k | k) (j | j | j) hk hj e <;> simp_all
 ·rintro (k | k | k) hk <;> rfl
 ·rintro (k | k | k) hk <;> exact .inl rfl
abbrev SW (σ:St) (A:Slot -> Nat) (H:Heap) (l:List (Nat × Nat)) (bl r0 bs:Nat) (zf:Nat -> V) (lv:List V):Prop :=
 LW σ A H l bl (Sum.elim (fun _:Unit=>True) fun _:Unit=>True) (Sum.elim (fun _=>r0) fun _=>bs) (Sum.elim (fun _=>.row 4 zf) fun _=>.row 4 (lst lv))
section
variable {l:List (Nat × Nat)} {bl r0 bs:Nat} {zf:Nat -> V} {lv:List V}
theorem SW.c (h:SW σ A H l bl r0 bs zf lv) {k:Nat} (hk:k<4):σ.cell bs k=some (lst lv k):=Wd.cell h (i:=.inr (.inr ())) trivial rfl hk
theorem SW.rep (h:SW σ A H l bl r0 bs zf lv):HRep σ A H:=wd_hrep h.left.left
theorem SW.store (h:SW σ A H l bl r0 bs zf lv) (hl:lv.length=4) {k:Nat} {v:V} (hk:k<4) (hf:v.flat=true):∃ s,σ.store bs k [v]=some s /\ SW s A H l bl r0 bs zf (lv.set k v):=by
 obtain ⟨s,e,W,hn⟩:=Wd.setL h (i:=Sum.inr (Sum.inr ())) trivial (n:=4) (l:=lv) rfl hl hk hf
 refine ⟨s,e,W.sub id (fun _ h=>h) (fun _ _ _ _ e=>e) (fun _ _=>rfl) ?_⟩
 rintro ((i | i) | (i | i)) hi
 ·left;show _=updG _ _ _ _;rw [updG_ne (by intro h;cases h)];rfl
 ·left;show _=updG _ _ _ _;rw [updG_ne (by intro h;cases h)];rfl
 ·left;show _=updG _ _ _ _;rw [updG_ne (by intro h;cases h)];rfl
 ·left;exact updG_same.symm
end
theorem r_StatsL (h:HRep σ A H) (hg:Good H) :
  Runs G0 [] 30 [.ptr (some (A .heap,0))] σ fun r s=>r=statsV H /\ HRep s A H:=by
 refine runs_body g30 rfl ?_
 obtain ⟨fl,pl,fc,hI⟩:=hg.fine
 have ok:=hI.ok
 obtain ⟨z,hz⟩:∃ z,z=[V.int .u64 0,V.int .u64 0,V.int .i64 0,V.int .i64 0]:=⟨_,rfl⟩
 have zl:z.length=4:=by rw [hz];rfl
 have zz:sameL z z=true:=by rw [hz];rfl
 have L0:=Lcl.of_new σ z 4 (.inl (by rw [hz];simp))
 have W0:HC (σ.new (.cells false 0 4 z .nil)) A H (fun _:Unit=>True) (fun _=>σ.next) (fun _=>.row 4 fun i=>z.getD (i%z.length) .undef):=Wd.box (hrep_wd (h.new _ rfl)) L0 fun i hi e=>by
  have:=(h.row i hi);have:=Wd.lt (hrep_wd h) hi;omega
 obtain ⟨v,s1,⟨A1,W1,hA1,hv⟩,hr1⟩:=HC.call (Γ:=G0) (Γ':=G0) (M:=[]) (H':=H.setLock 1) (P:=fun v A'=>A=A' /\ v=.tuple []) (fun _ _ h=>h) (fun _ h=>nomatch h) W0 fun s hs=>(r_lock hs hg.lock).mono fun v s' ⟨h1,h2⟩=>⟨A,h1,rfl,h2⟩
 subst hA1 hv
 obtain ⟨G,hG⟩:∃ G,G=H.setLock 1:=⟨_,rfl⟩
 have hIG:=hI.setLock 1
 have okG:=hIG.ok
 rw [<- hG] at W1 hIG okG
 have W1n:HC (s1.new (.cells false 0 4 z .nil)) A G (fun _:Unit=>True) (fun _=>σ.next) (fun _=>.row 4 fun i=>z.getD (i%z.length) .undef):=Wd.new W1 _ rfl
 obtain ⟨v,s2,⟨hv,hs2⟩,hr2⟩:=r_PSpace (HC.rep W1n)
 subst hv hs2
 obtain ⟨v,s2,⟨hv,hs2⟩,hr3⟩:=r_End (HC.rep W1n) okG
 subst hv hs2
 have q5:=(HC.rep W1n).cell (s:=.heap) trivial (i:=5) (show 5<7 by omega)
 rw [show G.cell A .heap 5=.ptr (some (A .pool,0)) from rfl] at q5
 have q2:=(HC.rep W1n).cell (s:=.heap) trivial (i:=2) (show 2<7 by omega)
 rw [show G.cell A .heap 2=.int .u64 H.base by rw [hG];rfl] at q2
 have hend:=end_np ok
 have hrz:=rsz_np H
 have hfin:G.fin=H.base+H.rsz*H.regs:=by rw [hG];rfl
 have e1:IntKind.u64.wrap ((G.fin:Int)-(H.base:Int))=((H.rsz*H.regs:Nat):Int):=by rw [hfin,u64_sub (by omega) (by omega)];congr 1;omega
 obtain ⟨vs,hvs⟩:∃ vs,vs=[V.int .u64 (H.rsz*H.regs:Nat),V.int .u64 0,V.int .i64 0,V.int .i64 0]:=⟨_,rfl⟩
 have vl:vs.length=4:=by rw [hvs];rfl
 have f1:fillP z [(0,1,V.int .u64 (H.rsz*H.regs:Nat))]=some vs:=by rw [hz,hvs];rfl
 have hst:=new_store (σ:=s1) (z:=z) (vs:=vs) (n:=4) (by rw [hvs];simp) (by rw [hvs];rfl)
 have W2:HC (s1.lay 4 z vs) A G (fun _:Unit=>True) (fun _=>σ.next) (fun _=>.row 4 fun i=>z.getD (i%z.length) .undef):=Wd.lay W1 (by rw [hvs];simp) (by rw [hvs];rfl)
 have L2:=Lcl.lay s1 4 z vs (by rw [hvs];rfl)
 have ch:=chk3 (σ:=s1) (n:=4) (z:=z) (d:=[(69,[V.ptr (some (A .heap,0))])]) (s:=s1.lay 4 z vs) zz zl
 have p5:=(HC.rep W2).cell (s:=.heap) trivial (i:=5) (show 5<7 by omega)
 rw [show G.cell A .heap 5=.ptr (some (A .pool,0)) from rfl] at p5
 have p2:=(HC.rep W2).cell (s:=.heap) trivial (i:=2) (show 2<7 by omega)
 rw [show G.cell A .heap 2=.int .u64 H.base by rw [hG];rfl] at p2
 simp -implicitDefEqProofs only[go_sem,<- hz,zl]
 refine runs_ret hr1 ?_
 simp -implicitDefEqProofs only[go_sem,<- hz,zl,q5,q2]
 refine runs_ret hr2 ?_
 simp -implicitDefEqProofs only[go_sem,<- hz,zl,q5,q2]
 refine runs_ret hr3 ?_
 simp -implicitDefEqProofs only[go_sem,<- hz,zl,q5,q2,e1,evalParts,f1,vcells_agg,vl,hst,ch,p5,p2]
 have W3:HC (s1.lay 4 z vs) A G (Sum.elim (fun _:Unit=>True) fun _:Unit=>True) (Sum.elim (fun _=>σ.next) fun _=>s1.next) (Sum.elim (fun _=>.row 4 fun i=>z.getD (i%z.length) .undef) fun _=>.row 4 (lst vs)):=HC.box W2 L2 fun i hi e=>by
  have:=Wd.lt W1 hi;omega
 obtain ⟨v,s4,⟨bl,hv,W4⟩,hr4⟩:=LW.live W3 fun s hs=>r_liveL hs hIG
 subst hv
 refine runs_ret hr4 ?_
 obtain ⟨zf,hzf⟩:∃ zf:Nat -> V,zf=fun i=>z.getD (i%z.length) .undef:=⟨_,rfl⟩
 rw [<- hzf] at W4
 obtain ⟨r0,hr0⟩:∃ r0,r0=σ.next:=⟨_,rfl⟩
 obtain ⟨bs,hbs⟩:∃ bs,bs=s1.next:=⟨_,rfl⟩
 rw [<- hr0, <- hbs] at W4
 obtain ⟨ls,hls⟩:∃ ls,ls=liveL H:=⟨_,rfl⟩
 have e2:liveL G=ls:=by rw [hG,hls];rfl
 rw [e2] at W4
 rw [e2]
 have hnp:=np_few ok
 have hll:ls.length <= 262144:=by rw [hls];have:=liveTo_len H H.np;unfold liveL;omega
 obtain ⟨zc,hzc⟩:∃ zc,listV ls bl=.slice zc ls.length (if ls=[] then 0 else 2) /\ (ls≠[] -> zc=some (bl,0)):=by
  unfold listV
  by_cases c:ls=[]
  ·subst c;exact ⟨none,rfl,fun h=>absurd rfl h⟩
  ·rw [if_neg c,if_neg c];exact ⟨_,rfl,fun _=>rfl⟩
 obtain ⟨hzc,hzc2⟩:=hzc
 rw [hzc]
 simp -implicitDefEqProofs only[go_sem,<- hr0,<- hbs]
 refine aw_loop (fun (n:Nat) (fr:AM.Fr) (s:St)=>fr.defers=[(69,[V.ptr (some (A .heap,0))])] /\ fr.tmps.get 0=some (.ptr (some (A .heap,0))) /\ fr.tmps.get 2=some (.ptr (some (r0,0))) /\ fr.tmps.get 3=some (.ptr (some (bs,0))) /\ fr.tmps.get 33=some (.slice zc ls.length (if ls=[] then 0 else 2)) /\ fr.tmps.get 34=some (.int .i64 ls.length) ∧
  ∃ i:Nat,fr.tmps.get 35=some (.int .i64 i) /\ i+n=ls.length /\ SW s A G ls bl r0 bs zf [.int .u64 (H.rsz*H.regs:Nat),.int .u64 (sumB (ls.take i)%18446744073709551616:Nat),.int .i64 i,.int .i64 0]) ?_ ls.length ?_
 ·rintro n ⟨tm,ds⟩ s ⟨hd,t0,t2,t3,t33,t34,i,t35,hi,R⟩
  simp only at hd t0 t2 t3 t33 t34 t35
  subst hd
  by_cases c:i<ls.length
  ·have hne:ls≠[]:=by intro e;rw [e] at c;exact absurd c (by simp)
   have hzc3:=hzc2 hne
   subst hzc3
   rw [if_neg hne] at t33
   have d1:(i:Int)<(ls.length:Int):=by omega
   have d2:(0:Int) <= (i:Int) /\ (i:Int)<(ls.length:Int):=by omega
   have e9:IntKind.i64.wrap ((i:Int)+1)=((i+1:Nat):Int):=i64_add (a:=i) (b:=1) (by omega)
   have hld:=Wd.load R (i:=.inl (.inr ())) hne (n:=ls.length*2) (f:=blkV ls) rfl (off:=i*2) (k:=2) (by omega)
   obtain ⟨t,ht⟩:∃ t,ls.getD i (0,0)=t:=⟨_,rfl⟩
   rw [blkV_at ht] at hld
   have hld':s.load bl (i*2) 2=some [V.int .u64 t.1,.int .u64 t.2]:=hld
   have hst:=new_store (σ:=s) (z:=[.int .u64 0,.int .u64 0]) (vs:=[.int .u64 t.1,.int .u64 t.2]) (n:=2) (by simp) rfl
   have L:=Lcl.lay s 2 [.int .u64 0,.int .u64 0] [.int .u64 t.1,.int .u64 t.2] rfl
   have R1:SW (s.lay 2 [.int .u64 0,.int .u64 0] [.int .u64 t.1,.int .u64 t.2]) A G ls bl r0 bs zf _:=Wd.lay R (by simp) rfl
   have l1:=L.cell (i:=1) (by omega)
   rw [show lst [V.int .u64 t.1,.int .u64 t.2] 1=.int .u64 t.2 from rfl] at l1
   have x1:=R1.c (k:=1) (by omega)
   have x1':(s.lay 2 [.int .u64 0,.int .u64 0] [.int .u64 t.1,.int .u64 t.2]).cell bs 1=some (.int .u64 (sumB (ls.take i)%18446744073709551616:Nat)):=x1
   have eu:IntKind.u64.wrap (((sumB (ls.take i)%18446744073709551616:Nat):Int)+(t.2:Int))=((sumB (ls.take (i+1))%18446744073709551616:Nat):Int):=by
    rw [sumB_take c,ht, <- Int.natCast_add];unfold IntKind.wrap;simp [IntKind.bits,IntKind.signed,Int.emod]
   obtain ⟨s5,hs5,R5⟩:=SW.store R1 (by rfl) (k:=1) (v:=.int .u64 (sumB (ls.take (i+1))%18446744073709551616:Nat)) (by omega) rfl
   have x2:s5.cell bs 2=some (.int .i64 i):=R5.c (k:=2) (by omega)
   obtain ⟨s6,hs6,R6⟩:=SW.store R5 (by rfl) (k:=2) (v:=.int .i64 (i+1:Nat)) (by omega) rfl
   simp -implicitDefEqProofs only[go_sem,t0,t2,t3,t33,t34,t35,d1,d2,and_self,Int.toNat_natCast,hld',vcells_agg,vcells_int,List.length_cons,List.length_nil,hst,l1,x1',eu,hs5,x2,hs6,e9]
   exact ⟨n-1,by omega,by rw [if_neg hne],i+1,rfl,by omega,R6⟩
  ·have d1:¬ (i:Int)<(ls.length:Int):=by omega
   have ei:i=ls.length:=by omega
   subst ei
   rw [List.take_length] at R
   have y5:=(SW.rep R).cell (s:=.heap) trivial (i:=5) (show 5<7 by omega)
   rw [show G.cell A .heap 5=.ptr (some (A .pool,0)) from rfl] at y5
   obtain ⟨v,s7,⟨hv,hs7⟩,hr7⟩:=r_PMap (SW.rep R)
   subst hv hs7
   obtain ⟨v,s7,⟨hv,hs7⟩,hr8⟩:=r_Pages (SW.rep R) okG
   subst hv hs7
   simp -implicitDefEqProofs only[go_sem,t0,t2,t3,t33,t34,t35,d1,y5]
   refine runs_ret hr7 ?_
   simp -implicitDefEqProofs only[go_sem,t0,t2,t3,t33,t34,t35,d1,y5]
   refine runs_ret hr8 ?_
   simp -implicitDefEqProofs only[go_sem]
   refine aw_loop (fun (n:Nat) (fr:AM.Fr) (s:St)=>fr.defers=[(69,[V.ptr (some (A .heap,0))])] /\ fr.tmps.get 0=some (.ptr (some (A .heap,0))) /\ fr.tmps.get 2=some (.ptr (some (r0,0))) /\ fr.tmps.get 3=some (.ptr (some (bs,0))) /\ fr.tmps.get 6=some (.ptr (some (A .map,0))) /\ fr.tmps.get 58=some (.int .i64 G.np) ∧
    ∃ i:Nat,fr.tmps.get 59=some (.int .i64 i) /\ i+n=G.np /\ SW s A G ls bl r0 bs zf [.int .u64 (H.rsz*H.regs:Nat),.int .u64 (sumB ls%18446744073709551616:Nat),.int .i64 ls.length,.int .i64 (freeTo G i)]) ?_ G.np ?_
   ·rintro n ⟨tm,ds⟩ s ⟨hd,t0,t2,t3,t6,t58,i,t59,hi,R⟩
    simp only at hd t0 t2 t3 t6 t58 t59
    subst hd
    have hnG:G.np=H.np:=by rw [hG];rfl
    by_cases c:i<G.np
    ·have d1:(i:Int)<(G.np:Int):=by omega
     obtain ⟨v,s3,⟨hv,g3,R3⟩,hr3⟩:=Wd.rgrow R (r_At (SW.rep R) okG c)
     subst hv
     obtain ⟨z,hz⟩:∃ z,z=[V.int .i64 0,V.int .i64 0,V.int .i64 0,V.int .i64 0,V.int .i64 0,V.int .i64 0,V.int .i64 0,V.int .u64 0,V.int .u64 0,V.int .u64 0,V.int .u64 0]:=⟨_,rfl⟩
     obtain ⟨x,hx⟩:∃ x,x=G.page i:=⟨_,rfl⟩
     rw [<- hx] at hr3
     have zl:z.length=11:=by rw [hz];rfl
     have xf:x.cells.all V.flat=true:=rfl
     have hst:=new_store (σ:=s3) (z:=z) (vs:=x.cells) (n:=11) (Nat.le_of_eq (Page.cells_len x)) xf
     have R4:SW (s3.lay 11 z x.cells) A G ls bl r0 bs zf _:=Wd.lay R3 (by rw [Page.cells_len];omega) xf
     have L4:=Lcl.lay s3 11 z x.cells (Page.cells_len x)
     have k0:=L4.cell (i:=0) (by omega)
     rw [show lst x.cells 0=.int .i64 x.kind from rfl] at k0
     have x3:(s3.lay 11 z x.cells).cell bs 3=some (.int .i64 (freeTo G i)):=R4.c (k:=3) (by omega)
     have e9:IntKind.i64.wrap ((i:Int)+1)=((i+1:Nat):Int):=i64_add (a:=i) (b:=1) (by omega)
     have hfl:=freeTo_le G i
     have e8:IntKind.i64.wrap ((freeTo G i:Int)+1)=((freeTo G i+1:Nat):Int):=i64_add (a:=freeTo G i) (b:=1) (by omega)
     have hsu:=freeTo_succ G i
     rw [<- hx] at hsu
     obtain ⟨s6,hs6,R6⟩:=SW.store R4 (by rfl) (k:=3) (v:=.int .i64 (freeTo G i+1:Nat)) (by omega) rfl
     simp -implicitDefEqProofs only[go_sem,t0,t2,t3,t6,t58,t59,d1]
     refine runs_ret hr3 ?_
     by_cases q0:x.kind=0
     ·have hs:freeTo G (i+1)=freeTo G i+1:=by rw [hsu,if_pos (.inl q0)]
      simp -implicitDefEqProofs only[go_sem,t0,t2,t3,t6,t58,t59,<- hz,zl,vcells_agg,vcells_int,List.length_cons,List.length_nil,Page.cells_len,hst,k0,q0,x3,e8,hs6,e9]
      exact ⟨n-1,by omega,i+1,rfl,by omega,by rw [hs];exact R6⟩
     ·by_cases q1:x.kind=1
      ·have hs:freeTo G (i+1)=freeTo G i+1:=by rw [hsu,if_pos (.inr q1)]
       have d10:¬ ((1:Int)=0):=by decide
       simp -implicitDefEqProofs only[go_sem,t0,t2,t3,t6,t58,t59,<- hz,zl,vcells_agg,vcells_int,List.length_cons,List.length_nil,Page.cells_len,hst,k0,q1,d10,x3,e8,hs6,e9]
       exact ⟨n-1,by omega,i+1,rfl,by omega,by rw [hs];exact R6⟩
      ·have hs:freeTo G (i+1)=freeTo G i:=by rw [hsu,if_neg (by rintro (h | h);exact q0 h;exact q1 h)];rfl
       simp -implicitDefEqProofs only[go_sem,t0,t2,t3,t6,t58,t59,<- hz,zl,vcells_agg,vcells_int,List.length_cons,List.length_nil,Page.cells_len,hst,k0,q0,q1,e9]
       exact ⟨n-1,by omega,i+1,rfl,by omega,by rw [hs];exact R4⟩
    ·have d1:¬ (i:Int)<(G.np:Int):=by omega
     have ei:i=G.np:=by omega
     subst ei
     obtain ⟨lv,hlv⟩:∃ lv,lv=[V.int .u64 (H.rsz*H.regs:Nat),.int .u64 (sumB ls%18446744073709551616:Nat),.int .i64 ls.length,.int .i64 (freeTo G G.np)]:=⟨_,rfl⟩
     rw [<- hlv] at R
     have lvl:lv.length=4:=by rw [hlv];rfl
     have hld:=Wd.load R (i:=.inr (.inr ())) trivial (n:=4) (f:=lst lv) rfl (off:=0) (k:=4) (by omega)
     have hld':s.load bs 0 4=some lv:=by
      refine Eq.trans hld ?_
      rw [hlv];rfl
     obtain ⟨s8,hs8,R8,_⟩:=Wd.store R (i:=.inr (.inl ())) trivial (n:=4) (f:=zf) rfl (off:=0) (vs:=lv) (by omega) (by rw [hlv];rfl)
     have hs8':s.store r0 0 lv=some s8:=hs8
     have R9:LW s8 A G ls bl (fun _:Unit=>True) (fun _=>r0) (fun _=>.row 4 (lst lv)):=by
      refine R8.sub (fun k=>match k with | .inl j=>.inl j | .inr u=>.inr (.inl u)) ?_ ?_ ?_ ?_
      ·rintro (j | j) hj
       ·exact hj
       ·trivial
      ·rintro (j | j) (k | k) hj hk e
       ·exact congrArg Sum.inl (Sum.inl.inj e)
       ·cases e
       ·cases e
       ·rfl
      ·rintro (j | j) hj <;> rfl
      ·rintro ((j | j) | j) hj
       ·left;show _=updG _ _ _ _;rw [updG_ne (by intro h;cases h)];rfl
       ·left;show _=updG _ _ _ _;rw [updG_ne (by intro h;cases h)];rfl
       ·right
        refine ⟨_,_,4,lst lv,updG_same,rfl,Nat.le_refl _,?_⟩
        intro j hj
        unfold over lst
        rw [if_pos ⟨Nat.zero_le _,by omega⟩,Nat.sub_zero]
     obtain ⟨v,s10,⟨R10,hv⟩,hr10⟩:=LW.call (H':=H) (P:=fun v=>v=.tuple []) R9 fun s hs=>(r_unlock hs (by rw [hG];rfl)).mono fun v s' ⟨h1,h2⟩=>⟨by rw [hG,setLock_id hg.lock] at h1;exact h1,h2⟩
     subst hv
     have hl10:=Wd.load R10 (i:=.inr ()) trivial (n:=4) (f:=lst lv) rfl (off:=0) (k:=4) (by omega)
     have hl10':s10.load r0 0 4=some lv:=by
      refine Eq.trans hl10 ?_
      rw [hlv];rfl
     simp -implicitDefEqProofs only[go_sem,t0,t2,t3,t6,t58,t59,d1,hld',vcells_agg,lvl,hs8',wpDefers_cons]
     refine ⟨.inr gUnlock,runs_ret hr10 ?_⟩
     simp -implicitDefEqProofs only[go_sem,t2,hl10']
     refine ⟨?_,wd_hrep R10.left.left⟩
     rw [hlv,hls,hG];rfl
   ·simp -implicitDefEqProofs only[go_sem]
    exact ⟨t0,t2,t3,0,rfl,by omega,R⟩
 ·simp -implicitDefEqProofs only[go_sem]
  refine ⟨0,rfl,by omega,?_⟩
  rw [hvs] at W4
  exact W4
end
noncomputable section
variable {H H':Heap} {fl pl fc:Nat -> List Nat}
end
noncomputable section
variable {H H':Heap} {fl pl fc:Nat -> List Nat}
end
noncomputable section
variable {H H':Heap} {fl pl fc:Nat -> List Nat}
end
noncomputable section
variable {H H':Heap} {S:AS} {fl pl fc:Nat -> List Nat}
structure ArIn (H:Heap) (S:AS):Prop where
 ok:S.OK
 ms:MsOk S
 size:S.chunk <= H.rsz
theorem ArIn.alloc (g:Good H) (h:ArIn H S) (hfew:S.chunks.length<5000000000000) {n a:Nat} (hn:n<18446744073709551616) (ha:a<18446744073709551616) (d:Bool) :
  Good (allocA H S n a d).1 /\ ArIn (allocA H S n a d).1 (allocA H S n a d).2.1 /\ (allocA H S n a d).1.rsz=H.rsz /\ (allocA H S n a d).2.1.chunks.length <= S.chunks.length+1 /\ (allocA H S n a d).2.1.made=S.made /\ (allocA H S n a d).2.1.ms=S.ms:=by
 obtain ⟨fl,pl,fc,i⟩:=g.fine
 have hz:=rsz_le i.ok
 have base:Good H /\ ArIn H S /\ H.rsz=H.rsz /\ S.chunks.length <= S.chunks.length+1 /\ S.made=S.made /\ S.ms=S.ms:=⟨g,h,rfl,by omega,rfl,rfl⟩
 unfold allocA
 by_cases c:isPow a=false
 ·rw [if_pos c];exact base
 ·rw [if_neg c]
  by_cases c2:H.rsz<max n 1 \/ H.rsz<a
  ·rw [if_pos c2];exact base
  ·rw [if_neg c2]
   cases hf:S.fit (max n 1) a with
   |some p =>
    refine ⟨g,⟨⟨h.ok.chunks,?_,Nat.mod_lt _ (by omega),h.ok.chunk,h.ok.nil,h.ok.nilS,h.ok.few⟩,⟨h.ms.rise,h.ms.lt,h.ms.le,h.ms.nil,h.ms.nums⟩,h.size⟩,rfl,by simp,rfl,rfl⟩
    unfold AS.fit at hf
    cases hL:S.chunks.getLast? with
    |none=>rw [hL] at hf;cases hf
    |some t =>
     rw [hL] at hf
     simp only at hf
     split at hf
     ·rename_i hle
      cases hf
      have:=h.ok.chunks t (List.mem_of_getLast? hL)
      simp only [Option.getD_some]
      omega
     ·cases hf
   |none =>
    have hx:max (max n 1) S.chunk<18446744073709551616:=by have:=h.ok.chunk;omega
    obtain ⟨hi,hg⟩:=g.alloc hx ha d
    unfold allocH at hi hg
    revert hi hg
    generalize H.held.allocF (max (max n 1) S.chunk) a d=r
    obtain ⟨G,p,e⟩:=r
    simp only
    intro hi hg
    by_cases ce:e=0
    ·subst ce
     rw [if_pos rfl]
     generalize hG:G.setLock 0=G' at hi hg
     cases hi with
     |ok c3 c4 gv =>
      obtain ⟨fl',pl',fc',i'⟩:=hg.fine
      have hlp:LiveB G' p (roundP (max (max n 1) S.chunk) a):=(gv.live _ _).2 (.inr ⟨rfl,rfl⟩)
      have hst:=i'.start_of hlp
      have hrz:G'.rsz=H.rsz:=by unfold Heap.rsz;rw [gv.order]
      have hrange:=i'.live_range hlp
      have hend:=end_np i'.ok
      refine ⟨hg,⟨⟨?_,?_,Nat.mod_lt _ (by omega),h.ok.chunk,by simp,h.ok.nilS,?_⟩,⟨h.ms.rise,h.ms.lt,?_,h.ms.nil,h.ms.nums⟩,by rw [hrz];exact h.size⟩,hrz,?_,rfl,rfl⟩
      ·rw [hst]
       simp only [Option.getD_some]
       intro b hb
       rcases List.mem_append.1 hb with hb | hb
       ·exact h.ok.chunks b hb
       ·rw [List.mem_singleton] at hb;subst hb
        exact ⟨by simp only;omega,by simp only;omega⟩
      ·show max n 1 <= 8388608;omega
      ·simp only [List.length_append,List.length_singleton];omega
      ·intro m hm
       have:=h.ms.le m hm
       simp only [List.length_append,List.length_singleton];omega
      ·simp only [List.length_append,List.length_singleton];omega
    ·rw [if_neg ce]
     generalize hG:G.setLock 0=G' at hi hg
     cases hi with
     |ok=>exact (ce rfl).elim
     |_=>exact ⟨hg,h,rfl,Nat.le_succ _,rfl,rfl⟩
theorem ArIn.mark (h:ArIn H S):ArIn H (markA S):=by
 refine ⟨⟨h.ok.chunks,h.ok.taken,h.ok.used,h.ok.chunk,h.ok.nil,(fun hh=>nomatch (show true=false from hh)),h.ok.few⟩,⟨?_,?_,?_,(fun hh=>nomatch (show true=false from hh)),?_⟩,h.size⟩
 ·show (S.ms++[_]).Pairwise _
  rw [List.pairwise_append]
  refine ⟨h.ms.rise,List.pairwise_singleton ..,?_⟩
  intro a ha b hb
  rw [List.mem_singleton] at hb;subst hb
  exact ⟨h.ms.lt a ha,h.ms.le a ha⟩
 ·intro m hm
  show m.n<S.made+1
  rcases List.mem_append.1 hm with hm | hm
  ·have:=h.ms.lt m hm;omega
  ·rw [List.mem_singleton] at hm;subst hm;simp
 ·intro m hm
  show m.chunks <= S.chunks.length
  rcases List.mem_append.1 hm with hm | hm
  ·exact h.ms.le m hm
  ·rw [List.mem_singleton] at hm;subst hm;exact Nat.le_refl _
 ·intro m hm
  rcases List.mem_append.1 hm with hm | hm
  ·exact h.ms.nums m hm
  ·rw [List.mem_singleton] at hm;subst hm;exact ⟨h.ok.taken,h.ok.used⟩
theorem ArIn.heap (h:ArIn H S) (e:H'.rsz=H.rsz):ArIn H' S:=⟨h.ok,h.ms,by rw [e];exact h.size⟩
theorem ArIn.reset (h:ArIn H S):ArIn H (resetA S) :=
 ⟨⟨(fun b hb=>nomatch (show b∈[] from hb)),Nat.zero_le _,Nat.zero_lt_succ _,h.ok.chunk,fun _=>rfl,fun _=>rfl,Nat.zero_le _⟩,⟨List.Pairwise.nil,(fun m hm=>nomatch (show m∈[] from hm)),(fun m hm=>nomatch (show m∈[] from hm)),fun _=>rfl,(fun m hm=>nomatch (show m∈[] from hm))⟩,h.size⟩
theorem ArIn.release (h:ArIn H S) {pre suf:List Mk} {m:Mk} (hms:S.ms=pre++m :: suf):ArIn H (relA S pre.length m):=by
 have hmm:m∈S.ms:=by rw [hms];simp
 have hn:=h.ms.nums m hmm
 have htk:S.ms.take pre.length=pre:=by rw [hms];simp
 have hsub:∀ x∈S.ms.take pre.length,x∈S.ms:=fun x hx=>List.mem_of_mem_take hx
 have hrise:=h.ms.rise
 rw [hms,List.pairwise_append] at hrise
 have hle:=h.ms.le m hmm
 refine ⟨⟨fun b hb=>h.ok.chunks b (List.mem_of_mem_take hb),hn.1,hn.2,h.ok.chunk,fun hh=>?_,fun hh=>?_,?_⟩,⟨?_,fun x hx=>h.ms.lt x (hsub x hx),?_,fun hh=>?_,fun x hx=>h.ms.nums x (hsub x hx)⟩,h.size⟩
 ·show S.chunks.take m.chunks=[]
  rw [h.ok.nil hh];simp
 ·have:=h.ok.nilS hh
  unfold AS.stand at this
  rw [List.map_eq_nil_iff] at this
  rw [this] at hmm;cases hmm
 ·show (S.chunks.take m.chunks).length <= _
  rw [List.length_take];have:=h.ok.few;omega
 ·show (S.ms.take pre.length).Pairwise _
  rw [htk];exact hrise.1
 ·intro x hx
  have hx':x∈pre:=by rw [<- htk];exact hx
  show x.chunks <= (S.chunks.take m.chunks).length
  rw [List.length_take]
  have:=(hrise.2.2 x hx' m (List.mem_cons_self ..)).2
  omega
 ·rw [h.ms.nil hh] at hmm;cases hmm
end
noncomputable section
variable {σ:St} {A:Slot -> Nat} {H H':Heap} {fl pl fc:Nat -> List Nat}
end
noncomputable section
variable {σ:St} {A:Slot -> Nat} {H H':Heap} {fl pl fc:Nat -> List Nat}
end
noncomputable section
variable {σ:St} {A:Slot -> Nat} {H H':Heap} {fl pl fc:Nat -> List Nat}
end
noncomputable section
variable {H H':Heap} {S:AS}
theorem FreeIs.same {a:Nat} (f:FreeIs H a H'):H'.Same H:=by
 cases f with
 |no h=>exact Heap.Same.refl H
 |freed h1 h2=>exact h2.same
theorem FreeIs.live {a:Nat} (f:FreeIs H a H') {b s:Nat}:LiveB H' b s↔LiveB H b s /\ b≠a:=by
 cases f with
 |no h=>exact ⟨fun hl=>⟨hl,fun e=>h s (e▸hl)⟩,fun hl=>hl.1⟩
 |freed h1 h2=>exact h2.live b s
theorem FreeIs.bytes {a:Nat} (f:FreeIs H a H') {b s:Nat} (hl:LiveB H' b s) {i:Nat} (hi:i<s):H'.mem (b-H.base+i)=H.mem (b-H.base+i):=by
 cases f with
 |no h=>rfl
 |freed h1 h2=>exact h2.bytes b s hl i hi
theorem freeAll_live (l:List Nat):∀ {H:Heap},Good H -> Good (freeAll H l) /\ (freeAll H l).Same H /\ (∀ b s,LiveB (freeAll H l) b s↔LiveB H b s /\ b∉l) /\ ∀ b s,LiveB (freeAll H l) b s -> ∀ i,i<s -> (freeAll H l).mem (b-H.base+i)=H.mem (b-H.base+i):=by
 induction l with
 |nil=>intro H g;exact ⟨g,Heap.Same.refl H,fun b s=>by simp [freeAll],fun _ _ _ _ _=>rfl⟩
 |cons a r ih =>
  intro H g
  obtain ⟨f,g'⟩:=g.free a
  obtain ⟨i1,i2,i3,i4⟩:=ih g'
  have sm:=f.same
  refine ⟨i1,⟨i2.order.trans sm.order,i2.base.trans sm.base,i2.regs.trans sm.regs,i2.limit.trans sm.limit⟩,?_,?_⟩
  ·intro b s
   show LiveB (freeAll (freeH H a) r) b s↔_
   rw [i3,f.live,List.mem_cons]
   constructor
   ·rintro ⟨⟨h1,h2⟩,h3⟩
    exact ⟨h1,fun e=>e.elim h2 h3⟩
   ·rintro ⟨h1,h2⟩
    exact ⟨⟨h1,fun e=>h2 (.inl e)⟩,fun e=>h2 (.inr e)⟩
  ·intro b s hl i hi
   have h1:=i4 b s hl i hi
   rw [sm.base] at h1
   show (freeAll (freeH H a) r).mem _=_
   rw [h1]
   exact f.bytes ((i3 b s).1 hl).1 hi
theorem Same.rsz (h:H'.Same H):H'.rsz=H.rsz:=by unfold Heap.rsz;rw [h.order]
end
noncomputable section
variable {H H':Heap} {fl pl fc:Nat -> List Nat} {hole:Nat -> Prop}
def _root_.AM.Heap.less (H : Heap) : Heap := { H with
  regs := H.regs - 1
  word := fun k j => newW ((H.regs - 1) * 2 ^ H.order) k (H.nw k) (H.word k) j }
theorem less_np (H:Heap) (hr:0<H.regs):H.less.np+2^H.order=H.np:=by
 show (H.regs-1)*2^H.order+2^H.order=H.regs*2^H.order
 obtain ⟨r,hr'⟩:∃ r,H.regs=r+1:=⟨H.regs-1,by omega⟩
 rw [hr',Nat.add_sub_cancel,Nat.add_mul,Nat.one_mul]
theorem ok_less (ok:H.OK) (hr:0<H.regs):H.less.OK :=
 ⟨ok.base_pos,ok.order_le,ok.limit_pos,ok.limit_le,ok.pages_le,ok.end_le,ok.base_al,Nat.le_trans (Nat.sub_le _ _) ok.regs_le,ok.mem_lt,ok.head_lt,fun k j=>by
  show newW _ k (H.nw k) (H.word k) j<_
  unfold newW
  exact cutW_lt (fun i=>by split;exact ok.word_lt k i;omega) j,fun _=>ok.parts (by omega),fun _=>ok.pages (by omega)⟩
theorem Inv.less (h : Inv H fl pl fc (fun _ => False)) (hr : 0 < H.regs) (ht : ∀ x, H.less.np <= x -> x < H.np -> (H.page x).kind ≠ 0 /\ (H.page x).kind ≠ 4) : Inv H.less fl pl fc (fun _ => False) := by
  have hmn := less_np H hr
  have hpos := pow_pos' H.order
  have hb : H.less.base = H.base := rfl
  have w64E : ∀ p, H.less.w64 p = H.w64 p := fun p => w64_ext hb fun i _ => rfl
  exact {
    ok := ok_less h.ok hr
    pg := by
      intro x hx hn
      obtain ⟨k, fam, q⟩ := h.pg x (by omega) (fun e => e)
      exact ⟨k, fam, q.transfer rfl fun y hy => ⟨rfl, rfl, fun e => e⟩⟩
    fmem := by
      intro k hk x
      rw [h.fmem k hk x]
      constructor
      · rintro ⟨a, b, d⟩
        refine ⟨?_, fun e => e, d⟩
        refine Decidable.byContradiction fun c => ?_
        exact (ht x (by omega) a).1 d.1
      · rintro ⟨a, b, d⟩
        exact ⟨by omega, fun e => e, d⟩
    fnd := h.fnd
    flk := fun k hk => FL.other (h.flk k hk) rfl rfl fun x hx _ _ => rfl
    bits := by
      intro k hk i hi
      have hk' : k < H.order := hk
      have hN : (H.regs - 1) * 2 ^ H.order = H.less.np := rfl
      have hi' : i < 64 * (((H.regs - 1) * 2 ^ H.order / 2 ^ (k + 1) + 63) / 64) := hi
      have e : H.less.pbit k i = (decide (i < (H.regs - 1) * 2 ^ H.order / 2 ^ (k + 1)) && (decide (i < 64 * H.nw k) && H.pbit k i)) := by
        rw [pbit_eq, pbit_eq]
        exact newW_bit hi'
      rw [e, hN]
      have hp := pow_pos' k
      have hpp := pow_pos' (k + 1)
      have hle : H.less.np / 2 ^ (k + 1) <= H.np / 2 ^ (k + 1) := Nat.div_le_div_right (by omega)
      have c2 : i < 64 * H.nw k := by
        unfold Heap.nw Heap.npair
        rw [hN] at hi'
        omega
      have hbits := h.bits k hk' i c2
      by_cases c : i < H.less.np / 2 ^ (k + 1)
      · rw [decide_eq_true c, decide_eq_true c2, Bool.true_and, Bool.true_and]
        exact hbits
      · obtain ⟨m, hm⟩ := np_dvd H.less (k := k + 1) hk'
        have hnp : H.less.np / 2 ^ (k + 1) = m := by rw [hm, Nat.mul_div_cancel_left _ hpp]
        have e1 : 2 * i * 2 ^ k = 2 ^ (k + 1) * i := by rw [Nat.pow_succ, Nat.mul_comm 2 i, Nat.mul_assoc, Nat.mul_comm, Nat.mul_comm 2]
        have e2 : (2 * i + 1) * 2 ^ k = 2 ^ (k + 1) * i + 2 ^ k := by rw [Nat.add_mul, e1, Nat.one_mul]
        have h1 : H.less.np <= 2 ^ (k + 1) * i := by rw [hm]; exact Nat.mul_le_mul_left _ (by omega)
        have no : ∀ x, H.less.np <= x -> x ∉ fl k := fun x hx hm' => by
          obtain ⟨a, _, d, _⟩ := (h.fmem k (by omega) _).1 hm'
          exact (ht x hx a).1 d
        have n1 : 2 * i * 2 ^ k ∉ fl k := no _ (by rw [e1]; exact h1)
        have n2 : (2 * i + 1) * 2 ^ k ∉ fl k := no _ (by rw [e2]; omega)
        rw [decide_eq_false c, Bool.false_and, decide_eq_false n1, decide_eq_false n2]
        exact ⟨rfl, fun e => n1 e.1⟩
    sl := by
      intro x hx _ hk
      obtain ⟨c, q⟩ := h.sl x (by omega) (fun e => e) hk
      exact ⟨c, q.transfer rfl (Core.refl _) (fun _ _ => rfl)⟩
    pmem := by
      intro c hc x
      rw [h.pmem c hc x]
      constructor
      · rintro ⟨a, b, d, e⟩
        refine ⟨?_, fun e => e, d, e⟩
        refine Decidable.byContradiction fun c' => ?_
        exact (ht x (by omega) a).2 d
      · rintro ⟨a, b, d⟩
        exact ⟨by omega, fun e => e, d⟩
    pnd := h.pnd
    plk := fun c hc => (h.plk c hc).congr rfl fun x hx => ⟨rfl, rfl⟩ }
def _root_.AM.Heap.topp (H:Heap):Nat:=H.np-2^H.order
def _root_.AM.Heap.freeTop (H:Heap):Bool:=decide (0<H.regs) && decide ((H.page H.topp).kind=0) && decide ((H.page H.topp).order=(H.order:Int))
def _root_.AM.Heap.cutTop (H:Heap):Heap:=(H.removed H.order (H.w64 (H.addr H.topp)) (H.w64 (H.addr H.topp+8))).run H.topp H.order 2
def _root_.AM.Heap.pulled (H:Heap):Heap:=H.cutTop.less
theorem topp_add (H:Heap) (hr:0<H.regs):H.topp+2^H.order=H.np:=by
 have:=less_np H hr
 unfold Heap.topp;omega
theorem topp_al (H:Heap) (hr:0<H.regs):H.topp%2^H.order=0:=by
 have h1:=less_np H hr
 have h2:=topp_add H hr
 have:H.topp=H.less.np:=by omega
 rw [this]
 exact Nat.mul_mod_left _ _
theorem run_lock' (G:Heap) (p k:Nat) (a:Int):(G.run p k a).lock=G.lock:=rfl
theorem run_same' (G:Heap) (p k:Nat) (a:Int):(G.run p k a).Same G:=⟨rfl,rfl,rfl,rfl⟩
theorem run_page' (G:Heap) (p k:Nat) (a:Int) (x:Nat):(G.run p k a).page x=if p <= x /\ x<p+2^k then (if x=p then plainP a k else plainP (a+1) k) else G.page x:=rfl
theorem run_mem' (G:Heap) (p k:Nat) (a:Int):(G.run p k a).mem=G.mem:=rfl
theorem plain_kind (a b:Int):(plainP a b).kind=a:=rfl
theorem Inv.cutTop (h:Inv H fl pl fc (fun _=>False)) (hf:H.freeTop=true) :
  H.Sound H.order (H.addr H.topp) (H.w64 (H.addr H.topp)) (H.w64 (H.addr H.topp+8)) /\ (∃ fl',Inv H.cutTop fl' pl fc (fun _=>False)) /\ H.cutTop.Same H /\ H.cutTop.lock=H.lock /\ (∀ x,x<H.topp -> H.cutTop.page x=H.page x) /\ (∀ x,H.topp <= x -> x<H.np -> (H.cutTop.page x).kind≠0 /\ (H.cutTop.page x).kind≠4) ∧
   (∀ x,x∉fl H.order -> ∀ i,i<4096 -> H.cutTop.mem (4096*x+i)=H.mem (4096*x+i)):=by
 unfold Heap.freeTop at hf
 simp only [Bool.and_eq_true,decide_eq_true_eq] at hf
 obtain ⟨⟨hr,hk0⟩,hord⟩:=hf
 have ht:=topp_add H hr
 have hal:=topp_al H hr
 have hpos:=pow_pos' H.order
 have hlt:H.topp<H.np:=by omega
 have hpm:H.topp∈fl H.order:=(h.fmem H.order (Nat.le_refl _) _).2 ⟨hlt,fun e=>e,hk0,hord⟩
 obtain ⟨l1,l2,e0⟩:=List.append_of_mem hpm
 have hfl:=h.flk H.order (Nat.le_refl _)
 rw [e0] at hfl
 have nd:=h.fnd H.order (Nat.le_refl _)
 rw [e0] at nd
 have hs:=hfl.sound h.ok.base_pos nd (fun q hq=>In_addr h.ok ((h.fmem H.order (Nat.le_refl _) q).1 (by rw [e0];exact hq)).1 (by omega))
 have hseg:=hfl.2
 rw [Seg.append] at hseg
 have n1:H.w64 (H.addr H.topp)=hdE H l2 0:=hseg.2.1
 have n2:H.w64 (H.addr H.topp+8)=lsA H 0 l1:=hseg.2.2.1
 have htn:H.turned H.topp H.order=H:=if_pos rfl
 have hu:=h.unlisted (Nat.le_refl H.order) e0
 rw [htn] at hu
 have sm:(H.removed H.order (hdE H l2 0) (lsA H 0 l1)).Same H:=same_removed _ _ _ _
 have hfill:=hu.fill (p:=H.topp) (k:=H.order) (by rw [sm.order];exact Nat.le_refl _) hal (fun x hx=>.inr hx)
 rw [<- n1, <- n2] at hs hfill sm
 refine ⟨hs,⟨_,hfill.hole_lt fun x _=>⟨fun e=>(e.1.elim (fun e=>e) fun e'=>e.2 e'),fun e=>e.elim⟩⟩,?_,?_,?_,?_,?_⟩
 ·exact (run_same' _ _ _ _).trans sm
 ·unfold Heap.cutTop;rw [run_lock',removed_lock]
 ·intro x hx
  unfold Heap.cutTop
  rw [run_page',if_neg (by omega),removed_page]
 ·intro x h1 h2
  unfold Heap.cutTop
  rw [run_page',if_pos ⟨h1,by omega⟩]
  split <;> rw [plain_kind] <;> exact ⟨by decide,by decide⟩
 ·intro x hx i hi
  have:=unlisted_mem h (Nat.le_refl H.order) e0 hx hi
  rw [htn, <- n1, <- n2] at this
  unfold Heap.cutTop
  rw [run_mem']
  exact this
end
noncomputable section
variable {σ σ':St} {A:Slot -> Nat} {H:Heap} {fl pl fc:Nat -> List Nat}
theorem r_top0 (hR:HRep σ A H) (ok:H.OK) (h:H.regs=0):Runs G0 [] 229 [.ptr (some (A .buddy,0))] σ fun r σ'=>r=.tuple [.int .i64 (IntKind.i64.wrap (0-((2^H.order:Nat):Int))),.bool false] /\ σ'=σ:=by
 refine runs_body g229 rfl ?_
 have ho:=ok.order_le
 have h2:=hR.cell (s:=.buddy) trivial (i:=2) (show 2<6 by omega)
 rw [show H.cell A .buddy 2=.int .i64 H.order from rfl] at h2
 have h3:=hR.cell (s:=.buddy) trivial (i:=3) (show 3<6 by omega)
 rw [show H.cell A .buddy 3=.ptr (some (A .space,0)) from rfl] at h3
 have h4:=hR.cell (s:=.buddy) trivial (i:=4) (show 4<6 by omega)
 rw [show H.cell A .buddy 4=.ptr (some (A .map,0)) from rfl] at h4
 obtain ⟨v,σ1,⟨hv,hs⟩,hr1⟩:=r_Regions hR ok
 rw [h] at hv
 subst hv hs
 simp -implicitDefEqProofs only[go_sem,h2,h3,h4]
 refine runs_ret hr1 ?_
 have c0:(0:Int) <= (H.order:Int):=by omega
 have e1:shlI .i64 ((0:Nat):Int) (H.order:Int)=0:=by
  have:=i64_shl (a:=0) (n:=H.order) (by omega) (by omega)
  rw [this];simp
 have e2:=i64_one_shl (n:=H.order) (by omega)
 have c1:¬ ((0:Int)<0):=by omega
 simp -implicitDefEqProofs only[go_sem,h2,h3,h4,c0,c1,bin_shl,e1,e2]
theorem r_PullE (hR:HRep σ A H) (h:Inv H fl pl fc (fun _=>False)) (hf:H.freeTop=false):Runs G0 [] 175 [.ptr (some (A .buddy,0))] σ fun r s=>r=.int .i64 9 /\ Grow σ s:=by
 have ok:=h.ok
 refine runs_body g175 rfl ?_
 rcases Nat.eq_zero_or_pos H.regs with hz | hr
 ·obtain ⟨v,σ1,⟨hv,hs⟩,hr1⟩:=r_top0 hR ok hz
  subst hv hs
  simp -implicitDefEqProofs only[go_sem]
  refine runs_ret hr1 ?_
  simp -implicitDefEqProofs only[go_sem]
  exact Grow.refl _
 ·obtain ⟨v,σ1,⟨hv,hs⟩,hr1⟩:=r_top hR ok hr
  subst hv hs
  have ht:=topp_add H hr
  have hpos:=pow_pos' H.order
  obtain ⟨v,σ2,⟨hv,g2⟩,hr2⟩:=r_At hR ok (p:=H.topp) (by omega)
  subst hv
  have h0:=hR.cell (s:=.buddy) trivial (i:=4) (show 4<6 by omega)
  rw [show H.cell A .buddy 4=.ptr (some (A .map,0)) from rfl] at h0
  obtain ⟨pg,hpg⟩:∃ pg,pg=H.page H.topp:=⟨_,rfl⟩
  rw [<- hpg] at hr2
  have w2:GW σ2:=by
   obtain ⟨v',s',⟨_,hh⟩,hr'⟩:=(r_At hR ok (p:=H.topp) (by omega)).gw hR.gw
   obtain ⟨f0,hf0⟩:=hr2
   obtain ⟨f1,hf1⟩:=hr'
   have e:=(hf0 (max f0 f1) (by omega)).symm.trans (hf1 (max f0 f1) (by omega))
   simp only [Option.some.injEq,Prod.mk.injEq] at e
   rw [e.2];exact hh
  have R2:=hR.grow g2 w2
  obtain ⟨z,hz⟩:∃ z,z=[V.int .i64 0,.int .i64 0,.int .i64 0,.int .i64 0,.int .i64 0,.int .i64 0,.int .i64 0,.int .u64 0,.int .u64 0,.int .u64 0,.int .u64 0]:=⟨_,rfl⟩
  have hzl:z.length=11:=by rw [hz];rfl
  have hcl:pg.cells.length=11:=rfl
  have hst:=new_store (σ:=σ2) (z:=z) (vs:=pg.cells) (n:=11) (by rw [hcl];exact Nat.le_refl _) rfl
  have L:=Lcl.lay σ2 11 z pg.cells hcl
  have R3:=R2.lay (n:=11) (z:=z) (vs:=pg.cells) (by rw [hcl];omega) rfl
  have l0:=L.cell (i:=0) (by omega)
  have l1:=L.cell (i:=1) (by omega)
  rw [show lst pg.cells 0=.int .i64 pg.kind from rfl] at l0
  rw [show lst pg.cells 1=.int .i64 pg.order from rfl] at l1
  have b2:=R3.cell (s:=.buddy) trivial (i:=2) (show 2<6 by omega)
  rw [show H.cell A .buddy 2=.int .i64 H.order from rfl] at b2
  have htp:(H.np-2^H.order:Nat)=H.topp:=rfl
  rw [htp] at hr1
  have hgr:Grow σ1 (σ2.lay 11 z pg.cells):=g2.trans (Grow.lay _ _ _ _)
  have hno:¬ (pg.kind=0 /\ pg.order=(H.order:Int)):=by
   rintro ⟨a,b⟩
   unfold Heap.freeTop at hf
   rw [<- hpg,decide_eq_true hr,decide_eq_true a,decide_eq_true b] at hf
   cases hf
  simp -implicitDefEqProofs only[go_sem]
  refine runs_ret hr1 ?_
  simp -implicitDefEqProofs only[go_sem,h0]
  refine runs_ret hr2 ?_
  by_cases c0:pg.kind=0
  ·have c1:¬ pg.order=(H.order:Int):=fun e=>hno ⟨c0,e⟩
   simp -implicitDefEqProofs only[go_sem,<- hz,hzl,vcells_agg,hcl,hst,l0,l1,b2,c0,c1,ne_eq,not_true_eq_false,not_false_eq_true]
   exact hgr
  ·simp -implicitDefEqProofs only[go_sem,<- hz,hzl,vcells_agg,hcl,hst,l0,l1,b2,c0,ne_eq,not_true_eq_false,not_false_eq_true]
   exact hgr
theorem r_PullY (hR:HRep σ A H) (h:Inv H fl pl fc (fun _=>False)) (hf:H.freeTop=true):Runs G0 [] 175 [.ptr (some (A .buddy,0))] σ fun r s=>r=.int .i64 0 /\ HRep s A H.cutTop:=by
 have ok:=h.ok
 obtain ⟨hsd,⟨fl',hI⟩,sm,_,_,_,_⟩:=h.cutTop hf
 refine runs_body g175 rfl ?_
 have hff:=hf
 unfold Heap.freeTop at hff
 simp only [Bool.and_eq_true,decide_eq_true_eq] at hff
 obtain ⟨⟨hr,hk0⟩,hord⟩:=hff
 obtain ⟨v,σ1,⟨hv,hs⟩,hr1⟩:=r_top hR ok hr
 subst hv hs
 have ht:=topp_add H hr
 have hpos:=pow_pos' H.order
 obtain ⟨v,σ2,⟨hv,g2⟩,hr2⟩:=r_At hR ok (p:=H.topp) (by omega)
 subst hv
 have h0:=hR.cell (s:=.buddy) trivial (i:=4) (show 4<6 by omega)
 rw [show H.cell A .buddy 4=.ptr (some (A .map,0)) from rfl] at h0
 obtain ⟨pg,hpg⟩:∃ pg,pg=H.page H.topp:=⟨_,rfl⟩
 rw [<- hpg] at hr2
 have w2:GW σ2:=by
  obtain ⟨v',s',⟨_,hh⟩,hr'⟩:=(r_At hR ok (p:=H.topp) (by omega)).gw hR.gw
  obtain ⟨f0,hf0⟩:=hr2
  obtain ⟨f1,hf1⟩:=hr'
  have e:=(hf0 (max f0 f1) (by omega)).symm.trans (hf1 (max f0 f1) (by omega))
  simp only [Option.some.injEq,Prod.mk.injEq] at e
  rw [e.2];exact hh
 have R2:=hR.grow g2 w2
 obtain ⟨z,hz⟩:∃ z,z=[V.int .i64 0,.int .i64 0,.int .i64 0,.int .i64 0,.int .i64 0,.int .i64 0,.int .i64 0,.int .u64 0,.int .u64 0,.int .u64 0,.int .u64 0]:=⟨_,rfl⟩
 have hzl:z.length=11:=by rw [hz];rfl
 have hcl:pg.cells.length=11:=rfl
 have hst:=new_store (σ:=σ2) (z:=z) (vs:=pg.cells) (n:=11) (by rw [hcl];exact Nat.le_refl _) rfl
 have L:=Lcl.lay σ2 11 z pg.cells hcl
 have R3:=R2.lay (n:=11) (z:=z) (vs:=pg.cells) (by rw [hcl];omega) rfl
 have l0:=L.cell (i:=0) (by omega)
 have l1:=L.cell (i:=1) (by omega)
 rw [show lst pg.cells 0=.int .i64 pg.kind from rfl] at l0
 rw [show lst pg.cells 1=.int .i64 pg.order from rfl] at l1
 have b2:=R3.cell (s:=.buddy) trivial (i:=2) (show 2<6 by omega)
 rw [show H.cell A .buddy 2=.int .i64 H.order from rfl] at b2
 have htp:(H.np-2^H.order:Nat)=H.topp:=rfl
 rw [htp] at hr1
 have hgr:Grow σ1 (σ2.lay 11 z pg.cells):=g2.trans (Grow.lay _ _ _ _)
 rw [<- hpg] at hk0 hord
 have ho:=ok.order_le
 obtain ⟨τ,hτ⟩:∃ τ,τ=σ2.lay 11 z pg.cells:=⟨_,rfl⟩
 rw [<- hτ] at hst L R3 l0 l1 b2 hgr
 obtain ⟨v,τ1,⟨hv,hs⟩,hra⟩:=r_address R3 ok (p:=H.topp) (by omega)
 subst hv hs
 obtain ⟨v,τ2,⟨R4,hv⟩,hrm⟩:=r_Remove R3 ok (Nat.le_refl H.order) hsd
 subst hv
 have b5:=R3.cell (s:=.buddy) trivial (i:=5) (show 5<6 by omega)
 rw [show H.cell A .buddy 5=.slice (some (A .lists,0)) (H.order+1) 1 from rfl] at b5
 have bl:=R3.cell (s:=.lists) trivial (i:=H.order) (show H.order<H.order+1 by omega)
 rw [show H.cell A .lists H.order=.ptr (some (A (.list H.order),0)) from rfl] at bl
 obtain ⟨G,hG⟩:∃ G,G=H.removed H.order (H.w64 (H.addr H.topp)) (H.w64 (H.addr H.topp+8)):=⟨_,rfl⟩
 have smr:G.Same H:=by rw [hG];exact same_removed _ _ _ _
 have hnx:H.w64 (H.addr H.topp)<18446744073709551616:=w64_lt ok _
 have okr:G.OK:=by rw [hG];exact ok_removed ok hnx
 have hcut:H.cutTop=G.run H.topp H.order 2:=by rw [hG];rfl
 rw [<- hG] at R4
 have e4:=smr.order
 obtain ⟨v,τ3,⟨R5,hv⟩,hrr⟩:=r_Run R4 okr (p:=H.topp) (k:=H.order) (kind:=2) (by rw [e4];exact Nat.le_refl _) (.inr rfl) (topp_al H hr) (by rw [smr.np];omega)
 subst hv
 have q4:=R4.cell (s:=.buddy) trivial (i:=4) (show 4<6 by omega)
 rw [show G.cell A .buddy 4=.ptr (some (A .map,0)) from rfl] at q4
 have q2:=R4.cell (s:=.buddy) trivial (i:=2) (show 2<6 by omega)
 rw [show G.cell A .buddy 2=.int .i64 G.order from rfl,e4] at q2
 have q5:=R4.cell (s:=.buddy) trivial (i:=5) (show 5<6 by omega)
 rw [show G.cell A .buddy 5=.slice (some (A .lists,0)) (G.order+1) 1 from rfl,e4] at q5
 have ql:=R4.cell (s:=.lists) trivial (i:=H.order) (show H.order<G.order+1 by omega)
 rw [show G.cell A .lists H.order=.ptr (some (A (.list H.order),0)) from rfl] at ql
 have r4:=R5.cell (s:=.buddy) trivial (i:=4) (show 4<6 by omega)
 rw [show (G.run H.topp H.order 2).cell A .buddy 4=.ptr (some (A .map,0)) from rfl] at r4
 have r2:=R5.cell (s:=.buddy) trivial (i:=2) (show 2<6 by omega)
 rw [show (G.run H.topp H.order 2).cell A .buddy 2=.int .i64 G.order from rfl,e4] at r2
 have d2:(0:Int) <= (H.order:Int) /\ (H.order:Int)<((H.order+1:Nat):Int):=by omega
 have hrr':Ret G0 [] 224 [.ptr (some (A .map,0)),.int .i64 H.topp,.int .i64 H.order,.int .i64 2] τ2 (.int .i64 0) τ3:=hrr
 simp -implicitDefEqProofs only[go_sem]
 refine runs_ret hr1 ?_
 simp -implicitDefEqProofs only[go_sem,h0]
 refine runs_ret hr2 ?_
 simp -implicitDefEqProofs only[go_sem,<- hz,hzl,vcells_agg,hcl,hst,l0,l1,b2,hk0,hord,b5,bl,d2,and_self,Int.toNat_natCast,Nat.mul_one,ne_eq,not_true_eq_false,not_false_eq_true]
 refine runs_ret hra ?_
 simp -implicitDefEqProofs only[go_sem,l0,l1,b2,b5,bl,q2,q4,q5,ql,d2,and_self,Int.toNat_natCast,Nat.mul_one]
 refine runs_ret hrm ?_
 simp -implicitDefEqProofs only[go_sem,l0,l1,b2,b5,bl,q2,q4,q5,ql,d2,and_self,Int.toNat_natCast,Nat.mul_one,ne_eq,not_true_eq_false,not_false_eq_true]
 refine runs_ret hrr' ?_
 simp -implicitDefEqProofs only[go_sem,q2,q4,r2,r4]
 rw [hcut];exact R5
end
noncomputable section
variable {σ σ':St} {A:Slot -> Nat} {H:Heap}
structure Shrunk (s:St) (A:Slot -> Nat) (H:Heap) (A':Slot -> Nat) (size':Slot -> Nat) (cell':Slot -> Nat -> V):Prop where
 rep:RepF s H.has A' size' cell'
 at':∀ t,(∀ k,t≠.words k) -> A' t=A t
 same:∀ t,t≠.map -> (∀ k,t≠.words k) -> (∀ k,t≠.set k) -> size' t=H.size t /\ cell' t=H.cell A t
 msize:size' .map=3
 mcell:cell' .map=over (H.cell A .map) 1 [.slice (some (A .pages,0)) H.less.np 11]
 sets:∀ k,k<H.order -> SetF H.has A' size' cell' k (H.less.nw k) (H.less.word k) /\ cell' (.set k) 0=.int .i64 (H.less.npair k)
theorem r_Shrink (hR:HRep σ A H) (ok:H.OK) (hr:0<H.regs):Runs G0 [] 176 [.ptr (some (A .map,0)),.int .i64 1] σ fun r s=>r=.int .i64 0 /\ ∃ A' size' cell',Shrunk s A H A' size' cell':=by
 refine runs_body g176 rfl ?_
 have ho:=ok.order_le
 have hpos:=pow_pos' H.order
 have hnp:=np_le ok
 have hl:=less_np H hr
 have c1:=hR.cell (s:=.map) trivial (i:=1) (show 1<3 by omega)
 have hpv:H.pagesV A=.slice (some (A .pages,0)) H.np 11:=by unfold Heap.pagesV;rw [if_pos (ok.pages hr)]
 rw [show H.cell A .map 1=H.pagesV A from rfl,hpv] at c1
 have c0:=hR.cell (s:=.map) trivial (i:=0) (show 0<3 by omega)
 rw [show H.cell A .map 0=.int .i64 H.order from rfl] at c0
 obtain ⟨v,s1,⟨hv,hs⟩,hr1⟩:=r_sizeF ho c0
 subst hv hs
 have n2:((2^H.order:Nat):Int)≠0:=by omega
 have e1:IntKind.i64.wrap (((H.np:Nat):Int).tdiv ((2^H.order:Nat):Int))=(H.regs:Int):=by
  rw [i64_div (by omega)]
  congr 1
  unfold Heap.np
  exact Nat.mul_div_cancel _ hpos
 have d1:¬ ((1:Int)<0):=by decide
 have d2:¬ ((H.regs:Int)<1):=by omega
 have e2:IntKind.i64.wrap (1*((2^H.order:Nat):Int))=((2^H.order:Nat):Int):=by rw [Int.one_mul];exact i64_nat (by omega)
 have e3:IntKind.i64.wrap ((H.np:Int)-((2^H.order:Nat):Int))=((H.less.np:Nat):Int):=by
  rw [i64_sub (by omega) (by omega)];congr 1;omega
 have e4:sliceV 11 (.slice (some (A .pages,0)) H.np 11) none (some (.int .i64 ((H.less.np:Nat):Int)))=some (.slice (some (A .pages,0)) H.less.np 11):=by
  rw [sliceV_hi (by omega) (by omega),Int.toNat_natCast]
 have hcs:(V.slice (some (A .pages,0)) H.less.np 11).cells=[.slice (some (A .pages,0)) H.less.np 11]:=rfl
 obtain ⟨s2,hst,R2,hn2⟩:=(repF hR).store (s:=.map) trivial (off:=1) (vs:=[.slice (some (A .pages,0)) H.less.np 11]) (show 1+1 <= 3 by omega) rfl
 have k1:=R2.cell_at (s:=.map) trivial (i:=1) (show 1<3 by omega)
 rw [upd_same] at k1
 rw [show over (H.cell A .map) 1 [.slice (some (A .pages,0)) H.less.np 11] 1=.slice (some (A .pages,0)) H.less.np 11 from rfl] at k1
 have hpr:=r_paired (order:=H.order) (N:=H.less.np) (b:=some (A .pages,0)) (e:=11) (nwo:=H.nw) (w:=H.word) (pv:=H.pairsV A) R2 (show H.has .map from trivial) (show 3=3 from rfl)
  (by rw [upd_same];rfl) (by rw [upd_same];rfl)
  (by
   unfold Heap.pairsV
   by_cases c:0<H.order
   ·rw [if_pos c];exact .inr rfl
   ·rw [if_neg c];exact .inl ⟨by omega,rfl⟩) ho (by omega)
  (fun hpo=>⟨hpo,rfl,fun k hk=>by rw [upd_ne (by simp)];rfl⟩)
  (fun k hk=>⟨hk,hk,rfl,by rw [upd_ne (by simp)];rfl,rfl,by rw [upd_ne (by simp)];rfl⟩)
  ok.word_lt
 obtain ⟨v,s3,⟨⟨A3,z3,c3,R3,hA3,hsame,hset⟩,hv⟩,hr3⟩:=hpr
 subst hv
 simp -implicitDefEqProofs only[go_sem,d1,c1]
 refine runs_ret hr1 ?_
 simp -implicitDefEqProofs only[go_sem,d1,c1,bin_quo,n2,ne_eq,not_false_eq_true,e1,d2]
 refine runs_ret hr1 ?_
 simp -implicitDefEqProofs only[go_sem,c1,e2,e3,e4,Option.map_some,Option.map_none,hcs,hst,List.length_cons,List.length_nil]
 refine runs_ret hr3 ?_
 simp -implicitDefEqProofs only[go_sem]
 have z3m:=hsame .map (by simp) (by simp)
 refine ⟨A3,z3,c3,R3,hA3,fun t h1 h2 h3=>?_,z3m.1,by rw [z3m.2,upd_same],fun k hk=>?_⟩
 ·obtain ⟨a,b⟩:=hsame t (fun k _=>h2 k) (fun k _=>h3 k)
  exact ⟨a,by rw [b,upd_ne h1]⟩
 ·obtain ⟨a,b⟩:=hset k hk
  exact ⟨a,b⟩
theorem r_Decommit {A':Slot -> Nat} {size':Slot -> Nat} {cell':Slot -> Nat -> V} (h:Shrunk σ A H A' size' cell') (ok:H.OK) (hr:0<H.regs):Runs G0 [] 177 [.ptr (some (A .space,0)),.int .i64 1] σ fun r s=>r=.int .i64 0 /\ HRep s A' H.less:=by
 refine runs_body g177 rfl ?_
 have R:=h.rep
 have hlim:=ok.limit_le
 have hrl:=ok.regs_le
 have aS:A' .space=A .space:=h.at' .space (by simp)
 have aP:A' .parts=A .parts:=h.at' .parts (by simp)
 obtain ⟨zS,cS⟩:=h.same .space (by simp) (by simp) (by simp)
 obtain ⟨zP,cP⟩:=h.same .parts (by simp) (by simp) (by simp)
 have hpt:H.has .parts:=ok.parts hr
 have hpv:H.partsV A=.slice (some (A .parts,0)) H.regs 1:=by unfold Heap.partsV;rw [if_pos (ok.parts hr)]
 have c4:=R.cell_at (s:=.space) trivial (i:=4) (by rw [zS];show 4<5;omega)
 rw [cS,aS,show H.cell A .space 4=H.partsV A from rfl,hpv] at c4
 have d0:¬ ((1:Int)<0):=by decide
 have d1:¬ ((H.regs:Int)<1):=by omega
 have e1:IntKind.i64.wrap ((H.regs:Int)-1)=((H.regs-1:Nat):Int):=i64_sub (b:=1) (by omega) (by omega)
 have e2:sliceV 1 (.slice (some (A .parts,0)) H.regs 1) (some (.int .i64 ((H.regs-1:Nat):Int))) none=some (.slice (some (A .parts,H.regs-1)) 1 1):=by
  rw [sliceV_lo (by omega) (by omega),Int.toNat_natCast,Nat.mul_one,Nat.zero_add]
  congr 2;omega
 have e3:sliceV 1 (.slice (some (A .parts,0)) H.regs 1) none (some (.int .i64 ((H.regs-1:Nat):Int)))=some (.slice (some (A .parts,0)) (H.regs-1) 1):=by
  rw [sliceV_hi (by omega) (by omega),Int.toNat_natCast]
 obtain ⟨s1,hs1,R1,_⟩:=R.store (s:=.parts) hpt (off:=H.regs-1) (vs:=[.slice none 0 0]) (by rw [zP];show H.regs-1+1 <= H.regs;omega) rfl
 rw [aP] at hs1
 have e4:clearSV σ [.slice none 0 0] (.slice (some (A .parts,H.regs-1)) 1 1)=some (.tuple [],s1):=by
  unfold clearSV
  simp only
  rw [if_neg (by omega),show repeatZ [V.slice none 0 0] 1=[.slice none 0 0] from rfl,hs1]
 have c4b:=R1.cell_at (s:=.space) trivial (i:=4) (by rw [zS];show 4<5;omega)
 rw [upd_ne (by simp),cS,aS,show H.cell A .space 4=H.partsV A from rfl,hpv] at c4b
 obtain ⟨s2,hs2,R2,_⟩:=R1.store (s:=.space) trivial (off:=4) (vs:=[.slice (some (A .parts,0)) (H.regs-1) 1]) (by rw [zS];show 4+1 <= 5;omega) rfl
 rw [aS] at hs2
 have hcs:(V.slice (some (A .parts,0)) (H.regs-1) 1).cells=[.slice (some (A .parts,0)) (H.regs-1) 1]:=rfl
 simp -implicitDefEqProofs only[go_sem,d0,d1,c4,e1,e2,e3,e4,c4b,Option.map_some,Option.map_none,hcs,hs2,List.length_cons,List.length_nil]
 refine R2.hrep ?_ ?_ ?_
 ·intro t ht
  cases t with
  |reg i=>exact Nat.lt_of_lt_of_le (show i<H.regs-1 from ht) (Nat.sub_le _ _)
  |_=>exact ht
 ·intro t ht
  have sm:∀ t,t≠.map -> (∀ k,t≠.words k) -> (∀ k,t≠.set k) -> H.less.size t <= H.size t -> H.less.size t <= size' t:=fun t h1 h2 h3 h4=>by rw [(h.same t h1 h2 h3).1];exact h4
  have hnp:=less_np H hr
  cases t with
  |map=>rw [h.msize];exact Nat.le_refl 3
  |set k=>rw [(h.sets k ht).1.s2];exact Nat.le_refl 2
  |words k=>rw [(h.sets k ht).1.sw];exact Nat.le_refl _
  |parts=>exact sm _ (by simp) (by simp) (by simp) (Nat.sub_le _ _)
  |pages=>exact sm _ (by simp) (by simp) (by simp) (by show H.less.np*11 <= H.np*11;have:=pow_pos' H.order;omega)
  |_=>exact sm _ (by simp) (by simp) (by simp) (Nat.le_refl _)
 ·intro t ht i hi
  have cm:∀ t,t≠.map -> (∀ k,t≠.words k) -> (∀ k,t≠.set k) -> cell' t=H.cell A t:=fun t h1 h2 h3=>(h.same t h1 h2 h3).2
  cases t with
  |map =>
   have hi3:i<3:=hi
   rw [upd_ne (by simp),upd_ne (by simp),h.mcell]
   have aP':=h.at' .pages (by simp)
   have aR':=h.at' .pairs (by simp)
   have pv:H.less.pagesV A'=.slice (some (A .pages,0)) H.less.np 11:=by
    unfold Heap.pagesV;rw [if_pos (show H.less.hasPages=true from ok.pages hr),aP']
   have qv:H.less.pairsV A'=H.pairsV A:=by unfold Heap.pairsV;rw [aR'];rfl
   show _=lst [.int .i64 H.order,H.less.pagesV A',H.less.pairsV A'] i
   rw [pv,qv]
   rcases (by omega:i=0 \/ i=1 \/ i=2) with rfl | rfl | rfl <;> rfl
  |set k =>
   have hi2:i<2:=hi
   rw [upd_ne (by simp),upd_ne (by simp)]
   obtain ⟨sf,s0⟩:=h.sets k ht
   rcases (by omega:i=0 \/ i=1) with rfl | rfl
   ·rw [s0];rfl
   ·rw [sf.c1];rfl
  |words k =>
   rw [upd_ne (by simp),upd_ne (by simp),(h.sets k ht).1.cw];rfl
  |parts =>
   have hi1:i<H.regs-1:=hi
   rw [upd_ne (by simp),upd_same]
   unfold over
   rw [if_neg (by omega),cm .parts (by simp) (by simp) (by simp)]
   show V.slice (some (A (.reg i),0)) H.rsz 1=.slice (some (A' (.reg i),0)) H.less.rsz 1
   rw [h.at' (.reg i) (by simp)];rfl
  |space =>
   have hi5:i<5:=hi
   rw [upd_same,upd_ne (by simp),cm .space (by simp) (by simp) (by simp)]
   have pv:H.less.partsV A'=.slice (some (A .parts,0)) (H.regs-1) 1:=by
    unfold Heap.partsV;rw [if_pos (show H.less.hasParts=true from ok.parts hr),aP];rfl
   show _=lst [.int .u64 H.base,.int .i64 H.limit,.int .i64 H.order,.int .u64 H.less.rsz,H.less.partsV A'] i
   rw [pv]
   rcases (by omega:i=0 \/ i=1 \/ i=2 \/ i=3 \/ i=4) with rfl | rfl | rfl | rfl | rfl <;> rfl
  |heap =>
   rw [upd_ne (by simp),upd_ne (by simp),cm _ (by simp) (by simp) (by simp)]
   show _=lst [.int .i32 H.lock,.int .u32 0,.int .u64 H.base,.int .i64 H.limit,.int .i64 H.order,.ptr (some (A' .pool,0)),.ptr (some (A' .slab,0))] i
   rw [h.at' .pool (by simp),h.at' .slab (by simp)];rfl
  |pool =>
   rw [upd_ne (by simp),upd_ne (by simp),cm _ (by simp) (by simp) (by simp)]
   show _=lst [.ptr (some (A' .space,0)),.ptr (some (A' .map,0)),.ptr (some (A' .buddy,0))] i
   rw [h.at' .space (by simp),h.at' .map (by simp),h.at' .buddy (by simp)];rfl
  |reg r =>
   rw [upd_ne (by simp),upd_ne (by simp),cm _ (by simp) (by simp) (by simp)];rfl
  |pages =>
   rw [upd_ne (by simp),upd_ne (by simp),cm _ (by simp) (by simp) (by simp)];rfl
  |pairs =>
   rw [upd_ne (by simp),upd_ne (by simp),cm _ (by simp) (by simp) (by simp)]
   show _=V.ptr (some (A' (.set i),0))
   rw [h.at' (.set i) (by simp)];rfl
  |buddy =>
   rw [upd_ne (by simp),upd_ne (by simp),cm _ (by simp) (by simp) (by simp)]
   show _=lst [.int .u64 H.base,.int .i64 H.limit,.int .i64 H.order,.ptr (some (A' .space,0)),.ptr (some (A' .map,0)),.slice (some (A' .lists,0)) (H.order+1) 1] i
   rw [h.at' .space (by simp),h.at' .map (by simp),h.at' .lists (by simp)];rfl
  |lists =>
   rw [upd_ne (by simp),upd_ne (by simp),cm _ (by simp) (by simp) (by simp)]
   show _=V.ptr (some (A' (.list i),0))
   rw [h.at' (.list i) (by simp)];rfl
  |list k =>
   rw [upd_ne (by simp),upd_ne (by simp),cm _ (by simp) (by simp) (by simp)]
   show _=lst [.ptr (some (A' .space,0)),.int .u64 (H.head k)] i
   rw [h.at' .space (by simp)];rfl
  |slab =>
   rw [upd_ne (by simp),upd_ne (by simp),cm _ (by simp) (by simp) (by simp)]
   show _=if i=0 then V.ptr (some (A' .pool,0)) else .int .i64 (H.part (i-1))
   rw [h.at' .pool (by simp)];rfl
end
noncomputable section
variable {σ σ':St} {A:Slot -> Nat} {H:Heap} {fl pl fc:Nat -> List Nat}
theorem freeTop_regs (hf:H.freeTop=true):0<H.regs:=by
 unfold Heap.freeTop at hf
 simp only [Bool.and_eq_true,decide_eq_true_eq] at hf
 exact hf.1.1
theorem less_order (G:Heap):G.less.order=G.order:=rfl
theorem less_base (G:Heap):G.less.base=G.base:=rfl
theorem less_limit (G:Heap):G.less.limit=G.limit:=rfl
theorem less_lock (G:Heap):G.less.lock=G.lock:=rfl
theorem less_page (G:Heap):G.less.page=G.page:=rfl
theorem less_regs (G:Heap):G.less.regs=G.regs-1:=rfl
theorem Inv.pulled (h:Inv H fl pl fc (fun _=>False)) (hf:H.freeTop=true):(∃ fl',Inv H.pulled fl' pl fc (fun _=>False)) /\ H.pulled.order=H.order /\ H.pulled.base=H.base /\ H.pulled.limit=H.limit /\ H.pulled.lock=H.lock /\ H.pulled.regs+1=H.regs ∧
  H.pulled.np=H.topp /\ (∀ x,x<H.topp -> H.pulled.page x=H.page x):=by
 obtain ⟨_,⟨fl',hI⟩,sm,lk,pg,tp,_⟩:=h.cutTop hf
 have hr:=freeTop_regs hf
 have hr':0<H.cutTop.regs:=by rw [sm.regs];exact hr
 have hnp:=sm.np
 have hl:=less_np H.cutTop hr'
 have ht:=topp_add H hr
 rw [sm.order,hnp] at hl
 have hnl:H.cutTop.less.np=H.topp:=by omega
 unfold Heap.pulled
 refine ⟨⟨fl',hI.less hr' fun x h1 h2=>tp x (by omega) (by rw [<- hnp];exact h2)⟩,?_,?_,?_,?_,?_,hnl,?_⟩
 ·rw [less_order];exact sm.order
 ·rw [less_base];exact sm.base
 ·rw [less_limit];exact sm.limit
 ·rw [less_lock];exact lk
 ·rw [less_regs,sm.regs];omega
 ·rw [less_page];exact pg
def trimN:Nat -> Heap -> Heap × Nat
 | 0,H=>(H,0)
 |n+1,H=>if H.freeTop=true then ((trimN n H.pulled).1,(trimN n H.pulled).2+1) else (H,0)
def trimF (H:Heap):Heap × Nat:=trimN H.regs H
structure Trimmed (H H':Heap):Prop where
 fine:Fine H'
 full:Full H -> Full H'
 order:H'.order=H.order
 base:H'.base=H.base
 limit:H'.limit=H.limit
 lock:H'.lock=H.lock
theorem trimN_keep:∀ (n:Nat) {H:Heap},Fine H -> Trimmed H (trimN n H).1 /\ (trimN n H).2 <= n /\ (trimN n H).1.regs+(trimN n H).2=H.regs:=by
 intro n
 induction n with
 |zero=>intro H hf;exact ⟨⟨hf,id,rfl,rfl,rfl,rfl⟩,Nat.le_refl _,rfl⟩
 |succ n ih =>
  intro H hF
  unfold trimN
  by_cases c:H.freeTop=true
  ·rw [if_pos c]
   obtain ⟨fl,pl,fc,hI⟩:=hF
   obtain ⟨⟨fl',hI'⟩,e1,e2,e3,e4,e5,e6,e7⟩:=hI.pulled c
   obtain ⟨t,hle,hsum⟩:=ih ⟨fl',pl,fc,hI'⟩
   have hr:=freeTop_regs c
   have ht:=topp_add H hr
   have hpos:=pow_pos' H.order
   refine ⟨⟨t.fine,fun hfu=>t.full fun x hx hk=>?_,t.order.trans e1,t.base.trans e2,t.limit.trans e3,t.lock.trans e4⟩,by simp only;omega,by simp only;omega⟩
   rw [e6] at hx
   rw [e7 x hx] at hk ⊢
   exact hfu x (by omega) hk
  ·rw [if_neg c];exact ⟨⟨hF,id,rfl,rfl,rfl,rfl⟩,Nat.zero_le _,rfl⟩
theorem r_PTrim (hR:HRep σ A H) (hF:Fine H):Runs G0 [] 128 [.ptr (some (A .pool,0))] σ fun r s=>r=.int .i64 (trimF H).2 /\ ∃ A',HRep s A' (trimF H).1 /\ A' .heap=A .heap:=by
 refine runs_body g128 rfl ?_
 simp -implicitDefEqProofs only[go_sem]
 obtain ⟨_,_,_,hI0⟩:=hF
 have hl64:H.regs <= 64:=Nat.le_trans hI0.ok.regs_le hI0.ok.limit_le
 refine aw_loop (fun (n:Nat) (fr:AM.Fr) (s:St)=>fr.defers=[] /\ fr.tmps.get 0=some (.ptr (some (A .pool,0))) /\ ∃ k:Nat,fr.tmps.get 3=some (.int .i64 k) /\ ∃ H' A',HRep s A' H' /\ Fine H' /\ A' .pool=A .pool /\ A' .heap=A .heap /\ H'.regs=n /\ k+n <= 64 ∧
  (trimF H).1=(trimN n H').1 /\ (trimF H).2=(trimN n H').2+k) ?_ H.regs ?_
 ·rintro n ⟨tm,ds⟩ s ⟨hd,t0,k,t3,H',A',R,⟨fl,pl,fc,hI⟩,hp,hh,hn,hk,e1,e2⟩
  simp only at hd t0 t3
  subst hd
  have c2:=R.cell (s:=.pool) trivial (i:=2) (show 2<3 by omega)
  rw [show H'.cell A' .pool 2=.ptr (some (A' .buddy,0)) from rfl,hp] at c2
  by_cases c:H'.freeTop=true
  ·obtain ⟨m,rfl⟩:∃ m,n=m+1:=⟨n-1,by have:=freeTop_regs c;omega⟩
   obtain ⟨v,s1,⟨hv,R1⟩,hr1⟩:=r_PullY R hI c
   subst hv
   obtain ⟨_,⟨flc,hIc⟩,sm,_⟩:=hI.cutTop c
   have hrc:0<H'.cutTop.regs:=by rw [sm.regs];exact freeTop_regs c
   obtain ⟨v,s2,⟨hv,A2,z2,d2,S2⟩,hr2⟩:=r_Shrink R1 hIc.ok hrc
   subst hv
   obtain ⟨v,s3,⟨hv,R3⟩,hr3⟩:=r_Decommit S2 hIc.ok hrc
   subst hv
   have p1:=R1.cell (s:=.pool) trivial (i:=1) (show 1<3 by omega)
   rw [show H'.cutTop.cell A' .pool 1=.ptr (some (A' .map,0)) from rfl,hp] at p1
   have zP:=S2.same .pool (by simp) (by simp) (by simp)
   have p0:=S2.rep.cell_at (s:=.pool) trivial (i:=0) (by rw [zP.1];show 0<3;omega)
   rw [zP.2,S2.at' .pool (by simp),hp,show H'.cutTop.cell A' .pool 0=.ptr (some (A' .space,0)) from rfl] at p0
   have ek:IntKind.i64.wrap ((k:Int)+1)=((k+1:Nat):Int):=i64_add (a:=k) (b:=1) (by omega)
   obtain ⟨⟨fl',hI'⟩,_,_,_,_,e5,_,_⟩:=hI.pulled c
   have f1:(trimN (m+1) H').1=(trimN m H'.pulled).1:=by rw [trimN,if_pos c]
   have f2:(trimN (m+1) H').2=(trimN m H'.pulled).2+1:=by rw [trimN,if_pos c]
   simp -implicitDefEqProofs only[go_sem,t0,t3,c2]
   refine runs_ret hr1 ?_
   simp -implicitDefEqProofs only[go_sem,t0,t3,p1]
   refine runs_ret hr2 ?_
   simp -implicitDefEqProofs only[go_sem,t0,t3,p0]
   refine runs_ret hr3 ?_
   simp -implicitDefEqProofs only[go_sem,t0,t3,ek]
   exact ⟨m,by omega,k+1,rfl,_,_,R3,⟨fl',pl,fc,hI'⟩,(S2.at' .pool (by simp)).trans hp,(S2.at' .heap (by simp)).trans hh,by show H'.pulled.regs=m;omega,by omega,by rw [e1,f1];rfl,by rw [e2,f2];show _=(trimN m H'.pulled).2+(k+1);omega⟩
  ·have cf:H'.freeTop=false:=by cases hx:H'.freeTop;rfl;exact (c hx).elim
   obtain ⟨v,s1,⟨hv,g1⟩,hr1⟩:=r_PullE R hI cf
   subst hv
   have w1:GW s1:=by
    obtain ⟨v',s',⟨_,hh⟩,hr'⟩:=(r_PullE R hI cf).gw R.gw
    obtain ⟨f0,hf0⟩:=hr1
    obtain ⟨f1,hf1⟩:=hr'
    have e:=(hf0 (max f0 f1) (by omega)).symm.trans (hf1 (max f0 f1) (by omega))
    simp only [Option.some.injEq,Prod.mk.injEq] at e
    rw [e.2];exact hh
   have f1:trimN n H'=(H',0):=by
    cases n with
    |zero=>rfl
    |succ n=>rw [trimN,if_neg c]
   have d9:¬ ((9:Int)=0):=by decide
   simp -implicitDefEqProofs only[go_sem,t0,t3,c2]
   refine runs_ret hr1 ?_
   simp -implicitDefEqProofs only[go_sem,t0,t3,d9]
   rw [e1,e2,f1]
   exact ⟨by simp,A',R.grow g1 w1,hh⟩
 ·simp -implicitDefEqProofs only[go_sem]
  exact ⟨0,rfl,H,A,hR,⟨_,_,_,hI0⟩,rfl,rfl,rfl,by omega,rfl,rfl⟩
def trimH (H:Heap):Heap × Nat:=((trimF (H.setLock 1)).1.setLock 0,(trimF (H.setLock 1)).2)
theorem Good.trim (g:Good H):Good (trimH H).1 /\ (trimH H).1.rsz=H.rsz /\ (trimH H).2 <= 64 /\ (trimH H).1.base=H.base /\ (trimH H).1.limit=H.limit /\ (trimH H).1.order=H.order:=by
 obtain ⟨fl,pl,fc,hI⟩:=g.fine
 have h1:=hI.setLock 1
 obtain ⟨t,hle,_⟩:=trimN_keep (H.setLock 1).regs ⟨fl,pl,fc,h1⟩
 have hl:(H.setLock 1).regs <= 64:=Nat.le_trans h1.ok.regs_le h1.ok.limit_le
 refine ⟨Good.setLock0 t.fine (t.full g.full),?_,by unfold trimH trimF;simp only;omega,t.base,t.limit,t.order⟩
 show 4096*2^(trimF (H.setLock 1)).1.order=4096*2^H.order
 have:(trimF (H.setLock 1)).1.order=H.order:=t.order
 rw [this]
theorem r_Trim (hR:HRep σ A H) (g:Good H):Runs G0 [] 74 [.ptr (some (A .heap,0))] σ fun r s=>r=.int .i64 (trimH H).2 /\ ∃ A',HRep s A' (trimH H).1 /\ A' .heap=A .heap:=by
 obtain ⟨fl,pl,fc,hI⟩:=g.fine
 have h1:=hI.setLock 1
 refine runs_body g74 rfl ?_
 obtain ⟨v,s1,⟨R1,hv⟩,hr1⟩:=r_lock hR g.lock
 subst hv
 obtain ⟨v,s2,⟨hv,A2,R2,hA⟩,hr2⟩:=r_PTrim R1 ⟨fl,pl,fc,h1⟩
 subst hv
 obtain ⟨t,_,_⟩:=trimN_keep (H.setLock 1).regs ⟨fl,pl,fc,h1⟩
 have hlk:(trimF (H.setLock 1)).1.lock=1:=t.lock
 obtain ⟨v,s3,⟨R3,hv⟩,hr3⟩:=r_unlock R2 hlk
 subst hv
 rw [hA] at hr3
 have c5:=R1.cell (s:=.heap) trivial (i:=5) (show 5<7 by omega)
 rw [show (H.setLock 1).cell A .heap 5=.ptr (some (A .pool,0)) from rfl] at c5
 simp -implicitDefEqProofs only[go_sem]
 refine runs_ret hr1 ?_
 simp -implicitDefEqProofs only[go_sem,c5]
 refine runs_ret hr2 ?_
 simp -implicitDefEqProofs only[go_sem,wpDefers_cons]
 refine ⟨.inr gUnlock,?_⟩
 refine runs_ret hr3 ?_
 simp -implicitDefEqProofs only[go_sem]
 exact ⟨rfl,A2,R3,hA⟩
end
noncomputable section
variable {H H':Heap} {S:AS}
end
noncomputable section
variable {σ:St}
def MayW (w d:Int):Prop:=1 <= w /\ w <= 16 /\ 0 <= d /\ d <= 64
end
noncomputable section
variable {σ σ':St}
theorem eqP_none (p:Nat × Nat):eqV .ptr (.ptr (some p)) (.ptr none)=some false:=rfl
theorem Wd.nought {ι:Type} (w:GW σ) (hw:Wid σ) (A:ι -> Nat) (c:ι -> Cont):Wd σ (fun _:ι=>False) A c where
 gw:=w
 wid:=hw
 not_wid h:=h.elim
 inj _ _ h:=h.elim
 hold _ h:=h.elim
 cut _ _ _ h:=h.elim
section
variable {ι κ:Type} {hasK:κ -> Prop} {AK:κ -> Nat} {cK:κ -> Cont}
theorem Wd.pad (h:Wd σ hasK AK cK) (A:ι -> Nat) (c:ι -> Cont):Wd σ (Sum.elim (fun _:ι=>False) hasK) (Sum.elim A AK) (Sum.elim c cK) where
 gw:=h.gw
 wid:=h.wid
 not_wid {i} hi:=by
  rcases i with i | i
  ·exact hi.elim
  ·exact h.not_wid hi
 inj i j hi hj e:=by
  rcases i with i | i
  ·exact hi.elim
  ·rcases j with j | j
   ·exact hj.elim
   ·exact congrArg _ (h.inj i j hi hj e)
 hold i hi:=by
  rcases i with i | i
  ·exact hi.elim
  ·exact h.hold i hi
 cut i j o hi hj hne ho hg:=by
  rcases i with i | i
  ·exact hi.elim
  ·rcases j with j | j
   ·exact hj.elim
   ·exact h.cut i j o hi hj (fun e=>hne (congrArg _ e)) ho hg
theorem Wd.callE {g:FuncId} {xs:List V} {P:V -> (ι -> Prop) -> (ι -> Nat) -> (ι -> Cont) -> Prop} (h:Wd σ hasK AK cK)
  (spec:∀ σ,GW σ -> Wid σ -> Runs G0 [] g xs σ fun v σ'=>∃ has' A' c',Wd σ' has' A' c' /\ P v has' A' c') :
  Runs G0 [] g xs σ fun v σ'=>∃ has' A' c',Wd σ' (Sum.elim has' hasK) (Sum.elim A' AK) (Sum.elim c' cK) /\ P v has' A' c' :=
 Wd.call (Γ:=G0) (Γ':=G0) (M:=[]) (fun _ _ h=>h) (fun _ h=>nomatch h) (h.pad (fun _=>0) fun _=>.map []) fun s w=>spec s w.gw w.wid
theorem Wd.call0 {g:FuncId} {xs:List V} {P:V -> Prop} (h:Wd σ hasK AK cK) (spec:∀ σ,GW σ -> Wid σ -> Runs G0 [] g xs σ fun v σ'=>P v /\ Wid σ') :
  Runs G0 [] g xs σ fun v σ'=>P v /\ Wd σ' hasK AK cK:=by
 refine (Wd.callE (ι:=Empty) (P:=fun v _ _ _=>P v) h fun s w hw=>((spec s w hw).gw w).mono ?_).mono ?_
 ·rintro v s' ⟨⟨hp,hw'⟩,w'⟩
  exact ⟨_,(fun _=>0),(fun _=>.map []),Wd.nought w' hw' _ _,hp⟩
 ·rintro v s' ⟨has',A',c',W,hp⟩
  exact ⟨hp,W.right⟩
theorem Wd.newHeap (h:Wd σ hasK AK cK) {b l o:Int} (hb0:0 <= b) (hb:b<18446744073709551616) :
  Runs G0 [] 16 [cfg b l o] σ fun v s=>(¬ MayC b l o -> v=.tuple [.ptr none,.int .i64 1] /\ Wd s hasK AK cK) ∧
   (MayC b l o -> ∃ A,v=.tuple [.ptr (some (A .heap,0)),.int .i64 0] /\ HC s A (heap0 b.toNat l.toNat o.toNat) hasK AK cK):=by
 by_cases hm:MayC b l o
 ·refine (Wd.callE (ι:=Slot) (P:=fun v has' A' c'=>v=.tuple [.ptr (some (A' .heap,0)),.int .i64 0] /\ has'=(heap0 b.toNat l.toNat o.toNat).has /\ c'=heapC (heap0 b.toNat l.toNat o.toNat) A') h fun s w hw=>((r_mallocNew0 (l:=l) (o:=o) hb0 hb w hw).mono ?_)).mono ?_
  ·rintro v s' ⟨_,m2⟩
   obtain ⟨A,hv,R⟩:=m2 hm
   exact ⟨_,A,_,hrep_wd R,hv,rfl,rfl⟩
  ·rintro v s' ⟨has',A',c',W,hv,rfl,rfl⟩
   exact ⟨fun h=>(h hm).elim,fun _=>⟨A',hv,W⟩⟩
 ·refine (Wd.call0 (P:=fun v=>v=.tuple [.ptr none,.int .i64 1]) h fun s w hw=>((r_mallocNew0 (l:=l) (o:=o) hb0 hb w hw).mono ?_)).mono ?_
  ·rintro v s' ⟨m1,_⟩
   obtain ⟨hv,g⟩:=m1 hm
   exact ⟨hv,hw.of_get (g.old _ (hw.lt w))⟩
  ·rintro v s' ⟨hv,W⟩
   exact ⟨fun _=>⟨hv,W⟩,fun h=>(hm h).elim⟩
end
section
variable {κ:Type} {hasK:κ -> Prop} {AK:κ -> Nat} {cK:κ -> Cont} {A:Slot -> Nat} {H:Heap} {B:AI -> Nat} {S:AS}
theorem HC.newArena (h:HC σ A H hasK AK cK) (ok:H.OK) {c:Nat} (hc:c<18446744073709551616) :
  Runs G0 [] 17 [.ptr (some (A .heap,0)),.int .u64 c] σ fun r s=>if c=0 then r=.tuple [.ptr none,.int .i64 1] /\ HC s A H hasK AK cK else if H.rsz<c then r=.tuple [.ptr none,.int .i64 3] /\ HC s A H hasK AK cK else ∃ b,r=.tuple [.ptr (some (b,0)),.int .i64 0] /\ ARx s A H (fun _=>b) (newA c) hasK AK cK:=by
 by_cases c0:c=0
 ·simp only [if_pos c0]
  refine (HC.call (H':=H) (P:=fun v A'=>v=.tuple [.ptr none,.int .i64 1] /\ A'=A) (Γ:=G0) (Γ':=G0) (M:=[]) (fun _ _ h=>h) (fun _ h=>nomatch h) h fun s R=>(r_arNew R ok hc).mono ?_).mono ?_
  ·intro v s' hh
   simp only [if_pos c0] at hh
   exact ⟨A,hh.2,hh.1,rfl⟩
  ·rintro v s' ⟨A',W,hv,rfl⟩
   exact ⟨hv,W⟩
 ·simp only [if_neg c0]
  by_cases c1:H.rsz<c
  ·simp only [if_pos c1]
   refine (HC.call (H':=H) (P:=fun v A'=>v=.tuple [.ptr none,.int .i64 3] /\ A'=A) (Γ:=G0) (Γ':=G0) (M:=[]) (fun _ _ h=>h) (fun _ h=>nomatch h) h fun s R=>(r_arNew R ok hc).mono ?_).mono ?_
   ·intro v s' hh
    simp only [if_neg c0,if_pos c1] at hh
    exact ⟨A,hh.2,hh.1,rfl⟩
   ·rintro v s' ⟨A',W,hv,rfl⟩
    exact ⟨hv,W⟩
  ·simp only [if_neg c1]
   have h1:Wd σ (Sum.elim (Sum.elim H.has fun _:AI=>False) hasK) (Sum.elim (Sum.elim A fun _=>0) AK) (Sum.elim (Sum.elim (heapC H A) fun _=>.map []) cK):=by
    refine Wd.sub h (fun k=>match k with | .inl (.inl s)=>.inl s | .inl (.inr u)=>.inl .heap | .inr k=>.inr k) ?_ ?_ ?_ ?_
    ·rintro ((k | k) | k) hk
     ·exact hk
     ·exact hk.elim
     ·exact hk
    ·rintro ((k | k) | k) ((j | j) | j) hk hj e <;> simp_all
    ·rintro ((k | k) | k) hk
     ·rfl
     ·exact hk.elim
     ·rfl
    ·rintro ((k | k) | k) hk
     ·exact .inl rfl
     ·exact hk.elim
     ·exact .inl rfl
   refine (Wd.call (Γ:=G0) (Γ':=G0) (M:=[]) (P:=fun v has' A' c'=>∃ b,v=.tuple [.ptr (some (b,0)),.int .i64 0] /\ has'=Sum.elim H.has (newA c).has /\ A'=Sum.elim A (fun _=>b) /\ c'=Sum.elim (heapC H A) ((newA c).cont (A .heap) fun _=>b)) (fun _ _ h=>h) (fun _ h=>nomatch h) h1 fun s w=>(r_arNew (wd_hrep w.left) ok hc).mono ?_).mono ?_
   ·intro v s' hh
    simp only [if_neg c0,if_neg c1] at hh
    obtain ⟨b,hv,R⟩:=hh
    exact ⟨_,_,_,R,b,hv,rfl,rfl,rfl⟩
   ·rintro v s' ⟨has',A',c',W,b,hv,rfl,rfl,rfl⟩
    exact ⟨b,hv,W⟩
end
theorem blkV_flat (l:List (Nat × Nat)) (n:Nat):((List.range n).map fun j=>blkV l (0+j)).all V.flat=true:=by
 rw [List.all_eq_true]
 intro v hv
 obtain ⟨j,_,rfl⟩:=List.mem_map.1 hv
 rfl
theorem r_ChunksW {ι:Type} [DecidableEq ι] {has:ι -> Prop} {A:ι -> Nat} {c:ι -> Cont} {B:AI -> Nat} {S:AS} (W:Wd σ has A c) (hS:S.OK) (h2:σ.cell (B .arena) 2=some (S.chunksV B))
  (hr:S.hasC=true -> Row σ (B .chunks) (S.chunks.length*2) (blkV S.chunks)) {i0:ι} (hs:¬ has i0) :
  Runs G0 [] 19 [.ptr (some (B .arena,0))] σ fun r s=>∃ b,r=listV S.chunks b /\ Grow σ s /\ σ.next <= b /\ (S.chunks≠[] -> Lcl s b (S.chunks.length*2) (blkV S.chunks)) ∧
   Wd s (fun i=>has i \/ (i=i0 /\ S.chunks≠[])) (updG A i0 b) (updG c i0 (.row (S.chunks.length*2) (blkV S.chunks))):=by
 by_cases hc:S.chunks=[]
 ·obtain ⟨q,z,hV⟩:∃ q z,S.chunksV B=.slice q 0 z:=by
   unfold AS.chunksV
   by_cases c:S.hasC=true
   ·rw [if_pos c,hc];exact ⟨_,_,rfl⟩
   ·rw [if_neg c];exact ⟨_,_,rfl⟩
  rw [hV] at h2
  refine (r_Chunks0 h2).mono ?_
  rintro r s ⟨rfl,rfl⟩
  refine ⟨s.next,by unfold listV;rw [if_pos hc],Grow.refl _,Nat.le_refl _,fun h=>(h hc).elim,?_⟩
  have hne:∀ i,has i -> i≠i0:=fun i h e=>hs (e▸h)
  refine W.sub id ?_ (fun _ _ _ _ e=>e) ?_ ?_
  ·rintro k (hk | ⟨_,hk⟩)
   ·exact hk
   ·exact (hk hc).elim
  ·rintro k (hk | ⟨_,hk⟩)
   ·rw [updG_ne (hne k hk)];rfl
   ·exact (hk hc).elim
  ·rintro k (hk | ⟨_,hk⟩)
   ·rw [updG_ne (hne k hk)];exact .inl rfl
   ·exact (hk hc).elim
 ·have hlen:0<S.chunks.length:=List.length_pos_iff.2 hc
  have hC:S.hasC=true:=by
   cases h:S.hasC with
   |true=>rfl
   |false=>exact (hc (hS.nil h)).elim
  have hV:S.chunksV B=.slice (some (B .chunks,0)) S.chunks.length 2:=by unfold AS.chunksV;rw [if_pos hC]
  rw [hV] at h2
  have hld:=(hr hC).load (off:=0) (k:=S.chunks.length*2) (by omega)
  refine (r_Chunks1 h2 hlen hS.few hld (blkV_flat _ _)).mono ?_
  rintro r s ⟨rfl,rfl⟩
  have hl:((List.range (S.chunks.length*2)).map fun j=>blkV S.chunks (0+j)).length=S.chunks.length*2:=by simp
  have hat:∀ i,i<S.chunks.length*2 -> lst ((List.range (S.chunks.length*2)).map fun j=>blkV S.chunks (0+j)) i=blkV S.chunks i:=by
   intro i hi
   unfold lst
   rw [List.getD_eq_getElem?_getD,List.getElem?_map,List.getElem?_range hi]
   simp
  refine ⟨σ.next,by unfold listV;rw [if_neg hc],Grow.new _ _,Nat.le_refl _,fun _=>?_,?_⟩
  ·have L:=Lcl.of_cells σ ((List.range (S.chunks.length*2)).map fun j=>blkV S.chunks (0+j))
   rw [hl] at L
   exact L.congr (Nat.le_refl _) hat
  ·have W1:=W.cells hs ((List.range (S.chunks.length*2)).map fun j=>blkV S.chunks (0+j))
   rw [hl] at W1
   refine W1.sub id ?_ (fun _ _ _ _ e=>e) (fun _ _=>rfl) ?_
   ·rintro k (hk | ⟨hk,_⟩)
    ·exact .inl hk
    ·exact .inr hk
   ·intro k hk
    by_cases ck:k=i0
    ·subst ck
     right
     exact ⟨_,_,_,_,updG_same,updG_same,Nat.le_refl _,hat⟩
    ·left;rw [updG_ne ck];exact (updG_ne ck).symm
end
noncomputable section
variable {σ σ':St}
theorem newA_ok {H:Heap} {c:Nat} (h:c <= H.rsz):ArOk H (newA c):=⟨(fun b hb=>nomatch (show b∈[] from hb)),List.nodup_nil,Nat.zero_le _,Nat.zero_lt_succ _,h,(fun _=>rfl),(fun _=>rfl)⟩
theorem good_heap0 {b l o:Nat} (h:MayC b l o):Good (heap0 b l o):=⟨⟨_,_,_,inv_heap0 h⟩,(fun x hx=>absurd hx (by rw [show (heap0 b l o).np=0*2^o from rfl,Nat.zero_mul];exact Nat.not_lt_zero x)),rfl⟩
theorem may_awake:MayC ((65536:Nat):Int) ((2:Nat):Int) ((1:Nat):Int):=by decide
theorem aw_tell:(allocA (heap0 65536 2 1) (newA 100) 1 1 false).2.2=(65536,0):=by kernel_rfl
theorem aw_chunks:(allocA (heap0 65536 2 1) (newA 100) 1 1 false).2.1.chunks=[(65536,128)]:=by kernel_rfl
theorem aw_used:(allocA (heap0 65536 2 1) (newA 100) 1 1 false).2.1.used=1:=by kernel_rfl
theorem aw_init:(allocA (heap0 65536 2 1) (newA 100) 1 1 false).2.1.init=false:=by kernel_rfl
theorem r_awakeA (w:GW σ) (hw:Wid σ):Runs G0 [] 15 [] σ fun v s=>v=.bool true /\ Wid s:=by
 refine runs_body g15 rfl ?_
 obtain ⟨v,s1,⟨_,m⟩,hr1⟩:=r_mallocNew0 (b:=((65536:Nat):Int)) (l:=((2:Nat):Int)) (o:=((1:Nat):Int)) (by omega) (by omega) w hw
 obtain ⟨A,rfl,R1⟩:=m may_awake
 have R1':HRep s1 A (heap0 65536 2 1):=R1
 have g0:=good_heap0 may_awake
 have ok0:=ok_heap0 may_awake
 obtain ⟨v,s2,hA,hr2⟩:=r_arNew R1' ok0 (c:=100) (by omega)
 rw [if_neg (by omega),if_neg (by decide)] at hA
 obtain ⟨b,rfl,R2⟩:=hA
 have ao:ArOk (heap0 65536 2 1) (newA 100):=newA_ok (by decide)
 obtain ⟨v,s3,⟨A3,B3,R3,hA3,hB3,hv3⟩,hr3⟩:=r_AllocT R2 g0 (ao.ok g0) (n:=1) (a:=1) (by omega) (by omega) false
 obtain ⟨g1,ao1⟩:=ao.alloc g0 (n:=1) (a:=1) (by omega) (by omega) false
 have c1:=aw_chunks
 have u1:=aw_used
 have i1:=aw_init
 have t1:=aw_tell
 obtain ⟨X,hX⟩:∃ X,X=allocA (heap0 65536 2 1) (newA 100) 1 1 false:=⟨_,rfl⟩
 rw [<- hX] at R3 hv3 g1 ao1 c1 u1 i1 t1
 obtain ⟨H1,S1,p1,e1⟩:=X
 simp only at R3 hv3 g1 ao1 c1 u1 i1 t1
 simp only [Prod.mk.injEq] at t1
 obtain ⟨rfl,rfl⟩:=t1
 subst hv3
 have hB:b=B3 .arena:=hB3.symm
 have hS:=ao1.ok g1
 obtain ⟨v,s4,⟨lb,hv4,gr4,_,L4,W4⟩,hr4⟩:=r_ChunksW (i0:=(.inr .marks:Slot ⊕ AI)) R3 hS (AR.c2 R3) (fun h=>Wd.row R3 (i:=(Sum.inr AI.chunks:Slot ⊕ AI)) h rfl) (by
  show ¬ (S1.marks.isSome=true)
  unfold AS.marks;rw [i1];simp)
 have hne:S1.chunks≠[]:=by rw [c1];simp
 have hv4':v=.slice (some (lb,0)) 1 2:=by rw [hv4];unfold listV;rw [if_neg hne,c1];rfl
 have R4:AR s4 A3 H1 B3 S1:=Wd.grow R3 gr4 W4.gw
 have k0:=(L4 hne).cell (i:=0) (by rw [c1];decide)
 have k1:=(L4 hne).cell (i:=1) (by rw [c1];decide)
 rw [c1] at k0 k1
 rw [show blkV [(65536,128)] 0=.int .u64 65536 from rfl] at k0
 rw [show blkV [(65536,128)] 1=.int .u64 128 from rfl] at k1
 obtain ⟨v5,s5,⟨hv5,hs5⟩,hr5⟩:=r_Used R4
 rw [hs5] at hr5
 rw [u1] at hv5
 obtain ⟨v6,s6,⟨hv6,gr6⟩,hr6⟩:=r_Held R4 hS
 have hv6':v6=.int .u64 128:=by rw [hv6,c1];rfl
 subst hv4' hv5 hv6'
 have hr1':Ret G0 [] 16 [.agg [.int .u64 65536,.int .i64 2,.int .i64 1]] σ _ s1:=hr1
 rw [<- hB] at hr4 hr5 hr6
 have hr2':Ret G0 [] 17 [.ptr (some (A .heap,0)),.int .u64 100] s1 _ s2:=hr2
 have hr3':Ret G0 [] 18 [.ptr (some (b,0)),.int .u64 1,.int .u64 1,.bool false] s2 (.tuple [.int .u64 65536,.int .i64 0]) s3:=hr3
 have hd:((1:Nat):Int)=1:=rfl
 have hd0:(0:Int) <= 0 /\ (0:Int)<1:=by decide
 have ht0:(0:Int).toNat=0:=rfl
 have f1:fillP [V.int .u64 0,.int .i64 0,.int .i64 0] [(0,1,V.int .u64 65536),(1,1,V.int .i64 2),(2,1,V.int .i64 1)]=some [V.int .u64 65536,.int .i64 2,.int .i64 1]:=rfl
 simp -implicitDefEqProofs only[go_sem,ne_eq,not_true_eq_false,not_false_eq_true,eqP_none,evalParts,f1]
 refine runs_ret hr1' ?_
 simp -implicitDefEqProofs only[go_sem,ne_eq,not_true_eq_false,not_false_eq_true,eqP_none]
 refine runs_ret hr2' ?_
 simp -implicitDefEqProofs only[go_sem,ne_eq,not_true_eq_false,not_false_eq_true,eqP_none]
 refine runs_ret hr3' ?_
 simp -implicitDefEqProofs only[go_sem,ne_eq,not_true_eq_false,not_false_eq_true,eqP_none]
 refine runs_ret hr4 ?_
 simp -implicitDefEqProofs only[go_sem,ne_eq,not_true_eq_false,not_false_eq_true,eqP_none,k0,k1,hd,hd0,ht0,and_self]
 refine runs_ret hr5 ?_
 simp -implicitDefEqProofs only[go_sem,hd,ne_eq,not_true_eq_false,not_false_eq_true,eqP_none]
 refine runs_ret hr6 ?_
 simp -implicitDefEqProofs only[go_sem,hd,ne_eq,not_true_eq_false,not_false_eq_true,eqP_none]
 exact (R4.wid).of_get (gr6.old _ (R4.wid.lt R4.gw))
end
noncomputable section
variable {σ σ':St} {A:Slot -> Nat} {B:AI -> Nat} {H H':Heap} {S S':AS}
theorem AR.heapCall {g:FuncId} {xs:List V} {v:V} (h:AR σ A H B S) (spec:∀ σ,HRep σ A H -> Runs G0 [] g xs σ fun r s=>r=v /\ ∃ A',HRep s A' H' /\ A' .heap=A .heap) :
  Runs G0 [] g xs σ fun r s=>r=v /\ ∃ A' B',AR s A' H' B' S /\ A' .heap=A .heap /\ B' .arena=B .arena:=by
 refine (HC.call (Γ:=G0) (Γ':=G0) (M:=[]) (H':=H') (P:=fun r A'=>r=v /\ A' .heap=A .heap) (fun _ _ h=>h) (fun _ h=>nomatch h) h fun s R=>(spec s R).mono ?_).mono ?_
 ·rintro r s' ⟨hr,A',R',hA⟩
  exact ⟨A',R',hr,hA⟩
 ·rintro r s' ⟨A',W,hr,hA⟩
  refine ⟨hr,A',B,?_,hA,rfl⟩
  unfold AR
  rw [hA];exact W
structure Does (g:FuncId) (xs:Nat -> Nat -> List V) (H:Heap) (S:AS) (H':Heap) (S':AS) (P:V -> Prop):Prop where
 run:∀ {κ:Type} {hasK:κ -> Prop} {AK:κ -> Nat} {cK:κ -> Cont} {σ:St} {A:Slot -> Nat} {B:AI -> Nat},ARx σ A H B S hasK AK cK →
  Runs G0 [] g (xs (A .heap) (B .arena)) σ fun r s=>P r /\ ∃ A' B',ARx s A' H' B' S' hasK AK cK /\ A' .heap=A .heap /\ B' .arena=B .arena
theorem Does.of {g:FuncId} {xs:Nat -> Nat -> List V} {P:V -> Prop} (spec:∀ {σ A B},AR σ A H B S -> Runs G0 [] g (xs (A .heap) (B .arena)) σ fun r s=>P r /\ ∃ A' B',AR s A' H' B' S' /\ A' .heap=A .heap /\ B' .arena=B .arena):Does g xs H S H' S' P:=by
 refine ⟨fun {κ hasK AK cK σ A B} h=>?_⟩
 refine (ARx.call (H':=H') (S':=S') (P:=fun r A' B'=>P r /\ A' .heap=A .heap /\ B' .arena=B .arena) h fun s R=>(spec R).mono ?_).mono ?_
 ·rintro r s' ⟨hr,A',B',R',h1,h2⟩
  exact ⟨A',B',R',hr,h1,h2⟩
 ·rintro r s' ⟨A',B',W,hr,h1,h2⟩
  exact ⟨hr,A',B',W,h1,h2⟩
theorem does_alloc (g:Good H) (hS:S.OK) {n a:Nat} (hn:n<18446744073709551616) (ha:a<18446744073709551616) (d:Bool) :
  Does 18 (fun _ ar=>[.ptr (some (ar,0)),.int .u64 n,.int .u64 a,.bool d]) H S (allocA H S n a d).1 (allocA H S n a d).2.1 (fun r=>r=.tuple [.int .u64 (allocA H S n a d).2.2.1,.int .i64 (allocA H S n a d).2.2.2]) :=
 Does.of fun h=>(r_AllocT h g hS hn ha d).mono fun r s ⟨A',B',R,h1,h2,hr⟩=>⟨hr,A',B',R,h1,h2⟩
theorem does_mark (hS:S.OK) (hm:MsOk S) (h1:S.made<10000000000000) (h2:S.ms.length <= 10000000000000) :
  Does 40 (fun _ ar=>[.ptr (some (ar,0))]) H S H (markA S) (fun r=>r=.int .i64 S.made) :=
 Does.of fun h=>(r_Mark h hS hm.nil hm.lt h1 h2).mono fun r s ⟨B',hr,R,hb⟩=>⟨hr,_,B',R,rfl,hb⟩
theorem does_reset (g:Good H) (hS:S.OK):Does 43 (fun _ ar=>[.ptr (some (ar,0))]) H S (freeAll H (cutL S 0)) (resetA S) (fun _=>True) :=
 Does.of fun h=>(r_Reset h g hS).mono fun r s R=>⟨trivial,_,_,R,rfl,rfl⟩
theorem does_relE (hm:MsOk S) {n:Int} (hno:∀ m∈S.ms,(m.n:Int)≠n):Does 42 (fun _ ar=>[.ptr (some (ar,0)),.int .i64 n]) H S H S (fun r=>r=.int .i64 9) :=
 Does.of fun h=>(r_ReleaseE h hm hno).mono fun r s ⟨hr,R⟩=>⟨hr,_,_,R,rfl,rfl⟩
theorem does_rel (g:Good H) (hS:S.OK) (hm:MsOk S) {pre suf:List Mk} {m:Mk} (hms:S.ms=pre++m :: suf) (hfew:S.ms.length <= 10000000000000) :
  Does 42 (fun _ ar=>[.ptr (some (ar,0)),.int .i64 m.n]) H S (freeAll H (cutL S m.chunks)) (relA S pre.length m) (fun r=>r=.int .i64 0) :=
 Does.of fun h=>(r_Release h g hS hm (i:=pre.length) hms hfew).mono fun r s ⟨hr,R⟩=>⟨hr,_,_,R,rfl,rfl⟩
theorem does_trim (g:Good H):Does 74 (fun hp _=>[.ptr (some (hp,0))]) H S (trimH H).1 S (fun r=>r=.int .i64 (trimH H).2) :=
 Does.of fun h=>AR.heapCall h fun s R=>(r_Trim R g).mono fun r s' ⟨hr,A',R',hA⟩=>⟨hr,A',R',hA⟩
theorem does_free (g:Good H) (a:Nat):Does 72 (fun hp _=>[.ptr (some (hp,0)),.int .u64 a]) H S (freeH H a) S (fun r=>r=.int .i64 ((H.setLock 1).freeF a).2):=by
 obtain ⟨_,_,_,hI⟩:=g.fine
 exact Does.of fun h=>AR.heapCall h fun s R=>(r_FreeF R hI g.lock a).mono fun r s' ⟨R',hr⟩=>⟨hr,_,R',rfl⟩
theorem does_malloc (g:Good H) {n:Nat} (hn:n<18446744073709551616) (d:Bool) :
  Does 71 (fun hp _=>[.ptr (some (hp,0)),.int .u64 n,.bool d]) H S (allocH H n 1 d).1 S (fun r=>r=.tuple [.int .u64 (allocH H n 1 d).2.1,.int .i64 (allocH H n 1 d).2.2]):=by
 obtain ⟨_,_,_,hI⟩:=g.fine
 refine Does.of fun {σ A B} h=>AR.heapCall h fun s R=>?_
 refine runs_body g71 rfl ?_
 obtain ⟨v,s1,⟨A1,R1,hA,hv⟩,hr1⟩:=r_AllocF R hI g.lock hn (a:=1) (by omega) d
 have hr1':Ret G0 [] 61 [.ptr (some (A .heap,0)),.int .u64 1,.int .u64 n,.bool d] s v s1:=hr1
 subst hv
 simp -implicitDefEqProofs only[go_sem]
 refine runs_ret hr1' ?_
 simp -implicitDefEqProofs only[go_sem]
 exact ⟨rfl,A1,R1,hA⟩
end
noncomputable section
variable {σ σ':St} {A:Slot -> Nat} {B:AI -> Nat} {H H':Heap} {S S':AS}
def nthI (w:Int) (L:Nat):Nat:=(if w.tmod L<0 then w.tmod L+L else w.tmod L).toNat
theorem nth_range {w:Int} {L:Nat} (hL:0<L):-(L:Int)<w.tmod L /\ w.tmod L<L:=by
 have h0:(0:Int)<L:=by omega
 refine ⟨?_,Int.tmod_lt_of_pos w h0⟩
 rcases Int.lt_or_le w 0 with c | c
 ·have h1:=Int.tmod_lt_of_pos (-w) h0
  rw [Int.neg_tmod] at h1
  omega
 ·have:=Int.tmod_nonneg (L:Int) c
  omega
theorem nthI_lt {w:Int} {L:Nat} (hL:0<L):nthI w L<L:=by
 have:=nth_range (w:=w) hL
 unfold nthI
 split <;> omega
theorem r_nth {w:Int} {L:Nat} (hL:0<L) (hb:L<1000000000000):Runs G0 [] 73 [.int .i64 w,.int .i64 L] σ fun r s=>r=.int .i64 (nthI w L) /\ s=σ:=by
 refine runs_body g73 rfl ?_
 have hr:=nth_range (w:=w) hL
 have n0:((L:Nat):Int)≠0:=by omega
 by_cases c:w.tmod L<0
 ·have e1:IntKind.i64.wrap (w.tmod L+(L:Int))=(nthI w L:Int):=by
   rw [wi64_id (by omega) (by omega)]
   unfold nthI
   rw [if_pos c];omega
  simp -implicitDefEqProofs only[go_sem,bin_rem,n0,ne_eq,not_false_eq_true,c,e1]
 ·have e1:w.tmod L=(nthI w L:Int):=by
   unfold nthI
   rw [if_neg c];omega
  have c':¬ ((nthI w L:Int)<0):=by omega
  simp -implicitDefEqProofs only[go_sem,bin_rem,n0,ne_eq,not_false_eq_true,e1,c']
theorem AR.boxes (h:AR σ A H B S) (l1 l2:List V):ARx ((σ.newCells l1).newCells l2) A H B S (fun _:Bool=>True) (fun b=>cond b (σ.next+1) σ.next) (fun b=>cond b (.row l2.length (lst l2)) (.row l1.length (lst l1))):=by
 have W0:=Wd.pad (ι:=Bool) h (fun _=>0) (fun _=>.map [])
 have W1:=W0.cells (i0:=.inl false) (fun h=>h) l1
 have W2:=W1.cells (i0:=.inl true) (by rintro (h | h);exact h;cases h) l2
 refine W2.sub (fun k=>match k with | .inl x=>.inr x | .inr b=>.inl b) ?_ ?_ ?_ ?_
 ·rintro (x | b) hk
  ·exact .inl (.inl hk)
  ·cases b
   ·exact .inl (.inr rfl)
   ·exact .inr rfl
 ·rintro (x | b) (y | c) _ _ e <;> simp_all
 ·rintro (x | b) hk
  ·show _=updG _ _ _ _;rw [updG_ne (by intro h;cases h),updG_ne (by intro h;cases h)];rfl
  ·cases b
   ·show _=updG _ _ _ _;rw [updG_ne (by intro h;cases h),updG_same];rfl
   ·show _=updG _ _ _ _;rw [updG_same];rfl
 ·rintro (x | b) hk
  ·left;show _=updG _ _ _ _;rw [updG_ne (by intro h;cases h),updG_ne (by intro h;cases h)];rfl
  ·cases b
   ·left;show _=updG _ _ _ _;rw [updG_ne (by intro h;cases h),updG_same];rfl
   ·left;show _=updG _ _ _ _;rw [updG_same];rfl
theorem ARx.drop {κ:Type} {hasK:κ -> Prop} {AK:κ -> Nat} {cK:κ -> Cont} (h:ARx σ A H B S hasK AK cK):AR σ A H B S:=h.left
def stV (st:List V) (hp ar:Nat):List V:=.ptr (some (hp,0)) :: .ptr (some (ar,0)) :: st
def opV (k w m:Int) (n a:Nat) (d:Bool) (x:V):List V:=[.int .i64 k,.int .i64 w,.int .i64 m,.int .u64 n,.int .u64 a,.bool d,x]
def spoilXs (st:List V) (k w m:Int) (n a:Nat) (d:Bool) (x:V):Nat -> Nat -> List V:=fun hp ar=>[.agg (stV st hp ar),.agg (opV k w m n a d x)]
abbrev BX (s:St) (A:Slot -> Nat) (H:Heap) (B:AI -> Nat) (S:AS) (l1 l2:List V) (q:Nat):Prop:=ARx s A H B S (fun _:Bool=>True) (fun b=>cond b (q+1) q) (fun b=>cond b (.row l2.length (lst l2)) (.row l1.length (lst l1)))
structure BXc (s:St) (q hp ar:Nat) (k w m:Int) (n a:Nat) (d:Bool):Prop where
 p0:s.cell q 0=some (.ptr (some (hp,0)))
 p1:s.cell q 1=some (.ptr (some (ar,0)))
 q0:s.cell (q+1) 0=some (.int .i64 k)
 q1:s.cell (q+1) 1=some (.int .i64 w)
 q3:s.cell (q+1) 3=some (.int .u64 n)
 q4:s.cell (q+1) 4=some (.int .u64 a)
 q5:s.cell (q+1) 5=some (.bool d)
theorem bxc {ι:Type} {has:ι -> Prop} {A:ι -> Nat} {c:ι -> Cont} {s:St} {st:List V} {hp ar q:Nat} {k w m:Int} {n a:Nat} {d:Bool} {x:V} (hst:st.length=14) (W:Wd s has A c) {i0 i1:ι} (h0:has i0) (h1:has i1) (a0:A i0=q) (a1:A i1=q+1)
  (c0:c i0=.row (stV st hp ar).length (lst (stV st hp ar))) (c1:c i1=.row (opV k w m n a d x).length (lst (opV k w m n a d x))):BXc s q hp ar k w m n a d:=by
 have hl1:(stV st hp ar).length=16:=by simp only [stV,List.length_cons,hst]
 have hl2:(opV k w m n a d x).length=7:=rfl
 have f0:∀ j,j<16 -> s.cell q j=some (lst (stV st hp ar) j):=fun j hj=>by rw [<- a0];exact W.cell h0 c0 (by omega)
 have f1:∀ j,j<7 -> s.cell (q+1) j=some (lst (opV k w m n a d x) j):=fun j hj=>by rw [<- a1];exact W.cell h1 c1 (by omega)
 exact ⟨f0 0 (by omega),f0 1 (by omega),f1 0 (by omega),f1 1 (by omega),f1 3 (by omega),f1 4 (by omega),f1 5 (by omega)⟩
structure Spoils (H:Heap) (S:AS) (k w m:Int) (n a:Nat) (d:Bool) (H':Heap) (S':AS) (v e:Int):Prop where
 good:Good H'
 ain:ArIn H' S'
 rsz:H'.rsz=H.rsz
 lc:S'.chunks.length <= S.chunks.length+1
 lm:S'.made <= S.made+1
 ls:S'.ms.length <= S.ms.length+1
 does:∀ (st:List V) (x:V),st.length=14 -> x.flat=true -> Does 27 (spoilXs st k w m n a d x) H S H' S' (fun r=>r=.tuple [.int .u64 v,.int .i64 e])
section
variable {k w m:Int} {n a:Nat} {d:Bool}
theorem agg_cells (l:List V):(V.agg l).cells=l:=rfl
theorem newCells_next (σ:St) (l:List V):(σ.newCells l).next=σ.next+1:=rfl
theorem spoil_alloc (g:Good H) (ai:ArIn H S) (b1:S.chunks.length<5000000000000) (hn:n<18446744073709551616) (ha:a<18446744073709551616) (hk:k=1) :
  Spoils H S k w m n a d (allocA H S n a d).1 (allocA H S n a d).2.1 (allocA H S n a d).2.2.1 (allocA H S n a d).2.2.2:=by
 obtain ⟨g',ai',rz,lc,lm,ls⟩:=ai.alloc g b1 hn ha d
 refine ⟨g',ai',rz,lc,by omega,by rw [ls];omega,fun st x hst hx=>Does.of fun {σ A B} h=>?_⟩
 refine runs_body g27 rfl ?_
 have hl1:(stV st (A .heap) (B .arena)).length=16:=by simp only [stV,List.length_cons,hst]
 have hl2:(opV k w m n a d x).length=7:=rfl
 have W:=AR.boxes h (stV st (A .heap) (B .arena)) (opV k w m n a d x)
 obtain ⟨p0,p1,q0,q1,q3,q4,q5⟩:=bxc (q:=σ.next) (m:=m) hst W (i0:=.inr false) (i1:=.inr true) trivial trivial rfl rfl rfl rfl
 obtain ⟨v,s1,⟨hv,A',B',W',hA,hB⟩,hr1⟩:=(does_alloc g ai.ok hn ha d).run W
 subst hv
 have y:(k=1)=True:=eq_true hk
 simp -implicitDefEqProofs only[go_sem,spoilXs,agg_cells,newCells_next,hl1,hl2,p0,p1,q0,q1,q3,q4,q5,y]
 refine runs_ret hr1 ?_
 simp -implicitDefEqProofs only[go_sem]
 exact ⟨A',B',W'.drop,hA,hB⟩
theorem spoil_mark (g:Good H) (ai:ArIn H S) (b2:S.made<10000000000000) (b3:S.ms.length <= 10000000000000) (hk:k=2):Spoils H S k w m n a d H (markA S) S.made 0:=by
 refine ⟨g,ai.mark,rfl,Nat.le_succ _,Nat.le_refl _,by show (S.ms++[_]).length <= _;simp,fun st x hst hx=>Does.of fun {σ A B} h=>?_⟩
 have ew:IntKind.u64.wrap (S.made:Int)=(S.made:Int):=u64_nat (by omega)
 refine runs_body g27 rfl ?_
 have hl1:(stV st (A .heap) (B .arena)).length=16:=by simp only [stV,List.length_cons,hst]
 have hl2:(opV k w m n a d x).length=7:=rfl
 have W:=AR.boxes h (stV st (A .heap) (B .arena)) (opV k w m n a d x)
 obtain ⟨p0,p1,q0,q1,q3,q4,q5⟩:=bxc (q:=σ.next) (m:=m) hst W (i0:=.inr false) (i1:=.inr true) trivial trivial rfl rfl rfl rfl
 obtain ⟨v,s1,⟨hv,A',B',W',hA,hB⟩,hr1⟩:=(does_mark ai.ok ai.ms b2 b3).run W
 subst hv
 have n1:¬ k=1:=by omega
 have y:(k=2)=True:=eq_true hk
 simp -implicitDefEqProofs only[go_sem,spoilXs,agg_cells,newCells_next,hl1,hl2,p0,p1,q0,q1,q3,q4,q5,n1,y]
 refine runs_ret hr1 ?_
 simp -implicitDefEqProofs only[go_sem,ew]
 exact ⟨A',B',W'.drop,hA,hB⟩
theorem spoil_relE (g:Good H) (ai:ArIn H S) (hno:∀ m∈S.ms,(m.n:Int)≠w) (hk:k=3):Spoils H S k w m n a d H S 0 9:=by
 refine ⟨g,ai,rfl,Nat.le_succ _,Nat.le_succ _,Nat.le_succ _,fun st x hst hx=>Does.of fun {σ A B} h=>?_⟩
 refine runs_body g27 rfl ?_
 have hl1:(stV st (A .heap) (B .arena)).length=16:=by simp only [stV,List.length_cons,hst]
 have hl2:(opV k w m n a d x).length=7:=rfl
 have W:=AR.boxes h (stV st (A .heap) (B .arena)) (opV k w m n a d x)
 obtain ⟨p0,p1,q0,q1,q3,q4,q5⟩:=bxc (q:=σ.next) (m:=m) hst W (i0:=.inr false) (i1:=.inr true) trivial trivial rfl rfl rfl rfl
 obtain ⟨v,s1,⟨hv,A',B',W',hA,hB⟩,hr1⟩:=(does_relE ai.ms hno).run W
 subst hv
 have n1:¬ k=1:=by omega
 have n2:¬ k=2:=by omega
 have y:(k=3)=True:=eq_true hk
 simp -implicitDefEqProofs only[go_sem,spoilXs,agg_cells,newCells_next,hl1,hl2,p0,p1,q0,q1,q3,q4,q5,n1,n2,y]
 refine runs_ret hr1 ?_
 simp -implicitDefEqProofs only[go_sem]
 exact ⟨A',B',W'.drop,hA,hB⟩
theorem spoil_rel (g:Good H) (ai:ArIn H S) (b3:S.ms.length <= 10000000000000) {pre suf:List Mk} {mk:Mk} (hms:S.ms=pre++mk :: suf) (hw:w=mk.n) (hk:k=3):Spoils H S k w m n a d (freeAll H (cutL S mk.chunks)) (relA S pre.length mk) 0 0:=by
 obtain ⟨g',sm,_,_⟩:=freeAll_live (cutL S mk.chunks) g
 subst hw
 refine ⟨g',(ai.release hms).heap (Same.rsz sm),Same.rsz sm,?_,Nat.le_succ _,?_,fun st x hst hx=>Does.of fun {σ A B} h=>?_⟩
 ·show (S.chunks.take _).length <= _
  rw [List.length_take];omega
 ·show (S.ms.take _).length <= _
  rw [List.length_take];omega
 refine runs_body g27 rfl ?_
 have hl1:(stV st (A .heap) (B .arena)).length=16:=by simp only [stV,List.length_cons,hst]
 have hl2:(opV k mk.n m n a d x).length=7:=rfl
 have W:=AR.boxes h (stV st (A .heap) (B .arena)) (opV k mk.n m n a d x)
 obtain ⟨p0,p1,q0,q1,q3,q4,q5⟩:=bxc (q:=σ.next) (m:=m) hst W (i0:=.inr false) (i1:=.inr true) trivial trivial rfl rfl rfl rfl
 obtain ⟨v,s1,⟨hv,A',B',W',hA,hB⟩,hr1⟩:=(does_rel g ai.ok ai.ms hms b3).run W
 subst hv
 have n1:¬ k=1:=by omega
 have n2:¬ k=2:=by omega
 have y:(k=3)=True:=eq_true hk
 simp -implicitDefEqProofs only[go_sem,spoilXs,agg_cells,newCells_next,hl1,hl2,p0,p1,q0,q1,q3,q4,q5,n1,n2,y]
 refine runs_ret hr1 ?_
 simp -implicitDefEqProofs only[go_sem]
 exact ⟨A',B',W'.drop,hA,hB⟩
theorem spoil_reset (g:Good H) (ai:ArIn H S) (hk:k=4):Spoils H S k w m n a d (freeAll H (cutL S 0)) (resetA S) 0 0:=by
 obtain ⟨g',sm,_,_⟩:=freeAll_live (cutL S 0) g
 refine ⟨g',ai.reset.heap (Same.rsz sm),Same.rsz sm,Nat.zero_le _,Nat.le_succ _,Nat.zero_le _,fun st x hst hx=>Does.of fun {σ A B} h=>?_⟩
 refine runs_body g27 rfl ?_
 have hl1:(stV st (A .heap) (B .arena)).length=16:=by simp only [stV,List.length_cons,hst]
 have hl2:(opV k w m n a d x).length=7:=rfl
 have W:=AR.boxes h (stV st (A .heap) (B .arena)) (opV k w m n a d x)
 obtain ⟨p0,p1,q0,q1,q3,q4,q5⟩:=bxc (q:=σ.next) (m:=m) hst W (i0:=.inr false) (i1:=.inr true) trivial trivial rfl rfl rfl rfl
 obtain ⟨v,s1,⟨hv,A',B',W',hA,hB⟩,hr1⟩:=(does_reset g ai.ok).run W
 have n1:¬ k=1:=by omega
 have n2:¬ k=2:=by omega
 have n3:¬ k=3:=by omega
 have y:(k=4)=True:=eq_true hk
 simp -implicitDefEqProofs only[go_sem,spoilXs,agg_cells,newCells_next,hl1,hl2,p0,p1,q0,q1,q3,q4,q5,n1,n2,n3,y]
 refine runs_ret hr1 ?_
 simp -implicitDefEqProofs only[go_sem]
 exact ⟨A',B',W'.drop,hA,hB⟩
theorem spoil_malloc (g:Good H) (ai:ArIn H S) (hn:n<18446744073709551616) (hk:k=5):Spoils H S k w m n a d (allocH H n 1 d).1 S (allocH H n 1 d).2.1 (allocH H n 1 d).2.2:=by
 obtain ⟨hi,g'⟩:=g.alloc hn (a:=1) (by omega) d
 have rz:(allocH H n 1 d).1.rsz=H.rsz:=by
  revert hi
  generalize allocH H n 1 d=r
  intro hi
  cases hi with
  |ok _ _ gv=>unfold Heap.rsz;rw [gv.order]
  |_=>rfl
 refine ⟨g',ai.heap rz,rz,Nat.le_succ _,Nat.le_succ _,Nat.le_succ _,fun st x hst hx=>Does.of fun {σ A B} h=>?_⟩
 refine runs_body g27 rfl ?_
 have hl1:(stV st (A .heap) (B .arena)).length=16:=by simp only [stV,List.length_cons,hst]
 have hl2:(opV k w m n a d x).length=7:=rfl
 have W:=AR.boxes h (stV st (A .heap) (B .arena)) (opV k w m n a d x)
 obtain ⟨p0,p1,q0,q1,q3,q4,q5⟩:=bxc (q:=σ.next) (m:=m) hst W (i0:=.inr false) (i1:=.inr true) trivial trivial rfl rfl rfl rfl
 obtain ⟨v,s1,⟨hv,A',B',W',hA,hB⟩,hr1⟩:=(does_malloc g hn d).run W
 subst hv
 have n1:¬ k=1:=by omega
 have n2:¬ k=2:=by omega
 have n3:¬ k=3:=by omega
 have n4:¬ k=4:=by omega
 have y:(k=5)=True:=eq_true hk
 simp -implicitDefEqProofs only[go_sem,spoilXs,agg_cells,newCells_next,hl1,hl2,p0,p1,q0,q1,q3,q4,q5,n1,n2,n3,n4,y]
 refine runs_ret hr1 ?_
 simp -implicitDefEqProofs only[go_sem]
 exact ⟨A',B',W'.drop,hA,hB⟩
theorem spoil_trim (g:Good H) (ai:ArIn H S) (hk:k=8):Spoils H S k w m n a d (trimH H).1 S (trimH H).2 0:=by
 obtain ⟨g',rz,hle,_⟩:=g.trim
 refine ⟨g',ai.heap rz,rz,Nat.le_succ _,Nat.le_succ _,Nat.le_succ _,fun st x hst hx=>Does.of fun {σ A B} h=>?_⟩
 have ew:IntKind.u64.wrap ((trimH H).2:Int)=((trimH H).2:Int):=u64_nat (by omega)
 refine runs_body g27 rfl ?_
 have hl1:(stV st (A .heap) (B .arena)).length=16:=by simp only [stV,List.length_cons,hst]
 have hl2:(opV k w m n a d x).length=7:=rfl
 have W:=AR.boxes h (stV st (A .heap) (B .arena)) (opV k w m n a d x)
 obtain ⟨p0,p1,q0,q1,q3,q4,q5⟩:=bxc (q:=σ.next) (m:=m) hst W (i0:=.inr false) (i1:=.inr true) trivial trivial rfl rfl rfl rfl
 obtain ⟨v,s1,⟨hv,A',B',W',hA,hB⟩,hr1⟩:=(does_trim g).run W
 subst hv
 have n1:¬ k=1:=by omega
 have n2:¬ k=2:=by omega
 have n3:¬ k=3:=by omega
 have n4:¬ k=4:=by omega
 have n5:¬ k=5:=by omega
 have n6:¬ k=6:=by omega
 have y:(k=8)=True:=eq_true hk
 simp -implicitDefEqProofs only[go_sem,spoilXs,agg_cells,newCells_next,hl1,hl2,p0,p1,q0,q1,q3,q4,q5,n1,n2,n3,n4,n5,n6,y]
 refine runs_ret hr1 ?_
 simp -implicitDefEqProofs only[go_sem,ew]
 exact ⟨A',B',W'.drop,hA,hB⟩
theorem spoil_none (g:Good H) (ai:ArIn H S) (hk:k≠1 /\ k≠2 /\ k≠3 /\ k≠4 /\ k≠5 /\ k≠6 /\ k≠8):Spoils H S k w m n a d H S 0 0:=by
 refine ⟨g,ai,rfl,Nat.le_succ _,Nat.le_succ _,Nat.le_succ _,fun st x hst hx=>Does.of fun {σ A B} h=>?_⟩
 refine runs_body g27 rfl ?_
 have hl1:(stV st (A .heap) (B .arena)).length=16:=by simp only [stV,List.length_cons,hst]
 have hl2:(opV k w m n a d x).length=7:=rfl
 have W:=AR.boxes h (stV st (A .heap) (B .arena)) (opV k w m n a d x)
 obtain ⟨p0,p1,q0,q1,q3,q4,q5⟩:=bxc (q:=σ.next) (m:=m) hst W (i0:=.inr false) (i1:=.inr true) trivial trivial rfl rfl rfl rfl
 have n1:¬ k=1:=by omega
 have n2:¬ k=2:=by omega
 have n3:¬ k=3:=by omega
 have n4:¬ k=4:=by omega
 have n5:¬ k=5:=by omega
 have n6:¬ k=6:=by omega
 have n8:¬ k=8:=by omega
 simp -implicitDefEqProofs only[go_sem,spoilXs,agg_cells,newCells_next,hl1,hl2,p0,p1,q0,q1,q3,q4,q5,n1,n2,n3,n4,n5,n6,n8]
 exact ⟨A,B,W.drop,rfl,rfl⟩
theorem live_told (g:Good H) {s:St} {l1 l2:List V} {q:Nat} (W:BX s A H B S l1 l2 q):Runs G0 [] 41 [.ptr (some (A .heap,0))] s fun r s'=>∃ b,r=listV (liveL H) b ∧
  ARx s' A H B S (Sum.elim (fun _:Bool=>True) fun _:Unit=>liveL H≠[]) (Sum.elim (fun b=>cond b (q+1) q) fun _=>b) (Sum.elim (fun b=>cond b (.row l2.length (lst l2)) (.row l1.length (lst l1))) fun _=>.row ((liveL H).length*2) (blkV (liveL H))):=by
 have h:HC s A H (Sum.elim S.has fun _:Bool=>True) (Sum.elim B fun b=>cond b (q+1) q) (Sum.elim (S.cont (A .heap) B) fun b=>cond b (.row l2.length (lst l2)) (.row l1.length (lst l1))):=by
  refine Wd.sub W (fun k=>match k with | .inl s=>.inl (.inl s) | .inr (.inl x)=>.inl (.inr x) | .inr (.inr b)=>.inr b) ?_ ?_ ?_ ?_
  ·rintro (k | k | k) hk <;> exact hk
  ·rintro (k | k | k) (j | j | j) _ _ e <;> simp_all
  ·rintro (k | k | k) _ <;> rfl
  ·rintro (k | k | k) _ <;> exact .inl rfl
 refine (LW.live h fun s R=>r_LiveL R g).mono ?_
 rintro r s' ⟨b,hr,W'⟩
 refine ⟨b,hr,Wd.sub W' (fun k=>match k with | .inl (.inl s)=>.inl (.inl s) | .inl (.inr x)=>.inr (.inl x) | .inr (.inl c)=>.inr (.inr c) | .inr (.inr u)=>.inl (.inr u)) ?_ ?_ ?_ ?_⟩
 ·rintro ((k | k) | (k | k)) hk <;> exact hk
 ·rintro ((k | k) | (k | k)) ((j | j) | (j | j)) _ _ e <;> simp_all
 ·rintro ((k | k) | (k | k)) _ <;> rfl
 ·rintro ((k | k) | (k | k)) _ <;> exact .inl rfl
theorem liveL_few (g:Good H):(liveL H).length <= 262144:=by
 obtain ⟨_,_,_,hI⟩:=g.fine
 have h1:=np_few hI.ok
 have h2:=liveTo_len H H.np
 show (liveTo H H.np).length <= _
 omega
theorem spoil_free (g:Good H) (ai:ArIn H S) (hk:k=6):∃ H' e,Spoils H S k w m n a d H' S 0 e:=by
 by_cases hL:liveL H=[]
 ·refine ⟨H,0,g,ai,rfl,Nat.le_succ _,Nat.le_succ _,Nat.le_succ _,fun st x hst hx=>Does.of fun {σ A B} h=>?_⟩
  refine runs_body g27 rfl ?_
  have hl1:(stV st (A .heap) (B .arena)).length=16:=by simp only [stV,List.length_cons,hst]
  have hl2:(opV k w m n a d x).length=7:=rfl
  have W:=AR.boxes h (stV st (A .heap) (B .arena)) (opV k w m n a d x)
  obtain ⟨p0,p1,q0,q1,q3,q4,q5⟩:=bxc (q:=σ.next) (m:=m) hst W (i0:=.inr false) (i1:=.inr true) trivial trivial rfl rfl rfl rfl
  obtain ⟨v,s1,⟨b,hv,W1⟩,hr1⟩:=live_told g W
  have hv':v=.slice none 0 0:=by rw [hv,hL];rfl
  subst hv'
  have n1:¬ k=1:=by omega
  have n2:¬ k=2:=by omega
  have n3:¬ k=3:=by omega
  have n4:¬ k=4:=by omega
  have n5:¬ k=5:=by omega
  have y:(k=6)=True:=eq_true hk
  have d0:¬ ((0:Int)<((0:Nat):Int)):=by omega
  simp -implicitDefEqProofs only[go_sem,spoilXs,agg_cells,newCells_next,hl1,hl2,p0,p1,q0,q1,q3,q4,q5,n1,n2,n3,n4,n5,y]
  refine runs_ret hr1 ?_
  simp -implicitDefEqProofs only[go_sem,d0]
  exact ⟨A,B,W1.drop,rfl,rfl⟩
 ·obtain ⟨L,hLL⟩:∃ L,L=(liveL H).length:=⟨_,rfl⟩
  have hpos:0<L:=by rw [hLL];exact List.length_pos_iff.2 hL
  have hfew:=liveL_few g
  rw [<- hLL] at hfew
  have hi:=nthI_lt (w:=w) hpos
  obtain ⟨i,hid⟩:∃ i,i=nthI w L:=⟨_,rfl⟩
  rw [<- hid] at hi
  obtain ⟨t,ht⟩:∃ t,(liveL H).getD i (0,0)=t:=⟨_,rfl⟩
  obtain ⟨fr,g'⟩:=g.free t.1
  refine ⟨freeH H t.1,((H.setLock 1).freeF t.1).2,g',ai.heap (Same.rsz fr.same),Same.rsz fr.same,Nat.le_succ _,Nat.le_succ _,Nat.le_succ _,fun st x hst hx=>Does.of fun {σ A B} h=>?_⟩
  refine runs_body g27 rfl ?_
  have hl1:(stV st (A .heap) (B .arena)).length=16:=by simp only [stV,List.length_cons,hst]
  have hl2:(opV k w m n a d x).length=7:=rfl
  have W:=AR.boxes h (stV st (A .heap) (B .arena)) (opV k w m n a d x)
  obtain ⟨p0,p1,q0,q1,q3,q4,q5⟩:=bxc (q:=σ.next) (m:=m) hst W (i0:=.inr false) (i1:=.inr true) trivial trivial rfl rfl rfl rfl
  obtain ⟨v,s1,⟨b,hv,W1⟩,hr1⟩:=live_told g W
  have hv':v=.slice (some (b,0)) L 2:=by rw [hv];unfold listV;rw [if_neg hL, <- hLL]
  subst hv'
  obtain ⟨P0,P1,Q0,Q1,_,_,_⟩:=bxc (q:=σ.next) (m:=m) hst W1 (i0:=.inr (.inl false)) (i1:=.inr (.inl true)) trivial trivial rfl rfl rfl rfl
  obtain ⟨v2,s2,⟨hv2,hs2⟩,hr2⟩:=r_nth (σ:=s1) (w:=w) hpos (by omega)
  rw [<- hid] at hv2
  subst hv2
  rw [hs2] at hr2
  have hc:=Wd.cell W1 (i:=Sum.inr (.inr ())) hL (n:=(liveL H).length*2) (f:=blkV (liveL H)) rfl (k:=i*2) (by omega)
  have hc':s1.cell b (i*2)=some (.int .u64 t.1):=by
   have e:blkV (liveL H) (i*2)=.int .u64 t.1:=by
    unfold blkV
    rw [if_pos (by omega),show i*2 / 2=i by omega,ht]
   rw [<- e];exact hc
  obtain ⟨v3,s3,⟨hv3,A',B',W3,hA,hB⟩,hr3⟩:=(does_free g t.1).run W1
  subst hv3
  have n1:¬ k=1:=by omega
  have n2:¬ k=2:=by omega
  have n3:¬ k=3:=by omega
  have n4:¬ k=4:=by omega
  have n5:¬ k=5:=by omega
  have y:(k=6)=True:=eq_true hk
  have d0:(0:Int)<(L:Int):=by omega
  have d2:(0:Int) <= (i:Int) /\ (i:Int)<(L:Int):=by omega
  simp -implicitDefEqProofs only[go_sem,spoilXs,agg_cells,newCells_next,hl1,hl2,p0,p1,q0,q1,q3,q4,q5,n1,n2,n3,n4,n5,y]
  refine runs_ret hr1 ?_
  simp -implicitDefEqProofs only[go_sem,d0,P0,P1,Q0,Q1]
  refine runs_ret hr2 ?_
  simp -implicitDefEqProofs only[go_sem,d2,and_self,P0,P1,Q0,Q1,Int.toNat_natCast,hc']
  refine runs_ret hr3 ?_
  simp -implicitDefEqProofs only[go_sem,d2,and_self,P0,P1,Q0,Q1,hc']
  exact ⟨A',B',W3.drop,hA,hB⟩
theorem spoil_ex (g:Good H) (ai:ArIn H S) (b1:S.chunks.length<5000000000000) (b2:S.made<10000000000000) (b3:S.ms.length <= 10000000000000) (k w m:Int) {n a:Nat} (hn:n<18446744073709551616) (ha:a<18446744073709551616) (d:Bool) :
  ∃ H' S' v e,Spoils H S k w m n a d H' S' v e:=by
 by_cases c1:k=1
 ·exact ⟨_,_,_,_,spoil_alloc g ai b1 hn ha c1⟩
 by_cases c2:k=2
 ·exact ⟨_,_,_,_,spoil_mark g ai b2 b3 c2⟩
 by_cases c3:k=3
 ·by_cases c:∃ mk,mk∈S.ms /\ (mk.n:Int)=w
  ·obtain ⟨mk,hm,hw⟩:=c
   obtain ⟨pre,suf,hms⟩:=List.append_of_mem hm
   exact ⟨_,_,_,_,spoil_rel g ai b3 hms hw.symm c3⟩
  ·exact ⟨_,_,_,_,spoil_relE g ai (fun mk hm hw=>c ⟨mk,hm,hw⟩) c3⟩
 by_cases c4:k=4
 ·exact ⟨_,_,_,_,spoil_reset g ai c4⟩
 by_cases c5:k=5
 ·exact ⟨_,_,_,_,spoil_malloc g ai hn c5⟩
 by_cases c6:k=6
 ·obtain ⟨H',e,h⟩:=spoil_free (w:=w) (m:=m) (n:=n) (a:=a) (d:=d) g ai c6
  exact ⟨H',S,0,e,h⟩
 by_cases c8:k=8
 ·exact ⟨_,_,_,_,spoil_trim g ai c8⟩
 exact ⟨_,_,_,_,spoil_none g ai ⟨c1,c2,c3,c4,c5,c6,c8⟩⟩
end
end
noncomputable section
variable {σ σ':St}
theorem r_R11 {b l:Int} {k:Nat} (hk:k <= 8):Runs G0 [] 44 [cfg b l k] σ fun v s=>v=.int .u64 ((4096*2^k:Nat):Int) /\ s=σ.newCells [.int .u64 b,.int .i64 l,.int .i64 k]:=by
 refine runs_body g44 rfl ?_
 have hl:=cfg_lcl σ b l k
 generalize hs:σ.newCells [.int .u64 b,.int .i64 l,.int .i64 k]=σ1 at hl
 have h2:σ1.cell σ.next 2=some (.int .i64 k):=hl.cell (i:=2) (by omega)
 have hp:2^k <= 256:=by
  have:(2:Nat)^k <= 2^8:=Nat.pow_le_pow_right (by omega) (by omega)
  simpa using this
 have e2:shlI .u64 (4096:Int) (k:Int)=((4096*2^k:Nat):Int):=u64_shl (a:=4096) (by omega) (by omega)
 have e1:IntKind.u64.wrap (k:Int)=(k:Int):=u64_nat (by omega)
 have hk0:(0:Int) <= (k:Int):=by omega
 simp -implicitDefEqProofs only[go_sem,cfg,vcells_agg,vlen3,hs,h2,bin_shl,hk0,e1,e2]
theorem r_May11 {b l o:Int} (hb0:0 <= b) (hb:b<18446744073709551616) (hw:GW σ):Runs G0 [] 63 [cfg b l o] σ fun v s=>v=.bool (decide (MayC b l o)) /\ Grow σ s:=by
 refine runs_body g63 rfl ?_
 have hl:=cfg_lcl σ b l o
 have gr:Grow σ (σ.newCells [.int .u64 b,.int .i64 l,.int .i64 o]):=Grow.new σ _
 have hw1:GW (σ.newCells [.int .u64 b,.int .i64 l,.int .i64 o]):=hw.new _ rfl
 generalize hs:σ.newCells [.int .u64 b,.int .i64 l,.int .i64 o]=σ1 at hl gr hw1
 have h0:σ1.cell σ.next 0=some (.int .u64 b):=hl.cell (i:=0) (by omega)
 have h1:σ1.cell σ.next 1=some (.int .i64 l):=hl.cell (i:=1) (by omega)
 have h2:σ1.cell σ.next 2=some (.int .i64 o):=hl.cell (i:=2) (by omega)
 have h3:σ1.load σ.next 0 3=some [.int .u64 b,.int .i64 l,.int .i64 o]:=hl.load (off:=0) (k:=3) (by omega)
 by_cases c0:o<0
 ·have hn:¬ MayC b l o:=fun h=>by have:=h.o0;omega
  simp -implicitDefEqProofs only[go_sem,cfg,vcells_agg,vlen3,hs,h0,h1,h2,c0,hn]
  exact gr
 by_cases c1:8<o
 ·have hn:¬ MayC b l o:=fun h=>by have:=h.o8;omega
  simp -implicitDefEqProofs only[go_sem,cfg,vcells_agg,vlen3,hs,h0,h1,h2,c0,c1,hn]
  exact gr
 by_cases c2:l<1
 ·have hn:¬ MayC b l o:=fun h=>by have:=h.l1;omega
  simp -implicitDefEqProofs only[go_sem,cfg,vcells_agg,vlen3,hs,h0,h1,h2,c0,c1,c2,hn]
  exact gr
 by_cases c3:64<l
 ·have hn:¬ MayC b l o:=fun h=>by have:=h.l64;omega
  simp -implicitDefEqProofs only[go_sem,cfg,vcells_agg,vlen3,hs,h0,h1,h2,c0,c1,c2,c3,hn]
  exact gr
 obtain ⟨k,rfl⟩:∃ k:Nat,o=(k:Int):=⟨o.toNat,by omega⟩
 obtain ⟨m,rfl⟩:∃ m:Nat,l=(m:Int):=⟨l.toNat,by omega⟩
 obtain ⟨n,rfl⟩:∃ n:Nat,b=(n:Int):=⟨b.toNat,by omega⟩
 have hp:2^k <= 256:=by
  have:(2:Nat)^k <= 2^8:=Nat.pow_le_pow_right (by omega) (by omega)
  simpa using this
 have hpos:0<2^k:=Nat.pow_pos (by omega)
 have hmp:m*2^k <= 64*256:=Nat.mul_le_mul (by omega) hp
 have e1:shlI .i64 (m:Int) (k:Int)=((m*2^k:Nat):Int):=i64_shl (by omega) (by omega)
 have ek:IntKind.u64.wrap (k:Int)=(k:Int):=u64_nat (by omega)
 have hk0:(0:Int) <= (k:Int):=by omega
 have hc1:((m*2^k:Nat):Int)=(m:Int)*2^k:=by simp
 have hc2:((4096*2^k:Nat):Int)=4096*2^k:=by simp
 have hc3:((4096*2^k*m:Nat):Int)=4096*2^k*(m:Int):=by simp
 have spec:MayC n m k↔m*2^k <= 1024 /\ n≠0 /\ n%(4096*2^k)=0 /\ 4096*2^k*m+n <= 9223372036854775808:=by
  constructor
  ·intro h
   have h1:=h.pages;have h2:=h.al;have h3:=h.top;have h4:=h.b0
   simp only [Int.toNat_natCast] at h1 h2 h3
   rw [<- hc1] at h1;rw [<- hc2] at h2;rw [<- hc3] at h3
   exact ⟨by omega,by omega,by omega,by omega⟩
  ·rintro ⟨h1,h2,h3,h4⟩
   refine ⟨by omega,by omega,by omega,by omega,?_,by omega,?_,?_⟩ <;> simp only [Int.toNat_natCast]
   ·rw [<- hc1];omega
   ·rw [<- hc2];omega
   ·rw [<- hc3];omega
 by_cases c4:(1024:Int)<((m*2^k:Nat):Int)
 ·have hn:¬ MayC n m k:=fun h=>by have:=(spec.1 h).1;omega
  simp -implicitDefEqProofs only[go_sem,cfg,vcells_agg,vlen3,hs,h0,h1,h2,c0,c1,c2,c3,bin_shl,hk0,ek,e1,c4,hn]
  exact gr
 have hr:((4096*2^k:Nat):Int)≠0:=by omega
 obtain ⟨v,s2,⟨hv,hs2⟩,hrR⟩:=r_R11 (σ:=σ1) (b:=(n:Int)) (l:=(m:Int)) (k:=k) (by omega)
 subst hv
 have gr2:Grow σ1 s2:=by rw [hs2];exact Grow.new _ _
 have hl2:=hl.grow hw1 gr2
 have g0:s2.cell σ.next 0=some (.int .u64 n):=hl2.cell (i:=0) (by omega)
 have g1:s2.cell σ.next 1=some (.int .i64 m):=hl2.cell (i:=1) (by omega)
 have gr':=gr.trans gr2
 have hrR':Ret G0 [] 44 [.agg [.int .u64 n,.int .i64 m,.int .i64 k]] σ1 (.int .u64 ((4096*2^k:Nat):Int)) s2:=hrR
 simp -implicitDefEqProofs only[go_sem,cfg,vcells_agg,vlen3,hs,h0,h1,h2,h3,c0,c1,c2,c3,bin_shl,hk0,ek,e1,c4]
 refine runs_ret hrR' ?_
 by_cases c5:(n:Int)=0
 ·have hn:¬ MayC n m k:=fun h=>by have:=(spec.1 h).2.1;omega
  simp -implicitDefEqProofs only[go_sem,g0,g1,c5,hn]
  rw [c5] at hn
  simp only [hn,decide_false]
  exact ⟨trivial,gr'⟩
 have e3:(n:Int).tmod ((4096*2^k:Nat):Int)=((n%(4096*2^k):Nat):Int):=nat_tmod _ _
 by_cases c6:((n%(4096*2^k):Nat):Int)=0
 ·by_cases c7:(9223372036854775808:Int)<(n:Int)
  ·have hn:¬ MayC n m k:=fun h=>by have:=(spec.1 h).2.2.2;omega
   simp -implicitDefEqProofs only[go_sem,g0,g1,c5,bin_rem,hr,e3,c6,c7,ne_eq,not_false_eq_true,not_true_eq_false,hn]
   exact gr'
  ·have e4:IntKind.u64.wrap (m:Int)=(m:Int):=u64_nat (by omega)
   have hrm:4096*2^k*m <= 4096*256*64:=Nat.mul_le_mul (Nat.mul_le_mul_left _ hp) (by omega)
   have hmc:m*(4096*2^k)=4096*2^k*m:=Nat.mul_comm _ _
   have e5:IntKind.u64.wrap ((m:Int)*((4096*2^k:Nat):Int))=((4096*2^k*m:Nat):Int):=by rw [<- hmc];exact u64_mul (by omega)
   have e6:IntKind.u64.wrap ((n:Int)+((4096*2^k*m:Nat):Int))=((n+4096*2^k*m:Nat):Int):=u64_add (by omega)
   have e7:decide (((n+4096*2^k*m:Nat):Int) <= 9223372036854775808)=decide (MayC n m k):=by
    rw [decide_eq_decide,spec]
    constructor
    ·intro h;exact ⟨by omega,by omega,by omega,by omega⟩
    ·rintro ⟨_,_,_,h⟩;omega
   simp -implicitDefEqProofs only[go_sem,g0,g1,c5,bin_rem,hr,e3,c6,c7,e4,e5,e6,e7,ne_eq,not_false_eq_true,not_true_eq_false]
   exact gr'
 ·have hn:¬ MayC n m k:=fun h=>by have:=(spec.1 h).2.2.1;omega
  simp -implicitDefEqProofs only[go_sem,g0,g1,c5,bin_rem,hr,e3,c6,ne_eq,not_false_eq_true,not_true_eq_false,hn]
  exact gr'
def ShopMay (b l o w d:Int):Prop:=MayW w d /\ MayC b l o
instance (w d:Int):Decidable (MayW w d):=by unfold MayW;exact inferInstance
instance (b l o w d:Int):Decidable (ShopMay b l o w d):=by unfold ShopMay;exact inferInstance
end
noncomputable section
variable {σ σ':St}
theorem lst_map (l:List V):((List.range l.length).map fun j=>lst l (0+j))=l:=by
 refine List.ext_getElem (by simp) fun i h1 h2=>?_
 simp only [List.getElem_map,List.getElem_range,Nat.zero_add,lst]
 rw [List.getD_eq_getElem?_getD,List.getElem?_eq_getElem h2];rfl
section
variable {ι:Type} {has:ι -> Prop} {A:ι -> Nat} {c:ι -> Cont}
theorem Wd.loadL (h:Wd σ has A c) {i:ι} (hi:has i) {l:List V} {n:Nat} (hl:l.length=n) (e:c i=.row n (lst l)):σ.load (A i) 0 n=some l:=by
 subst hl
 rw [h.load hi e (off:=0) (k:=l.length) (by omega),lst_map]
theorem Wd.putL [DecidableEq ι] (h:Wd σ has A c) {i:ι} (hi:has i) {n:Nat} {f:Nat -> V} (e:c i=.row n f) {vs:List V} (hl:vs.length=n) (hf:vs.all V.flat=true) :
  ∃ s,σ.store (A i) 0 vs=some s /\ Wd s has A (updG c i (.row n (lst vs))):=by
 obtain ⟨s,hs,W,_⟩:=h.store hi e (off:=0) (vs:=vs) (by omega) hf
 refine ⟨s,hs,W.recont fun j _=>?_⟩
 by_cases hj:j=i
 ·subst hj
  right
  refine ⟨n,_,n,_,updG_same ..,updG_same ..,Nat.le_refl _,fun k hk=>?_⟩
  unfold over
  rw [if_pos ⟨Nat.zero_le _,by omega⟩];rfl
 ·left;rw [updG_ne hj,updG_ne hj]
end
theorem two_rows (w:GW σ) (hw:Wid σ) (l z:List V) (hz:z≠[]):Wd ((σ.newCells l).new (.cells false 0 z.length z .nil)) (fun _:Bool=>True) (fun b=>cond b (σ.next+1) σ.next) (fun b=>cond b (.row z.length (lst z)) (.row l.length (lst l))):=by
 have W0:=Wd.nought (ι:=Bool) w hw (fun _=>0) (fun _=>.map [])
 have W1:=W0.cells (i0:=false) (fun h=>h) l
 have W2:=W1.alloc (i0:=true) (by rintro (h | h);exact h;cases h) (z:=z) (n:=z.length) (.inl hz)
 refine W2.sub id ?_ (fun _ _ _ _ e=>e) ?_ ?_
 ·rintro (_ | _) hk
  ·exact .inl (.inr rfl)
  ·exact .inr rfl
 ·rintro (_ | _) hk
  ·show _=updG _ _ _ _;rw [show id false=false from rfl,updG_ne (by intro h;cases h),updG_same];rfl
  ·show _=updG _ _ _ _;rw [show id true=true from rfl,updG_same];rfl
 ·rintro (_ | _) hk
  ·left;show _=updG _ _ _ _;rw [show id false=false from rfl,updG_ne (by intro h;cases h),updG_same];rfl
  ·right
   refine ⟨z.length,_,z.length,_,updG_same ..,rfl,Nat.le_refl _,fun i hi=>?_⟩
   show z.getD (i%z.length) .undef=z.getD i .undef
   rw [Nat.mod_eq_of_lt hi]
theorem r_config15 {b l o:Int} (hw:GW σ):Runs G0 [] 37 [cfg b l o] σ fun v s=>v=cfg b l o /\ Grow σ s:=by
 refine runs_body g37 rfl ?_
 have L:=cfg_lcl σ b l o
 have gr:Grow σ (σ.newCells [.int .u64 b,.int .i64 l,.int .i64 o]):=Grow.new σ _
 have hw1:GW (σ.newCells [.int .u64 b,.int .i64 l,.int .i64 o]):=hw.new _ rfl
 generalize hs:σ.newCells [.int .u64 b,.int .i64 l,.int .i64 o]=σ1 at L gr hw1
 have L2:=L.grow hw1 (Grow.new σ1 (.cells false 0 3 [.int .u64 0,.int .i64 0,.int .i64 0] .nil))
 have h0:=L2.cell (i:=0) (by omega)
 have h1:=L2.cell (i:=1) (by omega)
 have h2:=L2.cell (i:=2) (by omega)
 rw [show lst [V.int .u64 b,.int .i64 l,.int .i64 o] 0=.int .u64 b from rfl] at h0
 rw [show lst [V.int .u64 b,.int .i64 l,.int .i64 o] 1=.int .i64 l from rfl] at h1
 rw [show lst [V.int .u64 b,.int .i64 l,.int .i64 o] 2=.int .i64 o from rfl] at h2
 have hst:=new_store (σ:=σ1) (z:=[.int .u64 0,.int .i64 0,.int .i64 0]) (vs:=[V.int .u64 b,.int .i64 l,.int .i64 o]) (n:=3) (by simp) rfl
 have LL:=Lcl.lay σ1 3 [.int .u64 0,.int .i64 0,.int .i64 0] [V.int .u64 b,.int .i64 l,.int .i64 o] rfl
 have hl2:=LL.load (off:=0) (k:=3) (by omega)
 rw [show ((List.range 3).map fun j=>lst [V.int .u64 b,.int .i64 l,.int .i64 o] (0+j))=[V.int .u64 b,.int .i64 l,.int .i64 o] from rfl] at hl2
 have f3:fillP [V.int .u64 0,.int .i64 0,.int .i64 0] [(0,1,V.int .u64 b),(1,1,V.int .i64 l),(2,1,V.int .i64 o)]=some [V.int .u64 b,.int .i64 l,.int .i64 o]:=rfl
 simp -implicitDefEqProofs only[go_sem,cfg,vcells_agg,vlen3,hs,h0,h1,h2,evalParts,f3,List.length_cons,List.length_nil,hst,hl2]
 exact gr.trans (Grow.lay _ _ _ _)
abbrev zs16:List V:=[.ptr none,.ptr none,.int .u64 0,.slice none 0 0,.int .u64 0,.int .u64 0,.slice none 0 0,.int .i64 0,.int .u64 0,.int .i64 0,.int .i64 0,.int .i64 0,.slice none 0 0,.slice none 0 0,.slice none 0 0,.slice none 0 0]
abbrev st0 (c:Nat) (b l o:Int):List V:=[.int .u64 c,.slice none 0 0,.int .u64 0,.int .u64 0,.slice none 0 0,.int .i64 0,.int .u64 b,.int .i64 l,.int .i64 o,.int .i64 0,.slice none 0 0,.slice none 0 0,.slice none 0 0,.slice none 0 0]
theorem len16:zs16.length=16:=rfl
def Opens (b l o:Int) (c:Nat):Prop:=MayC b l o /\ c≠0 /\ c <= (heap0 b.toNat l.toNat o.toNat).rsz
abbrev Bg (σ:St) (q:Nat) (b l o:Int):Prop:=Wd σ (fun _:Bool=>True) (fun x=>cond x (q+1) q) (fun x=>cond x (.row 16 (lst zs16)) (.row 3 (lst [.int .u64 b,.int .i64 l,.int .i64 o])))
theorem Bg.cfg {q:Nat} {b l o:Int} (h:Bg σ q b l o):σ.load q 0 3=some [.int .u64 b,.int .i64 l,.int .i64 o]:=Wd.loadL h (i:=false) trivial rfl rfl
theorem Bg.res {q:Nat} {b l o:Int} (h:Bg σ q b l o):σ.load (q+1) 0 16=some zs16:=Wd.loadL h (i:=true) trivial rfl rfl
theorem Bg.put {q:Nat} {b l o:Int} (h:Bg σ q b l o):∃ s,σ.store (q+1) 0 zs16=some s /\ s.load (q+1) 0 16=some zs16 /\ Wid s:=by
 obtain ⟨s,h1,W⟩:=Wd.putL h (i:=true) trivial rfl (vs:=zs16) rfl rfl
 exact ⟨s,h1,Wd.loadL W (i:=true) trivial rfl (updG_same ..),W.wid⟩
theorem toNat_cast3 {b l o:Int} (h3:0 <= b) (h:MayC b l o):MayC (b.toNat:Int) (l.toNat:Int) (o.toNat:Int)=MayC b l o:=by
 have h1:=h.o0;have h2:=h.l1
 rw [Int.toNat_of_nonneg (by omega),Int.toNat_of_nonneg (by omega),Int.toNat_of_nonneg (by omega)]
theorem r_R15 {b l o:Int} (hm:MayC b l o):Runs G0 [] 44 [AM.V.agg [.int .u64 b,.int .i64 l,.int .i64 o]] σ fun v s=>v=.int .u64 ((heap0 b.toNat l.toNat o.toNat).rsz:Nat) /\ Grow σ s:=by
 have h1:=hm.o0;have h2:=hm.o8
 obtain ⟨k,rfl⟩:∃ k:Nat,o=(k:Int):=⟨o.toNat,by omega⟩
 refine (r_R11 (σ:=σ) (b:=b) (l:=l) (k:=k) (by omega)).mono ?_
 rintro v s ⟨hv,rfl⟩
 exact ⟨hv,Grow.new _ _⟩
theorem six_load {s:St} {q:Nat} {l:List V} (L:Lcl s q 6 (lst l)) (h:l.length=6:=by rfl):s.load q 0 6=some l:=by
 rw [L.load (off:=0) (k:=6) (by omega), <- h,lst_map]
theorem lenSt {c:Nat} {b l o:Int} {hp ar:Nat}:(stV (st0 c b l o) hp ar).length=16:=rfl
theorem r_begunS (w:GW σ) (hw:Wid σ) {b l o:Int} {c:Nat} (hb0:0 <= b) (hb:b<18446744073709551616) (hc:c<18446744073709551616) :
  Runs G0 [] 26 [cfg b l o,.int .u64 c] σ fun v s=>(Opens b l o c -> ∃ A B,v=.tuple [.agg (stV (st0 c b l o) (A .heap) (B .arena)),.bool true,.bool false] /\ AR s A (heap0 b.toNat l.toNat o.toNat) B (newA c)) /\ (¬ Opens b l o c -> v=.tuple [.agg zs16,.bool false,.bool false] /\ Wid s):=by
 refine runs_body g26 rfl ?_
 have W1:Bg ((σ.newCells [.int .u64 b,.int .i64 l,.int .i64 o]).new (.cells false 0 16 zs16 .nil)) σ.next b l o:=two_rows w hw [.int .u64 b,.int .i64 l,.int .i64 o] zs16 (by simp)
 have hn1:(σ.newCells [.int .u64 b,.int .i64 l,.int .i64 o]).next=σ.next+1:=rfl
 generalize hs1:(σ.newCells [.int .u64 b,.int .i64 l,.int .i64 o]).new (.cells false 0 16 zs16 .nil)=s1 at W1
 have l1:=W1.cfg
 obtain ⟨v,s3,⟨m1,m2⟩,hr3⟩:=Wd.newHeap W1 (b:=b) (l:=l) (o:=o) hb0 hb
 have hr3':Ret G0 [] 16 [.agg [.int .u64 b,.int .i64 l,.int .i64 o]] s1 v s3:=hr3
 simp -implicitDefEqProofs only[go_sem,cfg,vcells_agg,vlen3,hn1,List.length_cons,List.length_nil,hs1,l1]
 refine runs_ret hr3' ?_
 by_cases hm:MayC b l o
 ·obtain ⟨A,rfl,W3⟩:=m2 hm
  have ok0:=ok_heap0 (b:=b.toNat) (l:=l.toNat) (o:=o.toNat) (by rw [toNat_cast3 hb0 hm];exact hm)
  have l3:=Bg.cfg (Wd.right W3)
  obtain ⟨v,s4,⟨rfl,gr4,W4⟩,hr4⟩:=Wd.rgrow W3 (r_config15 (σ:=s3) (b:=b) (l:=l) (o:=o) W3.gw)
  obtain ⟨v,s5,⟨rfl,gr5,W5⟩,hr5⟩:=Wd.rgrow W4 (r_May11 (σ:=s4) (b:=b) (l:=l) (o:=o) hb0 hb W4.gw)
  have hr4':Ret G0 [] 37 [.agg [.int .u64 b,.int .i64 l,.int .i64 o]] s3 (.agg [.int .u64 b,.int .i64 l,.int .i64 o]) s4:=hr4
  have hr5':Ret G0 [] 63 [.agg [.int .u64 b,.int .i64 l,.int .i64 o]] s4 (.bool (decide (MayC b l o))) s5:=hr5
  obtain ⟨v,s6,h6,hr6⟩:=HC.newArena W5 ok0 hc
  simp -implicitDefEqProofs only[go_sem,l3]
  refine runs_ret hr4' ?_
  simp -implicitDefEqProofs only[go_sem]
  refine runs_ret hr5' ?_
  simp -implicitDefEqProofs only[go_sem,hm,ne_eq,not_true_eq_false,not_false_eq_true]
  refine runs_ret hr6 ?_
  by_cases c0:c=0
  ·rw [if_pos c0] at h6
   obtain ⟨rfl,W6⟩:=h6
   have hno:¬ Opens b l o c:=fun h=>h.2.1 c0
   have d0:(c:Int)=0:=by omega
   have l6:=Bg.res (Wd.right W6)
   obtain ⟨s7,hs7,l7,w7⟩:=Bg.put (Wd.right W6)
   simp -implicitDefEqProofs only[go_sem,d0,l6,agg_cells,len16,hs7,l7,ne_eq,not_true_eq_false,not_false_eq_true]
   exact ⟨fun h=>(hno h).elim,fun _=>w7⟩
  have d0:¬ (c:Int)=0:=by omega
  rw [if_neg c0] at h6
  by_cases c1:(heap0 b.toNat l.toNat o.toNat).rsz<c
  ·rw [if_pos c1] at h6
   obtain ⟨rfl,W6⟩:=h6
   have hno:¬ Opens b l o c:=fun h=>by have:=h.2.2;omega
   have l6:=Bg.cfg (Wd.right W6)
   obtain ⟨v,s7,⟨rfl,gr7,W7⟩,hr7⟩:=Wd.rgrow W6 (r_config15 (σ:=s6) (b:=b) (l:=l) (o:=o) W6.gw)
   obtain ⟨v,s8,⟨rfl,gr8,W8⟩,hr8⟩:=Wd.rgrow W7 (r_R15 (σ:=s7) (b:=b) (l:=l) (o:=o) hm)
   have hr7':Ret G0 [] 37 [.agg [.int .u64 b,.int .i64 l,.int .i64 o]] s6 (.agg [.int .u64 b,.int .i64 l,.int .i64 o]) s7:=hr7
   have hr8':Ret G0 [] 44 [.agg [.int .u64 b,.int .i64 l,.int .i64 o]] s7 _ s8:=hr8
   have l8:=Bg.res (Wd.right W8)
   obtain ⟨s9,hs9,l9,w9⟩:=Bg.put (Wd.right W8)
   have d1:(((heap0 b.toNat l.toNat o.toNat).rsz:Nat):Int)<(c:Int):=by omega
   simp -implicitDefEqProofs only[go_sem,d0,l6,ne_eq,not_true_eq_false,not_false_eq_true]
   refine runs_ret hr7' ?_
   simp -implicitDefEqProofs only[go_sem]
   refine runs_ret hr8' ?_
   simp -implicitDefEqProofs only[go_sem,d0,d1,l8,agg_cells,len16,hs9,l9,ne_eq,not_true_eq_false,not_false_eq_true]
   exact ⟨fun h=>(hno h).elim,fun _=>w9⟩
  rw [if_neg c1] at h6
  obtain ⟨ar,rfl,W6⟩:=h6
  have hop:Opens b l o c:=⟨hm,c0,by omega⟩
  have l6:=Bg.cfg (Wd.right W6)
  obtain ⟨v,s7,⟨rfl,gr7,W7⟩,hr7⟩:=Wd.rgrow W6 (r_config15 (σ:=s6) (b:=b) (l:=l) (o:=o) W6.gw)
  obtain ⟨v,s8,⟨rfl,gr8,W8⟩,hr8⟩:=Wd.rgrow W7 (r_R15 (σ:=s7) (b:=b) (l:=l) (o:=o) hm)
  have hr7':Ret G0 [] 37 [.agg [.int .u64 b,.int .i64 l,.int .i64 o]] s6 (.agg [.int .u64 b,.int .i64 l,.int .i64 o]) s7:=hr7
  have hr8':Ret G0 [] 44 [.agg [.int .u64 b,.int .i64 l,.int .i64 o]] s7 _ s8:=hr8
  have d1:¬ (((heap0 b.toNat l.toNat o.toNat).rsz:Nat):Int)<(c:Int):=by omega
  have hst:=new_store (σ:=s8) (z:=[.int .u64 0,.slice none 0 0,.int .u64 0,.int .u64 0,.slice none 0 0,.int .i64 0]) (vs:=[V.int .u64 c,.slice none 0 0,.int .u64 0,.int .u64 0,.slice none 0 0,.int .i64 0]) (n:=6) (by simp) rfl
  have LL:=Lcl.lay s8 6 [.int .u64 0,.slice none 0 0,.int .u64 0,.int .u64 0,.slice none 0 0,.int .i64 0] [V.int .u64 c,.slice none 0 0,.int .u64 0,.int .u64 0,.slice none 0 0,.int .i64 0] rfl
  have W9:=Wd.lay W8 (n:=6) (z:=[.int .u64 0,.slice none 0 0,.int .u64 0,.int .u64 0,.slice none 0 0,.int .i64 0]) (vs:=[V.int .u64 c,.slice none 0 0,.int .u64 0,.int .u64 0,.slice none 0 0,.int .i64 0]) (by simp) rfl
  have hn8:s8.next≠σ.next+1:=by
   have:=Wd.lt W8 (i:=.inr true) trivial
   exact Ne.symm (Nat.ne_of_lt this)
  generalize hs9:s8.lay 6 [.int .u64 0,.slice none 0 0,.int .u64 0,.int .u64 0,.slice none 0 0,.int .i64 0] [V.int .u64 c,.slice none 0 0,.int .u64 0,.int .u64 0,.slice none 0 0,.int .i64 0]=s9 at LL W9 hst
  have l9:=Bg.cfg (Wd.right W9)
  have k9:=six_load LL
  obtain ⟨v,s10,⟨rfl,gr10,W10⟩,hr10⟩:=Wd.rgrow W9 (r_config15 (σ:=s9) (b:=b) (l:=l) (o:=o) W9.gw)
  have hr10':Ret G0 [] 37 [.agg [.int .u64 b,.int .i64 l,.int .i64 o]] s9 (.agg [.int .u64 b,.int .i64 l,.int .i64 o]) s10:=hr10
  have l10:=Bg.cfg (Wd.right W10)
  have k10:=six_load (LL.grow W9.gw gr10)
  obtain ⟨s11,hs11,W11⟩:=Wd.putL W10 (i:=.inr true) trivial rfl (vs:=stV (st0 c b l o) (A .heap) ar) rfl rfl
  have W11':AR s11 A (heap0 b.toNat l.toNat o.toNat) (fun _=>ar) (newA c):=W11.sub Sum.inl (fun _ h=>h) (fun _ _ _ _ e=>Sum.inl.inj e) (fun _ _=>rfl) fun k _=>.inl (by
   rw [updG_ne (by intro h;cases h)];rfl)
  have l11:s11.load (σ.next+1) 0 16=some (stV (st0 c b l o) (A .heap) ar):=Wd.loadL W11 (i:=.inr true) trivial rfl (updG_same ..)
  have hs11':s10.store (σ.next+1) 0 (stV (st0 c b l o) (A .heap) ar)=some s11:=hs11
  have f5:fillP [V.int .u64 0,.int .i64 0,.int .i64 0,.int .i64 0,.slice none 0 0] [(0,3,V.agg [.int .u64 b,.int .i64 l,.int .i64 o]),(3,1,V.int .i64 0),(4,1,V.slice none 0 0)]=some [V.int .u64 b,.int .i64 l,.int .i64 o,.int .i64 0,.slice none 0 0]:=rfl
  have f6:fillP [V.int .u64 0,.slice none 0 0,.int .u64 0,.int .u64 0,.slice none 0 0,.int .i64 0] [(0,1,V.int .u64 c),(1,1,V.slice none 0 0),(2,1,V.int .u64 0),(3,1,V.int .u64 0),(4,1,V.slice none 0 0),(5,1,V.int .i64 0)]=some [V.int .u64 c,.slice none 0 0,.int .u64 0,.int .u64 0,.slice none 0 0,.int .i64 0]:=rfl
  have f16:fillP zs16 [(0,1,V.ptr (some (A .heap,0))),(1,1,V.ptr (some (ar,0))),(2,6,V.agg [V.int .u64 c,.slice none 0 0,.int .u64 0,.int .u64 0,.slice none 0 0,.int .i64 0]),(8,5,V.agg [V.int .u64 b,.int .i64 l,.int .i64 o,.int .i64 0,.slice none 0 0]),(13,1,V.slice none 0 0),(14,1,V.slice none 0 0),(15,1,V.slice none 0 0)]=some (stV (st0 c b l o) (A .heap) ar):=rfl
  simp -implicitDefEqProofs only[go_sem,d0,l6,ne_eq,not_true_eq_false,not_false_eq_true]
  refine runs_ret hr7' ?_
  simp -implicitDefEqProofs only[go_sem]
  refine runs_ret hr8' ?_
  simp -implicitDefEqProofs only[go_sem,d0,d1,ne_eq,not_true_eq_false,not_false_eq_true,evalParts,f6,agg_cells,List.length_cons,List.length_nil,hst,k9,l9]
  refine runs_ret hr10' ?_
  simp -implicitDefEqProofs only[go_sem,evalParts,f5,f16,k9,k10,l9,l10,agg_cells,lenSt,hs11',l11]
  exact ⟨fun _=>⟨A,fun _=>ar,rfl,W11'⟩,fun h=>(h hop).elim⟩
 ·obtain ⟨rfl,W3⟩:=m1 hm
  have l3:=Bg.cfg W3
  obtain ⟨v,s4,⟨rfl,gr4,W4⟩,hr4⟩:=Wd.rgrow W3 (r_config15 (σ:=s3) (b:=b) (l:=l) (o:=o) W3.gw)
  obtain ⟨v,s5,⟨rfl,gr5,W5⟩,hr5⟩:=Wd.rgrow W4 (r_May11 (σ:=s4) (b:=b) (l:=l) (o:=o) hb0 hb W4.gw)
  have hr4':Ret G0 [] 37 [.agg [.int .u64 b,.int .i64 l,.int .i64 o]] s3 (.agg [.int .u64 b,.int .i64 l,.int .i64 o]) s4:=hr4
  have hr5':Ret G0 [] 63 [.agg [.int .u64 b,.int .i64 l,.int .i64 o]] s4 (.bool (decide (MayC b l o))) s5:=hr5
  have l5:=Bg.res W5
  obtain ⟨s6,hs6,l6,w6⟩:=Bg.put W5
  have hno:¬ Opens b l o c:=fun h=>hm h.1
  simp -implicitDefEqProofs only[go_sem,l3]
  refine runs_ret hr4' ?_
  simp -implicitDefEqProofs only[go_sem]
  refine runs_ret hr5' ?_
  simp -implicitDefEqProofs only[go_sem,hm,l5,agg_cells,len16,hs6,l6,ne_eq,not_true_eq_false]
  exact ⟨fun h=>(hno h).elim,fun _=>w6⟩
end
end Go.Proofs.YtlgmpheammbacaaGreatDoor
