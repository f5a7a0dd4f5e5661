import Derived.Test.YtlgmpheammbacaaGreatDoorSmg
set_option maxRecDepth 1000000
set_option linter.unusedVariables false
set_option linter.unusedSimpArgs false
attribute [local irreducible] AM.T.get AM.T.set
namespace Go.Proofs.YtlgmpheammbacaaGreatDoor
open AM Go
noncomputable section
variable {σ:St} {A:Slot -> Nat} {H:Heap}
def _root_.AM.Heap.split (H:Heap) (p i:Nat):Heap:=(H.enter (p+2^i) i).turned (p+2^i) i
def _root_.AM.Heap.cutN (H:Heap) (p top:Nat):Nat -> Heap
 | 0=>H
 |n+1=>(H.cutN p top n).split p (top-1-n)
structure _root_.AM.Heap.Same (H' H:Heap):Prop where
 order:H'.order=H.order
 base:H'.base=H.base
 regs:H'.regs=H.regs
 limit:H'.limit=H.limit
theorem _root_.AM.Heap.Same.refl (H:Heap):H.Same H:=⟨rfl,rfl,rfl,rfl⟩
theorem _root_.AM.Heap.Same.trans {H1 H2 H3:Heap} (h:H1.Same H2) (k:H2.Same H3):H1.Same H3:=⟨h.order.trans k.order,h.base.trans k.base,h.regs.trans k.regs,h.limit.trans k.limit⟩
theorem _root_.AM.Heap.Same.np {H1 H2:Heap} (h:H1.Same H2):H1.np=H2.np:=by unfold Heap.np;rw [h.order,h.regs]
theorem _root_.AM.Heap.Same.addr {H1 H2:Heap} (h:H1.Same H2) (p:Nat):H1.addr p=H2.addr p:=by unfold Heap.addr;rw [h.base]
theorem same_wr64 (H:Heap) (p v:Nat):(H.wr64 p v).Same H:=⟨rfl,rfl,rfl,rfl⟩
theorem same_setHead (H:Heap) (k v:Nat):(H.setHead k v).Same H:=⟨rfl,rfl,rfl,rfl⟩
theorem same_run (H:Heap) (p k:Nat) (kind:Int):(H.run p k kind).Same H:=⟨rfl,rfl,rfl,rfl⟩
theorem same_flip (H:Heap) (k i:Nat):(H.flip k i).Same H:=⟨rfl,rfl,rfl,rfl⟩
theorem same_pushed (H:Heap) (k p:Nat):(H.pushed k p).Same H:=by
 unfold Heap.pushed
 refine Heap.Same.trans (same_setHead _ _ _) ?_
 by_cases c:H.head k=0
 ·rw [if_pos c];exact Heap.Same.trans (same_wr64 _ _ _) (same_wr64 _ _ _)
 ·rw [if_neg c];exact Heap.Same.trans (same_wr64 _ _ _) (Heap.Same.trans (same_wr64 _ _ _) (same_wr64 _ _ _))
theorem same_enter (H:Heap) (p k:Nat):(H.enter p k).Same H:=Heap.Same.trans (same_pushed _ _ _) (same_run _ _ _ _)
theorem same_turned (H:Heap) (p k:Nat):(H.turned p k).Same H:=by
 unfold Heap.turned
 by_cases c:k=H.order
 ·rw [if_pos c];exact Heap.Same.refl _
 ·rw [if_neg c];exact same_flip _ _ _
theorem same_split (H:Heap) (p i:Nat):(H.split p i).Same H:=Heap.Same.trans (same_turned _ _ _) (same_enter _ _ _)
theorem same_removed (H:Heap) (k nx pv:Nat):(H.removed k nx pv).Same H:=by
 unfold Heap.removed
 by_cases c:nx=0
 ·rw [if_pos c]
  by_cases c2:pv=0
  ·rw [if_pos c2];exact same_setHead _ _ _
  ·rw [if_neg c2];exact same_wr64 _ _ _
 ·rw [if_neg c]
  by_cases c2:pv=0
  ·rw [if_pos c2];exact Heap.Same.trans (same_wr64 _ _ _) (same_setHead _ _ _)
  ·rw [if_neg c2];exact Heap.Same.trans (same_wr64 _ _ _) (same_wr64 _ _ _)
theorem same_cutN (H:Heap) (p top:Nat):∀ n,(H.cutN p top n).Same H
 | 0=>Heap.Same.refl _
 |n+1=>Heap.Same.trans (same_split _ _ _) (same_cutN H p top n)
theorem ok_split (ok:H.OK) {p i:Nat} (h:p+2^i <= H.np):(H.split p i).OK:=ok_turned (ok_enter ok h)
theorem r_cut (hR:HRep σ A H) (ok:H.OK) {p top bot:Nat} (h1:bot <= top) (h2:top <= H.order) (hal:p%2^top=0) (hp:p+2^top <= H.np)
  (hh:∀ m,m<top-bot -> (H.cutN p top m).PushOk (top-1-m)) :
  Runs G0 [] 201 [.ptr (some (A .buddy,0)),.int .i64 p,.int .i64 top,.int .i64 bot] σ fun r σ'=>HRep σ' A ((H.cutN p top (top-bot)).run p bot 2) /\ r=.tuple []:=by
 refine runs_body g201 rfl ?_
 have ho:=ok.order_le
 have hnp:=np_le ok
 have e1:IntKind.i64.wrap ((top:Int)-1)=(top:Int)-1:=by rw [wi64_id] <;> omega
 have hpw:∀ i,i<top -> p+2^i+2^i <= H.np /\ (p+2^i)%2^i=0 /\ 2^i <= 128:=by
  intro i hi
  have a1:2^(i+1) <= 2^top:=Nat.pow_le_pow_right (by omega) hi
  rw [Nat.pow_succ] at a1
  refine ⟨by omega,?_,?_⟩
  ·have:2^i∣p:=Nat.dvd_trans (Nat.pow_dvd_pow 2 (Nat.le_of_lt hi)) (Nat.dvd_of_mod_eq_zero hal)
   exact Nat.mod_eq_zero_of_dvd (Nat.dvd_add this (Nat.dvd_refl _))
  ·have:2^i <= 2^7:=Nat.pow_le_pow_right (by omega) (by omega)
   omega
 have okN:∀ n,n <= top-bot -> (H.cutN p top n).OK:=by
  intro n
  induction n with
  |zero=>intro _;exact ok
  |succ n ih =>
   intro hn
   refine ok_split (ih (by omega)) ?_
   rw [(same_cutN H p top n).np]
   have:=(hpw (top-1-n) (by omega)).1;omega
 simp -implicitDefEqProofs only[go_sem,e1]
 refine aw_loop (fun (m:Nat) (fr:Fr) (s:St)=>fr.defers=[] /\ fr.tmps.get 0=some (.ptr (some (A .buddy,0))) /\ fr.tmps.get 1=some (.int .i64 p) /\ fr.tmps.get 3=some (.int .i64 bot) ∧
  ∃ n,n <= top-bot /\ m=top-bot-n /\ fr.tmps.get 8=some (.int .i64 ((top:Int)-1-n)) /\ HRep s A (H.cutN p top n)) ?_ (top-bot) ?_
 ·rintro m ⟨tm,ds⟩ s ⟨hds,t0,t1,t3,n,hn,hm,t8,R⟩
  simp only at hds t0 t1 t3 t8
  subst hds
  have sm:=same_cutN H p top n
  have s1:=sm.order
  have s2:=sm.np
  have okn:=okN n hn
  generalize hHn:H.cutN p top n=Hn at R sm s1 s2 okn
  rcases Nat.lt_or_ge n (top-bot) with c | c
  ·obtain ⟨i,hi⟩:∃ i,i=top-1-n:=⟨_,rfl⟩
   have e0:(top:Int)-1-(n:Int)=(i:Int):=by omega
   rw [e0] at t8
   have c1:(bot:Int) <= (i:Int):=by omega
   have c0:(0:Int) <= (i:Int):=by omega
   obtain ⟨p1,p2,p3⟩:=hpw i (by omega)
   have e2:=i64_one_shl (n:=i) (by omega)
   have e3:IntKind.i64.wrap ((p:Int)+((2^i:Nat):Int))=((p+2^i:Nat):Int):=i64_add (by omega)
   simp -implicitDefEqProofs only[go_sem,t0,t1,t3,t8,c1,c0,bin_shl,e2,e3]
   have hh':=hh n c
   rw [<- hi,hHn] at hh'
   obtain ⟨v,σ1,⟨R1,hv⟩,hr1⟩:=r_enter R okn (p:=p+2^i) (k:=i) (by rw [s1];omega) p2 (by rw [s2];exact p1) hh'
   subst hv
   refine runs_ret hr1 ?_
   simp -implicitDefEqProofs only[go_sem,t0,t1,t3,t8,c1,c0,bin_shl,e2,e3]
   have hp0:0<2^i:=pow_pos' i
   have en:=same_enter Hn (p+2^i) i
   obtain ⟨v,σ2,⟨R2,hv⟩,hr2⟩:=r_turn R1 (ok_enter okn (p:=p+2^i) (by rw [s2];omega)) (p:=p+2^i) (k:=i) (by rw [en.order,s1];omega) (by rw [en.np,s2];omega)
   refine runs_ret hr2 ?_
   have e4:IntKind.i64.wrap ((i:Int)-1)=(i:Int)-1:=by rw [wi64_id] <;> omega
   simp -implicitDefEqProofs only[go_sem,t0,t1,t3,t8,e4]
   refine ⟨top-bot-(n+1),by omega,n+1,by omega,rfl,?_,?_⟩
   ·rw [show (i:Int)-1=(top:Int)-1-((n+1:Nat):Int) by omega]
   ·rw [Heap.cutN,hHn, <- hi];exact R2
  ·have hnn:n=top-bot:=by omega
   have c1:¬ ((bot:Int) <= (top:Int)-1-(n:Int)):=by omega
   have h4:=R.cell (s:=.buddy) trivial (i:=4) (show 4<6 by omega)
   rw [show Hn.cell A .buddy 4=.ptr (some (A .map,0)) from rfl] at h4
   simp -implicitDefEqProofs only[go_sem,t0,t1,t3,t8,c1,h4]
   have a1:2^bot <= 2^top:=Nat.pow_le_pow_right (by omega) h1
   have a2:p%2^bot=0:=Nat.mod_eq_zero_of_dvd (Nat.dvd_trans (Nat.pow_dvd_pow 2 h1) (Nat.dvd_of_mod_eq_zero hal))
   obtain ⟨v,σ1,⟨R1,hv⟩,hr1⟩:=r_Run R okn (p:=p) (k:=bot) (kind:=2) (by rw [s1];omega) (.inr rfl) a2 (by rw [s2];omega)
   subst hv
   refine runs_ret hr1 ?_
   simp -implicitDefEqProofs only[go_sem]
   rw [<- hnn,hHn];exact R1
 ·refine ⟨rfl,?_,?_,?_,0,by omega,by omega,?_,hR⟩ <;> simp -implicitDefEqProofs only[go_sem,Int.natCast_zero,Int.sub_zero]
theorem r_Take0 (hR:HRep σ A H) (ok:H.OK) {k:Nat} (hk:k <= H.order) (hz:∀ j,k <= j -> j <= H.order -> H.head j=0) :
  Runs G0 [] 248 [.ptr (some (A .buddy,0)),.int .i64 k] σ fun r σ'=>r=.tuple [.int .u64 0,.int .i64 2] /\ σ'=σ:=by
 refine runs_body g248 rfl ?_
 have ho:=ok.order_le
 have h2:=hR.cell (s:=.buddy) trivial (i:=2) (show 2<6 by omega)
 rw [show H.cell A .buddy 2=.int .i64 H.order from rfl] at h2
 have h5:=hR.cell (s:=.buddy) trivial (i:=5) (show 5<6 by omega)
 rw [show H.cell A .buddy 5=.slice (some (A .lists,0)) (H.order+1) 1 from rfl] at h5
 have c0:¬ ((k:Int)<0):=by omega
 have c1:¬ ((H.order:Int)<(k:Int)):=by omega
 simp -implicitDefEqProofs only[go_sem,h2,c0,c1]
 refine aw_loop (fun (m:Nat) (fr:Fr) (s:St)=>s=σ /\ fr.defers=[] /\ fr.tmps.get 0=some (.ptr (some (A .buddy,0))) /\ ∃ j,k <= j /\ j <= H.order+1 /\ m=H.order+1-j /\ fr.tmps.get 6=some (.int .i64 (j:Nat))) ?_ (H.order+1-k) ?_
 ·rintro m ⟨tm,ds⟩ s ⟨rfl,hds,t0,j,hj1,hj2,hm,t6⟩
  simp only at hds t0 t6
  subst hds
  rcases Nat.lt_or_ge j (H.order+1) with c | c
  ·have d1:(j:Int) <= (H.order:Int):=by omega
   have h6:=hR.cell (s:=.lists) trivial (i:=j) (show j<H.order+1 by omega)
   rw [show H.cell A .lists j=.ptr (some (A (.list j),0)) from rfl] at h6
   have d2:(0:Int) <= (j:Int) /\ (j:Int)<((H.order+1:Nat):Int):=by omega
   obtain ⟨v,σ1,⟨hv,hs⟩,hr1⟩:=r_Pop0 hR (k:=j) (by omega) (hz j hj1 (by omega))
   subst hv hs
   have e1:IntKind.i64.wrap ((j:Int)+1)=((j+1:Nat):Int):=by rw [wi64_id] <;> omega
   simp -implicitDefEqProofs only[go_sem,h2,h5,t0,t6,d1,d2,and_self,Int.toNat_natCast,Nat.mul_one,h6]
   refine runs_ret hr1 ?_
   simp -implicitDefEqProofs only[go_sem,t0,t6,e1]
   exact ⟨H.order+1-(j+1),by omega,j+1,by omega,by omega,rfl,rfl⟩
  ·have d1:¬ ((j:Int) <= (H.order:Int)):=by omega
   simp -implicitDefEqProofs only[go_sem,h2,t0,t6,d1]
 ·exact ⟨rfl,rfl,by simp -implicitDefEqProofs only[go_sem],k,Nat.le_refl _,by omega,rfl,by simp -implicitDefEqProofs only[go_sem]⟩
def _root_.AM.Heap.took (H:Heap) (k j p nx:Nat):Heap:=((((H.removed j nx 0).turned p j).cutN p j (j-k)).run p k 2)
theorem r_Take (hR:HRep σ A H) (ok:H.OK) {k j p nx:Nat} (hk:k <= j) (hj:j <= H.order) (hz:∀ i,k <= i -> i<j -> H.head i=0) (hhead:H.head j=H.addr p) (hp:p+2^j <= H.np) (hal:p%2^j=0)
  (hs:H.Sound j (H.addr p) nx 0) (hh:∀ m,m<j-k -> (((H.removed j nx 0).turned p j).cutN p j m).PushOk (j-1-m)) :
  Runs G0 [] 248 [.ptr (some (A .buddy,0)),.int .i64 k] σ fun r σ'=>HRep σ' A (H.took k j p nx) /\ r=.tuple [.int .u64 (H.addr p),.int .i64 0]:=by
 refine runs_body g248 rfl ?_
 have ho:=ok.order_le
 have hp2:=pow_pos' j
 have h2:=hR.cell (s:=.buddy) trivial (i:=2) (show 2<6 by omega)
 rw [show H.cell A .buddy 2=.int .i64 H.order from rfl] at h2
 have h5:=hR.cell (s:=.buddy) trivial (i:=5) (show 5<6 by omega)
 rw [show H.cell A .buddy 5=.slice (some (A .lists,0)) (H.order+1) 1 from rfl] at h5
 have c0:¬ ((k:Int)<0):=by omega
 have c1:¬ ((H.order:Int)<(k:Int)):=by omega
 have hbase:=ok.base_pos
 have hap:H.addr p≠0:=by unfold Heap.addr;omega
 have hnx:nx<18446744073709551616:=hs.next▸w64_lt ok _
 simp -implicitDefEqProofs only[go_sem,h2,c0,c1]
 refine aw_loop (fun (m:Nat) (fr:Fr) (s:St)=>s=σ /\ fr.defers=[] /\ fr.tmps.get 0=some (.ptr (some (A .buddy,0))) /\ fr.tmps.get 1=some (.int .i64 k) /\ ∃ i,k <= i /\ i <= j /\ m=j-i /\ fr.tmps.get 6=some (.int .i64 (i:Nat))) ?_ (j-k) ?_
 ·rintro m ⟨tm,ds⟩ s ⟨rfl,hds,t0,t1,i,hi1,hi2,hm,t6⟩
  simp only at hds t0 t1 t6
  subst hds
  have d1:(i:Int) <= (H.order:Int):=by omega
  have h6:=hR.cell (s:=.lists) trivial (i:=i) (show i<H.order+1 by omega)
  rw [show H.cell A .lists i=.ptr (some (A (.list i),0)) from rfl] at h6
  have d2:(0:Int) <= (i:Int) /\ (i:Int)<((H.order+1:Nat):Int):=by omega
  have e1:IntKind.i64.wrap ((i:Int)+1)=((i+1:Nat):Int):=by rw [wi64_id] <;> omega
  simp -implicitDefEqProofs only[go_sem,h2,h5,t0,t1,t6,d1,d2,and_self,Int.toNat_natCast,Nat.mul_one,h6]
  rcases Nat.lt_or_ge i j with c | c
  ·obtain ⟨v,σ1,⟨hv,hs1⟩,hr1⟩:=r_Pop0 hR (k:=i) (by omega) (hz i hi1 c)
   subst hv hs1
   refine runs_ret hr1 ?_
   simp -implicitDefEqProofs only[go_sem,t0,t1,t6,e1]
   exact ⟨j-(i+1),by omega,i+1,by omega,by omega,rfl,rfl⟩
  ·obtain rfl:i=j:=by omega
   obtain ⟨v,σ1,⟨R1,hv⟩,hr1⟩:=r_Pop hR ok (k:=i) (nx:=nx) hj (by rw [hhead];exact hap) (by rw [hhead];exact hs)
   subst hv
   rw [hhead] at hr1
   refine runs_ret hr1 ?_
   have sm:=same_removed H i nx 0
   have s1:=sm.order
   have s2:=sm.np
   have ok1:(H.removed i nx 0).OK:=ok_removed ok hnx
   have ea:=sm.addr p
   obtain ⟨v,σ2,⟨hv,hs2⟩,hr2⟩:=r_page R1 ok1 (p:=p) (by rw [s2];omega)
   subst hv hs2
   rw [ea] at hr2
   simp -implicitDefEqProofs only[go_sem,t0,t1,t6,Int.reduceEq]
   refine runs_ret hr2 ?_
   simp -implicitDefEqProofs only[go_sem,t0,t1,t6,ne_eq,not_true_eq_false]
   obtain ⟨v,σ3,⟨R3,hv⟩,hr3⟩:=r_turn R1 ok1 (p:=p) (k:=i) (by rw [s1];exact hj) (by rw [s2];omega)
   refine runs_ret hr3 ?_
   simp -implicitDefEqProofs only[go_sem,t0,t1,t6]
   have um:=same_turned (H.removed i nx 0) p i
   obtain ⟨v,σ4,⟨R4,hv⟩,hr4⟩:=r_cut R3 (ok_turned ok1) (p:=p) (top:=i) (bot:=k) hk (by rw [um.order,s1];exact hj) hal (by rw [um.np,s2];exact hp) hh
   subst hv
   refine runs_ret hr4 ?_
   simp -implicitDefEqProofs only[go_sem]
   exact R4
 ·exact ⟨rfl,rfl,by simp -implicitDefEqProofs only[go_sem],by simp -implicitDefEqProofs only[go_sem],k,Nat.le_refl _,hk,rfl,by simp -implicitDefEqProofs only[go_sem]⟩
end
noncomputable section
variable {σ:St} {A:Slot -> Nat} {H:Heap}
theorem r_live (hR:HRep σ A H) (ok:H.OK) {p k:Nat} (hp:p<H.np) (h1:(H.page p).kind=2) (h2:(H.page p).order=(k:Int)):Runs G0 [] 200 [.ptr (some (A .buddy,0)),.int .u64 (H.addr p),.int .i64 k] σ fun r σ'=>r=.tuple [.int .i64 p,.bool true] /\ Grow σ σ':=by
 refine runs_body g200 rfl ?_
 obtain ⟨v,σ1,⟨hv,hs⟩,hr1⟩:=r_page hR ok hp
 subst hv hs
 simp -implicitDefEqProofs only[go_sem]
 refine runs_ret hr1 ?_
 have h4:=hR.cell (s:=.buddy) trivial (i:=4) (show 4<6 by omega)
 rw [show H.cell A .buddy 4=.ptr (some (A .map,0)) from rfl] at h4
 simp -implicitDefEqProofs only[go_sem,h4]
 obtain ⟨v,σ2,⟨hv,g2,R2⟩,hr2⟩:=hR.rgrow (r_At hR ok hp)
 subst hv
 refine runs_ret hr2 ?_
 have hst:=new_store (σ:=σ2) (z:=zeroP.cells) (vs:=(H.page p).cells) (n:=11) (by simp [Page.cells_len]) rfl
 have g3:=Grow.lay σ2 11 zeroP.cells (H.page p).cells
 have L:=Lcl.lay σ2 11 zeroP.cells (H.page p).cells rfl
 have hl0:=L.cell (i:=0) (by omega)
 have hl1:=L.cell (i:=1) (by omega)
 rw [show lst (H.page p).cells 0=.int .i64 (H.page p).kind from rfl,h1] at hl0
 rw [show lst (H.page p).cells 1=.int .i64 (H.page p).order from rfl,h2] at hl1
 simp only [zeroP,Page.cells,Int.natCast_zero] at hst hl0 hl1 g3
 simp -implicitDefEqProofs only[go_sem,List.length_cons,List.length_nil,vcells_agg,Page.cells,hst,hl0,hl1]
 exact g2.trans g3
theorem r_Give0 (hR:HRep σ A H) (ok:H.OK) {p k:Nat} (hk:k <= H.order) (hal:p%2^k=0) (hp:p+2^k <= H.np) (h1:(H.page p).kind=2) (h2:(H.page p).order=(k:Int))
  (hb:(decide (k=H.order) || (H.turned p k).pbit k (p / 2^(k+1)))=true) (hh:(H.turned p k).PushOk k) :
  Runs G0 [] 228 [.ptr (some (A .buddy,0)),.int .u64 (H.addr p),.int .i64 k] σ fun r σ'=>HRep σ' A ((H.turned p k).enter p k) /\ r=.int .i64 0:=by
 refine runs_body g228 rfl ?_
 have hpp:=pow_pos' k
 obtain ⟨v,σ1,⟨hv,g1,R1⟩,hr1⟩:=hR.rgrow (r_live hR ok (p:=p) (k:=k) (by omega) h1 h2)
 subst hv
 simp -implicitDefEqProofs only[go_sem]
 refine runs_ret hr1 ?_
 simp -implicitDefEqProofs only[go_sem]
 obtain ⟨v,σ2,⟨R2,hv⟩,hr2⟩:=r_turn R1 ok (p:=p) (k:=k) hk (by omega)
 rw [hb] at hv
 subst hv
 refine runs_ret hr2 ?_
 simp -implicitDefEqProofs only[go_sem]
 have sm:=same_turned H p k
 obtain ⟨v,σ3,⟨R3,hv⟩,hr3⟩:=r_enter R2 (ok_turned ok) (p:=p) (k:=k) (by rw [sm.order];exact hk) hal (by rw [sm.np];exact hp) hh
 subst hv
 refine runs_ret hr3 ?_
 simp -implicitDefEqProofs only[go_sem]
 exact R3
theorem r_Regions (hR:HRep σ A H) (ok:H.OK):Runs G0 [] 261 [.ptr (some (A .space,0))] σ fun r σ'=>r=.int .i64 H.regs /\ σ'=σ:=by
 refine runs_body g261 rfl ?_
 have h4:σ.cell (A .space) 4=some (H.partsV A):=hR.cell (s:=.space) trivial (show 4<5 by omega)
 rw [partsV_len ok] at h4
 simp -implicitDefEqProofs only[go_sem,h4]
theorem r_top (hR:HRep σ A H) (ok:H.OK) (h:0<H.regs):Runs G0 [] 229 [.ptr (some (A .buddy,0))] σ fun r σ'=>r=.tuple [.int .i64 ((H.np-2^H.order:Nat):Int),.bool true] /\ σ'=σ:=by
 refine runs_body g229 rfl ?_
 have ho:=ok.order_le
 have hnp:=np_le ok
 have h2:=hR.cell (s:=.buddy) trivial (i:=2) (show 2<6 by omega)
 rw [show H.cell A .buddy 2=.int .i64 H.order from rfl] at h2
 have h3:=hR.cell (s:=.buddy) trivial (i:=3) (show 3<6 by omega)
 rw [show H.cell A .buddy 3=.ptr (some (A .space,0)) from rfl] at h3
 have h4:=hR.cell (s:=.buddy) trivial (i:=4) (show 4<6 by omega)
 rw [show H.cell A .buddy 4=.ptr (some (A .map,0)) from rfl] at h4
 obtain ⟨v,σ1,⟨hv,hs⟩,hr1⟩:=r_Regions hR ok
 subst hv hs
 simp -implicitDefEqProofs only[go_sem,h2,h3,h4]
 refine runs_ret hr1 ?_
 have c0:(0:Int) <= (H.order:Int):=by omega
 have e1:shlI .i64 (H.regs:Int) (H.order:Int)=(H.np:Int):=by
  rw [i64_shl (by omega) (by unfold Heap.np at hnp;omega)];rfl
 have e2:=i64_one_shl (n:=H.order) (by omega)
 have hle:2^H.order <= H.np:=by
  unfold Heap.np
  have:1*2^H.order <= H.regs*2^H.order:=Nat.mul_le_mul_right _ h
  omega
 have hpp:=pow_pos' H.order
 have e3:IntKind.i64.wrap ((H.np:Int)-((2^H.order:Nat):Int))=((H.np-2^H.order:Nat):Int):=i64_sub hle (by omega)
 have c1:(0:Int)<(H.np:Int):=by omega
 obtain ⟨v,σ2,⟨hv,hs⟩,hr2⟩:=r_Pages hR ok
 subst hv hs
 simp -implicitDefEqProofs only[go_sem,h2,h3,h4,c0,c1,bin_shl,e1,e2,e3]
 refine runs_ret hr2 ?_
 simp -implicitDefEqProofs only[go_sem,h2,h3,h4,c0,c1,bin_shl,e1,e2,e3]
theorem r_Feed (hR:HRep σ A H) (ok:H.OK) (h:0<H.regs) (h1:(H.page (H.np-2^H.order)).kind=2) (h2:(H.page (H.np-2^H.order)).order=(H.order:Int)) (hh:H.PushOk H.order) :
  Runs G0 [] 251 [.ptr (some (A .buddy,0))] σ fun r σ'=>HRep σ' A (H.enter (H.np-2^H.order) H.order) /\ r=.int .i64 0:=by
 refine runs_body g251 rfl ?_
 obtain ⟨v,σ1,⟨hv,hs⟩,hr1⟩:=r_top hR ok h
 subst hv hs
 simp -implicitDefEqProofs only[go_sem]
 refine runs_ret hr1 ?_
 have hpp:=pow_pos' H.order
 have hle:2^H.order <= H.np:=by
  unfold Heap.np
  have:1*2^H.order <= H.regs*2^H.order:=Nat.mul_le_mul_right _ h
  omega
 obtain ⟨p,hp⟩:∃ p,p=H.np-2^H.order:=⟨_,rfl⟩
 rw [<- hp] at h1 h2 ⊢
 have hal:p%2^H.order=0:=by
  rw [hp];unfold Heap.np
  rw [<- Nat.sub_one_mul];exact Nat.mul_mod_left _ _
 have hb2:=hR.cell (s:=.buddy) trivial (i:=2) (show 2<6 by omega)
 rw [show H.cell A .buddy 2=.int .i64 H.order from rfl] at hb2
 obtain ⟨v,σ2,⟨hv,hs⟩,hr2⟩:=r_address hR ok (p:=p) (by omega)
 subst hv hs
 simp -implicitDefEqProofs only[go_sem,hb2]
 refine runs_ret hr2 ?_
 simp -implicitDefEqProofs only[go_sem,hb2]
 have ht:H.turned p H.order=H:=by unfold Heap.turned;rw [if_pos rfl]
 obtain ⟨v,σ3,⟨R3,hv⟩,hr3⟩:=r_Give0 hR ok (p:=p) (k:=H.order) (Nat.le_refl _) hal (by omega) h1 h2 (by simp) (by rw [ht];exact hh)
 subst hv
 rw [ht] at R3
 refine runs_ret hr3 ?_
 have hb3:=R3.cell (s:=.buddy) trivial (i:=2) (show 2<6 by omega)
 rw [show (H.enter p H.order).cell A .buddy 2=.int .i64 (H.enter p H.order).order from rfl,(same_enter H p H.order).order] at hb3
 simp -implicitDefEqProofs only[go_sem,hb2,hb3,Int.reduceEq]
 exact R3
end
noncomputable section
variable {σ:St} {A:Slot -> Nat} {H:Heap}
theorem r_PSpace (hR:HRep σ A H):Runs G0 [] 75 [.ptr (some (A .pool,0))] σ fun r σ'=>r=.ptr (some (A .space,0)) /\ σ'=σ:=by
 refine runs_body g75 rfl ?_
 have h0:=hR.cell (s:=.pool) trivial (i:=0) (show 0<3 by omega)
 rw [show H.cell A .pool 0=.ptr (some (A .space,0)) from rfl] at h0
 simp -implicitDefEqProofs only[go_sem,h0]
theorem r_PMap (hR:HRep σ A H):Runs G0 [] 78 [.ptr (some (A .pool,0))] σ fun r σ'=>r=.ptr (some (A .map,0)) /\ σ'=σ:=by
 refine runs_body g78 rfl ?_
 have h0:=hR.cell (s:=.pool) trivial (i:=1) (show 1<3 by omega)
 rw [show H.cell A .pool 1=.ptr (some (A .map,0)) from rfl] at h0
 simp -implicitDefEqProofs only[go_sem,h0]
theorem slab_pool (hR:HRep σ A H):σ.cell (A .slab) 0=some (.ptr (some (A .pool,0))):=hR.cell (s:=.slab) trivial (i:=0) (show 0<9 by omega)
theorem slab_part (hR:HRep σ A H) {c:Nat} (hc:c<8):σ.cell (A .slab) (1+c)=some (.int .i64 (H.part c)):=by
 rw [hR.cell (s:=.slab) trivial (i:=1+c) (show 1+c<9 by omega)]
 simp only [Heap.cell]
 rw [if_neg (by omega),Nat.add_sub_cancel_left]
theorem r_base (hR:HRep σ A H) (ok:H.OK):Runs G0 [] 222 [.ptr (some (A .slab,0))] σ fun r σ'=>r=.int .u64 H.base /\ σ'=σ:=by
 refine runs_body g222 rfl ?_
 have h0:=slab_pool hR
 obtain ⟨v,σ1,⟨hv,hs⟩,hr1⟩:=r_PSpace hR
 subst hv hs
 simp -implicitDefEqProofs only[go_sem,h0]
 refine runs_ret hr1 ?_
 obtain ⟨v,σ2,⟨hv,hs⟩,hr2⟩:=r_PMap hR
 subst hv hs
 simp -implicitDefEqProofs only[go_sem,h0]
 refine runs_ret hr2 ?_
 obtain ⟨v,σ3,⟨hv,hs⟩,hr3⟩:=r_End hR ok
 subst hv hs
 simp -implicitDefEqProofs only[go_sem,h0]
 refine runs_ret hr3 ?_
 obtain ⟨v,σ4,⟨hv,hs⟩,hr4⟩:=r_Pages hR ok
 subst hv hs
 simp -implicitDefEqProofs only[go_sem,h0]
 refine runs_ret hr4 ?_
 have hnp:=np_le ok
 have hf:=fin_le ok
 have hfn:=fin_np H
 have e1:IntKind.u64.wrap (H.np:Int)=(H.np:Int):=u64_nat (by omega)
 have e2:IntKind.u64.wrap (4096*(H.np:Int))=((4096*H.np:Nat):Int):=by rw [wu64_id] <;> omega
 have e3:IntKind.u64.wrap ((H.fin:Int)-((4096*H.np:Nat):Int))=(H.base:Int):=by rw [wu64_id] <;> omega
 simp -implicitDefEqProofs only[go_sem,h0,e1,e2,e3]
def _root_.AM.Heap.setPart (H:Heap) (c:Nat) (v:Int):Heap:={ H with part:=fun i=>if i=c then v else H.part i }
theorem ok_setPart (ok:H.OK) {c:Nat} {v:Int}:(H.setPart c v).OK:=⟨ok.base_pos,ok.order_le,ok.limit_pos,ok.limit_le,ok.pages_le,ok.end_le,ok.base_al,ok.regs_le,ok.mem_lt,ok.head_lt,ok.word_lt,ok.parts,ok.pages⟩
theorem same_setPage (H:Heap) (p:Nat) (g:Page):(H.setPage p g).Same H:=⟨rfl,rfl,rfl,rfl⟩
theorem same_setPart (H:Heap) (c:Nat) (v:Int):(H.setPart c v).Same H:=⟨rfl,rfl,rfl,rfl⟩
theorem part_store (hR:HRep σ A H) {c:Nat} {v:Int} (hc:c<8):∃ σ',σ.store (A .slab) (1+c) [.int .i64 v]=some σ' /\ HRep σ' A (H.setPart c v) /\ Side σ A H σ':=by
 obtain ⟨σ1,hs1,hR1,hn1,hg1,ho1⟩:=hR.store (H':=H.setPart c v) (s:=.slab) trivial (off:=1+c) (vs:=[.int .i64 v]) (show 1+c+1 <= 9 by omega) rfl
  (fun t ht=>ht) (fun t _=>by cases t <;> rfl) (by
   intro t ht i hi
   cases t with
   |slab =>
    rw [if_pos rfl]
    simp only [Heap.cell,Heap.setPart,over,List.length_cons,List.length_nil]
    by_cases c0:i=0
    ·rw [if_pos c0,if_neg (by omega),if_pos c0]
    ·rw [if_neg c0]
     by_cases c2:i-1=c
     ·rw [if_pos c2,if_pos (by omega),show i-(1+c)=0 by omega];rfl
     ·rw [if_neg c2,if_neg (by omega),if_neg c0]
   |_=>rfl)
 exact ⟨σ1,hs1,hR1,side_of (s:=.slab) trivial hn1 hg1 ho1⟩
def _root_.AM.Heap.hung1 (H:Heap) (p c:Nat):Heap:=H.setPage p { H.page p with next:=H.part c,prev:=-1 }
def _root_.AM.Heap.hung (H:Heap) (p c:Nat):Heap :=
 (if 0 <= H.part c then (H.hung1 p c).setPage (H.part c).toNat { (H.hung1 p c).page (H.part c).toNat with prev:=p } else H.hung1 p c).setPart c p
theorem r_hang (hR:HRep σ A H) (ok:H.OK) {p c:Nat} (hp:p<H.np) (hc:c<8) (hk:(H.page p).kind=4) (hh:-1 <= H.part c /\ H.part c<(H.np:Int))
  (h1:0 <= H.part c -> ((H.hung1 p c).page (H.part c).toNat).kind=4 /\ -1 <= ((H.hung1 p c).page (H.part c).toNat).next /\ ((H.hung1 p c).page (H.part c).toNat).next<(H.np:Int)) :
  Runs G0 [] 225 [.ptr (some (A .slab,0)),.int .i64 p,.int .i64 c] σ fun r σ'=>HRep σ' A (H.hung p c) /\ r=.tuple []:=by
 refine runs_body g225 rfl ?_
 have h0:=slab_pool hR
 have hpt:=slab_part hR hc
 have hnp:=np_le ok
 obtain ⟨v,σ1,⟨hv,hs⟩,hr1⟩:=r_PMap hR
 subst hv hs
 simp -implicitDefEqProofs only[go_sem,h0]
 refine runs_ret hr1 ?_
 have c1:(0:Int) <= (c:Int) /\ (c:Int)<((8:Nat):Int):=by omega
 simp -implicitDefEqProofs only[go_sem,h0,c1,and_self,Int.toNat_natCast,Nat.mul_one,hpt]
 obtain ⟨v,σ2,⟨R2,hv⟩,hr2⟩:=r_Chain hR ok (p:=p) (nx:=H.part c) (pv:=-1) hp hk hh.1 hh.2 (by omega) (by omega)
 subst hv
 refine runs_ret hr2 ?_
 have ok2:(H.hung1 p c).OK:=ok_setPage ok
 have R2':HRep σ2 A (H.hung1 p c):=R2
 by_cases c2:0 <= H.part c
 ·obtain ⟨k1,k2,k3⟩:=h1 c2
  obtain ⟨q,hq⟩:∃ q:Nat,H.part c=(q:Int):=⟨(H.part c).toNat,by omega⟩
  have hqn:(H.part c).toNat=q:=by omega
  have hqp:q<H.np:=by omega
  rw [hqn] at k1 k2 k3
  have c3:(0:Int) <= (q:Int):=by omega
  rw [hq]
  simp -implicitDefEqProofs only[go_sem,c3]
  obtain ⟨v,σ3,⟨hv,g3,R3⟩,hr3⟩:=R2'.rgrow (r_At R2' ok2 (p:=q) hqp)
  subst hv
  refine runs_ret hr3 ?_
  have hst:=new_store (σ:=σ3) (z:=zeroP.cells) (vs:=((H.hung1 p c).page q).cells) (n:=11) (by simp [Page.cells_len]) rfl
  have R4:=R3.lay (n:=11) (z:=zeroP.cells) (vs:=((H.hung1 p c).page q).cells) (by simp [Page.cells_len]) rfl
  have L:=Lcl.lay σ3 11 zeroP.cells ((H.hung1 p c).page q).cells rfl
  have hl4:=L.cell (i:=4) (by omega)
  rw [show lst ((H.hung1 p c).page q).cells 4=.int .i64 ((H.hung1 p c).page q).next from rfl] at hl4
  generalize hpg:(H.hung1 p c).page q=pg at hst R4 hl4 k1 k2 k3
  simp only [zeroP,Page.cells,Int.natCast_zero] at hst hl4 R4
  simp -implicitDefEqProofs only[go_sem,List.length_cons,List.length_nil,vcells_agg,Page.cells,hst,hl4]
  obtain ⟨v,σ5,⟨R5,hv⟩,hr5⟩:=r_Chain R4 ok2 (p:=q) (nx:=pg.next) (pv:=(p:Int)) hqp (by rw [hpg];exact k1) k2 k3 (by omega) (by show (p:Int)<(H.np:Int);omega)
  subst hv
  refine runs_ret hr5 ?_
  obtain ⟨σ6,hs6,R6,S6⟩:=part_store R5 (c:=c) (v:=(p:Int)) hc
  simp -implicitDefEqProofs only[go_sem,c1,and_self,Int.toNat_natCast,Nat.mul_one,vcells_int,List.length_cons,List.length_nil,hs6]
  have e:H.hung p c=((H.hung1 p c).setPage q { (H.hung1 p c).page q with next:=pg.next,prev:=p }).setPart c p:=by
   unfold Heap.hung
   rw [if_pos c2,hqn,hpg]
  rw [e];exact R6
 ·have c3:¬ (0:Int) <= H.part c:=c2
  obtain ⟨σ6,hs6,R6,S6⟩:=part_store R2' (c:=c) (v:=(p:Int)) hc
  simp -implicitDefEqProofs only[go_sem,c3,c1,and_self,Int.toNat_natCast,Nat.mul_one,vcells_int,List.length_cons,List.length_nil,hs6]
  have e:H.hung p c=(H.hung1 p c).setPart c p:=by
   unfold Heap.hung
   rw [if_neg c2]
  rw [e];exact R6
def _root_.AM.Heap.laidN (H:Heap) (a w n:Nat):Nat -> Heap
 | 0=>H
 |i+1=>(H.laidN a w n i).wr64 (a+i*w) (if i+1=n then 0 else a+(i+1)*w)
theorem same_laidN (H:Heap) (a w n:Nat):∀ i,(H.laidN a w n i).Same H
 | 0=>Heap.Same.refl _
 |i+1=>Heap.Same.trans (same_wr64 _ _ _) (same_laidN H a w n i)
theorem ok_laidN (ok:H.OK) {a w n:Nat}:∀ i,(H.laidN a w n i).OK
 | 0=>ok
 |i+1=>ok_wr64 (ok_laidN ok i) _ _
theorem page_laidN (H:Heap) (a w n:Nat):∀ i,(H.laidN a w n i).page=H.page /\ (H.laidN a w n i).part=H.part
 | 0=>⟨rfl,rfl⟩
 |i+1=>page_laidN H a w n i
def _root_.AM.Heap.born1 (H:Heap) (p c:Nat):Heap:=(H.setPage p { plainP 4 0 with cls:=c }).laidN (H.addr p) (16*2^c) (256 / 2^c) (256 / 2^c)
def _root_.AM.Heap.born (H:Heap) (p c:Nat):Heap:=((H.born1 p c).setPage p { (H.born1 p c).page p with first:=0 }).hung p c
theorem r_born (hR:HRep σ A H) (ok:H.OK) {p c:Nat} (hp:p<H.np) (hc:c<8) (hh:-1 <= H.part c /\ H.part c<(H.np:Int))
  (h1:0 <= H.part c -> (((H.born1 p c).setPage p { (H.born1 p c).page p with first:=0 }).hung1 p c |>.page (H.part c).toNat).kind=4 /\ -1 <= (((H.born1 p c).setPage p { (H.born1 p c).page p with first:=0 }).hung1 p c |>.page (H.part c).toNat).next /\ (((H.born1 p c).setPage p { (H.born1 p c).page p with first:=0 }).hung1 p c |>.page (H.part c).toNat).next<(H.np:Int)) :
  Runs G0 [] 246 [.ptr (some (A .slab,0)),.int .u64 (H.addr p),.int .i64 c] σ fun r σ'=>HRep σ' A (H.born p c) /\ r=.int .i64 p:=by
 refine runs_body g246 rfl ?_
 have h0:=slab_pool hR
 have hnp:=np_le ok
 have ha:=addr_lt ok (Nat.le_of_lt hp)
 obtain ⟨v,σ1,⟨hv,hs⟩,hr1⟩:=r_PMap hR
 subst hv hs
 simp -implicitDefEqProofs only[go_sem,h0]
 refine runs_ret hr1 ?_
 obtain ⟨v,σ2,⟨hv,hs⟩,hr2⟩:=r_PSpace hR
 subst hv hs
 simp -implicitDefEqProofs only[go_sem,h0]
 refine runs_ret hr2 ?_
 obtain ⟨v,σ3,⟨hv,hs⟩,hr3⟩:=r_base hR ok
 subst hv hs
 simp -implicitDefEqProofs only[go_sem,h0]
 refine runs_ret hr3 ?_
 have e2:IntKind.u64.wrap ((H.addr p:Int)-(H.base:Int))=((4096*p:Nat):Int):=by
  unfold Heap.addr at *;rw [wu64_id] <;> omega
 have e3:IntKind.u64.wrap (((4096*p:Nat):Int).tdiv 4096)=(p:Int):=by
  rw [show (4096:Int)=((4096:Nat):Int) from rfl,nat_tdiv,wu64_id] <;> omega
 have e5:IntKind.i64.wrap (p:Int)=(p:Int):=i64_nat (by omega)
 have c2:(4096:Int)≠0:=by decide
 obtain ⟨v,σ4,⟨R4,hv⟩,hr4⟩:=r_Slab hR ok (p:=p) (c:=c) hp hc
 subst hv
 simp -implicitDefEqProofs only[go_sem,e2,bin_quo,c2,ne_eq,not_false_eq_true,e3,e5]
 refine runs_ret hr4 ?_
 have c1:(0:Int) <= (c:Int) /\ (c:Int)<((8:Nat):Int):=by omega
 have hw:=R4.wid.cell hc
 obtain ⟨w,hwd⟩:∃ w,w=16*2^c:=⟨_,rfl⟩
 obtain ⟨n,hnd⟩:∃ n,n=256 / 2^c:=⟨_,rfl⟩
 have hwn:w*n=4096 /\ 16 <= w /\ w <= 2048 /\ 2 <= n /\ n <= 256 /\ 4096 / w=n:=by
  rw [hwd,hnd]
  rcases (by omega:c=0 \/ c=1 \/ c=2 \/ c=3 \/ c=4 \/ c=5 \/ c=6 \/ c=7) with rfl | rfl | rfl | rfl | rfl | rfl | rfl | rfl <;> decide
 obtain ⟨w1,w2,w3,w4,w5,w6⟩:=hwn
 rw [<- hwd] at hw
 have cw:(w:Int)≠0:=by omega
 have e6:IntKind.u64.wrap ((4096:Int).tdiv (w:Int))=(n:Int):=by
  rw [show (4096:Int)=((4096:Nat):Int) from rfl,u64_div (by omega),w6]
 simp -implicitDefEqProofs only[go_sem,c1,and_self,Int.toNat_natCast,Nat.mul_one,hw,bin_quo,cw,ne_eq,not_false_eq_true,e6]
 obtain ⟨H1,hH1⟩:∃ H1,H1=H.setPage p { plainP 4 0 with cls:=(c:Int) }:=⟨_,rfl⟩
 rw [<- hH1] at R4
 have ok1:H1.OK:=by rw [hH1];exact ok_setPage ok
 have sm1:H1.Same H:=by rw [hH1];exact same_setPage _ _ _
 obtain ⟨a,had⟩:∃ a,a=H.addr p:=⟨_,rfl⟩
 rw [<- had] at ha ⊢
 have hin:∀ i,i<n -> H1.In (a+i*w) 8:=by
  intro i hi
  have hi2:(i+1)*w <= n*w:=Nat.mul_le_mul_right _ hi
  rw [Nat.add_mul,Nat.mul_comm n] at hi2
  have hin0:=In_addr ok1 (p:=p) (n:=4096) (by rw [sm1.np];exact hp) (Nat.le_refl _)
  rw [sm1.addr, <- had] at hin0
  exact In_hi hin0 (by omega) (by omega)
 refine aw_loop (fun (m:Nat) (fr:Fr) (s:St)=>fr.defers=[] /\ fr.tmps.get 0=some (.ptr (some (A .slab,0))) /\ fr.tmps.get 1=some (.int .u64 a) /\ fr.tmps.get 2=some (.int .i64 c) /\ fr.tmps.get 7=some (.ptr (some (A .map,0))) /\ fr.tmps.get 8=some (.ptr (some (A .space,0))) /\ fr.tmps.get 9=some (.int .i64 p) /\ fr.tmps.get 10=some (.int .u64 n) /\ fr.tmps.get 41=some (.int .u64 n) ∧
  ∃ i,i <= n /\ m=n-i /\ fr.tmps.get 42=some (.int .u64 (i:Nat)) /\ HRep s A (H1.laidN a w n i)) ?_ n ?_
 ·rintro m ⟨tm,ds⟩ s ⟨hds,t0,t1,t2,t7,t8,t9,t10,t41,i,hi,hm,t42,R⟩
  simp only at hds t0 t1 t2 t7 t8 t9 t10 t41 t42
  subst hds
  have hws:=R.wid.cell hc
  rw [<- hwd] at hws
  rcases Nat.lt_or_ge i n with ci | ci
  ·have d1:(i:Int)<(n:Int):=by omega
   have f1:IntKind.u64.wrap ((i:Int)+1)=((i+1:Nat):Int):=by rw [wu64_id] <;> omega
   have hi2:(i+1)*w <= n*w:=Nat.mul_le_mul_right _ ci
   have hi3:i*w <= n*w:=Nat.mul_le_mul_right _ hi
   rw [Nat.mul_comm n,w1] at hi2 hi3
   have f2:IntKind.u64.wrap (((i+1:Nat):Int)*(w:Int))=(((i+1)*w:Nat):Int):=u64_mul (by omega)
   have f3:IntKind.u64.wrap ((a:Int)+(((i+1)*w:Nat):Int))=((a+(i+1)*w:Nat):Int):=u64_add (by omega)
   have f4:IntKind.u64.wrap ((i:Int)*(w:Int))=((i*w:Nat):Int):=u64_mul (by omega)
   have f5:IntKind.u64.wrap ((a:Int)+((i*w:Nat):Int))=((a+i*w:Nat):Int):=u64_add (by omega)
   have hin':(H1.laidN a w n i).In (a+i*w) 8:=by
    have sm:=same_laidN H1 a w n i
    have h:=hin i ci
    exact ⟨by rw [sm.base];exact h.base,by rw [sm.base,sm.regs,show (H1.laidN a w n i).rsz=H1.rsz by unfold Heap.rsz;rw [sm.order]];exact h.reg,by rw [sm.base,show (H1.laidN a w n i).rsz=H1.rsz by unfold Heap.rsz;rw [sm.order]];exact h.fits⟩
   simp -implicitDefEqProofs only[go_sem,t0,t1,t2,t7,t8,t9,t10,t41,t42,d1,f1,c1,and_self,Int.toNat_natCast,Nat.mul_one,hws,f2,f3]
   by_cases cl:i+1=n
   ·have d2:((i+1:Nat):Int)=(n:Int):=by omega
    obtain ⟨v,σ5,⟨R5,hv⟩,hr5⟩:=r_SetWord R (ok_laidN ok1 i) (p:=a+i*w) (v:=0) (by omega) hin'
    subst hv
    simp -implicitDefEqProofs only[go_sem,t0,t1,t2,t7,t8,t9,t10,t41,t42,d2,f4,f5,c1,and_self,Int.toNat_natCast,Nat.mul_one,hws]
    refine runs_ret hr5 ?_
    simp -implicitDefEqProofs only[go_sem,t0,t1,t2,t7,t8,t9,t10,t41,t42,f1]
    refine ⟨n-(i+1),by omega,i+1,by omega,rfl,rfl,?_⟩
    rw [Heap.laidN,if_pos cl];exact R5
   ·have d2:¬ ((i+1:Nat):Int)=(n:Int):=by omega
    obtain ⟨v,σ5,⟨R5,hv⟩,hr5⟩:=r_SetWord R (ok_laidN ok1 i) (p:=a+i*w) (v:=a+(i+1)*w) (by omega) hin'
    subst hv
    simp -implicitDefEqProofs only[go_sem,t0,t1,t2,t7,t8,t9,t10,t41,t42,d2,f4,f5,c1,and_self,Int.toNat_natCast,Nat.mul_one,hws]
    refine runs_ret hr5 ?_
    simp -implicitDefEqProofs only[go_sem,t0,t1,t2,t7,t8,t9,t10,t41,t42,f1]
    refine ⟨n-(i+1),by omega,i+1,by omega,rfl,rfl,?_⟩
    rw [Heap.laidN,if_neg cl];exact R5
  ·have hin:i=n:=by omega
   subst hin
   have d1:¬ ((i:Int)<(i:Int)):=by omega
   have sm:=same_laidN H1 a w i i
   have pg:=page_laidN H1 a w i i
   have hborn:H1.laidN a w i i=H.born1 p c:=by unfold Heap.born1;rw [hH1,had,hwd, <- hnd]
   have ok3:=ok_laidN ok1 (a:=a) (w:=w) (n:=i) i
   rw [hborn] at R sm pg ok3
   have hpgp:(H.born1 p c).page p={ plainP 4 0 with cls:=(c:Int) }:=by rw [pg.1,hH1];simp [Heap.setPage]
   obtain ⟨v,σ5,⟨R5,hv⟩,hr5⟩:=r_First R ok3 (p:=p) (c:=c) (q:=0) (by rw [sm.np,sm1.np];exact hp) (by rw [hpgp];rfl) (by rw [hpgp]) hc (by omega) (by have:=(cells_pos hc).1;omega)
   subst hv
   simp -implicitDefEqProofs only[go_sem,t0,t1,t2,t7,t8,t9,t10,t41,t42,d1]
   refine runs_ret hr5 ?_
   simp -implicitDefEqProofs only[go_sem,t0,t1,t2,t7,t8,t9,t10,t41,t42]
   have hpart:((H.born1 p c).setPage p { (H.born1 p c).page p with first:=0 }).part c=H.part c:=by
    show (H.born1 p c).part c=H.part c
    rw [pg.2,hH1];rfl
   obtain ⟨v,σ6,⟨R6,hv⟩,hr6⟩:=r_hang R5 (ok_setPage ok3) (p:=p) (c:=c) (by show p<(H.born1 p c).np;rw [sm.np,sm1.np];exact hp) hc (by simp [Heap.setPage,hpgp,plainP]) (by rw [hpart];show -1 <= H.part c /\ H.part c<((H.born1 p c).np:Int);rw [sm.np,sm1.np];exact hh) (by
    rw [hpart]
    intro h
    have:=h1 h
    refine ⟨this.1,this.2.1,?_⟩
    show _<((H.born1 p c).np:Int)
    rw [sm.np,sm1.np];exact this.2.2)
   subst hv
   refine runs_ret hr6 ?_
   simp -implicitDefEqProofs only[go_sem,t9]
   exact R6
 ·refine ⟨rfl,?_,?_,?_,?_,?_,?_,?_,?_,0,by omega,by omega,?_,R4⟩ <;> simp -implicitDefEqProofs only[go_sem,Int.natCast_zero]
end
noncomputable section
variable {σ:St} {A:Slot -> Nat} {H:Heap}
def tlC (c:AC):AC:=match c with
 | .seq _ b=>b
 |c=>c
def hid (c:AC):AC:=c
theorem hid_eq {c:AC}:hid c=c:=rfl
def cutC:Nat -> AC -> AC
 | 0,c=>hid c
 |n+1,.seq a b=>.seq a (cutC n b)
 |_+1,c=>c
theorem cutC_eq:∀ (n:Nat) (c:AC),cutC n c=c
 | 0,_=>rfl
 |n+1,.seq a b=>by rw [cutC,cutC_eq n b]
 |_+1,.skip=>rfl
 |_+1,.region _=>rfl
 |_+1,.regionR _ _=>rfl
 |_+1,.draw _=>rfl
 |_+1,.cond ..=>rfl
 |_+1,.loop ..=>rfl
 |_+1,.block ..=>rfl
 |_+1,.exit ..=>rfl
 |_+1,.ret ..=>rfl
 |_+1,.label ..=>rfl
 |_+1,.goto ..=>rfl
 |_+1,.scope ..=>rfl
 |_+1,.bad _=>rfl
theorem wp_cut (n:Nat) {Γ:T AF} {M:List Memo} {c:AC} {fr:Fr} {σ:St} {K:Post} (h:wp Γ M (cutC n c) fr σ K):wp Γ M c fr σ K:=by
 rw [cutC_eq] at h;exact h
attribute [irreducible] hid
theorem r_Chain1 (hR:HRep σ A H) (ok:H.OK) {p:Nat} {nx pv:Int} (hp:p<H.np) (hk:(H.page p).kind=4) (h1:-1 <= nx) (h2:nx<(H.np:Int)) (h3:-1 <= pv) (h4:pv<(H.np:Int)) :
  Runs G0 [] 258 [.ptr (some (A .map,0)),.int .i64 p,.int .i64 nx,.int .i64 pv] σ fun r σ'=>HRep σ' A (H.setPage p { H.page p with next:=nx,prev:=pv }) /\ r=.int .i64 0 /\ AM.Left σ A H σ' A (H.setPage p { H.page p with next:=nx,prev:=pv }) :=
 HRep.call1 (Γ:=G0) (fun _ _ h=>h) (fun _ h=>(List.not_mem_nil h).elim) hR fun s R=>r_Chain R ok hp hk h1 h2 h3 h4
theorem at_kept (hR:HRep σ A H) (ok:H.OK) {p:Nat} (hp:p<H.np) {Q:V -> St -> Prop}
  (h:∀ σ1,Grow σ σ1 -> HRep σ1 A H -> Q (.tuple [.agg (H.page p).cells,.bool true]) σ1):Runs G0 [] 80 [.ptr (some (A .map,0)),.int .i64 p] σ Q:=by
 obtain ⟨v,σ1,⟨hv,g1,R1⟩,hr⟩:=hR.rgrow (r_At hR ok hp)
 subst hv
 exact runs_ret hr (h σ1 g1 R1)
def _root_.AM.Heap.unh1 (H:Heap) (p c:Nat):Heap :=
 if 0 <= (H.page p).prev then H.setPage (H.page p).prev.toNat { H.page (H.page p).prev.toNat with next:=(H.page p).next,prev:=(H.page (H.page p).prev.toNat).prev } else H.setPart c (H.page p).next
def _root_.AM.Heap.unh2 (H:Heap) (p c:Nat):Heap :=
 if 0 <= (H.page p).next then (H.unh1 p c).setPage (H.page p).next.toNat { (H.unh1 p c).page (H.page p).next.toNat with next:=((H.unh1 p c).page (H.page p).next.toNat).next,prev:=(H.page p).prev } else H.unh1 p c
def _root_.AM.Heap.unhung (H:Heap) (p c:Nat):Heap:=(H.unh2 p c).setPage p { (H.unh2 p c).page p with next:=-1,prev:=-1 }
theorem same_unh1 (H:Heap) (p c:Nat):(H.unh1 p c).Same H:=by
 unfold Heap.unh1
 by_cases h:0 <= (H.page p).prev
 ·rw [if_pos h];exact same_setPage _ _ _
 ·rw [if_neg h];exact same_setPart _ _ _
theorem ok_unh1 (ok:H.OK) {p c:Nat}:(H.unh1 p c).OK:=by
 unfold Heap.unh1
 by_cases h:0 <= (H.page p).prev
 ·rw [if_pos h];exact ok_setPage ok
 ·rw [if_neg h];exact ok_setPart ok
theorem same_unh2 (H:Heap) (p c:Nat):(H.unh2 p c).Same H:=by
 unfold Heap.unh2
 by_cases h:0 <= (H.page p).next
 ·rw [if_pos h];exact Heap.Same.trans (same_setPage _ _ _) (same_unh1 _ _ _)
 ·rw [if_neg h];exact same_unh1 _ _ _
theorem ok_unh2 (ok:H.OK) {p c:Nat}:(H.unh2 p c).OK:=by
 unfold Heap.unh2
 by_cases h:0 <= (H.page p).next
 ·rw [if_pos h];exact ok_setPage (ok_unh1 ok)
 ·rw [if_neg h];exact ok_unh1 ok
structure _root_.AM.Heap.UnhOk (H:Heap) (p c:Nat):Prop where
 next:-1 <= (H.page p).next /\ (H.page p).next<(H.np:Int)
 prev:-1 <= (H.page p).prev /\ (H.page p).prev<(H.np:Int)
 pk:0 <= (H.page p).prev -> (H.page (H.page p).prev.toNat).kind=4 /\ -1 <= (H.page (H.page p).prev.toNat).prev /\ (H.page (H.page p).prev.toNat).prev<(H.np:Int)
 nk:0 <= (H.page p).next -> ((H.unh1 p c).page (H.page p).next.toNat).kind=4 /\ -1 <= ((H.unh1 p c).page (H.page p).next.toNat).next /\ ((H.unh1 p c).page (H.page p).next.toNat).next<(H.np:Int)
 kind:((H.unh2 p c).page p).kind=4
theorem r_unhang (hR:HRep σ A H) (ok:H.OK) {p c:Nat} (hp:p<H.np) (hc:c<8) (hu:H.UnhOk p c) :
  Runs G0 [] 223 [.ptr (some (A .slab,0)),.int .i64 p,.int .i64 c] σ fun r σ'=>HRep σ' A (H.unhung p c) /\ r=.tuple []:=by
 refine runs_body g223 rfl ?_
 refine wp_cut 3 ?_
 rw [cutC,cutC,cutC,cutC]
 have h0:=slab_pool hR
 have hnp:=np_le ok
 obtain ⟨v,σ1,⟨hv,hs⟩,hr1⟩:=r_PMap hR
 subst hv hs
 simp -implicitDefEqProofs only[go_sem,h0]
 refine runs_ret hr1 ?_
 simp -implicitDefEqProofs only[go_sem]
 refine at_kept hR ok hp fun σ2 g2 R2=>?_
 obtain ⟨x,hx⟩:∃ x,x=H.page p:=⟨_,rfl⟩
 have hst:=new_store (σ:=σ2) (z:=zeroP.cells) (vs:=x.cells) (n:=11) (by simp [Page.cells_len]) rfl
 have R3:=R2.lay (n:=11) (z:=zeroP.cells) (vs:=x.cells) (by simp [Page.cells_len]) rfl
 have L3:=Lcl.lay σ2 11 zeroP.cells x.cells rfl
 have N3:∀ s,H.has s -> A s≠σ2.next:=fun s hs=>by have:=R2.lt (s:=s) hs;omega
 have hz:zeroP.cells=[V.int .i64 0,.int .i64 0,.int .i64 0,.int .i64 0,.int .i64 0,.int .i64 0,.int .i64 0,.int .u64 0,.int .u64 0,.int .u64 0,.int .u64 0]:=rfl
 rw [hz] at hst R3 L3
 rw [<- hx]
 simp -implicitDefEqProofs only[go_sem,List.length_cons,List.length_nil,vcells_agg,Page.cells_len,hst]
 generalize σ2.next=lx at L3 N3 ⊢
 generalize σ2.lay 11 _ _=σ3 at R3 L3 ⊢
 have l4:∀ {s:St},Lcl s lx 11 (lst x.cells) -> s.cell lx 4=some (.int .i64 x.next):=fun h=>h.cell (by omega)
 have l5:∀ {s:St},Lcl s lx 11 (lst x.cells) -> s.cell lx 5=some (.int .i64 x.prev):=fun h=>h.cell (by omega)
 have c1:(0:Int) <= (c:Int) /\ (c:Int)<((8:Nat):Int):=by omega
 obtain ⟨u1,u2,u3,u4,u5⟩:=hu
 rw [<- hx] at u1 u2 u3 u4
 have step2:∀ (s:St),HRep s A (H.unh1 p c) -> Lcl s lx 11 (lst x.cells) -> (∀ t,H.has t -> A t≠lx) -> ∀ (fr:Fr) (K:Post),fr.defers=[] -> fr.tmps.get 6=some (.ptr (some (A .map,0))) -> fr.tmps.get 7=some (.ptr (some (lx,0))) -> fr.tmps.get 1=some (.int .i64 p) →
   (∀ fr' s',fr'.defers=[] -> HRep s' A (H.unhung p c) -> K .normal fr' s') →
   wp G0 [] (hid (tlC (tlC (tlC c223.body)))) fr s K:=by
  rintro s R L N ⟨tm,ds⟩ K hds t6 t7 t1 hK
  simp only at hds t6 t7 t1
  subst hds
  rw [hid_eq]
  have sm1:=same_unh1 H p c
  have ok1:(H.unh1 p c).OK:=ok_unh1 ok
  have last:∀ (s':St),HRep s' A (H.unh2 p c) -> Runs G0 [] 258 [.ptr (some (A .map,0)),.int .i64 p,.int .i64 (-1),.int .i64 (-1)] s' fun r σ'=>HRep σ' A (H.unhung p c) /\ r=.int .i64 0:=by
   intro s' R'
   have sm2:=same_unh2 H p c
   exact r_Chain R' (ok_unh2 ok) (p:=p) (by rw [sm2.np];exact hp) u5 (by omega) (by rw [sm2.np];omega) (by omega) (by rw [sm2.np];omega)
  by_cases c2:0 <= x.next
  ·obtain ⟨k1,k2,k3⟩:=u4 c2
   obtain ⟨q,hq⟩:∃ q:Nat,x.next=(q:Int):=⟨x.next.toNat,by omega⟩
   have hqn:x.next.toNat=q:=by omega
   rw [hqn] at k1 k2 k3
   have c3:(0:Int) <= (q:Int):=by omega
   have m4:=l4 L
   rw [hq] at m4
   simp -implicitDefEqProofs only [tlC,c223]
   simp -implicitDefEqProofs only[go_sem,t6,t7,t1,m4,c3]
   refine at_kept R ok1 (p:=q) (by rw [sm1.np];omega) fun s4 g4 R4=>?_
   have L4:=L.grow R.gw g4
   obtain ⟨y,hy⟩:∃ y,y=(H.unh1 p c).page q:=⟨_,rfl⟩
   rw [<- hy] at k1 k2 k3 ⊢
   have hst:=new_store (σ:=s4) (z:=zeroP.cells) (vs:=y.cells) (n:=11) (by simp [Page.cells_len]) rfl
   have g5:=Grow.lay s4 11 zeroP.cells y.cells
   have R5:=R4.lay (n:=11) (z:=zeroP.cells) (vs:=y.cells) (by simp [Page.cells_len]) rfl
   have L5:=Lcl.lay s4 11 zeroP.cells y.cells rfl
   have L5':=L4.grow R4.gw g5
   rw [hz] at hst R5 L5 g5 L5'
   have hne:lx≠s4.next:=by have:=L4.lt R4.gw;omega
   simp -implicitDefEqProofs only[go_sem,List.length_cons,List.length_nil,vcells_agg,Page.cells_len,hst]
   generalize s4.next=ly at L5 hne ⊢
   generalize s4.lay 11 _ _=s5 at R5 L5 L5' ⊢
   have m4':=l4 L5'
   rw [hq] at m4'
   have m5':=l5 L5'
   have n4:=L5.cell (i:=4) (by omega)
   rw [show lst y.cells 4=.int .i64 y.next from rfl] at n4
   simp -implicitDefEqProofs only[go_sem,t6,t7,t1,m4',m5',n4]
   obtain ⟨v,s6,⟨R6,hv⟩,hr6⟩:=r_Chain R5 ok1 (p:=q) (nx:=y.next) (pv:=x.prev) (by rw [sm1.np];omega) (by rw [<- hy];exact k1) k2 (by rw [sm1.np];exact k3) u2.1 (by rw [sm1.np];exact u2.2)
   subst hv
   refine runs_ret hr6 ?_
   have R6':HRep s6 A (H.unh2 p c):=by
    unfold Heap.unh2
    rw [<- hx,if_pos c2,hqn, <- hy]
    rw [<- hy] at R6;exact R6
   obtain ⟨v,s7,⟨R7,hv⟩,hr7⟩:=last s6 R6'
   subst hv
   simp -implicitDefEqProofs only[go_sem,t6,t7,t1]
   refine runs_ret hr7 ?_
   exact hK _ _ rfl R7
  ·have m4:=l4 L
   simp -implicitDefEqProofs only [tlC,c223]
   simp -implicitDefEqProofs only[go_sem,t6,t7,t1,m4,c2]
   have R6':HRep s A (H.unh2 p c):=by
    unfold Heap.unh2
    rw [<- hx,if_neg c2];exact R
   obtain ⟨v,s7,⟨R7,hv⟩,hr7⟩:=last s R6'
   subst hv
   refine runs_ret hr7 ?_
   exact hK _ _ rfl R7
 by_cases c2:0 <= x.prev
 ·obtain ⟨k1,k2,k3⟩:=u3 c2
  obtain ⟨q,hq⟩:∃ q:Nat,x.prev=(q:Int):=⟨x.prev.toNat,by omega⟩
  have hqn:x.prev.toNat=q:=by omega
  rw [hqn] at k1 k2 k3
  have c3:(0:Int) <= (q:Int):=by omega
  have m5:=l5 L3
  rw [hq] at m5
  simp -implicitDefEqProofs only[go_sem,m5,c3]
  refine at_kept R3 ok (p:=q) (by omega) fun s4 g4 R4=>?_
  have L4:=L3.grow R3.gw g4
  obtain ⟨y,hy⟩:∃ y,y=H.page q:=⟨_,rfl⟩
  rw [<- hy] at k1 k2 k3 ⊢
  have hst:=new_store (σ:=s4) (z:=zeroP.cells) (vs:=y.cells) (n:=11) (by simp [Page.cells_len]) rfl
  have g5:=Grow.lay s4 11 zeroP.cells y.cells
  have R5:=R4.lay (n:=11) (z:=zeroP.cells) (vs:=y.cells) (by simp [Page.cells_len]) rfl
  have L5:=Lcl.lay s4 11 zeroP.cells y.cells rfl
  have L5':=L4.grow R4.gw g5
  rw [hz] at hst R5 L5 g5 L5'
  simp -implicitDefEqProofs only[go_sem,List.length_cons,List.length_nil,vcells_agg,Page.cells_len,hst]
  generalize s4.next=ly at L5 ⊢
  generalize s4.lay 11 _ _=s5 at R5 L5 L5' ⊢
  have m4':=l4 L5'
  have m5':=l5 L5'
  rw [hq] at m5'
  have n5:=L5.cell (i:=5) (by omega)
  rw [show lst y.cells 5=.int .i64 y.prev from rfl] at n5
  simp -implicitDefEqProofs only[go_sem,m4',m5',n5]
  obtain ⟨v,s6,⟨R6,hv,lf6⟩,hr6⟩:=r_Chain1 R5 ok (p:=q) (nx:=x.next) (pv:=y.prev) (by omega) (by rw [<- hy];exact k1) u1.1 u1.2 k2 k3
  subst hv
  refine runs_ret hr6 ?_
  have L6:=L5'.left R5 lf6 N3
  have R6':HRep s6 A (H.unh1 p c):=by
   unfold Heap.unh1
   rw [<- hx,if_pos c2,hqn, <- hy]
   rw [<- hy] at R6;exact R6
  refine step2 s6 R6' L6 N3 _ _ rfl ?_ ?_ ?_ ?_
  ·simp -implicitDefEqProofs only[go_sem]
  ·simp -implicitDefEqProofs only[go_sem]
  ·simp -implicitDefEqProofs only[go_sem]
  ·rintro ⟨tm,ds⟩ s' hds R'
   simp only at hds;subst hds
   simp -implicitDefEqProofs only[go_sem]
   exact R'
 ·have m5:=l5 L3
  have m4:=l4 L3
  obtain ⟨σ4,hs4,R4,S4⟩:=part_store R3 (c:=c) (v:=x.next) hc
  simp -implicitDefEqProofs only[go_sem,m5,c2,m4,c1,and_self,Int.toNat_natCast,Nat.mul_one,vcells_int,List.length_cons,List.length_nil,hs4]
  have R4':HRep σ4 A (H.unh1 p c):=by
   unfold Heap.unh1
   rw [<- hx,if_neg c2];exact R4
  refine step2 σ4 R4' (S4.old _ _ _ L3 N3) N3 _ _ ?_ ?_ ?_ ?_ ?_
  ·simp -implicitDefEqProofs only[go_sem]
  ·simp -implicitDefEqProofs only[go_sem]
  ·simp -implicitDefEqProofs only[go_sem]
  ·simp -implicitDefEqProofs only[go_sem]
  ·rintro ⟨tm,ds⟩ s' hds R'
   simp only at hds;subst hds
   simp -implicitDefEqProofs only[go_sem]
   exact R'
end
noncomputable section
variable {σ:St} {A:Slot -> Nat} {H:Heap}
theorem own_kind (g:Page) (q:Nat) (b:Bool):(g.own q b).kind=g.kind:=rfl
theorem own_cls (g:Page) (q:Nat) (b:Bool):(g.own q b).cls=g.cls:=rfl
theorem addr_pos (ok:H.OK) (p:Nat):0<H.addr p:=by have:=ok.base_pos;unfold Heap.addr;omega
def _root_.AM.Heap.taken1 (H:Heap) (p f:Nat) (nf:Int):Heap:=(H.setPage p ((H.page p).own f true)).setPage p { (H.setPage p ((H.page p).own f true)).page p with first:=nf }
def _root_.AM.Heap.taken (H:Heap) (p c f:Nat) (nf:Int):Heap:=if nf<0 then (H.taken1 p f nf).unhung p c else H.taken1 p f nf
theorem same_taken1 (H:Heap) (p f:Nat) (nf:Int):(H.taken1 p f nf).Same H:=Heap.Same.trans (same_setPage _ _ _) (same_setPage _ _ _)
theorem ok_taken1 (ok:H.OK) {p f:Nat} {nf:Int}:(H.taken1 p f nf).OK:=ok_setPage (ok_setPage ok)
theorem same_unhung (H:Heap) (p c:Nat):(H.unhung p c).Same H:=Heap.Same.trans (same_setPage _ _ _) (same_unh2 _ _ _)
theorem ok_unhung (ok:H.OK) {p c:Nat}:(H.unhung p c).OK:=ok_setPage (ok_unh2 ok)
theorem ok_taken (ok:H.OK) {p c f:Nat} {nf:Int}:(H.taken p c f nf).OK:=by
 unfold Heap.taken
 by_cases h:nf<0
 ·rw [if_pos h];exact ok_unhung (ok_taken1 ok)
 ·rw [if_neg h];exact ok_taken1 ok
structure _root_.AM.Heap.TakeOk (H:Heap) (p c f:Nat) (nf:Int):Prop where
 page:p<H.np
 cls8:c<8
 kind:(H.page p).kind=4
 cls:(H.page p).cls=(c:Int)
 first:(H.page p).first=(f:Int)
 cell:f<256 / 2^c
 words:∀ j,(H.page p).bw j<18446744073709551616
 free:(H.page p).bit f=0
 live:0 <= (H.page p).live /\ (H.page p).live <= 256
 next:(nf=-1 /\ H.w64 (H.addr p+f*(16*2^c))=0) \/ (0 <= nf /\ nf<((256 / 2^c:Nat):Int) /\ H.w64 (H.addr p+f*(16*2^c))=H.addr p+nf.toNat*(16*2^c))
 un:nf=-1 -> (H.taken1 p f nf).UnhOk p c
theorem w8 {c:Nat} (hc:c<8):16*2^c*(256 / 2^c)=4096 /\ 16 <= 16*2^c /\ 16*2^c <= 2048 /\ 2 <= 256 / 2^c /\ 256 / 2^c <= 256:=by
 rcases (by omega:c=0 \/ c=1 \/ c=2 \/ c=3 \/ c=4 \/ c=5 \/ c=6 \/ c=7) with rfl | rfl | rfl | rfl | rfl | rfl | rfl | rfl <;> decide
theorem tail_Take (ok:H.OK) {p c f:Nat} {nf:Int} (h:H.TakeOk p c f nf) {b:Bool} :
  ∀ (s:St),HRep s A H -> ∀ (fr:Fr) (K:Post),fr.defers=[] -> fr.tmps.get 0=some (.ptr (some (A .slab,0))) -> fr.tmps.get 1=some (.int .i64 c) -> fr.tmps.get 9=some (.int .i64 p) -> fr.tmps.get 7=some (.bool b) →
   (∀ fr' s',fr'.defers=[] -> HRep s' A (H.taken p c f nf) -> fr'.tmps.get 6=some (.int .u64 (H.addr p+f*(16*2^c):Nat)) -> fr'.tmps.get 7=some (.bool b) -> fr'.tmps.get 8=some (.int .i64 0) -> K .ret fr' s') →
   wp G0 [] (hid (tlC (tlC (tlC (tlC c203.body))))) fr s K:=by
 rintro s R ⟨tm,ds⟩ K hds t0 t1 t9 t7 hK
 simp only at hds t0 t1 t9 t7
 subst hds
 rw [hid_eq]
 obtain ⟨hp,hc,hkind,hcls,hfirst,hf,hwords,hfree,hlive,hnext,hun⟩:=h
 have hnp:=np_le ok
 have ha:=addr_lt ok (Nat.le_of_lt hp)
 obtain ⟨w,hwd⟩:∃ w,w=16*2^c:=⟨_,rfl⟩
 obtain ⟨n,hnd⟩:∃ n,n=256 / 2^c:=⟨_,rfl⟩
 have hw8:=w8 hc
 rw [<- hwd, <- hnd] at hw8
 rw [<- hwd, <- hnd] at hnext
 rw [<- hwd] at hK
 obtain ⟨w1,w2,w3,w4,w5⟩:=hw8
 have hfn:f<n:=by rw [hnd];exact hf
 have h0:=slab_pool R
 obtain ⟨v,σ1,⟨hv,hs⟩,hr1⟩:=r_PMap R
 subst hv hs
 simp -implicitDefEqProofs only [tlC,c203]
 simp -implicitDefEqProofs only[go_sem,t0,t1,t9,t7,h0]
 refine runs_ret hr1 ?_
 simp -implicitDefEqProofs only[go_sem,t0,t1,t9,t7,h0]
 refine at_kept R ok hp fun σ2 g2 R2=>?_
 obtain ⟨x,hx⟩:∃ x,x=H.page p:=⟨_,rfl⟩
 have hst:=new_store (σ:=σ2) (z:=zeroP.cells) (vs:=x.cells) (n:=11) (by simp [Page.cells_len]) rfl
 have R3:=R2.lay (n:=11) (z:=zeroP.cells) (vs:=x.cells) (by simp [Page.cells_len]) rfl
 have L3:=Lcl.lay σ2 11 zeroP.cells x.cells rfl
 have hz:zeroP.cells=[V.int .i64 0,.int .i64 0,.int .i64 0,.int .i64 0,.int .i64 0,.int .i64 0,.int .i64 0,.int .u64 0,.int .u64 0,.int .u64 0,.int .u64 0]:=rfl
 rw [hz] at hst R3 L3
 rw [<- hx]
 simp -implicitDefEqProofs only[go_sem,List.length_cons,List.length_nil,vcells_agg,Page.cells_len,hst,t0,t1,t9,t7]
 generalize σ2.next=lx at L3 ⊢
 generalize σ2.lay 11 _ _=σ3 at R3 L3 ⊢
 have l6:∀ {s:St},Lcl s lx 11 (lst x.cells) -> s.cell lx 6=some (.int .i64 f):=fun h=>by
  rw [h.cell (by omega)];rw [<- hfirst, <- hx];rfl
 obtain ⟨v,σ4,⟨hv,hs⟩,hr4⟩:=r_base R3 ok
 subst hv hs
 refine runs_ret hr4 ?_
 have e1:IntKind.u64.wrap (p:Int)=(p:Int):=wu64_id (by omega) (by omega)
 have e2:IntKind.u64.wrap ((4096:Int)*(p:Int))=((4096*p:Nat):Int):=by
  rw [wu64_id] <;> omega
 have e3:IntKind.u64.wrap ((H.base:Int)+((4096*p:Nat):Int))=(H.addr p:Int):=by
  unfold Heap.addr at *;rw [wu64_id] <;> omega
 have e4:IntKind.u64.wrap (f:Int)=(f:Int):=wu64_id (by omega) (by omega)
 have hfw:f*w+w <= 4096:=by
  have h:(f+1)*w <= n*w:=Nat.mul_le_mul_right _ hfn
  rw [Nat.add_mul,Nat.mul_comm n,w1] at h;omega
 have e5:IntKind.u64.wrap ((f:Int)*(w:Int))=((f*w:Nat):Int):=u64_mul (by omega)
 have ha2:H.addr p+4096<18446744073709551616:=by
  have:=addr_lt ok (p:=p+1) hp
  unfold Heap.addr at *;omega
 have e6:IntKind.u64.wrap ((H.addr p:Int)+((f*w:Nat):Int))=((H.addr p+f*w:Nat):Int):=u64_add (by omega)
 have hwc:=R3.wid.cell hc
 rw [<- hwd] at hwc
 have c1:(0:Int) <= (c:Int) /\ (c:Int)<((8:Nat):Int):=by omega
 have m6:=l6 L3
 have h03:=slab_pool R3
 obtain ⟨v,σ5,⟨hv,hs⟩,hr5⟩:=r_PSpace R3
 subst hv hs
 simp -implicitDefEqProofs only[go_sem,t0,t1,t9,t7,e1,e2,e3,e4,e5,e6,m6,c1,and_self,Int.toNat_natCast,Nat.mul_one,hwc,h03]
 refine runs_ret hr5 ?_
 have hin:H.In (H.addr p+f*w) 8:=In_hi (In_addr ok (p:=p) (n:=4096) hp (Nat.le_refl _)) (by omega) (by omega)
 obtain ⟨v,σ6,⟨hv,R6,g6⟩,hr6⟩:=r_Word R3 ok hin
 subst hv
 simp -implicitDefEqProofs only[go_sem,t0,t1,t9,t7]
 refine runs_ret hr6 ?_
 have L6:=L3.grow R3.gw g6
 have m6':=l6 L6
 have sm1:=same_taken1 H p f nf
 have ok1:(H.taken1 p f nf).OK:=ok_taken1 ok
 have hwc6:=R6.wid.cell hc
 rw [<- hwd] at hwc6
 have own:=r_Own R6 ok (p:=p) (c:=c) (q:=f) (b:=true) hp hkind hcls hc hf hwords (by rw [hfree];rfl) hlive
 obtain ⟨v7,σ7,⟨R7,hv7⟩,hr7⟩:=own
 subst hv7
 have okO:(H.setPage p ((H.page p).own f true)).OK:=ok_setPage ok
 have pgO:(H.setPage p ((H.page p).own f true)).page p=(H.page p).own f true:=by simp [Heap.setPage]
 have kO:((H.setPage p ((H.page p).own f true)).page p).kind=4:=by rw [pgO];exact (own_kind _ _ _).trans hkind
 have cO:((H.setPage p ((H.page p).own f true)).page p).cls=(c:Int):=by rw [pgO];exact (own_cls _ _ _).trans hcls
 rcases hnext with ⟨n1,n2⟩ | ⟨n1,n2,n3⟩
 ·subst n1
  have d1:((H.w64 (H.addr p+f*w):Nat):Int)=0:=by rw [n2];rfl
  obtain ⟨v8,σ8,⟨R8,hv8⟩,hr8⟩:=r_First R7 okO (p:=p) (c:=c) (q:=-1) hp kO cO hc (by omega) (by omega)
  subst hv8
  simp -implicitDefEqProofs only[go_sem,t0,t1,t9,t7,m6',d1,ne_eq,not_true_eq_false]
  refine runs_ret hr7 ?_
  simp -implicitDefEqProofs only[go_sem,t0,t1,t9,t7]
  refine runs_ret hr8 ?_
  obtain ⟨v9,σ9,⟨R9,hv9⟩,hr9⟩:=r_unhang (H:=H.taken1 p f (-1)) R8 ok1 (p:=p) (c:=c) (by rw [sm1.np];exact hp) hc (hun rfl)
  subst hv9
  have d6:(-1:Int)<0:=by decide
  simp -implicitDefEqProofs only[go_sem,t0,t1,t9,t7,d6]
  refine runs_ret hr9 ?_
  simp -implicitDefEqProofs only[go_sem,t0,t1,t9,t7]
  refine hK _ _ rfl (by unfold Heap.taken;rw [if_pos (by omega)];exact R9) ?_ ?_ ?_ <;>
   simp -implicitDefEqProofs only[go_sem,t0,t1,t9,t7]
 ·obtain ⟨q,hq⟩:∃ q:Nat,nf=(q:Int):=⟨nf.toNat,by omega⟩
  subst hq
  rw [Int.toNat_natCast] at n3
  have d1:¬ ((H.w64 (H.addr p+f*w):Nat):Int)=0:=by
   have:=addr_pos ok p
   omega
  have hqw:q*w+w <= 4096:=by
   have h:(q+1)*w <= n*w:=Nat.mul_le_mul_right _ (by omega)
   rw [Nat.add_mul,Nat.mul_comm n,w1] at h;omega
  have d2:IntKind.u64.wrap (((H.w64 (H.addr p+f*w):Nat):Int)-(H.addr p:Int))=((q*w:Nat):Int):=by
   rw [n3,wu64_id] <;> omega
  have cw:(w:Int)≠0:=by omega
  have d3:IntKind.u64.wrap (((q*w:Nat):Int).tdiv (w:Int))=(q:Int):=by
   rw [u64_div (by omega),Nat.mul_div_cancel _ (by omega)]
  have d4:IntKind.i64.wrap (q:Int)=(q:Int):=i64_nat (by omega)
  have d5:¬ ((q:Int)<0):=by omega
  obtain ⟨v8,σ8,⟨R8,hv8⟩,hr8⟩:=r_First R7 okO (p:=p) (c:=c) (q:=q) hp kO cO hc (by omega) (by rw [<- hnd];exact n2)
  subst hv8
  simp -implicitDefEqProofs only[go_sem,t0,t1,t9,t7,m6',d1,d2,bin_quo,cw,ne_eq,not_false_eq_true,d3,d4,hwc6,c1,and_self,Int.toNat_natCast,Nat.mul_one]
  refine runs_ret hr7 ?_
  simp -implicitDefEqProofs only[go_sem,t0,t1,t9,t7]
  refine runs_ret hr8 ?_
  simp -implicitDefEqProofs only[go_sem,t0,t1,t9,t7,d5]
  refine hK _ _ rfl (by unfold Heap.taken;rw [if_neg d5];exact R8) ?_ ?_ ?_ <;>
   simp -implicitDefEqProofs only[go_sem,t0,t1,t9,t7]
theorem r_STake (hR:HRep σ A H) (ok:H.OK) {p c f:Nat} {nf:Int} {d:V} (hh:H.part c=(p:Int)) (h:H.TakeOk p c f nf) :
  Runs G0 [] 203 [.ptr (some (A .slab,0)),.int .i64 c,d] σ fun r σ'=>HRep σ' A (H.taken p c f nf) /\ r=.tuple [.int .u64 (H.addr p+f*(16*2^c):Nat),.bool false,.int .i64 0]:=by
 have hc:=h.cls8
 refine runs_body g203 rfl ?_
 refine wp_cut 4 ?_
 rw [cutC,cutC,cutC,cutC,cutC]
 have c1:(0:Int) <= (c:Int) /\ (c:Int)<((8:Nat):Int):=by omega
 have c2:¬ ((c:Int)<0):=by omega
 have c3:¬ ((8:Int) <= (c:Int)):=by omega
 have c4:¬ ((p:Int)<0):=by omega
 have m:=slab_part hR hc
 rw [hh] at m
 simp -implicitDefEqProofs only[go_sem,c1,c2,c3,c4,m,and_self,Int.toNat_natCast,Nat.mul_one,ge_iff_le]
 refine tail_Take ok h (b:=false) _ hR _ _ rfl ?_ ?_ ?_ ?_ ?_
 ·simp -implicitDefEqProofs only[go_sem]
 ·simp -implicitDefEqProofs only[go_sem]
 ·simp -implicitDefEqProofs only[go_sem]
 ·simp -implicitDefEqProofs only[go_sem]
 ·rintro ⟨tm,ds⟩ s' hds R' t6 t7 t8
  simp only at hds t6 t7 t8;subst hds
  simp -implicitDefEqProofs only[go_sem,t6,t7,t8]
  exact R'
theorem r_STakeE (hR:HRep σ A H) (ok:H.OK) {c:Nat} {d:V} {e:Int} {g:Bool} {x:Nat} (hc:c<8) (hh:H.part c=-1) {Q:St -> Prop} (he:e≠0)
  (hn:Runs G0 [] 205 [.ptr (some (A .pool,0)),.int .i64 0,d] σ fun r σ'=>Q σ' /\ r=.tuple [.int .u64 x,.bool g,.int .i64 e]) :
  Runs G0 [] 203 [.ptr (some (A .slab,0)),.int .i64 c,d] σ fun r σ'=>Q σ' /\ r=.tuple [.int .u64 0,.bool false,.int .i64 e]:=by
 refine runs_body g203 rfl ?_
 refine wp_cut 4 ?_
 rw [cutC,cutC,cutC,cutC,cutC]
 have c1:(0:Int) <= (c:Int) /\ (c:Int)<((8:Nat):Int):=by omega
 have c2:¬ ((c:Int)<0):=by omega
 have c3:¬ ((8:Int) <= (c:Int)):=by omega
 have c4:(-1:Int)<0:=by omega
 have m:=slab_part hR hc
 rw [hh] at m
 have h0:=slab_pool hR
 obtain ⟨v,σ1,⟨q1,hv⟩,hr1⟩:=hn
 subst hv
 simp -implicitDefEqProofs only[go_sem,c1,c2,c3,c4,m,and_self,Int.toNat_natCast,Nat.mul_one,ge_iff_le,h0]
 refine runs_ret hr1 ?_
 simp -implicitDefEqProofs only[go_sem,he,ne_eq,not_false_eq_true]
 exact q1
theorem r_STakeN (hR:HRep σ A H) {c:Nat} {d:V} {g:Bool} (hc:c<8) (hh:H.part c=-1) {A':Slot -> Nat} {H':Heap} (hA:A' .slab=A .slab) (ok':H'.OK) {p:Nat} (hp:p<H'.np) (hh':H'.part c=-1)
  (hn:Runs G0 [] 205 [.ptr (some (A .pool,0)),.int .i64 0,d] σ fun r σ'=>HRep σ' A' H' /\ r=.tuple [.int .u64 (H'.addr p),.bool g,.int .i64 0])
  {f:Nat} {nf:Int} (h:(H'.born p c).TakeOk p c f nf) (okb:(H'.born p c).OK) (ha:(H'.born p c).addr p=H'.addr p) :
  Runs G0 [] 203 [.ptr (some (A .slab,0)),.int .i64 c,d] σ fun r σ'=>HRep σ' A' ((H'.born p c).taken p c f nf) /\ r=.tuple [.int .u64 (H'.addr p+f*(16*2^c):Nat),.bool g,.int .i64 0]:=by
 refine runs_body g203 rfl ?_
 refine wp_cut 4 ?_
 rw [cutC,cutC,cutC,cutC,cutC]
 have c1:(0:Int) <= (c:Int) /\ (c:Int)<((8:Nat):Int):=by omega
 have c2:¬ ((c:Int)<0):=by omega
 have c3:¬ ((8:Int) <= (c:Int)):=by omega
 have c4:(-1:Int)<0:=by omega
 have m:=slab_part hR hc
 rw [hh] at m
 have h0:=slab_pool hR
 obtain ⟨v,σ1,⟨R1,hv⟩,hr1⟩:=hn
 subst hv
 simp -implicitDefEqProofs only[go_sem,c1,c2,c3,c4,m,and_self,Int.toNat_natCast,Nat.mul_one,ge_iff_le,h0]
 refine runs_ret hr1 ?_
 obtain ⟨v,σ2,⟨R2,hv⟩,hr2⟩:=r_born R1 ok' (p:=p) (c:=c) hp hc (by rw [hh'];omega) (by rw [hh'];intro h;omega)
 subst hv
 rw [hA] at hr2
 simp -implicitDefEqProofs only[go_sem,ne_eq,not_true_eq_false]
 refine runs_ret hr2 ?_
 simp -implicitDefEqProofs only[go_sem]
 refine tail_Take okb h (b:=g) _ R2 _ _ rfl ?_ ?_ ?_ ?_ ?_
 ·rw [hA];simp -implicitDefEqProofs only[go_sem]
 ·simp -implicitDefEqProofs only[go_sem]
 ·simp -implicitDefEqProofs only[go_sem]
 ·simp -implicitDefEqProofs only[go_sem]
 ·rintro ⟨tm,ds⟩ s' hds R' t6 t7 t8
  simp only at hds t6 t7 t8;subst hds
  simp -implicitDefEqProofs only[go_sem,t6,t7,t8]
  rw [ha]
  exact ⟨R',rfl⟩
end
noncomputable section
variable {σ:St} {A:Slot -> Nat} {H:Heap}
theorem r_find (hR:HRep σ A H) (ok:H.OK) {p c q:Nat} (hp:p<H.np) (hkind:(H.page p).kind=4) (hcls:(H.page p).cls=(c:Int)) (hc:c<8) (hq:q<256 / 2^c)
  (hwords:∀ j,(H.page p).bw j<18446744073709551616) :
  Runs G0 [] 220 [.ptr (some (A .slab,0)),.int .u64 (H.addr p+q*(16*2^c):Nat)] σ fun r σ' =>
   r=.tuple [.int .i64 p,.int .i64 q,.agg (H.page p).cells,.bool (decide ((H.page p).bit q=1))] /\ Grow σ σ':=by
 refine runs_body g220 rfl ?_
 obtain ⟨w,hwd⟩:∃ w,w=16*2^c:=⟨_,rfl⟩
 obtain ⟨n,hnd⟩:∃ n,n=256 / 2^c:=⟨_,rfl⟩
 have hw8:=w8 hc
 rw [<- hwd, <- hnd] at hw8
 rw [<- hwd]
 rw [<- hnd] at hq
 obtain ⟨w1,w2,w3,w4,w5⟩:=hw8
 have hqw:q*w+w <= 4096:=by
  have h:(q+1)*w <= n*w:=Nat.mul_le_mul_right _ hq
  rw [Nat.add_mul,Nat.mul_comm n,w1] at h;omega
 have hnp:=np_le ok
 have ha2:H.addr p+4096<18446744073709551616:=by
  have:=addr_lt ok (p:=p+1) hp
  unfold Heap.addr at *;omega
 have hz:zeroP.cells=[V.int .i64 0,.int .i64 0,.int .i64 0,.int .i64 0,.int .i64 0,.int .i64 0,.int .i64 0,.int .u64 0,.int .u64 0,.int .u64 0,.int .u64 0]:=rfl
 have g1:=Grow.new σ (.cells false 0 11 zeroP.cells .nil)
 have R1:=hR.new (.cells false 0 11 zeroP.cells .nil) rfl
 have L1:=Lcl.of_new σ zeroP.cells 11 (.inl (by simp [hz]))
 rw [hz] at g1 R1 L1
 obtain ⟨lx,hlx⟩:∃ lx,lx=σ.next:=⟨_,rfl⟩
 simp -implicitDefEqProofs only[go_sem,List.length_cons,List.length_nil]
 rw [<- hlx] at L1 ⊢
 have N1:∀ s,H.has s -> A s≠lx:=fun s hs=>by have:=hR.lt hs;omega
 generalize σ.new (.cells false 0 11 _ .nil)=σ1 at g1 R1 L1 ⊢
 have h0:=slab_pool R1
 obtain ⟨v,σ2,⟨hv,hs⟩,hr2⟩:=r_PMap R1
 subst hv hs
 simp -implicitDefEqProofs only[go_sem,h0]
 refine runs_ret hr2 ?_
 obtain ⟨v,σ3,⟨hv,hs⟩,hr3⟩:=r_base R1 ok
 subst hv hs
 simp -implicitDefEqProofs only[go_sem,h0]
 refine runs_ret hr3 ?_
 obtain ⟨o,ho⟩:∃ o,o=q*w:=⟨_,rfl⟩
 rw [<- ho] at hqw ⊢
 obtain ⟨a,had⟩:∃ a,a=H.addr p+o:=⟨_,rfl⟩
 rw [<- had]
 have c1:¬ ((a:Int)<(H.base:Int)):=by unfold Heap.addr at *;omega
 have e1:IntKind.u64.wrap ((a:Int)-(H.base:Int))=((4096*p+o:Nat):Int):=by
  unfold Heap.addr at *;rw [wu64_id] <;> omega
 have c2:(4096:Int)≠0:=by decide
 have e2:IntKind.u64.wrap (((4096*p+o:Nat):Int).tdiv 4096)=(p:Int):=by
  rw [show (4096:Int)=((4096:Nat):Int) from rfl,nat_tdiv,wu64_id] <;> omega
 have e2':((4096*p+o:Nat):Int).tmod 4096=(o:Int):=by
  rw [show (4096:Int)=((4096:Nat):Int) from rfl,nat_tmod];omega
 have e3:IntKind.u64.wrap (H.np:Int)=(H.np:Int):=wu64_id (by omega) (by omega)
 have c3:¬ ((H.np:Int) <= (p:Int)):=by omega
 obtain ⟨v,σ4,⟨hv,hs⟩,hr4⟩:=r_Pages R1 ok
 subst hv hs
 simp -implicitDefEqProofs only[go_sem,c1,e1,c2,bin_quo,bin_rem,ne_eq,not_false_eq_true,e2]
 refine runs_ret hr4 ?_
 have e4:IntKind.i64.wrap (p:Int)=(p:Int):=i64_nat (by omega)
 simp -implicitDefEqProofs only[go_sem,c1,e1,c2,c3,bin_quo,bin_rem,ne_eq,not_false_eq_true,e2,e3,e4]
 obtain ⟨v,σ5,⟨hv,g5,R5⟩,hr5⟩:=R1.rgrow (r_At R1 ok hp)
 subst hv
 refine runs_ret hr5 ?_
 have L5:=L1.grow R1.gw g5
 obtain ⟨x,hx⟩:∃ x,x=H.page p:=⟨_,rfl⟩
 obtain ⟨σ6,hs6,L6,w6,P6⟩:=L5.store R5.gw (off:=0) (vs:=x.cells) (by simp [Page.cells_len]) rfl
 have L6':Lcl σ6 lx 11 (lst x.cells):=L6.congr (Nat.le_refl _) fun i hi=>by
  simp only [over,Nat.zero_le,true_and,Page.cells_len,Nat.zero_add,hi,if_true,Nat.sub_zero,lst]
 have R6:=R5.other w6 N1 P6 (R5.wid.not_lcl L5)
 have g6:Grow σ σ6:=by
  have g15:=g1.trans g5
  exact ⟨by rw [P6.next];exact g15.next,P6.grps.trans g15.grps,fun a ha=>(P6.old a (by omega)).trans (g15.old a ha)⟩
 obtain ⟨σ7,hs7,L7,w7,P7⟩:=L6'.store R6.gw (off:=0) (vs:=x.cells) (by simp [Page.cells_len]) rfl
 have L7':Lcl σ7 lx 11 (lst x.cells):=L7.congr (Nat.le_refl _) fun i hi=>by
  simp only [over,Nat.zero_le,true_and,Page.cells_len,Nat.zero_add,hi,if_true,Nat.sub_zero,lst]
 have g7:Grow σ σ7:=⟨by rw [P7.next];exact g6.next,P7.grps.trans g6.grps,fun a ha=>(P7.old a (by omega)).trans (g6.old a ha)⟩
 have hl7:=L7'.load (off:=0) (k:=11) (by omega)
 rw [show ((List.range 11).map fun j=>lst x.cells (0+j))=x.cells from rfl] at hl7
 have k0:σ6.cell lx 0=some (.int .i64 4):=by rw [L6'.cell (by omega)];rw [<- hkind, <- hx];rfl
 have k2:σ6.cell lx 2=some (.int .i64 c):=by rw [L6'.cell (by omega)];rw [<- hcls, <- hx];rfl
 have hl:=L6'.load (off:=0) (k:=11) (by omega)
 rw [show ((List.range 11).map fun j=>lst x.cells (0+j))=x.cells from rfl] at hl
 have hwc:=R6.wid.cell hc
 rw [<- hwd] at hwc
 have c4:(0:Int) <= (c:Int) /\ (c:Int)<((8:Nat):Int):=by omega
 have cw:(w:Int)≠0:=by omega
 have e5:(o:Int).tmod (w:Int)=0:=by rw [nat_tmod,ho,Nat.mul_mod_left];rfl
 have e6:IntKind.u64.wrap ((o:Int).tdiv (w:Int))=(q:Int):=by
  rw [u64_div (by omega),ho,Nat.mul_div_cancel _ (by omega)]
 have e7:IntKind.i64.wrap (q:Int)=(q:Int):=i64_nat (by omega)
 have c5:(64:Int)≠0:=by decide
 have f2:IntKind.i64.wrap ((q:Int).tdiv 64)=((q / 64:Nat):Int):=i64_div (b:=64) (by omega)
 have f3:((q:Int).tmod 64)=((q%64:Nat):Int):=nat_tmod q 64
 have hj:q / 64<4:=by omega
 have hm:q%64<64:=Nat.mod_lt _ (by omega)
 obtain ⟨j,hjj⟩:∃ j,j=q / 64:=⟨_,rfl⟩
 obtain ⟨m,hmm⟩:∃ m,m=q%64:=⟨_,rfl⟩
 rw [<- hjj] at hj f2
 rw [<- hmm] at hm f3
 have c6:(0:Int) <= (j:Int) /\ (j:Int)<((4:Nat):Int):=by omega
 have h1:σ6.cell lx (7+j)=some (.int .u64 (x.bw j)):=by
  rw [L6'.cell (by omega), <- cell_bw x hj]
  rcases (by omega:j=0 \/ j=1 \/ j=2 \/ j=3) with h | h | h | h <;> rw [h] <;> rfl
 have c7:(0:Int) <= (m:Int):=by omega
 have f4:shrI .u64 ((x.bw j:Nat):Int) (m:Int)=((x.bw j / 2^m:Nat):Int):=shr_nat rfl (by omega)
 have f5:=u64_bit (w:=x.bw j) (n:=m) (by rw [hx];exact hwords j)
 have f6:(decide (((x.bw j / 2^m%2:Nat):Int)=1))=decide (x.bit q=1):=by
  have:x.bit q=x.bw j / 2^m%2:=by simp [Page.bit, <- hjj, <- hmm]
  rw [this]
  exact decide_eq_decide.mpr (by omega)
 rw [<- hx]
 simp -implicitDefEqProofs only[go_sem,vcells_agg,Page.cells_len,hs6,c1,e1,c2,bin_quo,bin_rem,ne_eq,not_false_eq_true,not_true_eq_false,e2',k0,k2,c4,and_self,Int.toNat_natCast,Nat.mul_one,hwc,cw,e5,e6,e7,c5,f2,f3,c6,h1,c7,bin_shr,f4,f5,f6,hl,hs7,hl7]
 exact g7
end
noncomputable section
variable {σ:St} {A:Slot -> Nat} {H:Heap}
def _root_.AM.Heap.given1 (H:Heap) (p q:Nat):Heap:=H.setPage p ((H.page p).own q false)
def _root_.AM.Heap.given2 (H:Heap) (p c q:Nat):Heap:=if (H.page p).first<0 then (H.given1 p q).hung p c else H.given1 p q
def _root_.AM.Heap.glink (H:Heap) (p c:Nat):Nat:=if (H.page p).first<0 then 0 else H.addr p+(H.page p).first.toNat*(16*2^c)
def _root_.AM.Heap.given3 (H:Heap) (p c q:Nat):Heap:=(H.given2 p c q).wr64 (H.addr p+q*(16*2^c)) (H.glink p c)
def _root_.AM.Heap.given (H:Heap) (p c q:Nat):Heap:=(H.given3 p c q).setPage p { (H.given3 p c q).page p with first:=q }
def _root_.AM.Heap.emptied (H:Heap) (p c q:Nat):Heap:=((H.given1 p q).unhung p c).run p 0 2
theorem same_hung (H:Heap) (p c:Nat):(H.hung p c).Same H:=by
 unfold Heap.hung
 by_cases h:0 <= H.part c
 ·rw [if_pos h];exact Heap.Same.trans (same_setPart _ _ _) (Heap.Same.trans (same_setPage _ _ _) (same_setPage _ _ _))
 ·rw [if_neg h];exact Heap.Same.trans (same_setPart _ _ _) (same_setPage _ _ _)
theorem ok_hung (ok:H.OK) {p c:Nat}:(H.hung p c).OK:=by
 unfold Heap.hung
 by_cases h:0 <= H.part c
 ·rw [if_pos h];exact ok_setPart (ok_setPage (ok_setPage ok))
 ·rw [if_neg h];exact ok_setPart (ok_setPage ok)
theorem hung_page (H:Heap) (p c i:Nat):∃ nx pv,(H.hung p c).page i={ H.page i with next:=nx,prev:=pv }:=by
 have h1:∀ i, ∃ nx pv,(H.hung1 p c).page i={ H.page i with next:=nx,prev:=pv }:=by
  intro i
  by_cases e:i=p
  ·subst e;exact ⟨H.part c, -1,by simp [Heap.hung1,Heap.setPage]⟩
  ·exact ⟨(H.page i).next,(H.page i).prev,by simp [Heap.hung1,Heap.setPage,e]⟩
 unfold Heap.hung
 by_cases h:0 <= H.part c
 ·rw [if_pos h]
  obtain ⟨nx,pv,k⟩:=h1 i
  by_cases e:i=(H.part c).toNat
  ·subst e;refine ⟨nx,p,?_⟩
   show ((H.hung1 p c).setPage _ _).page _=_
   simp only [Heap.setPage,if_true,k]
  ·refine ⟨nx,pv,?_⟩
   show ((H.hung1 p c).setPage _ _).page _=_
   simp only [Heap.setPage,e,if_false,k]
 ·rw [if_neg h];exact h1 i
theorem same_given1 (H:Heap) (p q:Nat):(H.given1 p q).Same H:=same_setPage _ _ _
theorem ok_given1 (ok:H.OK) {p q:Nat}:(H.given1 p q).OK:=ok_setPage ok
theorem same_given2 (H:Heap) (p c q:Nat):(H.given2 p c q).Same H:=by
 unfold Heap.given2
 by_cases h:(H.page p).first<0
 ·rw [if_pos h];exact Heap.Same.trans (same_hung _ _ _) (same_given1 _ _ _)
 ·rw [if_neg h];exact same_given1 _ _ _
theorem ok_given2 (ok:H.OK) {p c q:Nat}:(H.given2 p c q).OK:=by
 unfold Heap.given2
 by_cases h:(H.page p).first<0
 ·rw [if_pos h];exact ok_hung (ok_given1 ok)
 ·rw [if_neg h];exact ok_given1 ok
theorem same_given (H:Heap) (p c q:Nat):(H.given p c q).Same H:=Heap.Same.trans (same_setPage _ _ _) (Heap.Same.trans (same_wr64 _ _ _) (same_given2 _ _ _ _))
theorem ok_given (ok:H.OK) {p c q:Nat}:(H.given p c q).OK:=ok_setPage (ok_wr64 (ok_given2 ok) _ _)
theorem given2_page (H:Heap) (p c q i:Nat):∃ nx pv,(H.given2 p c q).page i={ (H.given1 p q).page i with next:=nx,prev:=pv }:=by
 unfold Heap.given2
 by_cases h:(H.page p).first<0
 ·rw [if_pos h];exact hung_page _ _ _ _
 ·rw [if_neg h];exact ⟨_,_,rfl⟩
structure _root_.AM.Heap.GiveOk (H:Heap) (p c q:Nat):Prop where
 page:p<H.np
 cls8:c<8
 kind:(H.page p).kind=4
 cls:(H.page p).cls=(c:Int)
 cell:q<256 / 2^c
 words:∀ j,(H.page p).bw j<18446744073709551616
 held:(H.page p).bit q=1
 live:1 <= (H.page p).live /\ (H.page p).live <= 256
 first:-1 <= (H.page p).first /\ (H.page p).first<((256 / 2^c:Nat):Int)
 un:(H.page p).live=1 -> (H.given1 p q).UnhOk p c
 hg:(H.page p).live≠1 -> (H.page p).first<0 -> (-1 <= H.part c /\ H.part c<(H.np:Int)) ∧
  (0 <= H.part c -> (((H.given1 p q).hung1 p c).page (H.part c).toNat).kind=4 /\ -1 <= (((H.given1 p q).hung1 p c).page (H.part c).toNat).next /\ (((H.given1 p q).hung1 p c).page (H.part c).toNat).next<(H.np:Int))
theorem tail_Give (ok:H.OK) {p c q:Nat} (h:H.GiveOk p c q) {lx:Nat} {x:Page} (hx:x=H.page p) {s:St} (R:HRep s A (H.given2 p c q)) (L:Lcl s lx 11 (lst x.cells)) :
  Runs G0 [] 226 [.ptr (some (A .space,0)),.int .u64 (H.addr p+q*(16*2^c):Nat),.int .u64 (H.glink p c)] s fun r s1=>r=.int .i64 0 /\ HRep s1 A (H.given3 p c q) ∧
   Runs G0 [] 227 [.ptr (some (A .map,0)),.int .i64 p,.int .i64 q] s1 fun r s2=>r=.int .i64 0 /\ HRep s2 A (H.given p c q):=by
 obtain ⟨hp,hc,hkind,hcls,hq,hwords,hheld,hlive,hfirst,hun,hhg⟩:=h
 have hw8:=w8 hc
 obtain ⟨w1,w2,w3,w4,w5⟩:=hw8
 have sm:=same_given2 H p c q
 have ok2:=ok_given2 ok (p:=p) (c:=c) (q:=q)
 have ha2:H.addr p+4096<18446744073709551616:=by
  have:=addr_lt ok (p:=p+1) hp
  unfold Heap.addr at *;omega
 have hqw:q*(16*2^c)+16*2^c <= 4096:=by
  have h:(q+1)*(16*2^c) <= 256 / 2^c*(16*2^c):=Nat.mul_le_mul_right _ hq
  rw [Nat.add_mul,Nat.mul_comm (256 / 2^c),w1] at h;omega
 have hin:(H.given2 p c q).In (H.addr p+q*(16*2^c)) 8:=by
  have h:=In_addr ok2 (p:=p) (n:=4096) (by rw [sm.np];exact hp) (Nat.le_refl _)
  rw [sm.addr] at h
  exact In_hi h (by omega) (by omega)
 have hl:H.glink p c<18446744073709551616:=by
  unfold Heap.glink
  by_cases hf:(H.page p).first<0
  ·rw [if_pos hf];omega
  ·rw [if_neg hf]
   have h:((H.page p).first.toNat+1)*(16*2^c) <= 256 / 2^c*(16*2^c):=Nat.mul_le_mul_right _ (by omega)
   rw [Nat.add_mul,Nat.mul_comm (256 / 2^c),w1] at h;omega
 obtain ⟨v,s1,⟨R1,hv⟩,hr1⟩:=r_SetWord R ok2 (v:=H.glink p c) hl hin
 refine runs_ret hr1 ⟨hv,R1,?_⟩
 obtain ⟨nx,pv,hpg⟩:=given2_page H p c q p
 have hpg3:(H.given3 p c q).page p={ (H.given1 p q).page p with next:=nx,prev:=pv }:=hpg
 have hpg1:(H.given1 p q).page p=(H.page p).own q false:=by simp [Heap.given1,Heap.setPage]
 have ok3:(H.given3 p c q).OK:=ok_wr64 ok2 _ _
 obtain ⟨v,s2,⟨R2,hv2⟩,hr2⟩:=r_First R1 ok3 (p:=p) (c:=c) (q:=q) (by show p<(H.given2 p c q).np;rw [sm.np];exact hp) (by show ((H.given3 p c q).page p).kind=4;rw [hpg3,hpg1];exact hkind)
  (by show ((H.given3 p c q).page p).cls=(c:Int);rw [hpg3,hpg1];exact hcls) hc (by omega) (by omega)
 exact runs_ret hr2 ⟨hv2,R2⟩
end
noncomputable section
variable {σ:St} {A:Slot -> Nat} {H:Heap}
theorem r_Own1 (hR:HRep σ A H) (ok:H.OK) {p c q:Nat} {b:Bool} (hp:p<H.np) (hk:(H.page p).kind=4) (hc:(H.page p).cls=(c:Int)) (hc8:c<8) (hq:q<256 / 2^c)
  (hw:∀ j,(H.page p).bw j<18446744073709551616) (hbit:(H.page p).bit q=if b=true then 0 else 1) (hlv:0 <= (H.page p).live /\ (H.page p).live <= 256) :
  Runs G0 [] 221 [.ptr (some (A .map,0)),.int .i64 p,.int .i64 q,.bool b] σ fun r σ'=>HRep σ' A (H.setPage p ((H.page p).own q b)) /\ r=.int .i64 0 /\ AM.Left σ A H σ' A (H.setPage p ((H.page p).own q b)) :=
 HRep.call1 (Γ:=G0) (fun _ _ h=>h) (fun _ h=>(List.not_mem_nil h).elim) hR fun s R=>r_Own R ok hp hk hc hc8 hq hw hbit hlv
theorem r_hang1 (hR:HRep σ A H) (ok:H.OK) {p c:Nat} (hp:p<H.np) (hc:c<8) (hk:(H.page p).kind=4) (hh:-1 <= H.part c /\ H.part c<(H.np:Int))
  (h1:0 <= H.part c -> ((H.hung1 p c).page (H.part c).toNat).kind=4 /\ -1 <= ((H.hung1 p c).page (H.part c).toNat).next /\ ((H.hung1 p c).page (H.part c).toNat).next<(H.np:Int)) :
  Runs G0 [] 225 [.ptr (some (A .slab,0)),.int .i64 p,.int .i64 c] σ fun r σ'=>HRep σ' A (H.hung p c) /\ r=.tuple [] /\ AM.Left σ A H σ' A (H.hung p c) :=
 HRep.call1 (Γ:=G0) (fun _ _ h=>h) (fun _ h=>(List.not_mem_nil h).elim) hR fun s R=>r_hang R ok hp hc hk hh h1
theorem r_SGive (hR:HRep σ A H) (ok:H.OK) {p c q:Nat} (h:H.GiveOk p c q) {Q:V -> St -> Prop}
  (h1:(H.page p).live=1 -> ∀ s,HRep s A (H.emptied p c q) -> Runs G0 [] 174 [.ptr (some (A .pool,0)),.int .u64 (H.addr p),.int .i64 0] s Q)
  (h2:(H.page p).live≠1 -> ∀ s,HRep s A (H.given p c q) -> Q (.int .i64 0) s) :
  Runs G0 [] 173 [.ptr (some (A .slab,0)),.int .u64 (H.addr p+q*(16*2^c):Nat)] σ Q:=by
 have hOk:=h
 obtain ⟨hp,hc,hkind,hcls,hq,hwords,hheld,hlive,hfirst,hun,hhg⟩:=h
 refine runs_body g173 rfl ?_
 have hnp:=np_le ok
 obtain ⟨v,σ1,⟨hv,g1,R1⟩,hr1⟩:=hR.rgrow (r_find hR ok hp hkind hcls hc hq hwords)
 subst hv
 rw [hheld] at hr1
 have hw8:=w8 hc
 obtain ⟨w1,w2,w3,w4,w5⟩:=hw8
 have ha2:H.addr p+4096<18446744073709551616:=by
  have:=addr_lt ok (p:=p+1) hp
  unfold Heap.addr at *;omega
 obtain ⟨a,had⟩:∃ a,a=H.addr p+q*(16*2^c):=⟨_,rfl⟩
 rw [<- had] at hr1 ⊢
 obtain ⟨x,hx⟩:∃ x,x=H.page p:=⟨_,rfl⟩
 rw [<- hx] at hr1
 simp -implicitDefEqProofs only[go_sem]
 refine runs_ret hr1 ?_
 have hz:zeroP.cells=[V.int .i64 0,.int .i64 0,.int .i64 0,.int .i64 0,.int .i64 0,.int .i64 0,.int .i64 0,.int .u64 0,.int .u64 0,.int .u64 0,.int .u64 0]:=rfl
 have hst:=new_store (σ:=σ1) (z:=zeroP.cells) (vs:=x.cells) (n:=11) (by simp [Page.cells_len]) rfl
 have R3:=R1.lay (n:=11) (z:=zeroP.cells) (vs:=x.cells) (by simp [Page.cells_len]) rfl
 have L3:=Lcl.lay σ1 11 zeroP.cells x.cells rfl
 have N3:∀ s,H.has s -> A s≠σ1.next:=fun s hs=>by have:=R1.lt (s:=s) hs;omega
 rw [hz] at hst R3 L3
 have h03:=slab_pool R3
 simp -implicitDefEqProofs only[go_sem,List.length_cons,List.length_nil,vcells_agg,Page.cells_len,hst,Bool.not_true,h03]
 generalize σ1.next=lx at L3 N3 ⊢
 generalize σ1.lay 11 _ _=σ3 at R3 L3 h03 ⊢
 obtain ⟨v,σ4,⟨hv,hs⟩,hr4⟩:=r_PMap R3
 subst hv hs
 refine runs_ret hr4 ?_
 simp -implicitDefEqProofs only[go_sem]
 obtain ⟨v,σ5,⟨R5,hv,lf5⟩,hr5⟩:=r_Own1 R3 ok (p:=p) (c:=c) (q:=q) (b:=false) hp hkind hcls hc hq hwords (by rw [hheld];rfl) ⟨by omega,hlive.2⟩
 subst hv
 refine runs_ret hr5 ?_
 have L5:=L3.left R3 lf5 N3
 have okg:=ok_given1 ok (p:=p) (q:=q)
 have smg:=same_given1 H p q
 have R5':HRep σ5 A (H.given1 p q):=R5
 have pgg:(H.given1 p q).page p=(H.page p).own q false:=by simp [Heap.given1,Heap.setPage]
 simp -implicitDefEqProofs only[go_sem]
 obtain ⟨v,σ6,⟨hv,hs⟩,hr6⟩:=r_base R5' okg
 subst hv hs
 rw [smg.base] at hr6
 refine runs_ret hr6 ?_
 have e1:IntKind.u64.wrap (p:Int)=(p:Int):=wu64_id (by omega) (by omega)
 have e2:IntKind.u64.wrap ((4096:Int)*(p:Int))=((4096*p:Nat):Int):=by
  rw [wu64_id] <;> omega
 have e3:IntKind.u64.wrap ((H.base:Int)+((4096*p:Nat):Int))=(H.addr p:Int):=by
  unfold Heap.addr at *;rw [wu64_id] <;> omega
 have l2:∀ {s:St},Lcl s lx 11 (lst x.cells) -> s.cell lx 2=some (.int .i64 c):=fun h=>by
  rw [h.cell (by omega), <- hcls, <- hx];rfl
 have l3:∀ {s:St},Lcl s lx 11 (lst x.cells) -> s.cell lx 3=some (.int .i64 x.live):=fun h=>h.cell (by omega)
 have l6:∀ {s:St},Lcl s lx 11 (lst x.cells) -> s.cell lx 6=some (.int .i64 x.first):=fun h=>h.cell (by omega)
 have m2:=l2 L5
 have m3:=l3 L5
 have m6:=l6 L5
 rw [<- hx] at h1 h2
 by_cases c1:x.live=1
 ·obtain ⟨v,σ7,⟨R7,hv⟩,hr7⟩:=r_unhang R5' okg (p:=p) (c:=c) hp hc (hun (by rw [<- hx];exact c1))
  subst hv
  simp -implicitDefEqProofs only[go_sem,e1,e2,e3,m2,m3,m6,c1]
  refine runs_ret hr7 ?_
  have smu:=same_unhung (H.given1 p q) p c
  obtain ⟨v,σ8,⟨R8,hv⟩,hr8⟩:=r_Run R7 (ok_unhung okg) (p:=p) (k:=0) (kind:=2) (Nat.zero_le _) (.inr rfl) (by simp [Nat.mod_one]) (by rw [smu.np,smg.np];omega)
  subst hv
  simp -implicitDefEqProofs only[go_sem]
  refine runs_ret hr8 ?_
  have h08:=slab_pool R8
  simp -implicitDefEqProofs only[go_sem,h08]
  obtain ⟨v,σ9,hq9,hr9⟩:=h1 c1 _ R8
  refine runs_ret hr9 ?_
  simp -implicitDefEqProofs only[go_sem]
  exact hq9
 ·by_cases c2:x.first<0
  ·obtain ⟨k1,k2⟩:=hhg (by rw [<- hx];exact c1) (by rw [<- hx];exact c2)
   obtain ⟨v,σ7,⟨R7,hv,lf7⟩,hr7⟩:=r_hang1 R5' okg (p:=p) (c:=c) hp hc (by rw [pgg];exact hkind) k1 k2
   subst hv
   simp -implicitDefEqProofs only[go_sem,e1,e2,e3,m2,m3,m6,c1,c2]
   refine runs_ret hr7 ?_
   have L7:=L5.left R5' lf7 N3
   have R7':HRep σ7 A (H.given2 p c q):=by unfold Heap.given2;rw [<- hx,if_pos c2];exact R7
   obtain ⟨v,σ8,⟨hv,R8,rf⟩,hr8⟩:=tail_Give ok hOk hx R7' L7
   subst hv
   obtain ⟨v,σ9,⟨hv,R9⟩,hr9⟩:=rf
   subst hv
   have hgl:H.glink p c=0:=by unfold Heap.glink;rw [<- hx,if_pos c2]
   rw [hgl, <- had] at hr8
   have h07:=slab_pool R7
   obtain ⟨v,σ8',⟨hv,hs⟩,hr8'⟩:=r_PSpace R7
   subst hv hs
   have c3:¬ (0 <= x.first):=by omega
   have m6':=l6 L7
   simp -implicitDefEqProofs only[go_sem,m6',c3,h07]
   refine runs_ret hr8' ?_
   simp -implicitDefEqProofs only[go_sem]
   refine runs_ret hr8 ?_
   simp -implicitDefEqProofs only[go_sem]
   refine runs_ret hr9 ?_
   simp -implicitDefEqProofs only[go_sem]
   exact h2 c1 _ R9
  ·have c3:0 <= x.first:=by omega
   obtain ⟨f,hf⟩:∃ f:Nat,x.first=(f:Int):=⟨x.first.toNat,by omega⟩
   have hf2:f<256 / 2^c:=by rw [<- hx] at hfirst;omega
   have R7':HRep σ6 A (H.given2 p c q):=by unfold Heap.given2;rw [<- hx,if_neg c2];exact R5
   obtain ⟨v,σ8,⟨hv,R8,rf⟩,hr8⟩:=tail_Give ok hOk hx R7' L5
   subst hv
   obtain ⟨v,σ9,⟨hv,R9⟩,hr9⟩:=rf
   subst hv
   have hgl:H.glink p c=H.addr p+f*(16*2^c):=by
    unfold Heap.glink;rw [<- hx,if_neg c2,hf,Int.toNat_natCast]
   rw [hgl, <- had] at hr8
   have h07:=slab_pool R5
   obtain ⟨v,σ8',⟨hv,hs⟩,hr8'⟩:=r_PSpace R5
   subst hv hs
   obtain ⟨w,hwd⟩:∃ w,w=16*2^c:=⟨_,rfl⟩
   have hwc:=R5.wid.cell hc
   rw [<- hwd] at hwc hr8 w1 w2 w3
   have hfw:f*w+w <= 4096:=by
    have h:(f+1)*w <= 256 / 2^c*w:=Nat.mul_le_mul_right _ hf2
    rw [Nat.add_mul,Nat.mul_comm (256 / 2^c),w1] at h;omega
   have e4:IntKind.u64.wrap (f:Int)=(f:Int):=wu64_id (by omega) (by omega)
   have e5:IntKind.u64.wrap ((f:Int)*(w:Int))=((f*w:Nat):Int):=u64_mul (by omega)
   have e6:IntKind.u64.wrap ((H.addr p:Int)+((f*w:Nat):Int))=((H.addr p+f*w:Nat):Int):=u64_add (by omega)
   have c4:(0:Int) <= (c:Int) /\ (c:Int)<((8:Nat):Int):=by omega
   rw [hf] at m6 c2 c3
   simp -implicitDefEqProofs only[go_sem,e1,e2,e3,m2,m3,m6,c1,c2,c3,h07,c4,and_self,Int.toNat_natCast,Nat.mul_one,hwc,e4,e5,e6]
   refine runs_ret hr8' ?_
   simp -implicitDefEqProofs only[go_sem]
   refine runs_ret hr8 ?_
   simp -implicitDefEqProofs only[go_sem]
   refine runs_ret hr9 ?_
   simp -implicitDefEqProofs only[go_sem]
   exact h2 c1 _ R9
end
noncomputable section
variable {H H':Heap}
theorem wsum_congr {m m':Nat -> Nat} {o:Nat}:∀ n,(∀ i,i<n -> m' (o+i)=m (o+i)) -> wsum m' o n=wsum m o n
 | 0,_=>rfl
 |n+1,h=>by
  simp only [wsum]
  rw [wsum_congr n (fun i hi=>h i (by omega)),h n (by omega)]
theorem wsum_byte {m:Nat -> Nat} {o v:Nat}:∀ n,(∀ i,i<n -> m (o+i)=byteOf v i) -> wsum m o n=v%2^(8*n)
 | 0,_=>by simp [wsum,Nat.mod_one]
 |n+1,h=>by
  simp only [wsum]
  rw [wsum_byte n (fun i hi=>h i (by omega)),h n (by omega),show 2^(8*(n+1))=2^(8*n)*256 by rw [Nat.mul_add,Nat.pow_add],Nat.mod_mul,byteOf,Nat.mul_comm (v / 2^(8*n)%256)]
theorem base_wr64 (H:Heap) (p v:Nat):(H.wr64 p v).base=H.base:=rfl
theorem base_setHead (H:Heap) (k v:Nat):(H.setHead k v).base=H.base:=rfl
theorem w64_ext (hb:H'.base=H.base) {p:Nat} (h:∀ i,i<8 -> H'.mem (p-H.base+i)=H.mem (p-H.base+i)):H'.w64 p=H.w64 p:=by
 unfold Heap.w64;rw [hb];exact wsum_congr 8 h
theorem wr64_mem (H:Heap) (p v j:Nat) (h:j<p-H.base \/ p-H.base+8 <= j):(H.wr64 p v).mem j=H.mem j:=by
 unfold Heap.wr64 Heap.wr
 simp only
 rw [if_neg (by omega)]
theorem w64_wr64 (H:Heap) {p v:Nat} (hv:v<18446744073709551616):(H.wr64 p v).w64 p=v:=by
 unfold Heap.w64
 rw [wsum_byte (v:=v) 8]
 ·exact Nat.mod_eq_of_lt hv
 ·intro i hi
  show (H.wr64 p v).mem _=_
  unfold Heap.wr64 Heap.wr
  simp only
  rw [if_pos (by omega),Nat.add_sub_cancel_left]
theorem w64_wr64_ne (H:Heap) {p q v:Nat} (h:q+8 <= p \/ p+8 <= q) (hp:H.base <= p) (hq:H.base <= q):(H.wr64 p v).w64 q=H.w64 q :=
 w64_ext (base_wr64 H p v) fun i hi=>wr64_mem H p v _ (by omega)
theorem addr_ge (H:Heap) (p:Nat):H.base <= H.addr p:=by unfold Heap.addr;omega
theorem w64_page (H:Heap) {p q d e v:Nat} (h:p≠q) (hd:d+8 <= 4096) (he:e+8 <= 4096):(H.wr64 (H.addr p+d) v).w64 (H.addr q+e)=H.w64 (H.addr q+e):=by
 have h1:=addr_ge H p
 have h2:=addr_ge H q
 refine w64_wr64_ne H ?_ (by omega) (by omega)
 unfold Heap.addr
 omega
theorem w64_off (H:Heap) {p d e v:Nat} (h:d+8 <= e \/ e+8 <= d):(H.wr64 (H.addr p+d) v).w64 (H.addr p+e)=H.w64 (H.addr p+e):=by
 have h1:=addr_ge H p
 exact w64_wr64_ne H (by omega) (by omega) (by omega)
def hdE (H:Heap) (l:List Nat) (e:Nat):Nat:=match l with
 | []=>e
 |q :: _=>H.addr q
def lsA (H:Heap) (pv:Nat):List Nat -> Nat
 | []=>pv
 |p :: r=>lsA H (H.addr p) r
def Seg (H:Heap):Nat -> List Nat -> Nat -> Prop
 |_,[],_=>True
 |pv,p :: r,e=>H.w64 (H.addr p)=hdE H r e /\ H.w64 (H.addr p+8)=pv /\ Seg H (H.addr p) r e
theorem hdE_append (H:Heap) (l1 l2:List Nat) (e:Nat):hdE H (l1++l2) e=hdE H l1 (hdE H l2 e):=by cases l1 <;> rfl
theorem hdE_base (hb:H'.base=H.base) (l:List Nat) (e:Nat):hdE H' l e=hdE H l e:=by
 cases l
 ·rfl
 ·simp only [hdE,Heap.addr,hb]
theorem lsA_base (hb:H'.base=H.base):∀ (l:List Nat) (e:Nat),lsA H' e l=lsA H e l
 | [],_=>rfl
 |p :: r,e=>by
  simp only [lsA]
  rw [lsA_base hb r,show H'.addr p=H.addr p by unfold Heap.addr;rw [hb]]
theorem lsA_concat (H:Heap):∀ (l:List Nat) (a pv:Nat),lsA H pv (l++[a])=H.addr a
 | [],a,pv=>rfl
 |p :: r,a,pv=>lsA_concat H r a _
theorem Seg.append {pv:Nat}:∀ {l1 l2:List Nat} {e:Nat},Seg H pv (l1++l2) e↔Seg H pv l1 (hdE H l2 e) /\ Seg H (lsA H pv l1) l2 e:=by
 intro l1
 induction l1 generalizing pv with
 |nil=>intro l2 e;simp [Seg,lsA]
 |cons p r ih =>
  intro l2 e
  simp only [List.cons_append,Seg,lsA,hdE_append,ih]
  constructor
  ·rintro ⟨a,b,c,d⟩;exact ⟨⟨a,b,c⟩,d⟩
  ·rintro ⟨⟨a,b,c⟩,d⟩;exact ⟨a,b,c,d⟩
theorem Seg.congr (hb:H'.base=H.base):∀ {l:List Nat} {pv e:Nat},(∀ q∈l,H'.w64 (H.addr q)=H.w64 (H.addr q) /\ H'.w64 (H.addr q+8)=H.w64 (H.addr q+8)) -> Seg H pv l e -> Seg H' pv l e
 | [],_,_,_,_=>trivial
 |p :: r,pv,e,h,k=>by
  have ha:∀ q,H'.addr q=H.addr q:=fun q=>by unfold Heap.addr;rw [hb]
  have hp:=h p (List.mem_cons_self ..)
  refine ⟨?_,?_,?_⟩
  ·rw [ha,hp.1,k.1,hdE_base hb]
  ·rw [ha,hp.2,k.2.1]
  ·rw [ha];exact Seg.congr hb (fun q hq=>h q (List.mem_cons_of_mem _ hq)) k.2.2
theorem Seg.reEnd {pv a e e':Nat} {l:List Nat} (hn:a∉l) (he:e'<18446744073709551616) (h:Seg H pv (l++[a]) e):Seg (H.wr64 (H.addr a) e') pv (l++[a]) e':=by
 rw [Seg.append] at h ⊢
 obtain ⟨h1,h2⟩:=h
 have hb:(H.wr64 (H.addr a) e').base=H.base:=rfl
 refine ⟨?_,?_⟩
 ·have h1':Seg H pv l (hdE H [a] e'):=h1
  rw [hdE_base hb]
  refine Seg.congr hb (fun q hq=>?_) h1'
  have hqa:a≠q:=fun h=>hn (h▸hq)
  have k1:=w64_page H (v:=e') (d:=0) (e:=0) hqa (by omega) (by omega)
  have k2:=w64_page H (v:=e') (d:=0) (e:=8) hqa (by omega) (by omega)
  exact ⟨k1,k2⟩
 ·rw [lsA_base hb]
  refine ⟨?_,?_,trivial⟩
  ·exact w64_wr64 H he
  ·have:=w64_off H (p:=a) (d:=0) (e:=8) (v:=e') (by omega)
   exact this.trans h2.2.1
theorem Seg.rePrev {pv pv' a e:Nat} {l:List Nat} (hn:a∉l) (he:pv'<18446744073709551616) (h:Seg H pv (a :: l) e):Seg (H.wr64 (H.addr a+8) pv') pv' (a :: l) e:=by
 have hb:(H.wr64 (H.addr a+8) pv').base=H.base:=rfl
 refine ⟨?_,?_,?_⟩
 ·have:=w64_off H (p:=a) (d:=8) (e:=0) (v:=pv') (by omega)
  rw [hdE_base hb]
  exact this.trans h.1
 ·exact w64_wr64 H he
 ·refine Seg.congr hb (fun q hq=>?_) h.2.2
  have hqa:a≠q:=fun h=>hn (h▸hq)
  have k1:=w64_page H (v:=pv') (d:=8) (e:=0) hqa (by omega) (by omega)
  have k2:=w64_page H (v:=pv') (d:=8) (e:=8) hqa (by omega) (by omega)
  exact ⟨k1,k2⟩
def FL (H:Heap) (k:Nat) (l:List Nat):Prop:=H.head k=hdE H l 0 /\ Seg H 0 l 0
theorem addr_ne0 (hb:0<H.base) (p:Nat):H.addr p≠0:=by unfold Heap.addr;omega
theorem addr_inj {p q:Nat} (h:H.addr p=H.addr q):p=q:=by unfold Heap.addr at h;omega
theorem Seg.setHead {k v:Nat} {pv e:Nat} {l:List Nat} (h:Seg H pv l e):Seg (H.setHead k v) pv l e:=Seg.congr (base_setHead H k v) (fun _ _=>⟨rfl,rfl⟩) h
theorem FL.push (hb:0<H.base) {k p:Nat} {l:List Nat} (h:FL H k l) (hp:p∉l) (nd:l.Nodup) (hlt:∀ q,q∈p :: l -> H.addr q<18446744073709551616):FL (H.pushed k (H.addr p)) k (p :: l):=by
 refine ⟨by simp [Heap.pushed,Heap.setHead,hdE,Heap.addr];split <;> rfl,?_⟩
 have hpl:=hlt p (List.mem_cons_self ..)
 cases l with
 |nil =>
  have h0:H.head k=0:=h.1
  unfold Heap.pushed
  rw [if_pos h0,h0]
  refine Seg.setHead ⟨?_,?_,trivial⟩
  ·have:=w64_off (H.wr64 (H.addr p) 0) (p:=p) (d:=8) (e:=0) (v:=0) (by omega)
   exact this.trans (w64_wr64 H (by omega))
  ·exact w64_wr64 (H.wr64 (H.addr p) 0) (p:=H.addr p+8) (by omega)
 |cons b r =>
  have h0:H.head k=H.addr b:=h.1
  have hbl:=hlt b (by simp)
  have hpb:p≠b:=fun e=>hp (by simp [e])
  have hbr:b∉r:=(List.nodup_cons.1 nd).1
  unfold Heap.pushed
  rw [if_neg (by rw [h0];exact addr_ne0 hb b),h0]
  refine Seg.setHead ?_
  have s1:Seg (H.wr64 (H.addr p) (H.addr b)) 0 (b :: r) 0:=by
   refine Seg.congr (base_wr64 H _ _) (fun q hq=>?_) h.2
   have hqp:p≠q:=fun e=>hp (e▸hq)
   exact ⟨w64_page H (d:=0) (e:=0) hqp (by omega) (by omega),w64_page H (d:=0) (e:=8) hqp (by omega) (by omega)⟩
  have s2:Seg ((H.wr64 (H.addr p) (H.addr b)).wr64 (H.addr p+8) 0) 0 (b :: r) 0:=by
   refine Seg.congr (base_wr64 (H.wr64 (H.addr p) (H.addr b)) _ _) (fun q hq=>?_) s1
   have hqp:p≠q:=fun e=>hp (e▸hq)
   exact ⟨w64_page (H.wr64 (H.addr p) (H.addr b)) (d:=8) (e:=0) hqp (by omega) (by omega),w64_page (H.wr64 (H.addr p) (H.addr b)) (d:=8) (e:=8) hqp (by omega) (by omega)⟩
  have s3:=Seg.rePrev (pv':=H.addr p) hbr hpl s2
  refine ⟨?_,?_,s3⟩
  ·have k1:=w64_page ((H.wr64 (H.addr p) (H.addr b)).wr64 (H.addr p+8) 0) (p:=b) (q:=p) (d:=8) (e:=0) (v:=H.addr p) (Ne.symm hpb) (by omega) (by omega)
   have k2:=w64_off (H.wr64 (H.addr p) (H.addr b)) (p:=p) (d:=8) (e:=0) (v:=0) (by omega)
   exact k1.trans (k2.trans (w64_wr64 H hbl))
  ·have k1:=w64_page ((H.wr64 (H.addr p) (H.addr b)).wr64 (H.addr p+8) 0) (p:=b) (q:=p) (d:=8) (e:=8) (v:=H.addr p) (Ne.symm hpb) (by omega) (by omega)
   exact k1.trans (w64_wr64 (H.wr64 (H.addr p) (H.addr b)) (p:=H.addr p+8) (by omega))
theorem pushed_mem {k p:Nat} {l:List Nat} (h:FL H k l) (x:Nat) (hx:x≠p) (hxl:x∉l) (i:Nat) (hi:i<4096):(H.pushed k (H.addr p)).mem (4096*x+i)=H.mem (4096*x+i):=by
 have hm:∀ (G:Heap) (q d v:Nat),G.base=H.base -> x≠q -> d+8 <= 4096 -> (G.wr64 (H.addr q+d) v).mem (4096*x+i)=G.mem (4096*x+i):=by
  intro G q d v hG hq hd
  refine wr64_mem G _ v _ ?_
  rw [hG];unfold Heap.addr;omega
 unfold Heap.pushed
 by_cases c:H.head k=0
 ·rw [if_pos c]
  have k2:=hm (H.wr64 (H.addr p) (H.head k)) p 8 0 rfl hx (by omega)
  exact k2.trans (hm H p 0 (H.head k) rfl hx (by omega))
 ·rw [if_neg c]
  cases l with
  |nil=>exact (c h.1).elim
  |cons b r =>
   have hb:H.head k=H.addr b:=h.1
   have hxb:x≠b:=fun e=>hxl (by simp [e])
   have k3:=hm ((H.wr64 (H.addr p) (H.head k)).wr64 (H.addr p+8) 0) b 8 (H.addr p) rfl hxb (by omega)
   have k2:=hm (H.wr64 (H.addr p) (H.head k)) p 8 0 rfl hx (by omega)
   rw [<- hb] at k3
   exact k3.trans (k2.trans (hm H p 0 (H.head k) rfl hx (by omega)))
theorem pushed_head (H:Heap) (k p j:Nat) (h:j≠k):(H.pushed k p).head j=H.head j:=by
 unfold Heap.pushed
 by_cases c:H.head k=0
 ·rw [if_pos c];exact if_neg h
 ·rw [if_neg c];exact if_neg h
theorem FL.other {j:Nat} {l:List Nat} (h:FL H j l) (hb:H'.base=H.base) (hh:H'.head j=H.head j) (hm:∀ x∈l, ∀ i,i<4096 -> H'.mem (4096*x+i)=H.mem (4096*x+i)):FL H' j l:=by
 refine ⟨by rw [hh,h.1,hdE_base hb],Seg.congr hb (fun q hq=>⟨?_,?_⟩) h.2⟩
 ·refine w64_ext hb fun i hi=>?_
  have:=hm q hq i (by omega)
  rw [show H.addr q-H.base+i=4096*q+i by unfold Heap.addr;omega];exact this
 ·refine w64_ext hb fun i hi=>?_
  have:=hm q hq (8+i) (by omega)
  rw [show H.addr q+8-H.base+i=4096*q+(8+i) by unfold Heap.addr;omega];exact this
theorem lsA_snoc (l:List Nat):l=[] \/ ∃ l' a,l=l'++[a]:=by
 rcases List.eq_nil_or_concat l with h | ⟨l',a,h⟩
 ·exact .inl h
 ·exact .inr ⟨l',a,by simpa using h⟩
theorem FL.remove (hb:0<H.base) {k p:Nat} {l1 l2:List Nat} (h:FL H k (l1++p :: l2)) (nd:(l1++p :: l2).Nodup) (hlt:∀ q,q∈l1++p :: l2 -> H.addr q<18446744073709551616) :
  FL (H.removed k (hdE H l2 0) (lsA H 0 l1)) k (l1++l2):=by
 obtain ⟨hh,hs⟩:=h
 rw [Seg.append] at hs
 obtain ⟨s1,s2⟩:=hs
 have s3:Seg H (H.addr p) l2 0:=s2.2.2
 have hnx:hdE H l2 0<18446744073709551616:=by
  cases l2 with
  |nil=>simp [hdE]
  |cons b r=>exact hlt b (by simp)
 have n0:∀ q,H.addr q≠0:=addr_ne0 hb
 rw [List.nodup_append] at nd
 obtain ⟨nd1,nd2,nd3⟩:=nd
 have nd2':=List.nodup_cons.1 nd2
 rcases lsA_snoc l1 with rfl | ⟨l1',a,rfl⟩
 ·
  cases l2 with
  |nil =>
   refine ⟨?_,trivial⟩
   simp [Heap.removed,Heap.setHead,hdE,lsA]
  |cons b r =>
   have hbb:=n0 b
   have hpv:lsA H 0 []=0:=rfl
   refine ⟨?_,?_⟩
   ·simp [Heap.removed,Heap.setHead,hdE,lsA,hbb,Heap.wr64,Heap.wr,Heap.addr]
    split <;> simp_all [Heap.addr] <;> omega
   ·unfold Heap.removed
    rw [if_neg (show hdE H (b :: r) 0≠0 from hbb),if_pos hpv,hpv]
    have hbr:b∉r:=(List.nodup_cons.1 nd2'.2).1
    exact Seg.rePrev (H:=H.setHead k (hdE H (b :: r) 0)) (pv:=H.addr p) hbr (by omega) (Seg.setHead s3)
 ·have hpv:lsA H 0 (l1'++[a])=H.addr a:=lsA_concat H l1' a 0
  have ha0:=n0 a
  have hal:a∉l1':=by
   rw [List.nodup_append] at nd1
   intro hm
   exact nd1.2.2 a hm a (by simp) rfl
  have hal2:∀ x∈l2,a≠x:=fun x hx=>nd3 a (by simp) x (List.mem_cons_of_mem _ hx)
  have halt:=hlt a (by simp)
  have e1:=Seg.reEnd (e':=hdE H l2 0) hal hnx s1
  have e2:Seg (H.wr64 (H.addr a) (hdE H l2 0)) (H.addr p) l2 0:=by
   refine Seg.congr (base_wr64 H _ _) (fun q hq=>?_) s3
   have hqa:=hal2 q hq
   exact ⟨w64_page H (d:=0) (e:=0) hqa (by omega) (by omega),w64_page H (d:=0) (e:=8) hqa (by omega) (by omega)⟩
  have hhead:∀ G:Heap,G.base=H.base -> hdE G ((l1'++[a])++l2) 0=H.head k:=by
   intro G hG
   rw [hh,hdE_base hG]
   cases l1' <;> rfl
  cases l2 with
  |nil =>
   have hnx0:hdE H [] 0=0:=rfl
   unfold Heap.removed
   rw [if_pos hnx0,hpv,if_neg ha0,hnx0]
   refine ⟨(hhead _ rfl).symm,?_⟩
   rw [List.append_nil]
   exact e1
  |cons b r =>
   have hbb:=n0 b
   have hbr:b∉r:=(List.nodup_cons.1 nd2'.2).1
   unfold Heap.removed
   rw [if_neg (show hdE H (b :: r) 0≠0 from hbb),hpv,if_neg ha0]
   have hab:=hal2 b (by simp)
   have e3:=Seg.rePrev (H:=H.wr64 (H.addr a) (hdE H (b :: r) 0)) (pv':=H.addr a) hbr halt e2
   have e4:Seg ((H.wr64 (H.addr a) (hdE H (b :: r) 0)).wr64 (H.addr b+8) (H.addr a)) 0 (l1'++[a]) (hdE H (b :: r) 0):=by
    refine Seg.congr (base_wr64 (H.wr64 (H.addr a) (hdE H (b :: r) 0)) _ _) (fun q hq=>?_) e1
    have hqb:b≠q:=fun e=>nd3 q hq b (by simp) e.symm
    exact ⟨w64_page (H.wr64 (H.addr a) (hdE H (b :: r) 0)) (d:=8) (e:=0) hqb (by omega) (by omega),w64_page (H.wr64 (H.addr a) (hdE H (b :: r) 0)) (d:=8) (e:=8) hqb (by omega) (by omega)⟩
   refine ⟨(hhead _ rfl).symm,?_⟩
   rw [Seg.append]
   refine ⟨e4,?_⟩
   rw [lsA_concat]
   exact e3
theorem removed_mem {k p:Nat} {l1 l2:List Nat} (x:Nat) (hx:x∉l1++p :: l2) (i:Nat) (hi:i<4096):(H.removed k (hdE H l2 0) (lsA H 0 l1)).mem (4096*x+i)=H.mem (4096*x+i):=by
 have hm:∀ (G:Heap) (q d v:Nat),G.base=H.base -> x≠q -> d+8 <= 4096 -> (G.wr64 (H.addr q+d) v).mem (4096*x+i)=G.mem (4096*x+i):=by
  intro G q d v hG hq hd
  refine wr64_mem G _ v _ ?_
  rw [hG];unfold Heap.addr;omega
 have step1:∀ G:Heap,G=(if lsA H 0 l1=0 then H.setHead k (hdE H l2 0) else H.wr64 (lsA H 0 l1) (hdE H l2 0)) -> G.mem (4096*x+i)=H.mem (4096*x+i) /\ G.base=H.base:=by
  rintro G rfl
  by_cases c:lsA H 0 l1=0
  ·rw [if_pos c];exact ⟨rfl,rfl⟩
  ·rw [if_neg c]
   rcases lsA_snoc l1 with rfl | ⟨l1',a,rfl⟩
   ·exact (c rfl).elim
   ·rw [lsA_concat]
    refine ⟨hm H a 0 _ rfl ?_ (by omega),rfl⟩
    rintro rfl
    exact hx (by simp)
 unfold Heap.removed
 by_cases c:hdE H l2 0=0
 ·rw [if_pos c];exact (step1 _ rfl).1
 ·rw [if_neg c]
  cases l2 with
  |nil=>exact (c rfl).elim
  |cons b r =>
   obtain ⟨g1,g2⟩:=step1 _ rfl
   refine Eq.trans (hm _ b 8 _ g2 ?_ (by omega)) g1
   rintro rfl
   exact hx (by simp)
theorem removed_head {k nx pv j:Nat} (h:j≠k):(H.removed k nx pv).head j=H.head j:=by
 unfold Heap.removed
 by_cases c:nx=0
 ·rw [if_pos c]
  by_cases c2:pv=0
  ·rw [if_pos c2];exact if_neg h
  ·rw [if_neg c2];rfl
 ·rw [if_neg c]
  by_cases c2:pv=0
  ·rw [if_pos c2];exact if_neg h
  ·rw [if_neg c2];rfl
theorem FL.sound (hb:0<H.base) {k p:Nat} {l1 l2:List Nat} (h:FL H k (l1++p :: l2)) (nd:(l1++p :: l2).Nodup) (hin:∀ q,q∈l1++p :: l2 -> H.In (H.addr q) 16) :
  H.Sound k (H.addr p) (hdE H l2 0) (lsA H 0 l1):=by
 obtain ⟨hh,hs⟩:=h
 rw [Seg.append] at hs
 obtain ⟨s1,s2⟩:=hs
 have n0:∀ q,H.addr q≠0:=addr_ne0 hb
 refine ⟨hin p (by simp),s2.1,s2.2.1,?_,?_,?_⟩
 ·rw [hh]
  rcases lsA_snoc l1 with rfl | ⟨l1',a,rfl⟩
  ·simp [lsA,hdE]
  ·rw [lsA_concat]
   constructor
   ·intro e;exact (n0 a e).elim
   ·intro e
    rw [List.nodup_append] at nd
    cases l1' with
    |nil=>exact (nd.2.2 a (by simp) p (by simp) (addr_inj e).symm).elim
    |cons b r=>exact (nd.2.2 b (by simp) p (by simp) (addr_inj e).symm).elim
 ·intro hne
  rcases lsA_snoc l1 with rfl | ⟨l1',a,rfl⟩
  ·exact (hne rfl).elim
  ·rw [lsA_concat]
   refine ⟨hin a (by simp),?_⟩
   rw [Seg.append] at s1
   exact s1.2.1
 ·intro hne
  cases l2 with
  |nil=>exact (hne rfl).elim
  |cons b r=>exact ⟨hin b (by simp),s2.2.2.2.1⟩
theorem FL.pushOk {k:Nat} {l:List Nat} (h:FL H k l) (hin:∀ q,q∈l -> H.In (H.addr q) 16):H.PushOk k:=by
 intro hne
 cases l with
 |nil=>exact (hne h.1).elim
 |cons b r =>
  rw [show H.head k=H.addr b from h.1]
  exact ⟨hin b (by simp),h.2.2.1⟩
end
noncomputable section
variable {H H':Heap}
theorem pbit_eq (H:Heap) (k i:Nat):H.pbit k i=(H.word k (i / 64)).testBit (i%64):=by
 unfold Heap.pbit;rw [Nat.testBit_eq_decide_div_mod_eq]
theorem pbit_flip (H:Heap) (k i k' j:Nat):(H.flip k i).pbit k' j=if k'=k /\ j=i then !(H.pbit k i) else H.pbit k' j:=by
 rw [pbit_eq,pbit_eq,pbit_eq]
 simp only [Heap.flip]
 by_cases c:k'=k /\ j / 64=i / 64
 ·rw [if_pos c,Nat.testBit_xor,Nat.testBit_two_pow,c.2,c.1]
  by_cases d:j=i
  ·subst d;rw [if_pos ⟨rfl,rfl⟩];simp
  ·rw [if_neg (fun e=>d e.2),decide_eq_false (by omega)];simp
 ·rw [if_neg c,if_neg (fun e=>c ⟨e.1,by rw [e.2]⟩)]
theorem bit_eq (g:Page) (q:Nat):g.bit q=if (g.bw (q / 64)).testBit (q%64)=true then 1 else 0:=by
 unfold Page.bit
 rw [Nat.testBit_eq_decide_div_mod_eq]
 have:=Nat.mod_two_eq_zero_or_one (g.bw (q / 64) / 2^(q%64))
 rcases this with h | h <;> simp [h]
theorem setW_bw (g:Page) (j v i:Nat) (hj:j<4) (hi:i<4):(g.setW j v).bw i=if i=j then v else g.bw i:=by
 rcases (by omega:i=0 \/ i=1 \/ i=2 \/ i=3) with rfl | rfl | rfl | rfl <;> rcases (by omega:j=0 \/ j=1 \/ j=2 \/ j=3) with rfl | rfl | rfl | rfl <;> simp [Page.bw,Page.setW]
theorem own_bw (g:Page) (q:Nat) (b:Bool) (i:Nat):(g.own q b).bw i=(g.turn q).bw i:=rfl
theorem bit_own (g:Page) {q q':Nat} (b:Bool) (hq:q<256) (hq':q'<256):(g.own q b).bit q'=if q'=q then 1-g.bit q else g.bit q':=by
 rw [bit_eq,bit_eq,bit_eq,own_bw]
 unfold Page.turn
 rw [setW_bw _ _ _ _ (by omega) (by omega)]
 by_cases c:q' / 64=q / 64
 ·rw [if_pos c,Nat.testBit_xor,Nat.testBit_two_pow,c]
  by_cases d:q'=q
  ·subst d
   rw [if_pos rfl]
   cases (g.bw (q' / 64)).testBit (q'%64) <;> simp
  ·rw [if_neg d,decide_eq_false (by omega)];simp
 ·rw [if_neg c,if_neg (show ¬ q'=q from fun e=>c (by rw [e]))]
theorem own_words {g:Page} (h:∀ j,g.bw j<18446744073709551616) {q:Nat} {b:Bool} (hq:q<256):∀ j,(g.own q b).bw j<18446744073709551616:=by
 have key:g.bw (q / 64) ^^^ 2^(q%64)<18446744073709551616:=by
  refine Nat.xor_lt_two_pow (n:=64) (h _) ?_
  exact Nat.pow_lt_pow_right (by omega) (by omega)
 intro j
 rw [own_bw]
 unfold Page.turn
 by_cases hj:j<4
 ·rw [setW_bw _ _ _ _ (by omega) hj]
  split
  ·exact key
  ·exact h j
 ·have e:∀ x:Page,x.bw j=x.b3:=fun x=>by unfold Page.bw;rw [if_neg (by omega),if_neg (by omega),if_neg (by omega)]
  have e3:∀ x:Page,x.bw 3=x.b3:=fun x=>rfl
  rw [e, <- e3,setW_bw _ _ _ _ (by omega) (by omega)]
  split
  ·exact key
  ·exact h 3
def hdI (l:List Nat) (e:Int):Int:=match l with
 | []=>e
 |q :: _=>q
def lsI (pv:Int):List Nat -> Int
 | []=>pv
 |p :: r=>lsI p r
def PSeg (g:Nat -> Page):Int -> List Nat -> Int -> Prop
 |_,[],_=>True
 |pv,p :: r,e=>(g p).next=hdI r e /\ (g p).prev=pv /\ PSeg g p r e
def PL (H:Heap) (c:Nat) (l:List Nat):Prop:=H.part c=hdI l (-1) /\ PSeg H.page (-1) l (-1)
theorem PSeg.congr {g g':Nat -> Page}:∀ {l:List Nat} {pv e:Int},(∀ q∈l,(g' q).next=(g q).next /\ (g' q).prev=(g q).prev) -> PSeg g pv l e -> PSeg g' pv l e
 | [],_,_,_,_=>trivial
 |p :: r,pv,e,h,k=>by
  have hp:=h p (List.mem_cons_self ..)
  exact ⟨hp.1.trans k.1,hp.2.trans k.2.1,PSeg.congr (fun q hq=>h q (List.mem_cons_of_mem _ hq)) k.2.2⟩
theorem hdI_append (l1 l2:List Nat) (e:Int):hdI (l1++l2) e=hdI l1 (hdI l2 e):=by cases l1 <;> rfl
theorem lsI_concat:∀ (l:List Nat) (a:Nat) (pv:Int),lsI pv (l++[a])=a
 | [],a,pv=>rfl
 |p :: r,a,pv=>lsI_concat r a _
theorem PSeg.append {g:Nat -> Page} {pv:Int}:∀ {l1 l2:List Nat} {e:Int},PSeg g pv (l1++l2) e↔PSeg g pv l1 (hdI l2 e) /\ PSeg g (lsI pv l1) l2 e:=by
 intro l1
 induction l1 generalizing pv with
 |nil=>intro l2 e;simp [PSeg,lsI]
 |cons p r ih =>
  intro l2 e
  simp only [List.cons_append,PSeg,lsI,hdI_append,ih]
  constructor
  ·rintro ⟨a,b,c,d⟩;exact ⟨⟨a,b,c⟩,d⟩
  ·rintro ⟨⟨a,b,c⟩,d⟩;exact ⟨a,b,c,d⟩
structure Core (g g':Page):Prop where
 kind:g'.kind=g.kind
 order:g'.order=g.order
 cls:g'.cls=g.cls
 live:g'.live=g.live
 first:g'.first=g.first
 bw:∀ j,g'.bw j=g.bw j
theorem Core.refl (g:Page):Core g g:=⟨rfl,rfl,rfl,rfl,rfl,fun _=>rfl⟩
theorem Core.links (g:Page) (a b:Int):Core g { g with next:=a,prev:=b }:=⟨rfl,rfl,rfl,rfl,rfl,fun _=>rfl⟩
theorem Core.trans {g1 g2 g3:Page} (h:Core g1 g2) (k:Core g2 g3):Core g1 g3:=⟨k.kind.trans h.kind,k.order.trans h.order,k.cls.trans h.cls,k.live.trans h.live,k.first.trans h.first,fun j=>(k.bw j).trans (h.bw j)⟩
theorem Core.bit {g g':Page} (h:Core g g') (q:Nat):g'.bit q=g.bit q:=by unfold Page.bit;rw [h.bw]
theorem core_hung (H:Heap) (p c x:Nat):Core (H.page x) ((H.hung p c).page x):=by
 have h1:∀ x,Core (H.page x) ((H.hung1 p c).page x):=by
  intro x
  simp only [Heap.hung1,Heap.setPage]
  by_cases e:x=p
  ·rw [if_pos e,e];exact Core.links _ _ _
  ·rw [if_neg e];exact Core.refl _
 show Core (H.page x) (((if 0 <= H.part c then (H.hung1 p c).setPage (H.part c).toNat { (H.hung1 p c).page (H.part c).toNat with prev:=p } else H.hung1 p c)).page x)
 by_cases c0:0 <= H.part c
 ·rw [if_pos c0]
  simp only [Heap.setPage]
  by_cases e:x=(H.part c).toNat
  ·rw [if_pos e,e]
   exact (h1 _).trans ⟨rfl,rfl,rfl,rfl,rfl,fun _=>rfl⟩
  ·rw [if_neg e];exact h1 x
 ·rw [if_neg c0];exact h1 x
theorem core_unhung (H:Heap) (p c x:Nat):Core (H.page x) ((H.unhung p c).page x):=by
 have h1:∀ x,Core (H.page x) ((H.unh1 p c).page x):=by
  intro x
  unfold Heap.unh1
  by_cases c0:0 <= (H.page p).prev
  ·rw [if_pos c0]
   simp only [Heap.setPage]
   by_cases e:x=(H.page p).prev.toNat
   ·rw [if_pos e,e];exact Core.links _ _ _
   ·rw [if_neg e];exact Core.refl _
  ·rw [if_neg c0];exact Core.refl _
 have h2:∀ x,Core (H.page x) ((H.unh2 p c).page x):=by
  intro x
  unfold Heap.unh2
  by_cases c0:0 <= (H.page p).next
  ·rw [if_pos c0]
   simp only [Heap.setPage]
   by_cases e:x=(H.page p).next.toNat
   ·rw [if_pos e,e];exact (h1 _).trans (Core.links _ _ _)
   ·rw [if_neg e];exact h1 x
  ·rw [if_neg c0];exact h1 x
 simp only [Heap.unhung,Heap.setPage]
 by_cases e:x=p
 ·rw [if_pos e,e];exact (h2 _).trans (Core.links _ _ _)
 ·rw [if_neg e];exact h2 x
theorem PL.hang {c p:Nat} {l:List Nat} (h:PL H c l) (hp:p∉l) (nd:l.Nodup):PL (H.hung p c) c (p :: l):=by
 obtain ⟨h0,hs⟩:=h
 refine ⟨by simp [Heap.hung,Heap.setPart,hdI],?_⟩
 cases l with
 |nil =>
  have h00:H.part c=-1:=h0
  have e:(H.hung p c).page=(H.hung1 p c).page:=by unfold Heap.hung;rw [if_neg (by omega)];rfl
  rw [e]
  refine ⟨?_,?_,trivial⟩
  ·simp [Heap.hung1,Heap.setPage,h00,hdI]
  ·simp [Heap.hung1,Heap.setPage]
 |cons b r =>
  have h00:H.part c=(b:Int):=h0
  have hbp:b≠p:=fun e=>hp (by simp [e])
  have e:(H.hung p c).page=((H.hung1 p c).setPage b { (H.hung1 p c).page b with prev:=p }).page:=by unfold Heap.hung;rw [if_pos (by omega),h00];rfl
  rw [e]
  have hbr:=(List.nodup_cons.1 nd).1
  refine ⟨?_,?_,?_,?_,?_⟩
  ·simp [Heap.setPage,Heap.hung1,Ne.symm hbp,h00,hdI]
  ·simp [Heap.setPage,Heap.hung1,Ne.symm hbp]
  ·simp only [Heap.setPage,Heap.hung1,if_true,hbp,if_false];exact hs.1
  ·simp [Heap.setPage,Heap.hung1]
  ·refine PSeg.congr (fun q hq=>?_) hs.2.2
   have h1:q≠b:=fun e=>hbr (e▸hq)
   have h2:q≠p:=fun e=>hp (by rw [<- e];exact List.mem_cons_of_mem _ hq)
   simp [Heap.setPage,Heap.hung1,h1,h2]
theorem PL.hang_other {c p j:Nat} {l l':List Nat} (h:PL H c l) (h':PL H j l') (hj:j≠c) (hp:p∉l') (hd:∀ x∈l',x∉l):PL (H.hung p c) j l':=by
 refine ⟨?_,PSeg.congr (fun q hq=>?_) h'.2⟩
 ·rw [<- h'.1];simp [Heap.hung,Heap.setPart,hj]
  split <;> rfl
 ·have h2:q≠p:=fun e=>hp (e▸hq)
  have e1:((H.hung1 p c).page q)=H.page q:=by simp [Heap.hung1,Heap.setPage,h2]
  show ((if 0 <= H.part c then (H.hung1 p c).setPage (H.part c).toNat { (H.hung1 p c).page (H.part c).toNat with prev:=p } else H.hung1 p c).page q).next=_ /\ ((if 0 <= H.part c then (H.hung1 p c).setPage (H.part c).toNat { (H.hung1 p c).page (H.part c).toNat with prev:=p } else H.hung1 p c).page q).prev=_
  by_cases c0:0 <= H.part c
  ·rw [if_pos c0]
   have h3:q≠(H.part c).toNat:=by
    intro e
    cases l with
    |nil=>have:=h.1;simp only [hdI] at this;omega
    |cons b r =>
     have:H.part c=(b:Int):=h.1
     exact hd q hq (by rw [e,this];simp)
   simp only [Heap.setPage,if_neg h3]
   rw [e1];exact ⟨rfl,rfl⟩
  ·rw [if_neg c0,e1];exact ⟨rfl,rfl⟩
theorem PL.unhang {c p:Nat} {l1 l2:List Nat} (h:PL H c (l1++p :: l2)) (nd:(l1++p :: l2).Nodup):PL (H.unhung p c) c (l1++l2):=by
 obtain ⟨h0,hs⟩:=h
 rw [PSeg.append] at hs
 obtain ⟨s1,s2⟩:=hs
 have hnx:(H.page p).next=hdI l2 (-1):=s2.1
 have hpv:(H.page p).prev=lsI (-1) l1:=s2.2.1
 have s3:PSeg H.page p l2 (-1):=s2.2.2
 rw [List.nodup_append] at nd
 obtain ⟨nd1,nd2,nd3⟩:=nd
 have nd2':=List.nodup_cons.1 nd2
 have hp1:p∉l1:=fun hm=>nd3 p hm p (by simp) rfl
 have pgE:∀ x,x≠p -> x≠(H.page p).prev.toNat \/ ¬ 0 <= (H.page p).prev -> x≠(H.page p).next.toNat \/ ¬ 0 <= (H.page p).next -> (H.unhung p c).page x=H.page x:=by
  intro x hxp h1 h2
  have e1:(H.unh1 p c).page x=H.page x:=by
   unfold Heap.unh1
   by_cases c0:0 <= (H.page p).prev
   ·rw [if_pos c0];simp only [Heap.setPage];rw [if_neg (h1.resolve_right (fun k=>k c0))]
   ·rw [if_neg c0];rfl
  have e2:(H.unh2 p c).page x=H.page x:=by
   unfold Heap.unh2
   by_cases c0:0 <= (H.page p).next
   ·rw [if_pos c0];simp only [Heap.setPage];rw [if_neg (h2.resolve_right (fun k=>k c0)),e1]
   ·rw [if_neg c0,e1]
  simp only [Heap.unhung,Heap.setPage];rw [if_neg hxp,e2]
 rcases lsA_snoc l1 with rfl | ⟨l1',a,rfl⟩
 ·have hpv':(H.page p).prev=-1:=hpv
  have hc0:¬ 0 <= (H.page p).prev:=by omega
  cases l2 with
  |nil =>
   refine ⟨?_,trivial⟩
   have hnx':(H.page p).next=-1:=hnx
   simp only [Heap.unhung,Heap.unh2,Heap.unh1,Heap.setPage]
   rw [if_neg (by omega),if_neg hc0]
   simp [Heap.setPart,hnx',hdI]
  |cons b r =>
   have hnx':(H.page p).next=(b:Int):=hnx
   have hbp:b≠p:=fun e=>nd2'.1 (by simp [e])
   have hbr:=(List.nodup_cons.1 nd2'.2).1
   have e:(H.unhung p c).page b={ H.page b with next:=(H.page b).next,prev:=(H.page p).prev }:=by
    simp only [Heap.unhung,Heap.unh2,Heap.unh1,Heap.setPage]
    rw [if_neg hbp,if_pos (by omega),if_neg hc0]
    simp [Heap.setPart,hnx']
   refine ⟨?_,?_,?_,?_⟩
   ·simp only [Heap.unhung,Heap.unh2,Heap.unh1,Heap.setPage]
    rw [if_pos (by omega),if_neg hc0]
    simp [Heap.setPart,hnx',hdI]
   ·show ((H.unhung p c).page b).next=_
    rw [e];exact s3.1
   ·show ((H.unhung p c).page b).prev=_
    rw [e];exact hpv'
   ·refine PSeg.congr (fun q hq=>?_) s3.2.2
    have h1:q≠b:=fun e=>hbr (e▸hq)
    have h2:q≠p:=fun e=>nd2'.1 (by rw [<- e];exact List.mem_cons_of_mem _ hq)
    rw [pgE q h2 (.inr hc0) (.inl (by rw [hnx'];omega))];exact ⟨rfl,rfl⟩
 ·rw [lsI_concat] at hpv
  have hc0:0 <= (H.page p).prev:=by omega
  have hat:(H.page p).prev.toNat=a:=by omega
  have hal:a∉l1':=by
   rw [List.nodup_append] at nd1
   intro hm
   exact nd1.2.2 a hm a (by simp) rfl
  have hap:a≠p:=fun e=>hp1 (by simp [e])
  have hal2:∀ x∈l2,a≠x:=fun x hx=>nd3 a (by simp) x (List.mem_cons_of_mem _ hx)
  have ea:(H.unhung p c).page a={ H.page a with next:=(H.page p).next,prev:=(H.page a).prev }:=by
   simp only [Heap.unhung,Heap.unh2,Heap.unh1,Heap.setPage]
   rw [if_neg hap,if_pos hc0]
   by_cases c1:0 <= (H.page p).next
   ·rw [if_pos c1]
    have:a≠(H.page p).next.toNat:=by
     cases l2 with
     |nil=>have h:(H.page p).next=-1:=hnx;omega
     |cons b r=>have h:(H.page p).next=(b:Int):=hnx;have:=hal2 b (by simp);omega
    simp [this,hat]
   ·rw [if_neg c1];simp [hat]
  have hpart:(H.unhung p c).part c=H.part c:=by
   simp only [Heap.unhung,Heap.unh2,Heap.unh1,Heap.setPage]
   rw [if_pos hc0]
   split <;> rfl
  refine ⟨?_,?_⟩
  ·rw [hpart,h0];cases l1' <;> rfl
  ·rw [PSeg.append] at s1
   rw [PSeg.append,PSeg.append,lsI_concat]
   refine ⟨⟨?_,?_,?_,trivial⟩,?_⟩
   ·refine PSeg.congr (fun q hq=>?_) s1.1
    have h1:q≠p:=fun e=>hp1 (by rw [<- e];exact List.mem_append_left _ hq)
    have h2:q≠a:=fun e=>hal (e▸hq)
    have h3:q≠(H.page p).next.toNat \/ ¬ 0 <= (H.page p).next:=by
     cases l2 with
     |nil=>have h:(H.page p).next=-1:=hnx;exact .inr (by omega)
     |cons b r=>have h:(H.page p).next=(b:Int):=hnx;have:=nd3 q (List.mem_append_left _ hq) b (by simp);exact .inl (by omega)
    rw [pgE q h1 (.inl (by rw [hat];exact h2)) h3];exact ⟨rfl,rfl⟩
   ·show ((H.unhung p c).page a).next=_
    rw [ea];exact hnx
   ·show ((H.unhung p c).page a).prev=_
    rw [ea];exact s1.2.2.1
   ·cases l2 with
    |nil=>trivial
    |cons b r =>
     have hnx':(H.page p).next=(b:Int):=hnx
     have hbp:b≠p:=fun e=>nd2'.1 (by simp [e])
     have hbr:=(List.nodup_cons.1 nd2'.2).1
     have hba:b≠a:=Ne.symm (hal2 b (by simp))
     have e:(H.unhung p c).page b={ H.page b with next:=(H.page b).next,prev:=(H.page p).prev }:=by
      simp only [Heap.unhung,Heap.unh2,Heap.unh1,Heap.setPage]
      rw [if_neg hbp,if_pos (by omega),if_pos hc0]
      simp [hnx',hat,hba]
     refine ⟨?_,?_,?_⟩
     ·show ((H.unhung p c).page b).next=_
      rw [e];exact s3.1
     ·show ((H.unhung p c).page b).prev=_
      rw [e];exact hpv
     ·refine PSeg.congr (fun q hq=>?_) s3.2.2
      have h1:q≠b:=fun e=>hbr (e▸hq)
      have h2:q≠p:=fun e=>nd2'.1 (by rw [<- e];exact List.mem_cons_of_mem _ hq)
      have h3:q≠a:=Ne.symm (hal2 q (List.mem_cons_of_mem _ hq))
      rw [pgE q h2 (.inl (by rw [hat];exact h3)) (.inl (by rw [hnx'];omega))];exact ⟨rfl,rfl⟩
theorem PL.unhang_other {c p j:Nat} {l1 l2 l':List Nat} (h:PL H c (l1++p :: l2)) (h':PL H j l') (hj:j≠c) (hd:∀ x∈l',x∉l1++p :: l2):PL (H.unhung p c) j l':=by
 obtain ⟨h0,hs⟩:=h
 rw [PSeg.append] at hs
 obtain ⟨s1,s2⟩:=hs
 have hnx:(H.page p).next=hdI l2 (-1):=s2.1
 have hpv:(H.page p).prev=lsI (-1) l1:=s2.2.1
 have hpart:(H.unhung p c).part j=H.part j:=by
  simp only [Heap.unhung,Heap.unh2,Heap.unh1,Heap.setPage,Heap.setPart]
  split <;> split <;> simp [hj]
 refine ⟨hpart.trans h'.1,PSeg.congr (fun q hq=>?_) h'.2⟩
 have hq0:=hd q hq
 have h1:q≠p:=fun e=>hq0 (by simp [e])
 have h2:¬ (q=(H.page p).prev.toNat /\ 0 <= (H.page p).prev):=by
  rintro ⟨e1,e2⟩
  rcases lsA_snoc l1 with rfl | ⟨l1',a,rfl⟩
  ·have h:(H.page p).prev=-1:=hpv;omega
  ·rw [lsI_concat] at hpv
   exact hq0 (by rw [e1,hpv];simp)
 have h3:¬ (q=(H.page p).next.toNat /\ 0 <= (H.page p).next):=by
  rintro ⟨e1,e2⟩
  cases l2 with
  |nil=>have h:(H.page p).next=-1:=hnx;omega
  |cons b r =>
   have h:(H.page p).next=(b:Int):=hnx
   exact hq0 (by rw [e1,h];simp)
 have e1:(H.unh1 p c).page q=H.page q:=by
  unfold Heap.unh1
  by_cases c0:0 <= (H.page p).prev
  ·rw [if_pos c0];simp only [Heap.setPage];rw [if_neg (fun e=>h2 ⟨e,c0⟩)]
  ·rw [if_neg c0];rfl
 have e2:(H.unh2 p c).page q=H.page q:=by
  unfold Heap.unh2
  by_cases c0:0 <= (H.page p).next
  ·rw [if_pos c0];simp only [Heap.setPage];rw [if_neg (fun e=>h3 ⟨e,c0⟩),e1]
  ·rw [if_neg c0,e1]
 have e3:(H.unhung p c).page q=H.page q:=by
  simp only [Heap.unhung,Heap.setPage];rw [if_neg h1,e2]
 rw [e3];exact ⟨rfl,rfl⟩
end
noncomputable section
variable {H H':Heap}
structure PgOk (H:Heap) (hole:Nat -> Prop) (x k:Nat) (fam:Int):Prop where
 le:k <= H.order
 fams:fam=0 \/ fam=2 \/ (fam=4 /\ k=0)
 all:∀ y,y / 2^k=x / 2^k -> ¬ hole y /\ (H.page y).order=(k:Int) /\ (H.page y).kind=if y%2^k=0 then fam else fam+1
def CSeg (H:Heap) (x w:Nat):List Nat -> Prop
 | []=>True
 |q :: r=>H.w64 (H.addr x+q*w)=(match r with | []=>0 | q' :: _=>H.addr x+q'*w) /\ CSeg H x w r
structure SlOk (H:Heap) (x c:Nat) (f:List Nat):Prop where
 c8:c<8
 cls:(H.page x).cls=(c:Int)
 words:∀ j,(H.page x).bw j<18446744073709551616
 lt:∀ q,q∈f -> q<256 / 2^c
 nd:f.Nodup
 bit:∀ q,q<256 / 2^c -> (H.page x).bit q=if q∈f then 0 else 1
 live:(H.page x).live+(f.length:Int)=((256 / 2^c:Nat):Int)
 first:(H.page x).first=hdI f (-1)
 seg:CSeg H x (16*2^c) f
structure Inv (H:Heap) (fl pl fc:Nat -> List Nat) (hole:Nat -> Prop):Prop where
 ok:H.OK
 pg:∀ x,x<H.np -> ¬ hole x -> ∃ k fam,PgOk H hole x k fam
 fmem:∀ k,k <= H.order -> ∀ p,p∈fl k↔p<H.np /\ ¬ hole p /\ (H.page p).kind=0 /\ (H.page p).order=(k:Int)
 fnd:∀ k,k <= H.order -> (fl k).Nodup
 flk:∀ k,k <= H.order -> FL H k (fl k)
 bits:∀ k,k<H.order -> ∀ i,i<64*H.nw k -> H.pbit k i=xor (decide (2*i*2^k∈fl k)) (decide ((2*i+1)*2^k∈fl k)) /\ ¬ (2*i*2^k∈fl k /\ (2*i+1)*2^k∈fl k)
 sl:∀ x,x<H.np -> ¬ hole x -> (H.page x).kind=4 -> ∃ c,SlOk H x c (fc x)
 pmem:∀ c,c<8 -> ∀ x,x∈pl c↔x<H.np /\ ¬ hole x /\ (H.page x).kind=4 /\ (H.page x).cls=(c:Int) /\ fc x≠[]
 pnd:∀ c,c<8 -> (pl c).Nodup
 plk:∀ c,c<8 -> PL H c (pl c)
variable {fl pl fc:Nat -> List Nat} {hole hole':Nat -> Prop}
theorem PgOk.transfer {x k:Nat} {fam:Int} (h:PgOk H hole x k fam) (ho:H'.order=H.order) (hp:∀ y,y / 2^k=x / 2^k -> (H'.page y).order=(H.page y).order /\ (H'.page y).kind=(H.page y).kind /\ ¬ hole' y):PgOk H' hole' x k fam :=
 ⟨by rw [ho];exact h.le,h.fams,fun y hy=>⟨(hp y hy).2.2,(hp y hy).1.trans (h.all y hy).2.1,(hp y hy).2.1.trans (h.all y hy).2.2⟩⟩
theorem PgOk.order {x k:Nat} {fam:Int} (h:PgOk H hole x k fam):(H.page x).order=(k:Int):=(h.all x rfl).2.1
theorem PgOk.not_hole {x k:Nat} {fam:Int} (h:PgOk H hole x k fam):¬ hole x:=(h.all x rfl).1
theorem PgOk.one {x y z k j:Nat} {fam fam':Int} (h:PgOk H hole x k fam) (g:PgOk H hole' y j fam') (hx:z / 2^k=x / 2^k) (hy:z / 2^j=y / 2^j):k=j /\ x / 2^k=y / 2^k:=by
 have h1:=(h.all z hx).2.1
 have h2:=(g.all z hy).2.1
 have e:k=j:=by omega
 subst e
 exact ⟨rfl,hx.symm.trans hy⟩
theorem PgOk.kinds {x k:Nat} {fam:Int} (h:PgOk H hole x k fam) {y:Nat} (hy:y / 2^k=x / 2^k):(H.page y).kind=fam \/ (H.page y).kind=fam+1:=by
 have:=(h.all y hy).2.2
 split at this
 ·exact .inl this
 ·exact .inr this
theorem PgOk.zero {x k:Nat} {fam:Int} (h:PgOk H hole x k fam) (h0:(H.page x).kind=0):fam=0 /\ x%2^k=0:=by
 have h1:=(h.all x rfl).2.2
 rw [h0] at h1
 have h2:=h.fams
 split at h1
 ·rename_i hm;exact ⟨h1.symm,hm⟩
 ·rcases h2 with rfl | rfl | ⟨rfl,_⟩ <;> omega
theorem PgOk.two {x k:Nat} {fam:Int} (h:PgOk H hole x k fam) (h0:(H.page x).kind=2):fam=2 /\ x%2^k=0:=by
 have h1:=(h.all x rfl).2.2
 rw [h0] at h1
 have h2:=h.fams
 split at h1
 ·rename_i hm;exact ⟨h1.symm,hm⟩
 ·rcases h2 with rfl | rfl | ⟨rfl,_⟩ <;> omega
theorem PgOk.four {x k:Nat} {fam:Int} (h:PgOk H hole x k fam) (h0:(H.page x).kind=4):fam=4 /\ k=0:=by
 have h1:=(h.all x rfl).2.2
 rw [h0] at h1
 have h2:=h.fams
 split at h1
 ·rcases h2 with rfl | rfl | ⟨rfl,rfl⟩
  ·omega
  ·omega
  ·exact ⟨rfl,rfl⟩
 ·rcases h2 with rfl | rfl | ⟨rfl,rfl⟩ <;> omega
theorem CSeg.congr {x w:Nat} (hb:H'.base=H.base):∀ {f:List Nat},(∀ q∈f,q*w+8 <= 4096) -> (∀ i,i<4096 -> H'.mem (4096*x+i)=H.mem (4096*x+i)) -> CSeg H x w f -> CSeg H' x w f
 | [],_,_,_=>trivial
 |q :: r,hf,hm,h=>by
  have ha:H'.addr x=H.addr x:=by unfold Heap.addr;rw [hb]
  refine ⟨?_,CSeg.congr hb (fun q' hq'=>hf q' (List.mem_cons_of_mem _ hq')) hm h.2⟩
  have e:H'.w64 (H.addr x+q*w)=H.w64 (H.addr x+q*w):=by
   refine w64_ext hb fun i hi=>?_
   have hq:=hf q (List.mem_cons_self ..)
   have:=hm (q*w+i) (by omega)
   rw [show H.addr x+q*w-H.base+i=4096*x+(q*w+i) by unfold Heap.addr;omega];exact this
  rw [ha,e]
  exact h.1
theorem cell_fits {c q:Nat} (hc:c<8) (hq:q<256 / 2^c):q*(16*2^c)+16*2^c <= 4096:=by
 have w1:=(w8 hc).1
 have h:(q+1)*(16*2^c) <= 256 / 2^c*(16*2^c):=Nat.mul_le_mul_right _ hq
 rw [Nat.add_mul,Nat.mul_comm (256 / 2^c),w1] at h
 omega
theorem SlOk.fits {x c:Nat} {f:List Nat} (h:SlOk H x c f) {q:Nat} (hq:q∈f):q*(16*2^c)+8 <= 4096:=by
 have:=cell_fits h.c8 (h.lt q hq)
 have:=(w8 h.c8).2.1
 omega
theorem SlOk.transfer {x c:Nat} {f:List Nat} (h:SlOk H x c f) (hb:H'.base=H.base) (hc:Core (H.page x) (H'.page x)) (hm:∀ i,i<4096 -> H'.mem (4096*x+i)=H.mem (4096*x+i)):SlOk H' x c f where
 c8:=h.c8
 cls:=hc.cls.trans h.cls
 words j:=by rw [hc.bw];exact h.words j
 lt:=h.lt
 nd:=h.nd
 bit q hq:=by rw [hc.bit];exact h.bit q hq
 live:=by rw [hc.live];exact h.live
 first:=hc.first.trans h.first
 seg:=CSeg.congr hb (fun q hq=>h.fits hq) hm h.seg
theorem Inv.congr_hole (h:Inv H fl pl fc hole) (e:∀ x,hole x↔hole' x):Inv H fl pl fc hole':=by
 have:hole=hole':=funext fun x=>propext (e x)
 exact this▸h
theorem np_dvd (H:Heap) {k:Nat} (hk:k <= H.order):2^k∣H.np:=Nat.dvd_trans (Nat.pow_dvd_pow 2 hk) (Nat.dvd_mul_left ..)
theorem blk_lt {k x y:Nat} (hk:k <= H.order) (hx:x<H.np) (h:y / 2^k=x / 2^k):y<H.np:=by
 obtain ⟨m,hm⟩:=np_dvd H hk
 have hp:=pow_pos' k
 rw [hm] at hx ⊢
 have h1:x / 2^k<m:=Nat.div_lt_of_lt_mul hx
 rw [<- h] at h1
 exact (Nat.div_lt_iff_lt_mul hp).1 h1 |> fun t=>by rw [Nat.mul_comm];exact t
theorem blk_iff {k p x:Nat} (al:p%2^k=0):x / 2^k=p / 2^k↔p <= x /\ x<p+2^k:=by
 have hp:=pow_pos' k
 have h1:=Nat.div_add_mod p (2^k)
 have h2:=Nat.div_add_mod x (2^k)
 have h3:=Nat.mod_lt x hp
 rw [al] at h1
 constructor
 ·intro e;rw [e] at h2;omega
 ·rintro ⟨a,b⟩
  rw [Nat.div_eq_of_lt_le]
  ·rw [Nat.mul_comm];omega
  ·rw [Nat.add_mul,Nat.mul_comm];omega
theorem Inv.free (h:Inv H fl pl fc hole) {k p:Nat} (hk:k <= H.order) (hp:p∈fl k):PgOk H hole p k 0 /\ p%2^k=0 /\ p+2^k <= H.np:=by
 obtain ⟨h1,h2,h3,h4⟩:=(h.fmem k hk p).1 hp
 obtain ⟨j,fam,g⟩:=h.pg p h1 h2
 have e:j=k:=by have:=g.order;omega
 subst e
 obtain ⟨rfl,al⟩:=g.zero h3
 refine ⟨g,al,?_⟩
 have hpos:=pow_pos' j
 have hl:=blk_lt (x:=p) (y:=p+2^j-1) g.le h1 ((blk_iff al).2 (by omega))
 omega
theorem Inv.addr_lt (h:Inv H fl pl fc hole) {p:Nat} (hp:p<H.np):H.addr p<18446744073709551616:=by
 have:=Go.Proofs.YtlgmpheammbacaaGreatDoor.addr_lt h.ok (Nat.le_of_lt hp);omega
theorem Inv.opened (h:Inv H fl pl fc hole) {p k:Nat} (g:PgOk H hole p k 2):Inv H fl pl fc (fun x=>hole x \/ x / 2^k=p / 2^k) where
 ok:=h.ok
 pg x hx hn:=by
  obtain ⟨j,fam,q⟩:=h.pg x hx (fun c=>hn (.inl c))
  refine ⟨j,fam,q.transfer rfl fun y hy=>⟨rfl,rfl,?_⟩⟩
  rintro (c | c)
  ·exact (q.all y hy).1 c
  ·obtain ⟨e,e2⟩:=q.one g hy c
   subst e
   exact hn (.inr e2)
 fmem j hj x:=by
  rw [h.fmem j hj x]
  constructor
  ·rintro ⟨a,b,c,d⟩
   refine ⟨a,?_,c,d⟩
   rintro (e | e)
   ·exact b e
   ·rcases g.kinds e with k | k <;> omega
  ·rintro ⟨a,b,c,d⟩;exact ⟨a,fun e=>b (.inl e),c,d⟩
 fnd:=h.fnd
 flk:=h.flk
 bits:=h.bits
 sl x hx hn:=h.sl x hx (fun c=>hn (.inl c))
 pmem c hc x:=by
  rw [h.pmem c hc x]
  constructor
  ·rintro ⟨a,b,d⟩
   refine ⟨a,?_,d⟩
   rintro (e | e)
   ·exact b e
   ·rcases g.kinds e with k | k <;> omega
  ·rintro ⟨a,b,d⟩;exact ⟨a,fun e=>b (.inl e),d⟩
 pnd:=h.pnd
 plk:=h.plk
theorem run_page (H:Heap) {p k:Nat} {kind:Int} (x:Nat):(H.run p k kind).page x=if p <= x /\ x<p+2^k then (if x=p then plainP kind k else plainP (kind+1) k) else H.page x:=rfl
theorem FL.pages {k:Nat} {l:List Nat} {pg:Nat -> Page} (h:FL H k l):FL { H with page:=pg } k l:=FL.other (H:=H) h rfl rfl fun _ _ _ _=>rfl
theorem blk_run {H:Heap} {p k:Nat} {kind:Int} (al:p%2^k=0) (x:Nat):(H.run p k kind).page x=if x / 2^k=p / 2^k then (if x=p then plainP kind k else plainP (kind+1) k) else H.page x:=by
 rw [run_page]
 by_cases c:x / 2^k=p / 2^k
 ·rw [if_pos c,if_pos ((blk_iff al).1 c)]
 ·rw [if_neg c,if_neg (fun e=>c ((blk_iff al).2 e))]
theorem run_kind {H:Heap} {p k:Nat} {kind:Int} (al:p%2^k=0) {x:Nat} (hx:x / 2^k=p / 2^k):((H.run p k kind).page x).order=(k:Int) /\ ((H.run p k kind).page x).kind=if x%2^k=0 then kind else kind+1:=by
 rw [blk_run al,if_pos hx]
 by_cases c:x=p
 ·subst c;rw [if_pos rfl,if_pos al];exact ⟨rfl,rfl⟩
 ·rw [if_neg c,if_neg]
  ·exact ⟨rfl,rfl⟩
  ·intro e
   have h1:=Nat.div_add_mod p (2^k)
   have h2:=Nat.div_add_mod x (2^k)
   rw [hx] at h2
   omega
theorem Inv.fill (h : Inv H fl pl fc hole) {p k : Nat} (hk : k <= H.order) (al : p % 2 ^ k = 0) (hb : ∀ x, x / 2 ^ k = p / 2 ^ k -> hole x) : Inv (H.run p k 2) fl pl fc (fun x => hole x /\ ¬ x / 2 ^ k = p / 2 ^ k) := by
  have pgE : ∀ x, ¬ hole x -> (H.run p k 2).page x = H.page x := fun x hx => by rw [blk_run al, if_neg (fun e => hx (hb x e))]
  have kin : ∀ x, x / 2 ^ k = p / 2 ^ k -> ((H.run p k 2).page x).kind = 2 \/ ((H.run p k 2).page x).kind = 3 := by
    intro x hx
    have := (run_kind (H := H) (kind := 2) al hx).2
    split at this
    · exact .inl this
    · exact .inr this
  have nh : ∀ x, ¬ (hole x /\ ¬ x / 2 ^ k = p / 2 ^ k) -> ((H.run p k 2).page x).kind ≠ 2 -> ((H.run p k 2).page x).kind ≠ 3 -> ¬ hole x := by
    intro x hn h2 h3 hx
    by_cases c : x / 2 ^ k = p / 2 ^ k
    · rcases kin x c with e | e
      · exact h2 e
      · exact h3 e
    · exact hn ⟨hx, c⟩
  exact {
    ok := ok_run h.ok
    pg := by
      intro x hx hn
      by_cases c : x / 2 ^ k = p / 2 ^ k
      · refine ⟨k, 2, hk, .inr (.inl rfl), fun y hy => ⟨fun e => e.2 (hy.trans c), run_kind al (hy.trans c)⟩⟩
      · have hx0 : ¬ hole x := fun e => hn ⟨e, c⟩
        obtain ⟨j, fam, q⟩ := h.pg x hx hx0
        refine ⟨j, fam, q.transfer rfl fun y hy => ?_⟩
        have hy0 := (q.all y hy).1
        rw [pgE y hy0]
        exact ⟨rfl, rfl, fun e => hy0 e.1⟩
    fmem := by
      intro j hj x
      rw [h.fmem j hj x]
      constructor
      · rintro ⟨a, b, c, d⟩
        rw [pgE x b]; exact ⟨a, fun e => b e.1, c, d⟩
      · rintro ⟨a, b, c, d⟩
        have hx0 := nh x b (by omega) (by omega)
        rw [pgE x hx0] at c d
        exact ⟨a, hx0, c, d⟩
    fnd := h.fnd
    flk := fun j hj => FL.pages (h.flk j hj)
    bits := h.bits
    sl := by
      intro x hx hn hkd
      have hx0 := nh x hn (by omega) (by omega)
      rw [pgE x hx0] at hkd
      obtain ⟨c, s⟩ := h.sl x hx hx0 hkd
      exact ⟨c, s.transfer rfl (by rw [pgE x hx0]; exact Core.refl _) fun _ _ => rfl⟩
    pmem := by
      intro c hc x
      rw [h.pmem c hc x]
      constructor
      · rintro ⟨a, b, d⟩
        rw [pgE x b]; exact ⟨a, fun e => b e.1, d⟩
      · rintro ⟨a, b, d⟩
        have hx0 := nh x b (by omega) (by omega)
        rw [pgE x hx0] at d
        exact ⟨a, hx0, d⟩
    pnd := h.pnd
    plk := by
      intro c hc
      refine ⟨(h.plk c hc).1, PSeg.congr (fun q hq => ?_) (h.plk c hc).2⟩
      have := ((h.pmem c hc q).1 hq).2.1
      rw [pgE q this]; exact ⟨rfl, rfl⟩ }
def bud (p k:Nat):Nat:=if p / 2^k%2=0 then p+2^k else p-2^k
theorem al_mul {p k:Nat} (al:p%2^k=0):p / 2^k*2^k=p:=Nat.div_mul_cancel (Nat.dvd_of_mod_eq_zero al)
theorem half_div (p k:Nat):p / 2^(k+1)=p / 2^k / 2:=by rw [Nat.pow_succ,Nat.div_div_eq_div_mul]
theorem bud_mul {p k:Nat} (al:p%2^k=0):bud p k=(if p / 2^k%2=0 then p / 2^k+1 else p / 2^k-1)*2^k:=by
 unfold bud
 have h:=al_mul al
 split
 ·rw [Nat.add_mul,h];omega
 ·rw [Nat.sub_mul,h];omega
theorem pair_of {p k i:Nat} (al:p%2^k=0) (hi:i=p / 2^(k+1)):(p=2*i*2^k /\ bud p k=(2*i+1)*2^k) \/ (p=(2*i+1)*2^k /\ bud p k=2*i*2^k):=by
 rw [half_div] at hi
 have h:=al_mul al
 rw [bud_mul al]
 rcases Nat.mod_two_eq_zero_or_one (p / 2^k) with e | e
 ·refine .inl ⟨?_,?_⟩
  ·rw [show 2*i=p / 2^k by omega,h]
  ·rw [if_pos e,show 2*i+1=p / 2^k+1 by omega]
 ·refine .inr ⟨?_,?_⟩
  ·rw [show 2*i+1=p / 2^k by omega,h]
  ·rw [if_neg (by omega),show 2*i=p / 2^k-1 by omega]
theorem pair_ne {p k i:Nat} (hi:i≠p / 2^(k+1)):p≠2*i*2^k /\ p≠(2*i+1)*2^k:=by
 rw [half_div] at hi
 have hp:=pow_pos' k
 constructor
 ·rintro rfl;rw [Nat.mul_div_cancel _ hp] at hi;omega
 ·rintro rfl;rw [Nat.mul_div_cancel _ hp] at hi;omega
theorem turned_page (H:Heap) (p k:Nat):(H.turned p k).page=H.page:=by unfold Heap.turned;split <;> rfl
theorem turned_mem (H:Heap) (p k:Nat):(H.turned p k).mem=H.mem:=by unfold Heap.turned;split <;> rfl
theorem turned_head (H:Heap) (p k:Nat):(H.turned p k).head=H.head:=by unfold Heap.turned;split <;> rfl
theorem turned_part (H:Heap) (p k:Nat):(H.turned p k).part=H.part:=by unfold Heap.turned;split <;> rfl
theorem turned_pbit (H:Heap) {p k:Nat} (hk:k≠H.order) (j i:Nat):(H.turned p k).pbit j i=if j=k /\ i=p / 2^(k+1) then !(H.pbit k (p / 2^(k+1))) else H.pbit j i:=by
 unfold Heap.turned;rw [if_neg hk,pbit_flip]
theorem pushed_page (H:Heap) (k p:Nat):(H.pushed k p).page=H.page:=by unfold Heap.pushed;split <;> rfl
theorem pushed_word (H:Heap) (k p:Nat):(H.pushed k p).word=H.word:=by unfold Heap.pushed;split <;> rfl
theorem pushed_part (H:Heap) (k p:Nat):(H.pushed k p).part=H.part:=by unfold Heap.pushed;split <;> rfl
theorem removed_page (H:Heap) (k a b:Nat):(H.removed k a b).page=H.page:=by unfold Heap.removed;split <;> split <;> rfl
theorem removed_word (H:Heap) (k a b:Nat):(H.removed k a b).word=H.word:=by unfold Heap.removed;split <;> split <;> rfl
theorem removed_part (H:Heap) (k a b:Nat):(H.removed k a b).part=H.part:=by unfold Heap.removed;split <;> split <;> rfl
theorem pbit_word {H H':Heap} (h:H'.word=H.word) (k i:Nat):H'.pbit k i=H.pbit k i:=by unfold Heap.pbit;rw [h]
end
end Go.Proofs.YtlgmpheammbacaaGreatDoor
