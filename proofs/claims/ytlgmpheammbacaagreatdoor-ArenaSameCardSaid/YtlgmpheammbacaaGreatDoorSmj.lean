import Derived.Test.YtlgmpheammbacaaGreatDoorSmi
set_option maxRecDepth 1000000
set_option linter.unusedVariables false
set_option linter.unusedSimpArgs false
attribute [local irreducible] AM.T.get AM.T.set
namespace Go.Proofs.YtlgmpheammbacaaGreatDoor
open AM Go
noncomputable section
variable {σ:St} {A:Slot -> Nat} {H:Heap} {fl pl fc:Nat -> List Nat}
theorem xor_one (q:Nat):q ^^^ 1=if q%2=0 then q+1 else q-1:=by
 have h1:(q ^^^ 1) / 2=q / 2:=by rw [Nat.xor_div_two];simp
 have h2:(q ^^^ 1)%2=(q+1)%2:=by
  have h:=Nat.xor_mod_two_pow (a:=q) (b:=1) (n:=1)
  simp only [Nat.pow_one,Nat.one_mod_eq_one.2 (by decide:(2:Nat)≠1)] at h
  rw [h]
  rcases Nat.mod_two_eq_zero_or_one q with e | e
  ·rw [e];show 1=_;omega
  ·rw [e];show 0=_;omega
 split <;> omega
theorem xor_bud {p k:Nat} (al:p%2^k=0):p ^^^ 2^k=bud p k:=by
 rw [bud_mul al, <- xor_one]
 have hq:=(al_mul al).symm
 generalize p / 2^k=q at hq ⊢
 subst hq
 apply Nat.eq_of_testBit_eq
 intro i
 rw [Nat.testBit_xor,Nat.testBit_mul_two_pow,Nat.testBit_mul_two_pow,Nat.testBit_two_pow,Nat.testBit_xor,show (1:Nat)=2^0 from rfl,Nat.testBit_two_pow]
 by_cases c:k <= i
 ·by_cases d:k=i
  ·subst d;simp
  ·have:¬ (0=i-k):=by omega
   simp [c,d,this]
 ·have:¬ k=i:=by omega
  simp [c,this]
theorem andNot_up {p k:Nat} (al:p%2^k=0) (hp:p<2^60) (hk:k<60):andNotI .i64 (p:Int) ((2^k:Nat):Int)=((p / 2^(k+1)*2^(k+1):Nat):Int):=by
 have hk2:2^k<2^60:=Nat.pow_lt_pow_right (by omega) hk
 have e:(BitVec.ofInt IntKind.i64.bits (p:Int) &&& ~~~ BitVec.ofInt IntKind.i64.bits ((2^k:Nat):Int)).toNat=p / 2^(k+1)*2^(k+1):=by
  rw [BitVec.toNat_and,BitVec.toNat_not,bv64i p (by omega),bv64i (2^k) (by omega),show IntKind.i64.bits=64 from rfl]
  apply Nat.eq_of_testBit_eq
  intro i
  rw [Nat.testBit_and,show 2^64-1-2^k=2^64-(2^k+1) by omega,Nat.testBit_two_pow_sub_succ (by omega),Nat.testBit_mul_two_pow,Nat.testBit_div_two_pow,Nat.testBit_two_pow]
  have hq:=(al_mul al).symm
  rcases Nat.lt_trichotomy i k with c | c | c
  ·have:p.testBit i=false:=by
    rw [hq,Nat.testBit_mul_two_pow];simp [show ¬ k <= i by omega]
   rw [this];simp [show ¬ k+1 <= i by omega]
  ·subst c;simp [show ¬ i+1 <= i by omega]
  ·have d:¬ k=i:=by omega
   rw [decide_eq_false d,decide_eq_true (show i ≥ k+1 by omega),show i-(k+1)+(k+1)=i by omega]
   by_cases c64:i<64
   ·simp [c64]
   ·have:p.testBit i=false:=Nat.testBit_lt_two_pow (Nat.lt_of_lt_of_le hp (Nat.pow_le_pow_right (by omega) (by omega)))
    rw [this];simp
 unfold andNotI
 rw [e]
 have:p / 2^(k+1)*2^(k+1) <= p:=Nat.div_mul_le_self _ _
 exact i64_nat (by omega)
def scB (c:AC):AC:=match c with
 | .seq _ (.scope b)=>b
 |c=>c
def gvB:AC:=scB c228.body
def gvR:AC:=tlC (tlC (tlC (tlC gvB)))
theorem find_gv:AM.findLabel gvB 0=some (AC.seq .skip gvR):=by kernel_rfl
theorem wp_skip_hid {fr:AM.Fr} {K:Post} (h:wp G0 [] (hid gvR) fr σ K):wp G0 [] (AC.seq .skip gvR) fr σ K:=by
 rw [hid_eq] at h;exact h
theorem give_rest:∀ (n:Nat) {H:Heap} {fl:Nat -> List Nat} {p k:Nat} {σ:St} {fr:AM.Fr} {K:Post},HRep σ A H -> H.order <= k+n -> k <= H.order -> p%2^k=0 -> p+2^k <= H.np -> Inv H fl pl fc (fun x=>x / 2^k=p / 2^k) →
  fr.defers=[] -> fr.tmps.get 0=some (.ptr (some (A .buddy,0))) -> fr.tmps.get 7=some (.int .i64 p) -> fr.tmps.get 9=some (.int .i64 k) →
  (∀ fr' s',fr'.defers=[] -> HRep s' A (H.giveM n p k) -> fr'.tmps.get 6=some (.int .i64 0) -> K .ret fr' s') →
  wp G0 [] (hid gvR) fr σ fun ex fr σ=>match ex with
   | .goto l=>jumps G0 [] gvB n l fr σ K
   |ex=>K ex fr σ:=by
 intro n
 induction n with
 |zero =>
  rintro H fl p k σ ⟨tm,ds⟩ K hR hn hk al hp h hds t0 t7 t9 hK
  simp only at hds t0 t7 t9
  subst hds
  have ok:=h.ok
  have hpos:=pow_pos' k
  have hko:k=H.order:=by omega
  obtain ⟨v,σ2,⟨R2,hv⟩,hr2⟩:=r_turn hR ok (p:=p) (k:=k) hk (by omega)
  rw [decide_eq_true hko,Bool.true_or] at hv
  subst hv
  have sm:=same_turned H p k
  obtain ⟨B,hB⟩:∃ B,B=gvB:=⟨_,rfl⟩
  rw [hid_eq, <- hB]
  simp -implicitDefEqProofs only [gvR,gvB,scB,tlC,c228]
  simp -implicitDefEqProofs only[go_sem,t0,t7,t9]
  refine runs_ret hr2 ?_
  simp -implicitDefEqProofs only[go_sem,t0,t7,t9]
  have hpush:(H.turned p k).PushOk k:=by
   have hf:=h.flk k hk
   have hf2:FL (H.turned p k) k (fl k):=FL.other (H:=H) hf sm.base (by rw [turned_head]) fun x _ i _=>by rw [turned_mem]
   exact hf2.pushOk fun q hq=>In_addr (ok_turned ok) (by rw [sm.np];exact ((h.fmem k hk q).1 hq).1) (by omega)
  obtain ⟨v,σ3,⟨R3,hv⟩,hr3⟩:=r_enter R2 (ok_turned ok) (p:=p) (k:=k) (by rw [sm.order];exact hk) al (by rw [sm.np];exact hp) hpush
  subst hv
  refine runs_ret hr3 ?_
  simp -implicitDefEqProofs only[go_sem]
  refine hK _ _ rfl R3 ?_
  simp -implicitDefEqProofs only[go_sem]
 |succ n ih =>
  rintro H fl p k σ ⟨tm,ds⟩ K hR hn hk al hp h hds t0 t7 t9 hK
  simp only at hds t0 t7 t9
  subst hds
  have ok:=h.ok
  have hpos:=pow_pos' k
  have ho:=ok.order_le
  have hnp:=np_le ok
  obtain ⟨v,σ2,⟨R2,hv⟩,hr2⟩:=r_turn hR ok (p:=p) (k:=k) hk (by omega)
  have sm:=same_turned H p k
  obtain ⟨B,hB⟩:∃ B,B=gvB:=⟨_,rfl⟩
  rw [hid_eq, <- hB]
  by_cases c:(decide (k=H.order) || (H.turned p k).pbit k (p / 2^(k+1)))=true
  ·rw [Heap.giveM,if_pos c] at hK
   rw [c] at hv
   subst hv
   simp -implicitDefEqProofs only [gvR,gvB,scB,tlC,c228]
   simp -implicitDefEqProofs only[go_sem,t0,t7,t9]
   refine runs_ret hr2 ?_
   simp -implicitDefEqProofs only[go_sem,t0,t7,t9]
   have hpush:(H.turned p k).PushOk k:=by
    have hf:=h.flk k hk
    have hf2:FL (H.turned p k) k (fl k):=FL.other (H:=H) hf sm.base (by rw [turned_head]) fun x _ i _=>by rw [turned_mem]
    exact hf2.pushOk fun q hq=>In_addr (ok_turned ok) (by rw [sm.np];exact ((h.fmem k hk q).1 hq).1) (by omega)
   obtain ⟨v,σ3,⟨R3,hv⟩,hr3⟩:=r_enter R2 (ok_turned ok) (p:=p) (k:=k) (by rw [sm.order];exact hk) al (by rw [sm.np];exact hp) hpush
   subst hv
   refine runs_ret hr3 ?_
   simp -implicitDefEqProofs only[go_sem]
   refine hK _ _ rfl R3 ?_
   simp -implicitDefEqProofs only[go_sem]
  ·rw [Heap.giveM,if_neg c] at hK
   have c':(decide (k=H.order) || (H.turned p k).pbit k (p / 2^(k+1)))=false:=by simpa using c
   rw [c'] at hv
   subst hv
   have hko:k≠H.order:=fun e=>by rw [decide_eq_true e] at c';simp at c'
   have hlt:k<H.order:=by omega
   have hbit:=h.bit_of hlt al (by omega) rfl
   rw [hbit,decide_eq_false hko,Bool.false_or] at c'
   have cb:bud p k∈fl k:=by simpa using c'
   obtain ⟨l1,l2,e0⟩:=List.append_of_mem cb
   obtain ⟨gb,alb,hpb⟩:=h.free hk cb
   have hu:=h.unlisted hk e0
   have ku:=h.keep_unlisted hk e0
   rw [turned_bud H al] at hu ku
   have hs:=FL.sound ok.base_pos (by rw [<- e0];exact h.flk k hk) (by rw [<- e0];exact h.fnd k hk) (fun q hq=>In_addr ok ((h.fmem k hk q).1 (by rw [e0];exact hq)).1 (by omega))
   rw [hs.next,hs.prev] at hK
   have hfT:FL (H.turned p k) k (l1++bud p k :: l2):=by rw [<- e0];exact FL.other (H:=H) (h.flk k hk) sm.base (by rw [turned_head]) fun x _ i _=>by rw [turned_mem]
   have hsT:=FL.sound (by rw [sm.base];exact ok.base_pos) hfT (by rw [<- e0];exact h.fnd k hk) (fun q hq=>In_addr (ok_turned ok) (by rw [sm.np];exact ((h.fmem k hk q).1 (by rw [e0];exact hq)).1) (by omega))
   rw [hdE_base sm.base,lsA_base sm.base,sm.addr] at hsT
   have okT:(H.turned p k).OK:=ok_turned ok
   have hbn:bud p k<H.np:=((h.fmem k hk _).1 cb).1
   obtain ⟨v,σ3,⟨hv,hs3⟩,hr3⟩:=r_address R2 okT (p:=bud p k) (by rw [sm.np];omega)
   subst hv hs3
   rw [sm.addr] at hr3
   obtain ⟨v,σ4,⟨R4,hv⟩,hr4⟩:=r_Remove R2 okT (k:=k) (by rw [sm.order];exact hk) hsT
   subst hv
   have h5:=R2.cell (s:=.buddy) trivial (i:=5) (show 5<6 by omega)
   rw [show (H.turned p k).cell A .buddy 5=.slice (some (A .lists,0)) ((H.turned p k).order+1) 1 from rfl,sm.order] at h5
   have h6:=R2.cell (s:=.lists) trivial (i:=k) (show k<(H.turned p k).order+1 by rw [sm.order];omega)
   rw [show (H.turned p k).cell A .lists k=.ptr (some (A (.list k),0)) from rfl] at h6
   have c1:(0:Int) <= (k:Int) /\ (k:Int)<((H.order+1:Nat):Int):=by omega
   have c0:(0:Int) <= (k:Int):=by omega
   have e1:=i64_one_shl (n:=k) (by omega)
   have hp10:2^k <= 1024:=by omega
   have e2:xorI .i64 (p:Int) ((2^k:Nat):Int)=(bud p k:Int):=by rw [i64_xor (by omega) (by omega),xor_bud al]
   have e3:=andNot_up al (p:=p) (k:=k) (by omega) (by omega)
   have e4:IntKind.i64.wrap ((k:Int)+1)=((k+1:Nat):Int):=i64_add (a:=k) (b:=1) (by omega)
   simp -implicitDefEqProofs only [gvR,gvB,scB,tlC,c228]
   simp -implicitDefEqProofs only[go_sem,t0,t7,t9]
   refine runs_ret hr2 ?_
   simp -implicitDefEqProofs only[go_sem,t0,t7,t9,h5,h6,c1,c0,and_self,Int.toNat_natCast,Nat.mul_one,bin_shl,e1,e2]
   refine runs_ret hr3 ?_
   simp -implicitDefEqProofs only[go_sem,t0,t7,t9,h5,h6,c1,c0,and_self,Int.toNat_natCast,Nat.mul_one,bin_shl,e1,e2]
   refine runs_ret hr4 ?_
   simp -implicitDefEqProofs only[go_sem,t0,t7,t9,h5,h6,c1,c0,and_self,Int.toNat_natCast,Nat.mul_one,bin_shl,e1,e2,e3,e4,ne_eq,not_true_eq_false]
   have smu:=ku.same
   obtain ⟨q,hq⟩:∃ q,q=p / 2^(k+1)*2^(k+1):=⟨_,rfl⟩
   rw [<- hq] at hK ⊢
   have hpos2:=pow_pos' (k+1)
   have alq:q%2^(k+1)=0:=by rw [hq];exact Nat.mul_mod_left _ _
   have hqd:q / 2^(k+1)=p / 2^(k+1):=by rw [hq,Nat.mul_div_cancel _ hpos2]
   have hole2:∀ x,(x / 2^k=p / 2^k \/ x / 2^k=bud p k / 2^k)↔x / 2^(k+1)=q / 2^(k+1):=fun x=>by rw [hqd,pair_iff al]
   have hu2:=hu.congr_hole hole2
   have hqn:q+2^(k+1) <= H.np:=by
    have hl:=blk_lt (H:=H) (k:=k+1) (x:=p) (y:=q+2^(k+1)-1) hlt (by omega) (by rw [<- hqd];exact (blk_iff alq).2 (by omega))
    omega
   rw [hB,jumps,find_gv]
   refine wp_ok (AC.seq .skip gvR) ?_
   refine wp_skip_hid (ih R4 (by rw [smu.order];omega) (by rw [smu.order];exact hlt) alq (by rw [smu.np];exact hqn) hu2 ?_ ?_ ?_ ?_ hK)
   ·rfl
   ·simp -implicitDefEqProofs only[go_sem,t0]
   ·simp -implicitDefEqProofs only[go_sem]
   ·simp -implicitDefEqProofs only[go_sem]
theorem r_Give (hR:HRep σ A H) (h:Inv H fl pl fc (fun _=>False)) {p k:Nat} (hp:p<H.np) (h1:(H.page p).kind=2) (h2:(H.page p).order=(k:Int)) :
  Runs G0 [] 228 [.ptr (some (A .buddy,0)),.int .u64 (H.addr p),.int .i64 k] σ fun r σ'=>HRep σ' A (H.giveM H.order p k) /\ r=.int .i64 0:=by
 obtain ⟨j,fam,g⟩:=h.pg p hp (fun e=>e)
 have e:j=k:=by have:=g.order;omega
 subst e
 obtain ⟨rfl,al⟩:=g.two h1
 have hpos:=pow_pos' j
 have hpn:p+2^j <= H.np:=by
  have hl:=blk_lt (x:=p) (y:=p+2^j-1) g.le hp ((blk_iff al).2 (by omega))
  omega
 have ho:=(h.opened g).congr_hole (hole':=fun x=>x / 2^j=p / 2^j) (fun x=>by simp)
 have ok:=h.ok
 refine runs_body g228 rfl ?_
 refine wp_cut 1 ?_
 rw [cutC,cutC]
 simp -implicitDefEqProofs only[go_sem]
 rw [hid_eq,aw_scope]
 refine wp_cut 4 ?_
 rw [cutC,cutC,cutC,cutC,cutC]
 obtain ⟨v,σ1,⟨hv,g1,R1⟩,hr1⟩:=hR.rgrow (r_live hR ok (p:=p) (k:=j) (by omega) h1 h2)
 subst hv
 simp -implicitDefEqProofs only[go_sem]
 refine runs_ret hr1 ?_
 simp -implicitDefEqProofs only[go_sem]
 refine AM.wp_mono _ (give_rest H.order (K:=fun ex fr σ=>atEnd ex (wpDefers G0 [] fr.defers σ fun σ=>wpRes [.tmp 6] fr.tmps σ fun r σ'=>HRep σ' A (H.giveM H.order p j) /\ r=.int .i64 0)) R1 (by omega) g.le al hpn ho ?_ ?_ ?_ ?_ ?_) ?_
 ·rfl
 ·simp -implicitDefEqProofs only[go_sem]
 ·simp -implicitDefEqProofs only[go_sem]
 ·simp -implicitDefEqProofs only[go_sem]
 ·rintro ⟨tm,ds⟩ s' hds R' t6
  simp only at hds t6;subst hds
  simp -implicitDefEqProofs only[go_sem,t6]
  exact R'
 ·intro ex fr s hh
  cases ex with
  |goto l=>exact ⟨_,hh⟩
  |_=>exact hh
end
noncomputable section
variable {σ:St} {A:Slot -> Nat} {H H':Heap} {has:Slot -> Prop} {size:Slot -> Nat} {cell:Slot -> Nat -> V}
theorem RepF.congr {A':Slot -> Nat} {has':Slot -> Prop} {size':Slot -> Nat} {cell':Slot -> Nat -> V} (h:RepF σ has A size cell) (e1:∀ t,has' t -> has t) (eA:∀ t,has' t -> A' t=A t) (e2:∀ t,has' t -> size' t <= size t) (e3:∀ t,has' t -> ∀ i,i<size' t -> cell t i=cell' t i) :
  RepF σ has' A' size' cell' :=
 ⟨h.gw,h.wid,fun s t a b e=>h.inj s t (e1 s a) (e1 t b) (by rw [<- eA s a, <- eA t b];exact e),fun s a=>by rw [eA s a];exact (h.row s (e1 s a)).congr (e2 s a) (e3 s a),fun s t o a b hne ho hg=>by
  rw [eA s a] at ho
  rw [eA t b];exact h.cut s t o (e1 s a) (e1 t b) hne ho hg⟩
def comHas (H:Heap) (t:Slot):Prop:=H.has t \/ t=.reg H.regs \/ t=.parts
def comSize (H:Heap) (t:Slot):Nat:=match t with
 | .parts=>H.regs+1
 |t=>H.size t
def comCell (H:Heap) (A:Slot -> Nat) (t:Slot):Nat -> V:=match t with
 | .parts=>fun i=>.slice (some (A (.reg i),0)) H.rsz 1
 | .reg r=>if r=H.regs then fun _=>.int .u8 0 else H.cell A (.reg r)
 | .space=>lst [.int .u64 H.base,.int .i64 H.limit,.int .i64 H.order,.int .u64 H.rsz,.slice (some (A .parts,0)) (H.regs+1) 1]
 |t=>H.cell A t
theorem r_Commit (hR:HRep σ A H) (ok:H.OK) (hlt:H.regs<H.limit) :
  Runs G0 [] 249 [.ptr (some (A .space,0)),.bool false] σ fun r s=>(∃ A',RepF s (comHas H) A' (comSize H) (comCell H A') /\ ∀ t,t≠.reg H.regs -> t≠.parts -> A' t=A t) /\ r=.tuple [.int .u64 H.fin,.int .i64 0]:=by
 refine runs_body g249 rfl ?_
 have h4:=hR.cell (s:=.space) trivial (i:=4) (show 4<5 by omega)
 have h1:=hR.cell (s:=.space) trivial (i:=1) (show 1<5 by omega)
 rw [show H.cell A .space 1=.int .i64 H.limit from rfl] at h1
 have h3:=hR.cell (s:=.space) trivial (i:=3) (show 3<5 by omega)
 rw [show H.cell A .space 3=.int .u64 H.rsz from rfl] at h3
 rw [show H.cell A .space 4=H.partsV A from rfl] at h4
 have hrz:=rsz_le ok
 have hrp:=rsz_pos H
 have hr64:=regs_le64 ok
 obtain ⟨v,σ0,⟨hv,hs⟩,hr0⟩:=r_End hR ok
 subst hv hs
 obtain ⟨a,ha⟩:∃ a,a=σ0.next:=⟨_,rfl⟩
 obtain ⟨σ1,hs1⟩:∃ s,s=σ0.new (.cells false 0 H.rsz [.int .u8 0] .nil):=⟨_,rfl⟩
 have n1:σ1.next=a+1:=by rw [hs1,ha];rfl
 have R0:=repF hR
 have R1:=R0.new (s0:=.reg H.regs) (fun h=>by have h':H.regs<H.regs:=h;omega) (n:=H.rsz) (z:=[.int .u8 0]) (t:=.nil) (f:=fun _=>.int .u8 0) (fun i hi=>by
  unfold cellOf
  rw [if_pos hi,T.get_nil]
  simp [Nat.mod_one])
 rw [<- hs1, <- ha] at R1
 have g1:Grow σ0 σ1:=by rw [hs1];exact Grow.new σ0 _
 obtain ⟨σ2,hs2⟩:∃ s,s=σ1.newCells [.slice (some (a,0)) H.rsz 1]:=⟨_,rfl⟩
 have g2:Grow σ1 σ2:=by rw [hs2];exact Grow.new σ1 _
 have w2:GW σ2:=by rw [hs2];exact R1.gw.new _ rfl
 have R2:=R1.grow g2 w2
 have n2:σ2.next=a+2:=by rw [hs2];show σ1.next+1=_;omega
 have ht:σ2.load σ1.next 0 1=some [.slice (some (a,0)) H.rsz 1]:=by
  rw [hs2,(newCellsRow σ1 _).load (off:=0) (k:=1) (by simp)];rfl
 have e1:fillP (repeatZ [V.slice none 0 0] 1) [(0,1,.slice (some (a,0)) H.rsz 1)]=some [.slice (some (a,0)) H.rsz 1]:=rfl
 have hne:∀ t:Slot,H.has t -> t≠.reg H.regs:=by rintro t h rfl;have h':H.regs<H.regs:=h;omega
 have key:∃ σ3,appendV σ2 1 24 (H.partsV A) (.slice (some (σ1.next,0)) 1 1)=some (.slice (some (σ2.next,0)) (H.regs+1) 1,σ3) /\ σ3.next=σ2.next+1 ∧
   RepF σ3 (comHas H) (upd (upd A (.reg H.regs) a) .parts σ2.next) (comSize H) (fun t=>match t with
    | .space=>H.cell A .space
    |t=>comCell H (upd (upd A (.reg H.regs) a) .parts σ2.next) t):=by
  by_cases c:H.hasParts=true
  ·have hp:H.partsV A=.slice (some (A .parts,0)) H.regs 1:=by unfold Heap.partsV;rw [if_pos c]
   have hsp:H.has .parts:=c
   have hAp:(upd A (.reg H.regs) a) .parts=A .parts:=upd_ne (by simp)
   have hrow:=R2.row .parts (.inl hsp)
   rw [hAp] at hrow
   obtain ⟨v3,σ3,ha3⟩:=append_ok hrow (esz:=1) (bytes:=24) (k:=1) (xl:=H.regs) (vs:=[.slice (some (a,0)) H.rsz 1]) (by rw [upd_ne (by simp)];show H.regs*1 <= H.regs;omega) (by unfold maxLenBytes;omega) (by unfold maxLenBytes;omega) rfl
   have ha3':=ha3
   rw [<- hAp] at ha3'
   obtain ⟨hv3,hn3,R3⟩:=R2.append (s0:=.parts) (.inl hsp) (by rw [upd_ne (by simp)];show H.regs=H.regs*1;omega) ha3'
   refine ⟨σ3,?_,hn3,?_⟩
   ·unfold appendV
    rw [hp]
    simp only [Nat.mul_one,ht]
    simpa [hv3] using ha3
   ·refine R3.congr ?_ (fun t _=>rfl) ?_ ?_
    ·rintro t (h | rfl | rfl)
     ·exact .inl h
     ·exact .inr rfl
     ·exact .inl hsp
    ·intro t h
     by_cases ct:t=.parts
     ·subst ct;rw [upd_same];show H.regs+1 <= H.regs*1+1;omega
     ·rw [upd_ne ct]
      by_cases cr:t=.reg H.regs
      ·subst cr;rw [upd_same];exact Nat.le_refl _
      ·rw [upd_ne cr]
       cases t with
       |parts=>exact (ct rfl).elim
       |_=>exact Nat.le_refl _
    ·intro t h i hi
     by_cases ct:t=.parts
     ·subst ct
      rw [upd_same]
      have hi':i<H.regs+1:=hi
      simp only [comCell]
      by_cases ci:i<H.regs*1
      ·rw [if_pos ci,upd_ne (by simp)]
       rw [upd_ne (by simp),upd_ne (by simp;omega)];rfl
      ·rw [if_neg ci,show i=H.regs by omega,upd_ne (by simp),upd_same,show H.regs-H.regs*1=0 by omega];rfl
     ·rw [upd_ne ct]
      by_cases cr:t=.reg H.regs
      ·subst cr;rw [upd_same];simp [comCell]
      ·rw [upd_ne cr]
       cases t with
       |parts=>exact (ct rfl).elim
       |reg r =>
        have:r≠H.regs:=fun e=>cr (by rw [e])
        simp only [comCell,if_neg this];rfl
       |map =>
        simp only [comCell,Heap.cell,Heap.pagesV,Heap.pairsV]
        rw [upd_ne (by simp),upd_ne (by simp),upd_ne (by simp),upd_ne (by simp)]
       |heap=>simp only [comCell,Heap.cell];rw [upd_ne (by simp),upd_ne (by simp),upd_ne (by simp),upd_ne (by simp)]
       |pool=>simp only [comCell,Heap.cell];rw [upd_ne (by simp),upd_ne (by simp),upd_ne (by simp),upd_ne (by simp),upd_ne (by simp),upd_ne (by simp)]
       |pairs=>simp only [comCell,Heap.cell];rw [upd_ne (by simp),upd_ne (by simp)]
       |set k=>simp only [comCell,Heap.cell];rw [upd_ne (by simp),upd_ne (by simp)]
       |buddy=>simp only [comCell,Heap.cell];rw [upd_ne (by simp),upd_ne (by simp),upd_ne (by simp),upd_ne (by simp),upd_ne (by simp),upd_ne (by simp)]
       |lists=>simp only [comCell,Heap.cell];rw [upd_ne (by simp),upd_ne (by simp)]
       |list k=>simp only [comCell,Heap.cell];rw [upd_ne (by simp),upd_ne (by simp)]
       |slab=>simp only [comCell,Heap.cell];rw [upd_ne (by simp),upd_ne (by simp)]
       |_=>rfl
  ·have hp:H.partsV A=.slice none 0 0:=by unfold Heap.partsV;rw [if_neg c]
   have hr0':H.regs=0:=by
    rcases Nat.eq_zero_or_pos H.regs with z | z
    ·exact z
    ·exact absurd (ok.parts z) c
   have hnp:¬ (H.has .parts \/ Slot.parts=.reg H.regs):=by
    rintro (h | h)
    ·exact c h
    ·cases h
   have R3:=R2.new (s0:=.parts) hnp (n:=1) (z:=[]) (t:=ofList [.slice (some (a,0)) H.rsz 1]) (f:=lst [.slice (some (a,0)) H.rsz 1]) (fun i hi=>by
    have:=cellOf_ofList [V.slice (some (a,0)) H.rsz 1] i
    rw [show [V.slice (some (a,0)) H.rsz 1].length=1 from rfl] at this
    rw [this,show i=0 by omega];rfl)
   refine ⟨_,?_,rfl,R3.congr ?_ (fun t _=>rfl) ?_ ?_⟩
   ·unfold appendV
    rw [hp]
    simp only [Nat.mul_one,ht]
    unfold appendL
    rw [if_neg (by simp),if_neg (by omega),if_pos ⟨by unfold maxLenBytes;omega,by unfold maxLenBytes;omega,rfl⟩]
    simp only [if_true,hr0']
    rfl
   ·rintro t (h | rfl | rfl)
    ·exact .inl (.inl h)
    ·exact .inl (.inr rfl)
    ·exact .inr rfl
   ·intro t h
    by_cases ct:t=.parts
    ·subst ct;rw [upd_same];show H.regs+1 <= 1;omega
    ·rw [upd_ne ct]
     by_cases cr:t=.reg H.regs
     ·subst cr;rw [upd_same];exact Nat.le_refl _
     ·rw [upd_ne cr]
      cases t with
      |parts=>exact (ct rfl).elim
      |_=>exact Nat.le_refl _
   ·intro t h i hi
    by_cases ct:t=.parts
    ·subst ct
     rw [upd_same]
     have hi':i<H.regs+1:=hi
     simp only [comCell]
     rw [show i=H.regs by omega,upd_ne (by simp),upd_same,hr0'];rfl
    ·rw [upd_ne ct]
     by_cases cr:t=.reg H.regs
     ·subst cr;rw [upd_same];simp [comCell]
     ·rw [upd_ne cr]
      cases t with
      |parts=>exact (ct rfl).elim
      |reg r =>
       have:r≠H.regs:=fun e=>cr (by rw [e])
       simp only [comCell,if_neg this];rfl
      |map =>
       simp only [comCell,Heap.cell,Heap.pagesV,Heap.pairsV]
       rw [upd_ne (by simp),upd_ne (by simp),upd_ne (by simp),upd_ne (by simp)]
      |heap=>simp only [comCell,Heap.cell];rw [upd_ne (by simp),upd_ne (by simp),upd_ne (by simp),upd_ne (by simp)]
      |pool=>simp only [comCell,Heap.cell];rw [upd_ne (by simp),upd_ne (by simp),upd_ne (by simp),upd_ne (by simp),upd_ne (by simp),upd_ne (by simp)]
      |pairs=>simp only [comCell,Heap.cell];rw [upd_ne (by simp),upd_ne (by simp)]
      |set k=>simp only [comCell,Heap.cell];rw [upd_ne (by simp),upd_ne (by simp)]
      |buddy=>simp only [comCell,Heap.cell];rw [upd_ne (by simp),upd_ne (by simp),upd_ne (by simp),upd_ne (by simp),upd_ne (by simp),upd_ne (by simp)]
      |lists=>simp only [comCell,Heap.cell];rw [upd_ne (by simp),upd_ne (by simp)]
      |list k=>simp only [comCell,Heap.cell];rw [upd_ne (by simp),upd_ne (by simp)]
      |slab=>simp only [comCell,Heap.cell];rw [upd_ne (by simp),upd_ne (by simp)]
      |_=>rfl
 obtain ⟨σ3,hap,n3,R3⟩:=key
 obtain ⟨A',hA'⟩:∃ A',A'=upd (upd A (.reg H.regs) a) .parts σ2.next:=⟨_,rfl⟩
 rw [<- hA'] at R3
 have hAE:∀ t,t≠.reg H.regs -> t≠.parts -> A' t=A t:=fun t h1 h2=>by rw [hA',upd_ne h2,upd_ne h1]
 have hAp:A' .parts=σ2.next:=by rw [hA',upd_same]
 obtain ⟨σ4,hst,R4,n4⟩:=R3.store (s:=.space) (.inl trivial) (off:=4) (vs:=[.slice (some (σ2.next,0)) (H.regs+1) 1]) (show 4+1 <= 5 by omega) rfl
 rw [hAE .space (by simp) (by simp)] at hst
 have hpv:∃ b e,H.partsV A=.slice b H.regs e:=by
  unfold Heap.partsV
  by_cases c:H.hasParts=true
  ·rw [if_pos c];exact ⟨_,_,rfl⟩
  ·rw [if_neg c]
   have:H.regs=0:=by
    rcases Nat.eq_zero_or_pos H.regs with z | z
    ·exact z
    ·exact absurd (ok.parts z) c
   rw [this];exact ⟨_,_,rfl⟩
 obtain ⟨pb,pe,hpv⟩:=hpv
 rw [hpv] at h4 hap
 have hspA:A .space<σ0.next:=hR.lt (s:=.space) trivial
 have keep1:∀ i x,σ0.cell (A .space) i=some x -> σ1.cell (A .space) i=some x:=fun i x h=>by unfold St.cell at h ⊢;rw [g1.old _ hspA];exact h
 have keep2:∀ i x,σ1.cell (A .space) i=some x -> σ2.cell (A .space) i=some x:=fun i x h=>by unfold St.cell at h ⊢;rw [g2.old _ (by omega)];exact h
 have h41:=keep1 _ _ h4
 have h42:=keep2 _ _ h41
 have h31:=keep1 _ _ h3
 have c1:¬ (H.regs:Int)=(H.limit:Int):=by omega
 have c2:(0:Int) <= (H.rsz:Int) /\ (H.rsz:Int)<9223372036854775808:=by omega
 have c3:(H.rsz:Int) <= (H.rsz:Int):=by omega
 have c4:H.rsz <= maxLenBytes:=by unfold maxLenBytes;omega
 simp -implicitDefEqProofs only[go_sem,h4,h1,c1,if_true,if_false,Bool.false_eq_true]
 refine runs_ret hr0 ?_
 simp -implicitDefEqProofs only[go_sem,h4,h41,h42,h3,h31,c2,c3,c4,and_self,Int.toNat_natCast,Nat.mul_one,<- hs1,<- ha,evalParts,e1,<- hs2,hap,vcells_slice,List.length_cons,List.length_nil,hst]
 refine ⟨A',R4.congr (fun t h=>h) (fun _ _=>rfl) (fun t h=>Nat.le_refl _) ?_,hAE⟩
 intro t h i hi
 by_cases ct:t=.space
 ·subst ct
  rw [upd_same]
  have hi':i<5:=hi
  simp only [comCell,hAp]
  rcases (by omega:i=0 \/ i=1 \/ i=2 \/ i=3 \/ i=4) with rfl | rfl | rfl | rfl | rfl <;> rfl
 ·rw [upd_ne ct]
  cases t with
  |space=>exact (ct rfl).elim
  |_=>rfl
end
noncomputable section
variable {σ:St} {A:Slot -> Nat} {H H':Heap} {has:Slot -> Prop} {size:Slot -> Nat} {cell:Slot -> Nat -> V}
def newW (N k nwo:Nat) (w:Nat -> Nat) (i:Nat):Nat:=cutW (N / 2^(k+1)) ((N / 2^(k+1)+63) / 64) (fun i=>if i<nwo then w i else 0) i
structure SetF (has:Slot -> Prop) (A:Slot -> Nat) (size:Slot -> Nat) (cell:Slot -> Nat -> V) (k nwo:Nat) (w:Nat -> Nat):Prop where
 hs:has (.set k)
 hw:has (.words k)
 s2:size (.set k)=2
 c1:cell (.set k) 1=.slice (some (A (.words k),0)) nwo 1
 sw:size (.words k)=nwo
 cw:cell (.words k)=fun i=>.int .u64 (w i)
theorem r_paired {order N:Nat} {b:Option (Nat × Nat)} {e:Nat} {nwo:Nat -> Nat} {w:Nat -> Nat -> Nat} {pv:V} (h:RepF σ has A size cell) (hm:has .map) (hm3:size .map=3) (hm1:cell .map 1=.slice b N e) (hm2:cell .map 2=pv)
  (hpv:(order=0 /\ pv=.slice none 0 0) \/ pv=.slice (some (A .pairs,0)) order 1) (ho:order <= 8) (hN:N <= 1024)
  (hp:0<order -> has .pairs /\ size .pairs=order /\ ∀ k,k<order -> cell .pairs k=.ptr (some (A (.set k),0)))
  (hset:∀ k,k<order -> SetF has A size cell k (nwo k) (w k)) (hwl:∀ k i,w k i<18446744073709551616) :
  Runs G0 [] 233 [.ptr (some (A .map,0))] σ fun r s=>(∃ A' size' cell',RepF s has A' size' cell' /\ (∀ t,(∀ k,t≠.words k) -> A' t=A t) /\ (∀ t,(∀ k,k<order -> t≠.words k) -> (∀ k,k<order -> t≠.set k) -> size' t=size t /\ cell' t=cell t) ∧
   ∀ k,k<order -> SetF has A' size' cell' k ((N / 2^(k+1)+63) / 64) (newW N k (nwo k) (w k)) /\ cell' (.set k) 0=.int .i64 ((N / 2^(k+1):Nat):Int)) /\ r=.tuple []:=by
 refine runs_body g233 rfl ?_
 have m2:=h.cell_at hm (i:=2) (by omega)
 rw [hm2] at m2
 have hlen:∃ b e,pv=.slice b order e:=by
  rcases hpv with ⟨a,c⟩ | c
  ·rw [c,a];exact ⟨_,_,rfl⟩
  ·exact ⟨_,_,c⟩
 obtain ⟨b',e',hlen⟩:=hlen
 rw [hlen] at m2
 simp -implicitDefEqProofs only[go_sem,m2]
 refine aw_loop (fun (n:Nat) (fr:AM.Fr) (s:St)=>fr.defers=[] /\ fr.tmps.get 0=some (.ptr (some (A .map,0))) /\ fr.tmps.get 7=some (.slice b' order e') /\ fr.tmps.get 8=some (.int .i64 order) /\ ∃ i,i <= order /\ n=order-i /\ fr.tmps.get 9=some (.int .i64 (i:Nat)) ∧
  ∃ A' size' cell',RepF s has A' size' cell' /\ (∀ t,(∀ k,t≠.words k) -> A' t=A t) /\ (∀ t,(∀ k,k<order -> t≠.words k) -> (∀ k,k<order -> t≠.set k) -> size' t=size t /\ cell' t=cell t) ∧
   (∀ k,k<order -> i <= k -> SetF has A' size' cell' k (nwo k) (w k)) ∧
   ∀ k,k<i -> SetF has A' size' cell' k ((N / 2^(k+1)+63) / 64) (newW N k (nwo k) (w k)) /\ cell' (.set k) 0=.int .i64 ((N / 2^(k+1):Nat):Int)) ?_ order ?_
 ·rintro n ⟨tm,ds⟩ s ⟨hds,t0,t7,t8,i,hi,hn,t9,A',size',cell',R,hA,hsame,hold,hnew⟩
  simp only at hds t0 t7 t8 t9
  subst hds
  rcases Nat.lt_or_ge i order with c | c
  ·obtain ⟨p1,p2,p3⟩:=hp (by omega)
   have hpe:pv=.slice (some (A .pairs,0)) order 1:=by
    rcases hpv with ⟨a,c'⟩ | c'
    ·omega
    ·exact c'
   rw [hpe] at hlen
   simp only [V.slice.injEq,true_and] at hlen
   obtain ⟨hb',he'⟩:=hlen
   subst hb' he'
   have hAp:=hA .pairs (by simp)
   have hAm:=hA .map (by simp)
   have hAs:=hA (.set i) (by simp)
   have q1:=R.cell_at p1 (i:=i) (by rw [(hsame .pairs (by simp) (by simp)).1,p2];exact c)
   rw [(hsame .pairs (by simp) (by simp)).2,p3 i c,hAp] at q1
   have q2:=R.cell_at hm (i:=1) (by rw [(hsame .map (by simp) (by simp)).1,hm3];omega)
   rw [(hsame .map (by simp) (by simp)).2,hm1,hAm] at q2
   have sF:=hold i c (Nat.le_refl _)
   have d1:(i:Int)<(order:Int):=by omega
   have d2:(0:Int) <= (i:Int):=by omega
   have e1:IntKind.i64.wrap ((i:Int)+1)=((i+1:Nat):Int):=i64_add (a:=i) (b:=1) (by omega)
   have d3:(0:Int) <= ((i+1:Nat):Int):=by omega
   have e2:shrI .i64 (N:Int) ((i+1:Nat):Int)=((N / 2^(i+1):Nat):Int):=shr_nat rfl (by omega)
   have hq:N / 2^(i+1) <= N:=Nat.div_le_self _ _
   obtain ⟨v,σ1,⟨hv,hlt,R1⟩,hr1⟩:=r_Resize (n0:=0) (n:=N / 2^(i+1)) R sF.hs sF.hw sF.s2 (by omega) sF.c1 sF.sw sF.cw (hwl i)
   subst hv
   rw [hAs] at hr1
   simp -implicitDefEqProofs only[go_sem,t0,t7,t8,t9,d1,d2,and_self,Int.toNat_natCast,Nat.mul_one,q1,q2,e1,bin_shr,d3,e2]
   refine runs_ret hr1 ?_
   simp -implicitDefEqProofs only[go_sem,t0,t7,t8,t9,e1]
   refine ⟨order-(i+1),by omega,i+1,by omega,rfl,rfl,_,_,_,R1,?_,?_,?_,?_⟩
   ·intro t ht
    rw [upd_ne (ht i)];exact hA t ht
   ·intro t h1 h2
    rw [upd_ne (h1 i c),upd_ne (h2 i c),upd_ne (h1 i c)]
    exact hsame t h1 h2
   ·intro k hk hik
    have sk:=hold k hk (by omega)
    have n1:Slot.words k≠Slot.words i:=by simp;omega
    have n2:Slot.set k≠Slot.set i:=by simp;omega
    have n3:Slot.set k≠Slot.words i:=by simp
    have n4:Slot.words k≠Slot.set i:=by simp
    exact ⟨sk.hs,sk.hw,by rw [upd_ne n3];exact sk.s2,by rw [upd_ne n2,upd_ne n3,upd_ne n1];exact sk.c1,by rw [upd_ne n1];exact sk.sw,by rw [upd_ne n4,upd_ne n1];exact sk.cw⟩
   ·intro k hk
    have n3:Slot.set k≠Slot.words i:=by simp
    have n4:Slot.words k≠Slot.set i:=by simp
    by_cases ck:k=i
    ·subst ck
     refine ⟨⟨sF.hs,sF.hw,by rw [upd_ne n3];exact sF.s2,?_,by rw [upd_same],?_⟩,?_⟩
     ·rw [upd_same,upd_same];rfl
     ·rw [upd_ne n4,upd_same];rfl
     ·rw [upd_same];rfl
    ·have n1:Slot.words k≠Slot.words i:=by simp;omega
     have n2:Slot.set k≠Slot.set i:=by simp;omega
     obtain ⟨sk,s0⟩:=hnew k (by omega)
     exact ⟨⟨sk.hs,sk.hw,by rw [upd_ne n3];exact sk.s2,by rw [upd_ne n2,upd_ne n3,upd_ne n1];exact sk.c1,by rw [upd_ne n1];exact sk.sw,by rw [upd_ne n4,upd_ne n1];exact sk.cw⟩,by rw [upd_ne n2,upd_ne n3];exact s0⟩
  ·have d1:¬ ((i:Int)<(order:Int)):=by omega
   have hie:i=order:=by omega
   subst hie
   simp -implicitDefEqProofs only[go_sem,t0,t7,t8,t9,d1]
   exact ⟨A',size',cell',R,hA,hsame,fun k hk=>hnew k hk⟩
 ·refine ⟨rfl,?_,?_,?_,0,by omega,by omega,?_,A,size,cell,h,fun _ _=>rfl,fun _ _ _=>⟨rfl,rfl⟩,fun k hk _=>hset k hk,fun k hk=>by omega⟩ <;> simp -implicitDefEqProofs only[go_sem,Int.natCast_zero]
def _root_.AM.Heap.more (H : Heap) : Heap := { H with
  regs := H.regs + 1
  mem := fun i => if i < H.rsz * H.regs then H.mem i else 0
  page := fun x => if x < H.np then H.page x else zeroP
  word := fun k j => newW ((H.regs + 1) * 2 ^ H.order) k (H.nw k) (H.word k) j
  hasParts := true
  hasPages := true }
theorem cutW_lt {n nw:Nat} {w:Nat -> Nat} (h:∀ i,w i<18446744073709551616) (i:Nat):cutW n nw w i<18446744073709551616:=by
 unfold cutW
 split
 ·exact Nat.lt_of_le_of_lt (Nat.mod_le _ _) (h i)
 ·exact h i
theorem more_np (H:Heap):H.more.np=H.np+2^H.order:=by
 show (H.regs+1)*2^H.order=H.regs*2^H.order+_
 rw [Nat.add_mul,Nat.one_mul]
theorem ok_more (ok:H.OK) (h:H.regs<H.limit):H.more.OK :=
 ⟨ok.base_pos,ok.order_le,ok.limit_pos,ok.limit_le,ok.pages_le,ok.end_le,ok.base_al,h,fun i=>by
  show (if i<H.rsz*H.regs then H.mem i else 0)<256
  split
  ·exact ok.mem_lt i
  ·omega,ok.head_lt,fun k j=>by
  show newW _ k (H.nw k) (H.word k) j<_
  unfold newW
  exact cutW_lt (fun i=>by split;exact ok.word_lt k i;omega) j,fun _=>rfl,fun _=>rfl⟩
theorem r_sizeF {m o:Nat} (ho:o <= 8) (h:σ.cell m 0=some (.int .i64 o)):Runs G0 [] 232 [.ptr (some (m,0))] σ fun r σ'=>r=.int .i64 ((2^o:Nat):Int) /\ σ'=σ:=by
 refine runs_body g232 rfl ?_
 have e1:=i64_one_shl (n:=o) (by omega)
 have c0:(0:Int) <= (o:Int):=by omega
 simp -implicitDefEqProofs only[go_sem,h,bin_shl,c0,e1]
theorem repeatZ_len (z:List V):∀ n,(repeatZ z n).length=n*z.length
 | 0=>by simp [repeatZ]
 |n+1=>by simp [repeatZ,repeatZ_len z n,Nat.add_mul];omega
theorem repeatZ_get {z:List V} (hz:0<z.length):∀ (n i:Nat),i<n*z.length -> (repeatZ z n).getD i .undef=z.getD (i%z.length) .undef
 | 0,i,h=>by omega
 |n+1,i,h=>by
  rw [repeatZ,List.getD_eq_getElem?_getD,List.getD_eq_getElem?_getD]
  by_cases c:i<z.length
  ·rw [List.getElem?_append_left c,Nat.mod_eq_of_lt c]
  ·rw [List.getElem?_append_right (by omega), <- List.getD_eq_getElem?_getD,repeatZ_get hz n (i-z.length) (by rw [Nat.add_mul] at h;omega),List.getD_eq_getElem?_getD, <- Nat.mod_eq_sub_mod (show i ≥ z.length by omega)]
theorem repeatZ_flat {z:List V} (hz:z.all V.flat=true):∀ n,(repeatZ z n).all V.flat=true
 | 0=>rfl
 |n+1=>by rw [repeatZ,List.all_append,hz,repeatZ_flat hz n];rfl
theorem r_Grow (ok:H.OK) (hlt:H.regs<H.limit) (h:RepF σ (comHas H) A (comSize H) (comCell H A)) :
  Runs G0 [] 250 [.ptr (some (A .map,0))] σ fun r s=>(∃ A',HRep s A' (H.more.run H.np H.order 2) /\ ∀ t,(∀ k,t≠.words k) -> t≠.pages -> A' t=A t) /\ r=.tuple []:=by
 refine runs_body g250 rfl ?_
 have ho:=ok.order_le
 have hpos:=pow_pos' H.order
 have hmn:=more_np H
 have hnm:=np_le (ok_more ok hlt)
 rw [hmn] at hnm
 have okm:=ok_more ok hlt
 have h0:=h.cell_at (s:=.map) (.inl trivial) (i:=0) (show 0<3 by omega)
 rw [show comCell H A .map 0=.int .i64 H.order from rfl] at h0
 have h1:=h.cell_at (s:=.map) (.inl trivial) (i:=1) (show 1<3 by omega)
 rw [show comCell H A .map 1=H.pagesV A from rfl] at h1
 obtain ⟨z,hz⟩:∃ z,z=[V.int .i64 0,.int .i64 0,.int .i64 0,.int .i64 0,.int .i64 0,.int .i64 0,.int .i64 0,.int .u64 0,.int .u64 0,.int .u64 0,.int .u64 0]:=⟨_,rfl⟩
 have hz11:z.length=11:=by rw [hz];rfl
 have hzf:z.all V.flat=true:=by rw [hz];rfl
 have hzc:z=zeroP.cells:=hz
 obtain ⟨n2,hn2⟩:∃ n,n=2^H.order:=⟨_,rfl⟩
 rw [<- hn2] at hpos hmn hnm
 have hpgv:∃ b e,H.pagesV A=.slice b H.np e:=by
  unfold Heap.pagesV
  by_cases c:H.hasPages=true
  ·rw [if_pos c];exact ⟨_,_,rfl⟩
  ·rw [if_neg c]
   have:H.regs=0:=by
    rcases Nat.eq_zero_or_pos H.regs with z | z
    ·exact z
    ·exact absurd (ok.pages z) c
   have e0:H.np=0:=by unfold Heap.np;rw [this];omega
   rw [e0];exact ⟨_,_,rfl⟩
 obtain ⟨pb,pe,hpv⟩:=hpgv
 have key:∃ σ1,appendZV σ 11 88 z (H.pagesV A) (.int .i64 (n2:Int))=some (.slice (some (σ.next,0)) (H.np+n2) 11,σ1) /\ σ1.next=σ.next+1 ∧
   RepF σ1 (fun t=>comHas H t \/ t=.pages) (upd A .pages σ.next) (upd (comSize H) .pages ((H.np+n2)*11)) (upd (comCell H A) .pages fun i=>(if i<H.np*11 then H.page (i / 11) else zeroP).cell (i%11)):=by
  have hrl:(repeatZ z n2).length=n2*11:=by rw [repeatZ_len,hz11]
  have hcl:∀ i,H.np*11 <= i -> i<(H.np+n2)*11 -> lst (repeatZ z n2) (i-H.np*11)=zeroP.cell (i%11):=by
   intro i h1 h2
   have e:=repeatZ_get (z:=z) (by omega) n2 (i-H.np*11) (by rw [hz11];omega)
   unfold lst
   rw [e,hz11,hzc,show (i-H.np*11)%11=i%11 by omega];rfl
  have gen:∀ (a:Option (Nat × Nat)) (e:Nat),(e=11 \/ a=none) -> appendZV σ 11 88 z (.slice a H.np e) (.int .i64 (n2:Int))=appendL σ 11 88 n2 (repeatZ z n2) a H.np:=by
   intro a e hae
   unfold appendZV
   simp only
   rw [if_neg (by rcases hae with rfl | rfl <;> simp),if_pos (by omega),Int.toNat_natCast]
  by_cases c:H.hasPages=true
  ·have hp:H.pagesV A=.slice (some (A .pages,0)) H.np 11:=by unfold Heap.pagesV;rw [if_pos c]
   have hsp:comHas H .pages:=.inl c
   obtain ⟨v3,σ3,ha3⟩:=append_ok (h.row .pages hsp) (esz:=11) (bytes:=88) (k:=n2) (xl:=H.np) (vs:=repeatZ z n2) (show H.np*11 <= H.np*11 by omega) (by unfold maxLenBytes;omega) (by unfold maxLenBytes;omega) (repeatZ_flat hzf n2)
   obtain ⟨hv3,hn3,R3⟩:=h.append (s0:=.pages) hsp (show H.np*11=H.np*11 from rfl) ha3
   refine ⟨σ3,by rw [hp,gen _ _ (.inl rfl),ha3,hv3],hn3,R3.congr ?_ (fun t _=>rfl) ?_ ?_⟩
   ·rintro t (h | rfl)
    ·exact h
    ·exact hsp
   ·intro t ht
    by_cases ct:t=.pages
    ·subst ct;rw [upd_same,upd_same,hrl];omega
    ·rw [upd_ne ct,upd_ne ct];exact Nat.le_refl _
   ·intro t ht i hi
    by_cases ct:t=.pages
    ·subst ct
     rw [upd_same] at hi
     rw [upd_same,upd_same]
     by_cases ci:i<H.np*11
     ·rw [if_pos ci,if_pos ci];rfl
     ·rw [if_neg ci,if_neg ci];exact hcl i (by omega) hi
    ·rw [upd_ne ct,upd_ne ct]
  ·have hp:H.pagesV A=.slice none 0 0:=by unfold Heap.pagesV;rw [if_neg c]
   have e0:H.np=0:=by
    have:H.regs=0:=by
     rcases Nat.eq_zero_or_pos H.regs with z | z
     ·exact z
     ·exact absurd (ok.pages z) c
    unfold Heap.np;rw [this];omega
   have hnp:¬ comHas H .pages:=by
    rintro (h | h | h)
    ·exact c h
    ·cases h
    ·cases h
   have R3:=h.new (s0:=.pages) hnp (n:=(repeatZ z n2).length) (z:=[]) (t:=ofList (repeatZ z n2)) (f:=lst (repeatZ z n2)) (fun i hi=>by
    rw [cellOf_ofList];simp [lst,hi])
   refine ⟨_,?_,rfl,R3.congr (fun t h=>h) (fun t _=>rfl) ?_ ?_⟩
   ·rw [hp,show V.slice none 0 0=V.slice none H.np 0 by rw [e0],gen _ _ (.inr rfl)]
    unfold appendL
    rw [if_pos ⟨by unfold maxLenBytes;omega,by unfold maxLenBytes;omega,repeatZ_flat hzf n2⟩]
    simp only [e0,if_true,Nat.zero_add]
    rfl
   ·intro t ht
    by_cases ct:t=.pages
    ·subst ct;rw [upd_same,upd_same,hrl];omega
    ·rw [upd_ne ct,upd_ne ct];exact Nat.le_refl _
   ·intro t ht i hi
    by_cases ct:t=.pages
    ·subst ct
     rw [upd_same] at hi
     rw [upd_same,upd_same,if_neg (by omega), <- hcl i (by omega) hi,e0];rfl
    ·rw [upd_ne ct,upd_ne ct]
 obtain ⟨σ1,hap,n1,R1⟩:=key
 have hA1:∀ t,t≠.pages -> upd A .pages σ.next t=A t:=fun t ht=>upd_ne ht
 obtain ⟨σ2,hst,R2,n2'⟩:=R1.store (s:=.map) (.inl (.inl trivial)) (off:=1) (vs:=[.slice (some (σ.next,0)) (H.np+n2) 11]) (by rw [upd_ne (by simp)];show 1+1 <= 3;omega) rfl
 rw [hA1 .map (by simp)] at hst
 obtain ⟨v,σs,⟨hv,hs⟩,hrs⟩:=r_sizeF (m:=A .map) ho h0
 subst hv hs
 rw [<- hn2] at hrs
 have e1:IntKind.i64.wrap ((H.np:Int)+(n2:Int))=((H.np+n2:Nat):Int):=i64_add (by omega)
 have c1:¬ ((1024:Int)<((H.np+n2:Nat):Int)):=by omega
 rw [hpv] at h1 hap
 obtain ⟨A1,hA1d⟩:∃ A1,A1=upd A .pages σs.next:=⟨_,rfl⟩
 rw [<- hA1d] at R2 hA1
 obtain ⟨c2,hc2⟩:∃ c2,c2=upd (upd (comCell H A) Slot.pages fun i=>(if i<H.np*11 then H.page (i / 11) else zeroP).cell (i%11)) .map (over ((upd (comCell H A) Slot.pages fun i=>(if i<H.np*11 then H.page (i / 11) else zeroP).cell (i%11)) .map) 1 [.slice (some (σs.next,0)) (H.np+n2) 11]):=⟨_,rfl⟩
 rw [<- hc2] at R2
 obtain ⟨s2,hs2⟩:∃ s2,s2=upd (comSize H) Slot.pages ((H.np+n2)*11):=⟨_,rfl⟩
 rw [<- hs2] at R2
 have hcO:∀ t,t≠.pages -> t≠.map -> c2 t=comCell H A t:=fun t h1 h2=>by rw [hc2,upd_ne h2,upd_ne h1]
 have hsO:∀ t,t≠.pages -> s2 t=comSize H t:=fun t h1=>by rw [hs2,upd_ne h1]
 have hnN:(H.regs+1)*2^H.order=H.np+n2:=by rw [hn2];exact more_np H
 have hnwle:∀ k,H.nw k <= ((H.np+n2) / 2^(k+1)+63) / 64:=by
  intro k
  unfold Heap.nw Heap.npair
  have:H.np / 2^(k+1) <= (H.np+n2) / 2^(k+1):=Nat.div_le_div_right (by omega)
  omega
 have hpr:=r_paired (order:=H.order) (N:=H.np+n2) (b:=some (σs.next,0)) (e:=11) (nwo:=H.nw) (w:=H.word) (pv:=H.pairsV A) R2 (.inl (.inl trivial)) (by rw [hsO _ (by simp)];rfl)
  (by rw [hc2,upd_same];rfl) (by rw [hc2,upd_same,upd_ne (by simp)];rfl)
  (by
   unfold Heap.pairsV
   rw [hA1 .pairs (by simp)]
   by_cases c:0<H.order
   ·rw [if_pos c];exact .inr rfl
   ·rw [if_neg c];exact .inl ⟨by omega,rfl⟩) ho (by omega)
  (fun hpo=>⟨.inl (.inl hpo),by rw [hsO _ (by simp)];rfl,fun k hk=>by rw [hcO _ (by simp) (by simp),hA1 _ (by simp)];rfl⟩)
  (fun k hk=>⟨.inl (.inl hk),.inl (.inl hk),by rw [hsO _ (by simp)];rfl,by rw [hcO _ (by simp) (by simp),hA1 _ (by simp)];rfl,by rw [hsO _ (by simp)];rfl,by rw [hcO _ (by simp) (by simp)];rfl⟩)
  ok.word_lt
 obtain ⟨v,σ3,⟨⟨A3,s3,c3,R3,hA3,hsame,hset⟩,hv⟩,hr3⟩:=hpr
 subst hv
 rw [hA1 .map (by simp)] at hr3
 have hA3A:∀ t,(∀ k,t≠.words k) -> t≠.pages -> A3 t=A t:=fun t h1 h2=>by rw [hA3 t h1,hA1 t h2]
 have hA3p:A3 .pages=σs.next:=by rw [hA3 _ (by simp),hA1d,upd_same]
 have R3':HRep σ3 A3 H.more:=by
  have sO:∀ t,(∀ k,t≠.words k) -> (∀ k,t≠.set k) -> t≠.pages -> t≠.map -> s3 t=comSize H t /\ c3 t=comCell H A t:=by
   intro t h1 h2 h3 h4
   obtain ⟨a,b⟩:=hsame t (fun k _=>h1 k) (fun k _=>h2 k)
   exact ⟨a.trans (hsO t h3),b.trans (hcO t h3 h4)⟩
  refine R3.hrep (fun t ht=>?_) (fun t ht=>?_) (fun t ht i hi=>?_)
  ·cases t with
   |reg i =>
    have hi:i<H.regs+1:=ht
    rcases Nat.lt_or_ge i H.regs with c | c
    ·exact .inl (.inl c)
    ·exact .inl (.inr (.inl (by rw [show i=H.regs by omega])))
   |parts=>exact .inl (.inr (.inr rfl))
   |pages=>exact .inr rfl
   |_=>exact .inl (.inl ht)
  ·cases t with
   |set k=>rw [(hset k ht).1.s2];exact Nat.le_refl _
   |words k=>rw [(hset k ht).1.sw, <- hnN];exact Nat.le_refl _
   |pages =>
    rw [(hsame .pages (by simp) (by simp)).1,hs2,upd_same, <- hnN];exact Nat.le_refl _
   |map=>rw [(hsame .map (by simp) (by simp)).1,hsO _ (by simp)];exact Nat.le_refl _
   |_=>rw [(sO _ (by simp) (by simp) (by simp) (by simp)).1];exact Nat.le_refl _
  ·cases t with
   |heap =>
    rw [(sO .heap (by simp) (by simp) (by simp) (by simp)).2]
    simp only [comCell,Heap.cell,Heap.more,hA3A .pool (by simp) (by simp),hA3A .slab (by simp) (by simp)]
   |pool =>
    rw [(sO .pool (by simp) (by simp) (by simp) (by simp)).2]
    simp only [comCell,Heap.cell,hA3A .space (by simp) (by simp),hA3A .map (by simp) (by simp),hA3A .buddy (by simp) (by simp)]
   |space =>
    rw [(sO .space (by simp) (by simp) (by simp) (by simp)).2]
    simp only [comCell,Heap.cell,Heap.more,Heap.partsV,if_true,hA3A .parts (by simp) (by simp),Heap.rsz]
   |parts =>
    rw [(sO .parts (by simp) (by simp) (by simp) (by simp)).2]
    simp only [comCell,Heap.cell,Heap.rsz,Heap.more,hA3A (.reg i) (by simp) (by simp)]
   |reg r =>
    rw [(sO (.reg r) (by simp) (by simp) (by simp) (by simp)).2]
    have hi':i<H.rsz:=hi
    have hr':r<H.regs+1:=ht
    simp only [comCell,Heap.cell]
    show _=V.int .u8 ((if r*H.rsz+i<H.rsz*H.regs then H.mem (r*H.rsz+i) else 0:Nat):Int)
    by_cases c:r=H.regs
    ·rw [if_pos c,if_neg (by rw [c,Nat.mul_comm];omega)];rfl
    ·rw [if_neg c]
     have hm:(r+1)*H.rsz <= H.regs*H.rsz:=Nat.mul_le_mul_right _ (by omega)
     rw [Nat.add_mul,Nat.mul_comm H.regs] at hm
     rw [if_pos (by omega)]
   |map =>
    rw [(hsame .map (by simp) (by simp)).2,hc2,upd_same,upd_ne (by simp)]
    have hi':i<3:=hi
    rcases (by omega:i=0 \/ i=1 \/ i=2) with rfl | rfl | rfl
    ·rfl
    ·show V.slice (some (σs.next,0)) (H.np+n2) 11=H.more.pagesV A3
     unfold Heap.pagesV
     rw [if_pos (show H.more.hasPages=true from rfl),hA3p,hmn]
    ·show H.pairsV A=H.more.pairsV A3
     unfold Heap.pairsV
     show _=if 0<H.order then V.slice (some (A3 .pairs,0)) H.order 1 else .slice none 0 0
     rw [hA3A .pairs (by simp) (by simp)]
   |pages =>
    rw [(hsame .pages (by simp) (by simp)).2,hc2,upd_ne (by simp),upd_same]
    show _=(if i / 11<H.np then H.page (i / 11) else zeroP).cell (i%11)
    by_cases c:i<H.np*11
    ·rw [if_pos c,if_pos (by omega)]
    ·rw [if_neg c,if_neg (by omega)]
   |pairs =>
    rw [(sO .pairs (by simp) (by simp) (by simp) (by simp)).2]
    simp only [comCell,Heap.cell,hA3A (.set i) (by simp) (by simp)]
   |set k =>
    obtain ⟨sk,s0⟩:=hset k ht
    have hi':i<2:=hi
    rcases (by omega:i=0 \/ i=1) with rfl | rfl
    ·rw [s0, <- hnN];rfl
    ·rw [sk.c1, <- hnN];rfl
   |words k =>
    rw [(hset k ht).1.cw, <- hnN];rfl
   |buddy =>
    rw [(sO .buddy (by simp) (by simp) (by simp) (by simp)).2]
    simp only [comCell,Heap.cell,Heap.more,hA3A .space (by simp) (by simp),hA3A .map (by simp) (by simp),hA3A .lists (by simp) (by simp)]
   |lists =>
    rw [(sO .lists (by simp) (by simp) (by simp) (by simp)).2]
    simp only [comCell,Heap.cell,hA3A (.list i) (by simp) (by simp)]
   |list k =>
    rw [(sO (.list k) (by simp) (by simp) (by simp) (by simp)).2]
    simp only [comCell,Heap.cell,Heap.more,hA3A .space (by simp) (by simp)]
   |slab =>
    rw [(sO .slab (by simp) (by simp) (by simp) (by simp)).2]
    simp only [comCell,Heap.cell,Heap.more,hA3A .pool (by simp) (by simp)]
 have h03:=R3'.cell (s:=.map) trivial (i:=0) (show 0<3 by omega)
 rw [show H.more.cell A3 .map 0=.int .i64 H.order from rfl,hA3A .map (by simp) (by simp)] at h03
 have hmod:H.np%2^H.order=0:=by unfold Heap.np;exact Nat.mul_mod_left _ _
 obtain ⟨v,σ4,⟨R4,hv⟩,hr4⟩:=r_Run R3' okm (p:=H.np) (k:=H.order) (kind:=2) (Nat.le_refl _) (.inr rfl) hmod (by rw [hmn,hn2];exact Nat.le_refl _)
 subst hv
 rw [hA3A .map (by simp) (by simp)] at hr4
 simp -implicitDefEqProofs only[go_sem,h1]
 refine runs_ret hrs ?_
 simp -implicitDefEqProofs only[go_sem,h1,e1,c1]
 refine runs_ret hrs ?_
 simp -implicitDefEqProofs only[go_sem,h1,<- hz,hap,vcells_slice,List.length_cons,List.length_nil,hst]
 refine runs_ret hr3 ?_
 simp -implicitDefEqProofs only[go_sem,h03]
 refine runs_ret hr4 ?_
 simp -implicitDefEqProofs only[go_sem]
 exact ⟨A3,R4,hA3A⟩
end
noncomputable section
variable {H H':Heap} {fl pl fc:Nat -> List Nat} {hole hole':Nat -> Prop}
theorem Inv.remade {p c:Nat} {fc' pl':Nat -> List Nat} (h:Inv H fl pl fc (fun x=>hole x \/ x=p)) (hp:p<H.np) (hh:¬ hole p) (sm:H'.Same H) (ok':H'.OK) (hhead:H'.head=H.head) (hword:H'.word=H.word)
  (cr:∀ x,x≠p -> Core (H.page x) (H'.page x)) (hkd:(H'.page p).kind=4) (hod:(H'.page p).order=0) (hmem:∀ x,x≠p -> ∀ i,i<4096 -> H'.mem (4096*x+i)=H.mem (4096*x+i))
  (hfc:∀ x,x≠p -> fc' x=fc x) (hsl:SlOk H' p c (fc' p)) (hpl:∀ j,j≠c -> pl' j=pl j) (hpc:∀ x,x∈pl' c↔x∈pl c \/ (x=p /\ fc' p≠[])) (hnd:(pl' c).Nodup) (hlk:∀ j,j<8 -> PL H' j (pl' j)) :
  Inv H' fl pl' fc' hole where
 ok:=ok'
 pg x hx hn:=by
  rw [sm.np] at hx
  by_cases e:x=p
  ·subst e
   refine ⟨0,4,Nat.zero_le _,.inr (.inr ⟨rfl,rfl⟩),fun y hy=>?_⟩
   have hyx:y=x:=by simpa using hy
   subst hyx
   exact ⟨hh,hod,by rw [hkd];simp [Nat.mod_one]⟩
  ·obtain ⟨k,fam,q⟩:=h.pg x hx (fun f=>f.elim hn e)
   refine ⟨k,fam,q.transfer sm.order fun y hy=>?_⟩
   have hyp:y≠p:=fun f=>(q.all y hy).1 (.inr f)
   exact ⟨(cr y hyp).order,(cr y hyp).kind,fun f=>(q.all y hy).1 (.inl f)⟩
 fmem k hk x:=by
  rw [sm.order] at hk
  rw [h.fmem k hk x,sm.np]
  by_cases e:x=p
  ·subst e
   constructor
   ·rintro ⟨_,f,_⟩;exact (f (.inr rfl)).elim
   ·rintro ⟨_,_,f,_⟩;omega
  ·rw [(cr x e).kind,(cr x e).order]
   constructor
   ·rintro ⟨a,b,d⟩;exact ⟨a,fun f=>b (.inl f),d⟩
   ·rintro ⟨a,b,d⟩;exact ⟨a,fun f=>f.elim b e,d⟩
 fnd k hk:=h.fnd k (by rw [sm.order] at hk;exact hk)
 flk k hk:=by
  rw [sm.order] at hk
  refine FL.other (h.flk k hk) sm.base (by rw [hhead]) fun x hx=>hmem x fun e=>?_
  exact ((h.fmem k hk x).1 hx).2.1 (.inr e)
 bits k hk i hi:=by
  rw [sm.order] at hk
  rw [pbit_word hword]
  exact h.bits k hk i (by unfold Heap.nw Heap.npair at hi ⊢;rw [sm.np] at hi;exact hi)
 sl x hx hn hk4:=by
  rw [sm.np] at hx
  by_cases e:x=p
  ·subst e;exact ⟨c,hsl⟩
  ·rw [(cr x e).kind] at hk4
   obtain ⟨c2,s⟩:=h.sl x hx (fun f=>f.elim hn e) hk4
   rw [hfc x e]
   exact ⟨c2,s.transfer sm.base (cr x e) (hmem x e)⟩
 pmem j hj x:=by
  rw [sm.np]
  have old:=h.pmem j hj x
  by_cases ex:x=p
  ·subst ex
   have hno:x∉pl j:=fun f=>(old.1 f).2.1 (.inr rfl)
   rw [hkd,hsl.cls]
   by_cases ej:j=c
   ·subst ej
    rw [hpc]
    constructor
    ·rintro (f | ⟨_,f⟩)
     ·exact (hno f).elim
     ·exact ⟨hp,hh,rfl,rfl,f⟩
    ·rintro ⟨_,_,_,_,f⟩;exact .inr ⟨rfl,f⟩
   ·rw [hpl j ej]
    constructor
    ·intro f;exact (hno f).elim
    ·rintro ⟨_,_,_,f,_⟩;omega
  ·rw [(cr x ex).kind,(cr x ex).cls,hfc x ex]
   have e2:x∈pl' j↔x∈pl j:=by
    by_cases ej:j=c
    ·subst ej
     rw [hpc]
     constructor
     ·rintro (f | f)
      ·exact f
      ·exact (ex f.1).elim
     ·intro f;exact .inl f
    ·rw [hpl j ej]
   rw [e2,old]
   constructor
   ·rintro ⟨a,b,d⟩;exact ⟨a,fun f=>b (.inl f),d⟩
   ·rintro ⟨a,b,d⟩;exact ⟨a,fun f=>f.elim b ex,d⟩
 pnd j hj:=by
  by_cases ej:j=c
  ·subst ej;exact hnd
  ·rw [hpl j ej];exact h.pnd j hj
 plk:=hlk
theorem laidN_mem (H:Heap) {p w n:Nat}:∀ (i:Nat),(∀ j,j<i -> j*w+8 <= 4096) -> ∀ x,(x<4096*p \/ 4096*p+4096 <= x) -> (H.laidN (H.addr p) w n i).mem x=H.mem x
 | 0,_,x,_=>rfl
 |i+1,h,x,hx=>by
  have hi:=h i (by omega)
  rw [Heap.laidN,wr64_mem _ _ _ _ (by rw [(same_laidN H (H.addr p) w n i).base];unfold Heap.addr;omega)]
  exact laidN_mem H i (fun j hj=>h j (by omega)) x hx
theorem laidN_w64 (H:Heap) {p w n:Nat} (hw:16 <= w) (hlt:H.addr p+n*w<18446744073709551616):∀ (i:Nat),i <= n -> ∀ j,j<i -> (H.laidN (H.addr p) w n i).w64 (H.addr p+j*w)=if j+1=n then 0 else H.addr p+(j+1)*w
 | 0,_,j,hj=>by omega
 |i+1,hi,j,hj=>by
  have hb:=(same_laidN H (H.addr p) w n i).base
  have hv:(if i+1=n then 0 else H.addr p+(i+1)*w)<18446744073709551616:=by
   have:(i+1)*w <= n*w:=Nat.mul_le_mul_right _ hi
   split <;> omega
  rw [Heap.laidN]
  rcases Nat.lt_or_ge j i with c | c
  ·rw [w64_wr64_ne _ ?_ (by rw [hb];have:=addr_ge H p;omega) (by rw [hb];have:=addr_ge H p;omega)]
   ·exact laidN_w64 H hw hlt i (by omega) j c
   ·left
    have:=Nat.mul_le_mul_right w (show j+1 <= i by omega)
    rw [Nat.add_mul] at this;omega
  ·have e:j=i:=by omega
   subst e
   exact w64_wr64 _ hv
theorem Inv.born (h:Inv H fl pl fc hole) {p c:Nat} (hp:p<H.np) (hc:c<8) (g:PgOk H hole p 0 2) (hpl:pl c=[]) :
  Inv (H.born p c) fl (fun j=>if j=c then [p] else pl j) (fun x=>if x=p then List.range' 0 (256 / 2^c) else fc x) hole /\ (∀ x,x≠p -> Core (H.page x) ((H.born p c).page x)) /\ (H.born p c).Same H /\ (∀ x,x≠p -> ∀ i,i<4096 -> (H.born p c).mem (4096*x+i)=H.mem (4096*x+i)):=by
 obtain ⟨w1,w2,w3,w4,w5⟩:=w8 hc
 have hh:=g.not_hole
 have ho:=(h.opened g).congr_hole (hole':=fun x=>hole x \/ x=p) (fun x=>by simp)
 obtain ⟨n,hn⟩:∃ n,n=256 / 2^c:=⟨_,rfl⟩
 obtain ⟨w,hw⟩:∃ w,w=16*2^c:=⟨_,rfl⟩
 rw [<- hn] at w1 w4 w5
 rw [<- hw] at w1 w2 w3
 obtain ⟨H0,hH0⟩:∃ H0,H0=H.setPage p { plainP 4 0 with cls:=(c:Int) }:=⟨_,rfl⟩
 have sm0:H0.Same H:=by rw [hH0];exact same_setPage _ _ _
 have ea0:H0.addr p=H.addr p:=sm0.addr p
 have hb1:H.born1 p c=H0.laidN (H0.addr p) w n n:=by unfold Heap.born1;rw [<- hH0, <- hw, <- hn,ea0]
 have sm1:(H.born1 p c).Same H:=by rw [hb1];exact Heap.Same.trans (same_laidN _ _ _ _ _) sm0
 have pg1:(H.born1 p c).page=H0.page /\ (H.born1 p c).part=H0.part:=by rw [hb1];exact page_laidN _ _ _ _ _
 have hd1:(H.born1 p c).head=H.head /\ (H.born1 p c).word=H.word:=by
  rw [hb1]
  have:∀ i,(H0.laidN (H0.addr p) w n i).head=H0.head /\ (H0.laidN (H0.addr p) w n i).word=H0.word:=by
   intro i
   induction i with
   |zero=>exact ⟨rfl,rfl⟩
   |succ i ih=>exact ih
  rw [(this n).1,(this n).2,hH0];exact ⟨rfl,rfl⟩
 obtain ⟨H2,hH2⟩:∃ H2,H2=(H.born1 p c).setPage p { (H.born1 p c).page p with first:=0 }:=⟨_,rfl⟩
 have hB:H.born p c=H2.hung p c:=by rw [hH2];rfl
 have sm2:H2.Same H:=by rw [hH2];exact Heap.Same.trans (same_setPage _ _ _) sm1
 have pgp:H2.page p={ ({ plainP 4 0 with cls:=(c:Int) }:Page) with first:=0 }:=by
  rw [hH2];simp only [Heap.setPage,if_true];rw [pg1.1,hH0];simp only [Heap.setPage,if_true]
 have pgx:∀ x,x≠p -> H2.page x=H.page x:=by
  intro x hx
  rw [hH2];simp only [Heap.setPage,if_neg hx];rw [pg1.1,hH0];simp only [Heap.setPage,if_neg hx]
 have part2:H2.part=H.part:=by rw [hH2];show (H.born1 p c).part=_;rw [pg1.2,hH0];rfl
 have hnw:n*w <= 4096:=by rw [Nat.mul_comm,w1];exact Nat.le_refl _
 have hfit:∀ j,j<n -> j*w+8 <= 4096:=by
  intro j hj
  have:=Nat.mul_le_mul_right w (show j+1 <= n by omega)
  rw [Nat.add_mul] at this;omega
 have memx:∀ x,(x<4096*p \/ 4096*p+4096 <= x) -> (H.born p c).mem x=H.mem x:=by
  intro x hx
  have e1:(H.born p c).mem=(H.born1 p c).mem:=by
   rw [hB,hH2];simp only [Heap.hung,Heap.setPart];split <;> rfl
  rw [e1,hb1,laidN_mem H0 n hfit x hx,hH0];rfl
 have hlt:H.addr p+4096<18446744073709551616:=by
  have:=Go.Proofs.YtlgmpheammbacaaGreatDoor.addr_lt h.ok (p:=p+1) hp
  unfold Heap.addr at *;omega
 have smB:(H.born p c).Same H:=by rw [hB];exact Heap.Same.trans (same_hung _ _ _) sm2
 have w64B:∀ j,j<n -> (H.born p c).w64 (H.addr p+j*w)=if j+1=n then 0 else H.addr p+(j+1)*w:=by
  intro j hj
  have e1:(H.born p c).mem=(H0.laidN (H0.addr p) w n n).mem:=by
   rw [<- hb1,hB,hH2];simp only [Heap.hung,Heap.setPart];split <;> rfl
  have e2:(H.born p c).w64 (H.addr p+j*w)=(H0.laidN (H0.addr p) w n n).w64 (H.addr p+j*w):=by
   refine w64_ext ?_ fun i hi=>by rw [e1]
   rw [smB.base,(same_laidN H0 (H0.addr p) w n n).base,sm0.base]
  rw [e2]
  have:=laidN_w64 H0 (p:=p) (w:=w) (n:=n) w2 (by rw [ea0];omega) n (Nat.le_refl _) j hj
  rw [ea0] at this
  rw [ea0];exact this
 have crp:=core_hung H2 p c p
 have hkp:((H.born p c).page p).kind=4:=by rw [hB];exact crp.kind.trans (by rw [pgp];rfl)
 have hop:((H.born p c).page p).order=0:=by rw [hB];exact crp.order.trans (by rw [pgp];rfl)
 have hbw:∀ j,((H.born p c).page p).bw j=0:=by
  intro j
  rw [hB,crp.bw,pgp]
  unfold Page.bw
  split
  ·rfl
  ·split
   ·rfl
   ·split <;> rfl
 have hsl:SlOk (H.born p c) p c (List.range' 0 n):=by
  refine ⟨hc,by rw [hB];exact crp.cls.trans (by rw [pgp]),fun j=>by rw [hbw];omega,fun q hq=>?_,List.nodup_range',fun q hq=>?_,?_,?_,?_⟩
  ·rw [List.mem_range'_1] at hq;rw [<- hn];omega
  ·unfold Page.bit
   rw [hbw,if_pos (by rw [List.mem_range'_1];omega)];simp
  ·rw [List.length_range', <- hn,hB]
   have:((H2.hung p c).page p).live=0:=crp.live.trans (by rw [pgp];rfl)
   rw [this];omega
  ·rw [hB]
   have:((H2.hung p c).page p).first=0:=crp.first.trans (by rw [pgp])
   rw [this]
   obtain ⟨m,rfl⟩:∃ m,n=m+1:=⟨n-1,by omega⟩
   rw [List.range'_succ];rfl
  ·rw [<- hw]
   have:∀ m s,s+m=n -> CSeg (H.born p c) p w (List.range' s m):=by
    intro m
    induction m with
    |zero=>intro s _;trivial
    |succ m ih =>
     intro s hs
     rw [List.range'_succ]
     refine ⟨?_,ih (s+1) (by omega)⟩
     rw [smB.addr,w64B s (by omega)]
     cases m with
     |zero=>rw [if_pos (by omega)];rfl
     |succ m=>rw [if_neg (by omega),List.range'_succ]
   exact this n 0 (by omega)
 have crx:∀ x,x≠p -> Core (H.page x) ((H.born p c).page x):=by
  intro x hx
  have:=core_hung H2 p c x
  rw [pgx x hx] at this
  rw [hB];exact this
 have hPL2:∀ j,j<8 -> PL H2 j (pl j):=fun j hj=>(h.plk j hj).congr (by rw [part2]) fun x hx=>by
  have hxp:x≠p:=by
   rintro rfl
   have h4:=((h.pmem j hj x).1 hx).2.2.1
   have:=(g.all x rfl).2.2
   rw [if_pos (by simp [Nat.mod_one])] at this
   omega
  rw [pgx x hxp];exact ⟨rfl,rfl⟩
 refine ⟨?_,crx,smB,fun x hx i hi=>memx _ (by omega)⟩
 rw [<- hn]
 refine Inv.remade (p:=p) (c:=c) ho hp hh smB ?_ ?_ ?_ crx hkp hop (fun x hx i hi=>memx _ (by omega)) (fun x hx=>if_neg hx) (by rw [if_pos rfl];exact hsl) (fun j hj=>if_neg hj) ?_ (by rw [if_pos rfl];simp) ?_
 ·rw [hB,hH2,hb1]
  exact ok_hung (ok_setPage (ok_laidN (by rw [hH0];exact ok_setPage h.ok) _))
 ·rw [hB,hH2]
  have:∀ (G:Heap),(G.hung p c).head=G.head:=fun G=>by simp only [Heap.hung,Heap.setPart];split <;> rfl
  rw [this];exact hd1.1
 ·rw [hB,hH2]
  have:∀ (G:Heap),(G.hung p c).word=G.word:=fun G=>by simp only [Heap.hung,Heap.setPart];split <;> rfl
  rw [this];exact hd1.2
 ·intro x
  rw [if_pos rfl,if_pos rfl,hpl]
  constructor
  ·intro hx
   have hx':x=p:=by simpa using hx
   refine .inr ⟨hx',?_⟩
   obtain ⟨m,rfl⟩:∃ m,n=m+1:=⟨n-1,by omega⟩
   rw [List.range'_succ];simp
  ·rintro (f | f)
   ·cases f
   ·rw [f.1];simp
 ·intro j hj
  rw [hB]
  have hc0:=hPL2 c hc
  rw [hpl] at hc0
  by_cases ej:j=c
  ·subst ej
   rw [if_pos rfl]
   exact hc0.hang (by simp) (by simp)
  ·rw [if_neg ej]
   refine hc0.hang_other (hPL2 j hj) ej (fun hm=>?_) (fun x _=>by simp)
   have h4:=((h.pmem j hj p).1 hm).2.2.1
   have:=(g.all p rfl).2.2
   rw [if_pos (by simp [Nat.mod_one])] at this
   omega
end
noncomputable section
variable {σ:St} {A:Slot -> Nat} {H H':Heap} {fl pl fc:Nat -> List Nat} {hole hole':Nat -> Prop}
theorem Inv.hole_lt (h:Inv H fl pl fc hole) (e:∀ x,x<H.np -> (hole x↔hole' x)):Inv H fl pl fc hole' where
 ok:=h.ok
 pg x hx hn:=by
  obtain ⟨k,fam,q⟩:=h.pg x hx (fun c=>hn ((e x hx).1 c))
  refine ⟨k,fam,q.transfer rfl fun y hy=>⟨rfl,rfl,fun f=>(q.all y hy).1 ((e y (blk_lt q.le hx hy)).2 f)⟩⟩
 fmem k hk x:=by
  rw [h.fmem k hk x]
  constructor
  ·rintro ⟨a,b,d⟩;exact ⟨a,fun f=>b ((e x a).2 f),d⟩
  ·rintro ⟨a,b,d⟩;exact ⟨a,fun f=>b ((e x a).1 f),d⟩
 fnd:=h.fnd
 flk:=h.flk
 bits:=h.bits
 sl x hx hn:=h.sl x hx (fun c=>hn ((e x hx).1 c))
 pmem c hc x:=by
  rw [h.pmem c hc x]
  constructor
  ·rintro ⟨a,b,d⟩;exact ⟨a,fun f=>b ((e x a).2 f),d⟩
  ·rintro ⟨a,b,d⟩;exact ⟨a,fun f=>b ((e x a).1 f),d⟩
 pnd:=h.pnd
 plk:=h.plk
theorem rsz_np (H:Heap):H.rsz*H.regs=4096*H.np:=by
 have:=fin_np H
 unfold Heap.fin at this
 omega
theorem newW_bit {N k nwo i:Nat} {w:Nat -> Nat} (hi:i<64*((N / 2^(k+1)+63) / 64)):(newW N k nwo w (i / 64)).testBit (i%64)=(decide (i<N / 2^(k+1)) && (decide (i<64*nwo) && (w (i / 64)).testBit (i%64))):=by
 have hw:(if i / 64<nwo then w (i / 64) else 0).testBit (i%64)=(decide (i<64*nwo) && (w (i / 64)).testBit (i%64)):=by
  by_cases c:i / 64<nwo
  ·rw [if_pos c,decide_eq_true (show i<64*nwo by omega),Bool.true_and]
  ·rw [if_neg c,decide_eq_false (show ¬ i<64*nwo by omega),Bool.false_and,Nat.zero_testBit]
 unfold newW cutW
 generalize N / 2^(k+1)=n at hi ⊢
 by_cases c:n%64≠0 /\ i / 64=(n+63) / 64-1
 ·rw [if_pos c,Nat.testBit_mod_two_pow,hw]
  have:(i%64<n%64)↔i<n:=by omega
  rw [decide_eq_decide.2 this]
 ·rw [if_neg c,hw]
  have:i<n:=by omega
  rw [decide_eq_true this,Bool.true_and]
theorem Inv.more (h : Inv H fl pl fc (fun _ => False)) (hlt : H.regs < H.limit) : Inv H.more fl pl fc (fun x => H.np <= x) := by
  have hmn := more_np H
  have hpos := pow_pos' H.order
  have pgE : ∀ x, x < H.np -> H.more.page x = H.page x := fun x hx => if_pos hx
  have memE : ∀ x, x < H.np -> ∀ i, i < 4096 -> H.more.mem (4096 * x + i) = H.mem (4096 * x + i) := fun x hx i hi => if_pos (by rw [rsz_np]; omega)
  exact {
    ok := ok_more h.ok hlt
    pg := by
      intro x hx hn
      have hx0 : x < H.np := by omega
      obtain ⟨k, fam, q⟩ := h.pg x hx0 (fun e => e)
      refine ⟨k, fam, q.transfer rfl fun y hy => ?_⟩
      have hy0 := blk_lt q.le hx0 hy
      rw [pgE y hy0]; exact ⟨rfl, rfl, by omega⟩
    fmem := by
      intro k hk x
      rw [h.fmem k hk x, hmn]
      constructor
      · rintro ⟨a, b, d⟩; rw [pgE x a]; exact ⟨by omega, by omega, d⟩
      · rintro ⟨a, b, d⟩
        have hx : x < H.np := by omega
        rw [pgE x hx] at d
        exact ⟨hx, fun e => e, d⟩
    fnd := h.fnd
    flk := fun k hk => FL.other (h.flk k hk) rfl rfl fun x hx => memE x ((h.fmem k hk x).1 hx).1
    bits := by
      intro k hk i hi
      have hk' : k < H.order := hk
      have hN : (H.regs + 1) * 2 ^ H.order = H.np + 2 ^ H.order := hmn
      have hi' : i < 64 * (((H.regs + 1) * 2 ^ H.order / 2 ^ (k + 1) + 63) / 64) := hi
      have e : H.more.pbit k i = (decide (i < (H.regs + 1) * 2 ^ H.order / 2 ^ (k + 1)) && (decide (i < 64 * H.nw k) && H.pbit k i)) := by
        rw [pbit_eq, pbit_eq]
        exact newW_bit hi'
      rw [e, hN]
      have hp := pow_pos' k
      obtain ⟨m, hm⟩ := np_dvd H (k := k + 1) hk'
      have hpp := pow_pos' (k + 1)
      have hnp : H.npair k = m := by unfold Heap.npair; rw [hm, Nat.mul_div_cancel_left _ hpp]
      have e1 : 2 * i * 2 ^ k = 2 ^ (k + 1) * i := by rw [Nat.pow_succ, Nat.mul_comm 2 i, Nat.mul_assoc, Nat.mul_comm, Nat.mul_comm 2]
      have e2 : (2 * i + 1) * 2 ^ k = 2 ^ (k + 1) * i + 2 ^ k := by rw [Nat.add_mul, e1, Nat.one_mul]
      by_cases c : i < m
      · have c1 : i < (H.np + 2 ^ H.order) / 2 ^ (k + 1) := by
          refine (Nat.le_div_iff_mul_le hpp).2 ?_
          have : 2 ^ (k + 1) * (i + 1) <= 2 ^ (k + 1) * m := Nat.mul_le_mul_left _ c
          rw [<- hm, Nat.mul_comm] at this
          exact Nat.le_trans this (Nat.le_add_right _ _)
        have c2 : i < 64 * H.nw k := by unfold Heap.nw; rw [hnp]; omega
        rw [decide_eq_true c1, decide_eq_true c2, Bool.true_and, Bool.true_and]
        exact h.bits k hk' i c2
      · have h1 : H.np <= 2 ^ (k + 1) * i := by rw [hm]; exact Nat.mul_le_mul_left _ (by omega)
        have n1 : 2 * i * 2 ^ k ∉ fl k := fun hm' => by
          have := ((h.fmem k (by omega) _).1 hm').1
          rw [e1] at this; omega
        have n2 : (2 * i + 1) * 2 ^ k ∉ fl k := fun hm' => by
          have := ((h.fmem k (by omega) _).1 hm').1
          rw [e2] at this; omega
        rw [decide_eq_false n1, decide_eq_false n2]
        refine ⟨?_, fun e => n1 e.1⟩
        by_cases c2 : i < 64 * H.nw k
        · have := (h.bits k hk' i c2).1
          rw [decide_eq_false n1, decide_eq_false n2] at this
          rw [this]; simp
        · rw [decide_eq_false c2]; simp
    sl := by
      intro x hx hn hk
      have hx0 : x < H.np := by omega
      rw [pgE x hx0] at hk
      obtain ⟨c, s⟩ := h.sl x hx0 (fun e => e) hk
      exact ⟨c, s.transfer rfl (by rw [pgE x hx0]; exact Core.refl _) (memE x hx0)⟩
    pmem := by
      intro c hc x
      rw [h.pmem c hc x, hmn]
      constructor
      · rintro ⟨a, b, d⟩; rw [pgE x a]; exact ⟨by omega, by omega, d⟩
      · rintro ⟨a, b, d⟩
        have hx : x < H.np := by omega
        rw [pgE x hx] at d
        exact ⟨hx, fun e => e, d⟩
    pnd := h.pnd
    plk := fun c hc => (h.plk c hc).congr rfl fun x hx => by
      rw [pgE x ((h.pmem c hc x).1 hx).1]; exact ⟨rfl, rfl⟩ }
def _root_.AM.Heap.fed (H:Heap):Heap:=H.more.enter H.np H.order
theorem run_run (H:Heap) (p k:Nat) (a b:Int):(H.run p k a).run p k b=H.run p k b:=by
 have e:((H.run p k a).run p k b).page=(H.run p k b).page:=by
  funext x
  rw [run_page,run_page,run_page]
  by_cases c:p <= x /\ x<p+2^k
  ·rw [if_pos c,if_pos c]
  ·rw [if_neg c,if_neg c,if_neg c]
 show { H with page:=((H.run p k a).run p k b).page }={ H with page:=(H.run p k b).page }
 rw [e]
theorem run_enter (H:Heap) (p k:Nat) (a:Int):(H.run p k a).enter p k=H.enter p k:=by
 show (((H.run p k a).run p k 0).pushed k (H.addr p))=(H.run p k 0).pushed k (H.addr p)
 rw [run_run]
structure Grew (H H':Heap):Prop where
 base:H'.base=H.base
 order:H'.order=H.order
 limit:H'.limit=H.limit
 regs:H'.regs=H.regs+1
 part:H'.part=H.part
 lock:H'.lock=H.lock
 held:∀ x,x<H.np -> ¬ IsFr H x -> H'.page x=H.page x /\ ∀ i,i<4096 -> H'.mem (4096*x+i)=H.mem (4096*x+i)
 free:∀ x,x<H.np -> IsFr H x -> IsFr H' x
 new:∀ x,H.np <= x -> x<H.np+2^H.order -> IsFr H' x
theorem Grew.np (h:Grew H H'):H'.np=H.np+2^H.order:=by
 unfold Heap.np;rw [h.regs,h.order,Nat.add_mul,Nat.one_mul]
theorem Grew.addr (h:Grew H H') (x:Nat):H'.addr x=H.addr x:=by unfold Heap.addr;rw [h.base]
theorem Inv.fed (h:Inv H fl pl fc (fun _=>False)) (hlt:H.regs<H.limit) :
  Inv H.fed (fun j=>if j=H.order then H.np :: fl H.order else fl j) pl fc (fun _=>False) /\ Grew H H.fed:=by
 have hm:=h.more hlt
 have hmn:=more_np H
 have hpos:=pow_pos' H.order
 have al:H.np%2^H.order=0:=by unfold Heap.np;exact Nat.mul_mod_left _ _
 have ht:H.more.turned H.np H.order=H.more:=by unfold Heap.turned;exact if_pos rfl
 have hb:∀ x,x / 2^H.order=H.np / 2^H.order -> H.np <= x:=fun x hx=>((blk_iff al).1 hx).1
 have he:=hm.entered (p:=H.np) (k:=H.order) (Nat.le_refl _) al (by rw [hmn];exact Nat.le_refl _) hb (fun e=>absurd e (Nat.lt_irrefl _))
 have hk:=hm.keep_entered (p:=H.np) (k:=H.order) (Nat.le_refl _) al hb
 have hpg:=entered_page H.more (p:=H.np) (k:=H.order) al
 rw [ht] at he hk hpg
 have sm:=hk.same
 refine ⟨?_,⟨sm.base,sm.order,sm.limit,sm.regs,hk.part,hk.lock,fun x hx hf=>?_,fun x hx hf=>?_,fun x h1 h2=>?_⟩⟩
 ·refine he.hole_lt fun x hx=>?_
  rw [sm.np,hmn] at hx
  rw [blk_iff al]
  constructor
  ·rintro ⟨a,b⟩;exact (b ⟨a,hx⟩).elim
  ·intro e;exact e.elim
 ·have e1:H.more.page x=H.page x:=if_pos hx
  obtain ⟨a,b⟩:=hk.held x (by omega) (by omega) (by unfold IsFr at hf ⊢;rw [e1];exact hf)
  exact ⟨a.trans e1,fun i hi=>(b i hi).trans (if_pos (by rw [rsz_np];omega))⟩
 ·have e1:H.more.page x=H.page x:=if_pos hx
  exact hk.free x (by omega) (by omega) (by unfold IsFr at hf ⊢;rw [e1];exact hf)
 ·unfold IsFr
  have e:=hpg x
  rw [if_pos ((blk_iff al).2 ⟨h1,h2⟩)] at e
  show ((H.more.enter H.np H.order).page x).kind=0 \/ ((H.more.enter H.np H.order).page x).kind=1
  rw [e]
  by_cases d:x=H.np
  ·rw [if_pos d];exact .inl rfl
  ·rw [if_neg d];exact .inr rfl
def _root_.AM.Heap.fst (H:Heap):Nat -> Nat -> Option Nat
 |_,0=>none
 |k,n+1=>if H.head k≠0 then some k else fst H (k+1) n
theorem fst_none {H:Heap}:∀ {n k:Nat},H.fst k n=none -> ∀ j,k <= j -> j<k+n -> H.head j=0
 | 0,k,h,j,h1,h2=>by omega
 |n+1,k,h,j,h1,h2=>by
  rw [Heap.fst] at h
  by_cases c:H.head k≠0
  ·rw [if_pos c] at h;cases h
  ·rw [if_neg c] at h
   by_cases e:j=k
   ·subst e;simpa using c
   ·exact fst_none h j (by omega) (by omega)
theorem fst_some {H:Heap}:∀ {n k j:Nat},H.fst k n=some j -> k <= j /\ j<k+n /\ H.head j≠0 /\ ∀ i,k <= i -> i<j -> H.head i=0
 | 0,k,j,h=>by cases h
 |n+1,k,j,h=>by
  rw [Heap.fst] at h
  by_cases c:H.head k≠0
  ·rw [if_pos c,Option.some.injEq] at h
   subst h
   exact ⟨Nat.le_refl _,by omega,c,fun i h1 h2=>by omega⟩
  ·rw [if_neg c] at h
   obtain ⟨a,b,d,e⟩:=fst_some h
   refine ⟨by omega,by omega,d,fun i h1 h2=>?_⟩
   by_cases e2:i=k
   ·subst e2;simpa using c
   ·exact e i (by omega) h2
def _root_.AM.Heap.takeF (H:Heap) (k:Nat):Option (Heap × Nat) :=
 (H.fst k (H.order+1-k)).map fun j=>(H.took k j ((H.head j-H.base) / 4096) (H.w64 (H.head j)),(H.head j-H.base) / 4096)
structure Took (H H':Heap) (k p:Nat):Prop where
 same:H'.Same H
 part:H'.part=H.part
 lock:H'.lock=H.lock
 al:p%2^k=0
 le:p+2^k <= H.np
 was:∀ x,x / 2^k=p / 2^k -> IsFr H x
 is:∀ x,x / 2^k=p / 2^k -> H'.page x=if x=p then plainP 2 k else plainP (2+1) k
 held:∀ x,x<H.np -> ¬ IsFr H x -> H'.page x=H.page x /\ ∀ i,i<4096 -> H'.mem (4096*x+i)=H.mem (4096*x+i)
 free:∀ x,x<H.np -> IsFr H x -> ¬ x / 2^k=p / 2^k -> IsFr H' x
theorem Inv.takeF (h:Inv H fl pl fc (fun _=>False)) {k:Nat} (hk:k <= H.order) {p:Nat} (ht:H.takeF k=some (H',p)):(∃ fl',Inv H' fl' pl fc (fun _=>False)) /\ Took H H' k p:=by
 unfold Heap.takeF at ht
 cases hf:H.fst k (H.order+1-k) with
 |none=>rw [hf] at ht;cases ht
 |some j =>
  rw [hf] at ht
  simp only [Option.map_some,Option.some.injEq,Prod.mk.injEq] at ht
  obtain ⟨h1,h2,h3,h4⟩:=fst_some hf
  have hfl:=h.flk j (by omega)
  cases e0:fl j with
  |nil=>rw [e0] at hfl;exact (h3 hfl.1).elim
  |cons q r =>
   rw [e0] at hfl
   have hh:H.head j=H.addr q:=hfl.1
   have hq:(H.head j-H.base) / 4096=q:=by rw [hh];unfold Heap.addr;omega
   obtain ⟨i1,i2,i3,i4,i5,i6,i7,i8,i9⟩:=h.took h1 (by omega) e0
   have hw:H.w64 (H.head j)=hdE H r 0:=by rw [hh];exact i9.next
   rw [hq,hw] at ht
   obtain ⟨rfl,rfl⟩:=ht
   have hle:2^k <= 2^j:=Nat.pow_le_pow_right (by omega) h1
   have alk:q%2^k=0:=Nat.mod_eq_zero_of_dvd (Nat.dvd_trans (Nat.pow_dvd_pow 2 h1) (Nat.dvd_of_mod_eq_zero i3))
   have sub:∀ x,x / 2^k=q / 2^k -> x / 2^j=q / 2^j:=fun x hx=>by rw [blk_iff alk] at hx;rw [blk_iff i3];omega
   refine ⟨i1,i2.same,i2.part,i2.lock,alk,by omega,fun x hx=>i5 x (sub x hx),i7,fun x hx hf=>?_,fun x hx hf hn=>?_⟩
   ·exact i2.held x hx (fun e=>hf (i5 x e)) hf
   ·by_cases c:x / 2^j=q / 2^j
    ·exact i6 x c hn
    ·exact i2.free x hx c hf
theorem r_TakeF (hR:HRep σ A H) (h:Inv H fl pl fc (fun _=>False)) {k:Nat} (hk:k <= H.order) :
  Runs G0 [] 248 [.ptr (some (A .buddy,0)),.int .i64 k] σ fun r s=>(H.takeF k=none /\ s=σ /\ r=.tuple [.int .u64 0,.int .i64 2]) \/ ∃ H' p,H.takeF k=some (H',p) /\ HRep s A H' /\ r=.tuple [.int .u64 (H.addr p),.int .i64 0]:=by
 cases hf:H.fst k (H.order+1-k) with
 |none =>
  refine (r_Take0 hR h.ok hk fun j h1 h2=>fst_none hf j h1 (by omega)).mono ?_
  rintro v s ⟨a,b⟩
  refine .inl ⟨?_,b,a⟩
  unfold Heap.takeF;rw [hf];rfl
 |some j =>
  obtain ⟨h1,h2,h3,h4⟩:=fst_some hf
  have hfl:=h.flk j (by omega)
  cases e0:fl j with
  |nil=>rw [e0] at hfl;exact (h3 hfl.1).elim
  |cons q r =>
   rw [e0] at hfl
   have hh:H.head j=H.addr q:=hfl.1
   have hq:(H.head j-H.base) / 4096=q:=by rw [hh];unfold Heap.addr;omega
   obtain ⟨i1,i2,i3,i4,i5,i6,i7,i8,i9⟩:=h.took h1 (by omega) e0
   have hw:H.w64 (H.head j)=hdE H r 0:=by rw [hh];exact i9.next
   refine (r_Take hR h.ok (k:=k) (j:=j) (p:=q) (nx:=hdE H r 0) h1 (by omega) h4 hh i4 i3 i9 i8).mono ?_
   rintro v s ⟨a,b⟩
   refine .inr ⟨_,_,?_,a,b⟩
   unfold Heap.takeF
   rw [hf]
   simp only [Option.map_some,hq,hw]
def _root_.AM.Heap.needF (H:Heap) (k:Nat) (deny:Bool):Heap × Option Nat :=
 match H.takeF k with
 |some x=>(x.1,some x.2)
 |none=>if deny=true \/ H.regs=H.limit then (H,none) else match H.fed.takeF k with
  |some x=>(x.1,some x.2)
  |none=>(H.fed,none)
def Stay (A A':Slot -> Nat):Prop:=∀ t,(∀ i,t≠.reg i) -> t≠.parts -> (∀ k,t≠.words k) -> t≠.pages -> A' t=A t
theorem Stay.refl (A:Slot -> Nat):Stay A A:=fun _ _ _ _ _=>rfl
theorem r_NeedF (hR:HRep σ A H) (h:Inv H fl pl fc (fun _=>False)) {k:Nat} (hk:k <= H.order) (d:Bool) :
  Runs G0 [] 205 [.ptr (some (A .pool,0)),.int .i64 k,.bool d] σ fun r s=>(∃ A',Stay A A' /\ HRep s A' (H.needF k d).1) ∧
   match (H.needF k d).2 with
   |some p=>∃ g,r=.tuple [.int .u64 (H.addr p),.bool g,.int .i64 0]
   |none=>r=.tuple [.int .u64 0,.bool false,.int .i64 2]:=by
 obtain ⟨v,s1,ht,hr⟩:=r_TakeF hR h hk
 rcases ht with ⟨t1,rfl,rfl⟩ | ⟨H',p,t1,R1,rfl⟩
 ·unfold Heap.needF
  rw [t1]
  simp only
  by_cases c:d=true \/ H.regs=H.limit
  ·rw [if_pos c]
   obtain ⟨v,s2,⟨rfl,rfl⟩,hr2⟩:=r_CommitE hR h.ok c
   refine (r_NeedE (P:=fun s=>s=s2) hR (e:=2) (x:=0) (by decide) ⟨_,_,⟨rfl,rfl⟩,hr⟩ ⟨_,_,⟨rfl,rfl⟩,hr2⟩).mono ?_
   rintro v s ⟨rfl,rfl⟩
   exact ⟨⟨A,Stay.refl A,hR⟩,rfl⟩
  ·rw [if_neg c]
   have hd:d=false:=by cases d;rfl;exact (c (.inl rfl)).elim
   subst hd
   have hlt:H.regs<H.limit:=by have:=h.ok.regs_le;omega
   obtain ⟨hf,gr⟩:=h.fed hlt
   have hk2:k <= H.fed.order:=by rw [gr.order];exact hk
   have hsome:∃ x,H.fed.takeF k=some x:=by
    cases hx:H.fed.takeF k with
    |some x=>exact ⟨x,rfl⟩
    |none =>
     unfold Heap.takeF at hx
     rw [Option.map_eq_none_iff] at hx
     have:=fst_none hx H.order (by omega) (by rw [gr.order];omega)
     have hfl:=hf.flk H.order (by rw [gr.order];exact Nat.le_refl _)
     rw [if_pos rfl] at hfl
     have h1:H.fed.head H.order=H.fed.addr H.np:=hfl.1
     rw [this] at h1
     exact absurd h1.symm (addr_ne0 (by rw [gr.base];exact h.ok.base_pos) _)
   obtain ⟨⟨H2,p⟩,hx⟩:=hsome
   rw [hx]
   simp only
   have hP:=r_NeedG (k:=.int .i64 k) (d:=.bool false) (a:=(H.addr p:Nat)) (x:=(H.fin:Nat)) (m:=A .map) (P:=fun s=>∃ A',Stay A A' /\ HRep s A' H2) hR ⟨_,_,⟨rfl,rfl⟩,hr⟩ ?_
   ·refine hP.mono ?_
    rintro v s ⟨a,rfl⟩
    exact ⟨a,⟨_,rfl⟩⟩
   ·refine (r_Commit hR h.ok hlt).mono ?_
    rintro v s ⟨⟨A1,R1,hA1⟩,rfl⟩
    refine ⟨⟨?_,?_⟩,rfl⟩
    ·have:=R1.cell_at (s:=.pool) (.inl trivial) (i:=1) (show 1<3 by omega)
     rw [hA1 .pool (by simp) (by simp)] at this
     rw [this,show comCell H A1 .pool 1=.ptr (some (A1 .map,0)) from rfl,hA1 .map (by simp) (by simp)]
    ·have hg:=r_Grow h.ok hlt R1
     rw [hA1 .map (by simp) (by simp)] at hg
     refine hg.mono ?_
     rintro v s2 ⟨⟨A2,R2,hA2⟩,rfl⟩
     have st:Stay A A2:=fun t a b c d=>(hA2 t c d).trans (hA1 t (a _) b)
     have stp:=st .pool (by simp) (by simp) (by simp) (by simp)
     have stb:=st .buddy (by simp) (by simp) (by simp) (by simp)
     have c1:s2.cell (A .pool) 2=some (.ptr (some (A .buddy,0))):=by
      have:=pool_buddy R2
      rw [stp,stb] at this;exact this
     refine ⟨c1,?_⟩
     have hm:=h.more hlt
     have hmn:=more_np H
     have okm:=ok_run (p:=H.np) (k:=H.order) (kind:=2) hm.ok
     have al:H.np%2^H.order=0:=by unfold Heap.np;exact Nat.mul_mod_left _ _
     have hpos:=pow_pos' H.order
     have hnp2:(H.more.run H.np H.order 2).np=H.np+2^H.order:=hmn
     have htop:(H.more.run H.np H.order 2).np-2^(H.more.run H.np H.order 2).order=H.np:=by
      rw [hnp2];show H.np+2^H.order-2^H.order=H.np;omega
     have hkd:=run_kind (H:=H.more) (kind:=2) al (x:=H.np) rfl
     rw [if_pos al] at hkd
     have hpush:(H.more.run H.np H.order 2).PushOk (H.more.run H.np H.order 2).order:=by
      have hfl:FL (H.more.run H.np H.order 2) H.order (fl H.order):=FL.pages (hm.flk H.order (Nat.le_refl _))
      refine hfl.pushOk fun q hq=>In_addr okm ?_ (by omega)
      have:=((hm.fmem H.order (Nat.le_refl _) q).1 hq).1
      exact this
     have hfd:=r_Feed R2 okm (show 0<H.regs+1 by omega) (by rw [htop];exact hkd.2) (by rw [htop];exact hkd.1) hpush
     rw [htop,stb] at hfd
     refine hfd.mono ?_
     rintro v s3 ⟨R3,rfl⟩
     have R3':HRep s3 A2 H.fed:=by
      have e:(H.more.run H.np H.order 2).enter H.np (H.more.run H.np H.order 2).order=H.fed:=run_enter H.more H.np H.order 2
      rw [<- e];exact R3
     refine ⟨?_,?_⟩
     ·have:=pool_buddy R3'
      rw [stp,stb] at this;exact this
     ·obtain ⟨v,s4,ht4,hr4⟩:=r_TakeF R3' hf hk2
      rw [stb] at hr4
      rcases ht4 with ⟨t4,_,_⟩ | ⟨H3,p3,t4,R4,hv⟩
      ·rw [hx] at t4;cases t4
      ·rw [hx,Option.some.injEq,Prod.mk.injEq] at t4
       obtain ⟨rfl,rfl⟩:=t4
       rw [gr.addr] at hv
       exact ⟨v,s4,⟨⟨A2,st,R4⟩,hv⟩,hr4⟩
 ·unfold Heap.needF
  rw [t1]
  simp only
  refine (r_Need (P:=fun s=>HRep s A H') hR (e:=0) (by decide) ⟨_,_,⟨R1,rfl⟩,hr⟩).mono ?_
  rintro v s ⟨a,rfl⟩
  exact ⟨⟨A,Stay.refl A,a⟩,⟨_,rfl⟩⟩
end
noncomputable section
variable {σ:St} {A:Slot -> Nat} {H H':Heap} {fl pl fc:Nat -> List Nat} {hole hole':Nat -> Prop}
def _root_.AM.Heap.nextF (H:Heap) (p c f:Nat):Int:=if H.w64 (H.addr p+f*(16*2^c))=0 then -1 else (((H.w64 (H.addr p+f*(16*2^c))-H.addr p) / (16*2^c):Nat):Int)
def _root_.AM.Heap.stakeF (H:Heap) (c:Nat) (deny:Bool):Heap × Option (Nat × Nat) :=
 if 0 <= H.part c then (H.taken (H.part c).toNat c (H.page (H.part c).toNat).first.toNat (H.nextF (H.part c).toNat c (H.page (H.part c).toNat).first.toNat),some ((H.part c).toNat,(H.page (H.part c).toNat).first.toNat))
 else match (H.needF 0 deny).2 with
  |some p=>(((H.needF 0 deny).1.born p c).taken p c 0 1,some (p,0))
  |none=>((H.needF 0 deny).1,none)
theorem Inv.nextF (h:Inv H fl pl fc hole) {p c f:Nat} {r:List Nat} (hc:c<8) (hp:p∈pl c) (hf:fc p=f :: r):H.nextF p c f=hdI r (-1):=by
 obtain ⟨h1,h2,h3,h4,h5⟩:=(h.pmem c hc p).1 hp
 have s:=h.slab h1 h2 h3 h4
 rw [hf] at s
 have hs:=s.seg.1
 have hw:=(w8 hc).2.1
 unfold Heap.nextF
 cases r with
 |nil=>rw [if_pos hs];rfl
 |cons q r =>
  have h0:H.w64 (H.addr p+f*(16*2^c))=H.addr p+q*(16*2^c):=hs
  have ha:=addr_ne0 h.ok.base_pos p
  rw [h0,if_neg (by omega),Nat.add_sub_cancel_left,Nat.mul_div_cancel _ (by omega)];rfl
theorem Inv.head_page (h:Inv H fl pl fc (fun _=>False)) {c:Nat} (hc:c<8) (hp:0 <= H.part c):∃ (p f:Nat) (r:List Nat),H.part c=(p:Int) /\ p∈pl c /\ fc p=f :: r /\ (H.page p).first=(f:Int) /\ p<H.np /\ (H.page p).kind=4 /\ (H.page p).cls=(c:Int):=by
 have hpl:=h.plk c hc
 cases hl:pl c with
 |nil=>rw [hl] at hpl;have h0:H.part c=-1:=hpl.1;omega
 |cons p l =>
  rw [hl] at hpl
  have h0:H.part c=(p:Int):=hpl.1
  have hm:p∈pl c:=by rw [hl];simp
  obtain ⟨h1,h2,h3,h4,h5⟩:=(h.pmem c hc p).1 hm
  cases hf:fc p with
  |nil=>exact (h5 hf).elim
  |cons f r =>
   have s:=h.slab h1 h2 h3 h4
   rw [hf] at s
   exact ⟨p,f,r,h0,by rw [<- hl];exact hm,hf,s.first,h1,h3,h4⟩
theorem Inv.no_page (h:Inv H fl pl fc hole) {c:Nat} (hc:c<8) (hp:¬ 0 <= H.part c):H.part c=-1 /\ pl c=[]:=by
 have hpl:=h.plk c hc
 cases hl:pl c with
 |nil=>rw [hl] at hpl;exact ⟨hpl.1,rfl⟩
 |cons p l=>rw [hl] at hpl;have h0:H.part c=(p:Int):=hpl.1;omega
inductive Needed (H:Heap) (k:Nat) (deny:Bool):Heap -> Option Nat -> Prop where
 |old {H':Heap} {p:Nat}:H.takeF k=some (H',p) -> Took H H' k p -> Needed H k deny H' (some p)
 |grew {H':Heap} {p:Nat}:H.takeF k=none -> deny=false -> H.regs<H.limit -> Grew H H.fed -> Took H.fed H' k p -> Needed H k deny H' (some p)
 |none:H.takeF k=Option.none -> (deny=true \/ H.regs=H.limit) -> Needed H k deny H Option.none
theorem Inv.needF (h:Inv H fl pl fc (fun _=>False)) {k:Nat} (hk:k <= H.order) (d:Bool):Needed H k d (H.needF k d).1 (H.needF k d).2 /\ ∃ fl',Inv (H.needF k d).1 fl' pl fc (fun _=>False):=by
 unfold Heap.needF
 cases ht:H.takeF k with
 |some x =>
  obtain ⟨H',p⟩:=x
  obtain ⟨i1,i2⟩:=h.takeF hk ht
  exact ⟨.old ht i2,i1⟩
 |none =>
  simp only
  by_cases c:d=true \/ H.regs=H.limit
  ·rw [if_pos c];exact ⟨.none ht c,fl,h⟩
  ·rw [if_neg c]
   have hd:d=false:=by cases d;rfl;exact (c (.inl rfl)).elim
   have hlt:H.regs<H.limit:=by have:=h.ok.regs_le;omega
   obtain ⟨hf,gr⟩:=h.fed hlt
   cases hx:H.fed.takeF k with
   |none =>
    unfold Heap.takeF at hx
    rw [Option.map_eq_none_iff] at hx
    have:=fst_none hx H.order (by omega) (by rw [gr.order];omega)
    have hfl:=hf.flk H.order (by rw [gr.order];exact Nat.le_refl _)
    rw [if_pos rfl] at hfl
    have h1:H.fed.head H.order=H.fed.addr H.np:=hfl.1
    rw [this] at h1
    exact absurd h1.symm (addr_ne0 (by rw [gr.base];exact h.ok.base_pos) _)
   |some x =>
    obtain ⟨H',p⟩:=x
    obtain ⟨i1,i2⟩:=hf.takeF (by rw [gr.order];exact hk) hx
    exact ⟨.grew ht hd hlt gr i2,i1⟩
theorem Needed.base {k:Nat} {d:Bool} {H':Heap} {o:Option Nat} (h:Needed H k d H' o):H'.base=H.base /\ H'.order=H.order /\ H'.limit=H.limit /\ H'.part=H.part /\ H'.lock=H.lock /\ ∀ p,o=some p -> p+2^k <= H'.np:=by
 cases h with
 |old _ t=>exact ⟨t.same.base,t.same.order,t.same.limit,t.part,t.lock,fun p e=>by cases e;rw [t.same.np];exact t.le⟩
 |grew _ _ _ g t=>exact ⟨t.same.base.trans g.base,t.same.order.trans g.order,t.same.limit.trans g.limit,t.part.trans g.part,t.lock.trans g.lock,fun p e=>by cases e;rw [t.same.np];exact t.le⟩
 |none _ _=>exact ⟨rfl,rfl,rfl,rfl,rfl,fun p e=>by cases e⟩
theorem Needed.is {k p:Nat} {d:Bool} {H':Heap} (h:Needed H k d H' (some p)):p%2^k=0 /\ ∀ x,x / 2^k=p / 2^k -> H'.page x=if x=p then plainP 2 k else plainP (2+1) k:=by
 cases h with
 |old _ t=>exact ⟨t.al,t.is⟩
 |grew _ _ _ g t=>exact ⟨t.al,t.is⟩
theorem Needed.page0 {p:Nat} {d:Bool} {H':Heap} (h:Needed H 0 d H' (some p)) (hi:Inv H' fl pl fc (fun _=>False)):p<H'.np /\ PgOk H' (fun _=>False) p 0 2:=by
 have h1:=h.base.2.2.2.2.2 p rfl
 have hp:p<H'.np:=by have:(2:Nat)^0=1:=rfl;omega
 obtain ⟨k,fam,g⟩:=hi.pg p hp (fun e=>e)
 have e:=h.is.2 p rfl
 rw [if_pos rfl] at e
 have hk:k=0:=by
  have h2:=g.order
  rw [e] at h2
  have h3:(0:Int)=(k:Int):=h2
  omega
 subst hk
 obtain ⟨rfl,_⟩:=g.two (by rw [e];rfl)
 exact ⟨hp,g⟩
theorem r_STakeF (hR:HRep σ A H) (h:Inv H fl pl fc (fun _=>False)) {c:Nat} (hc:c<8) (d:Bool) :
  Runs G0 [] 203 [.ptr (some (A .slab,0)),.int .i64 c,.bool d] σ fun r s=>(∃ A',Stay A A' /\ HRep s A' (H.stakeF c d).1) ∧
   match (H.stakeF c d).2 with
   |some x=>∃ g,r=.tuple [.int .u64 (H.addr x.1+x.2*(16*2^c):Nat),.bool g,.int .i64 0]
   |none=>r=.tuple [.int .u64 0,.bool false,.int .i64 2]:=by
 unfold Heap.stakeF
 by_cases hp:0 <= H.part c
 ·rw [if_pos hp]
  obtain ⟨p,f,r,h0,hm,hf,hfi,_⟩:=h.head_page hc hp
  have e1:(H.part c).toNat=p:=by omega
  have e2:(H.page p).first.toNat=f:=by omega
  rw [e1,e2,h.nextF hc hm hf]
  refine (r_STake hR h.ok h0 (h.takeOk hc hm hf)).mono ?_
  rintro v s ⟨a,rfl⟩
  exact ⟨⟨A,Stay.refl A,a⟩,⟨_,rfl⟩⟩
 ·rw [if_neg hp]
  obtain ⟨h0,hl⟩:=h.no_page hc hp
  obtain ⟨hN,fl',hI⟩:=h.needF (Nat.zero_le _) d
  have hrun:=r_NeedF hR h (Nat.zero_le H.order) d
  cases ho:(H.needF 0 d).2 with
  |none =>
   rw [ho] at hrun
   simp only at hrun ⊢
   have hrun':Runs G0 [] 205 [.ptr (some (A .pool,0)),.int .i64 0,.bool d] σ fun r s=>(∃ A',Stay A A' /\ HRep s A' (H.needF 0 d).1) /\ r=.tuple [.int .u64 (0:Nat),.bool false,.int .i64 2]:=hrun
   exact r_STakeE (x:=0) hR h.ok hc h0 (by decide) hrun'
  |some p =>
   rw [ho] at hrun hN
   simp only at hrun ⊢
   obtain ⟨v,s,⟨⟨A',st,R'⟩,g,rfl⟩,hr⟩:=hrun
   have hb:=hN.base
   obtain ⟨hpn,gp⟩:=hN.page0 hI
   have ea:(H.needF 0 d).1.addr p=H.addr p:=by unfold Heap.addr;rw [hb.1]
   have hborn:=hI.born hpn hc gp hl
   obtain ⟨i1,i2,i3,i4⟩:=hborn
   have w4:=(w8 hc).2.2.2.1
   have hpm:p∈(fun j=>if j=c then [p] else pl j) c:=by simp
   have hfc:(fun x=>if x=p then List.range' 0 (256 / 2^c) else fc x) p=0 :: List.range' 1 (256 / 2^c-1):=by
    simp only [if_true]
    obtain ⟨m,hm⟩:∃ m,256 / 2^c=m+1:=⟨256 / 2^c-1,by omega⟩
    rw [hm,List.range'_succ];rfl
   have hto:=i1.takeOk hc hpm hfc
   have hh1:hdI (List.range' 1 (256 / 2^c-1)) (-1)=1:=by
    obtain ⟨m,hm⟩:∃ m,256 / 2^c=m+2:=⟨256 / 2^c-2,by omega⟩
    rw [hm,show m+2-1=m+1 by omega,List.range'_succ];rfl
   rw [hh1] at hto
   refine (r_STakeN (A':=A') (H':=(H.needF 0 d).1) (f:=0) (nf:=1) hR hc h0 (st .slab (by simp) (by simp) (by simp) (by simp)) hI.ok hpn (by rw [hb.2.2.2.1];exact h0) (g:=g) ⟨_,s,⟨R',by rw [ea]⟩,hr⟩ hto i1.ok (i3.addr p)).mono ?_
   rintro v s ⟨a,rfl⟩
   exact ⟨⟨A',st,a⟩,⟨_,by rw [ea]⟩⟩
def _root_.AM.Heap.sgiveF (H:Heap) (p c q:Nat):Heap:=if (H.page p).live=1 then (H.emptied p c q).giveM (H.emptied p c q).order p 0 else H.given p c q
theorem r_SGiveF (hR:HRep σ A H) (h:Inv H fl pl fc (fun _=>False)) {p c q:Nat} (hp:p<H.np) (hk:(H.page p).kind=4) (hcls:(H.page p).cls=(c:Int)) (hq:q<256 / 2^c) (hb:(H.page p).bit q=1) :
  Runs G0 [] 173 [.ptr (some (A .slab,0)),.int .u64 (H.addr p+q*(16*2^c):Nat)] σ fun r s=>HRep s A (H.sgiveF p c q) /\ r=.int .i64 0:=by
 refine r_SGive hR h.ok (h.giveOk hp (fun e=>e) hk hcls hq hb) (fun hl s R=>?_) (fun hl s R=>?_)
 ·obtain ⟨⟨pl',hI⟩,e1,e2,e3,e4⟩:=h.emptied hp (fun e=>e) hk hcls hq hb hl
  unfold Heap.sgiveF
  rw [if_pos hl]
  refine r_PGive R ?_
  have:=r_Give (p:=p) (k:=0) R hI (by rw [e4.np];exact hp) (by rw [e3];rfl) (by rw [e3];rfl)
  rw [e4.addr] at this
  exact this
 ·unfold Heap.sgiveF
  rw [if_neg hl]
  exact ⟨R,rfl⟩
end
noncomputable section
structure MayC (b l o:Int):Prop where
 o0:0 <= o
 o8:o <= 8
 l1:1 <= l
 l64:l <= 64
 pages:l*2^o.toNat <= 1024
 b0:b≠0
 al:b%(4096*2^o.toNat)=0
 top:4096*2^o.toNat*l+b <= 9223372036854775808
instance (b l o:Int):Decidable (MayC b l o) :=
 decidable_of_iff (0 <= o /\ o <= 8 /\ 1 <= l /\ l <= 64 /\ l*2^o.toNat <= 1024 /\ b≠0 /\ b%(4096*2^o.toNat)=0 /\ 4096*2^o.toNat*l+b <= 9223372036854775808)
  ⟨fun ⟨a,b,c,d,e,f,g,h⟩=>⟨a,b,c,d,e,f,g,h⟩,fun h=>⟨h.o0,h.o8,h.l1,h.l64,h.pages,h.b0,h.al,h.top⟩⟩
theorem vlen3 {a b c:V}:[a,b,c].length=3:=rfl
variable {σ:St}
def cfg (b l o:Int):V:=.agg [.int .u64 b,.int .i64 l,.int .i64 o]
theorem cfg_lcl (σ:St) (b l o:Int):Lcl (σ.newCells [.int .u64 b,.int .i64 l,.int .i64 o]) σ.next 3 (lst [.int .u64 b,.int .i64 l,.int .i64 o]):=Lcl.of_cells σ _
theorem r_may {b l o:Int} (hb0:0 <= b) (hb:b<18446744073709551616) (hw:GW σ) :
  Runs G0 [] 161 [cfg b l o] σ fun v σ'=>v=.bool (decide (MayC b l o)) /\ σ'=σ.newCells [.int .u64 b,.int .i64 l,.int .i64 o]:=by
 refine runs_body g161 rfl ?_
 have hl:=cfg_lcl σ b l o
 generalize hs:σ.newCells [.int .u64 b,.int .i64 l,.int .i64 o]=σ1 at hl
 have h0:σ1.cell σ.next 0=some (.int .u64 b):=hl.cell (i:=0) (by omega)
 have h1:σ1.cell σ.next 1=some (.int .i64 l):=hl.cell (i:=1) (by omega)
 have h2:σ1.cell σ.next 2=some (.int .i64 o):=hl.cell (i:=2) (by omega)
 by_cases c0:o<0
 ·have hn:¬ MayC b l o:=fun h=>by have:=h.o0;omega
  simp -implicitDefEqProofs only[go_sem,cfg,vcells_agg,vlen3,hs,h0,h1,h2,c0,hn]
 by_cases c1:8<o
 ·have hn:¬ MayC b l o:=fun h=>by have:=h.o8;omega
  simp -implicitDefEqProofs only[go_sem,cfg,vcells_agg,vlen3,hs,h0,h1,h2,c0,c1,hn]
 by_cases c2:l<1
 ·have hn:¬ MayC b l o:=fun h=>by have:=h.l1;omega
  simp -implicitDefEqProofs only[go_sem,cfg,vcells_agg,vlen3,hs,h0,h1,h2,c0,c1,c2,hn]
 by_cases c3:64<l
 ·have hn:¬ MayC b l o:=fun h=>by have:=h.l64;omega
  simp -implicitDefEqProofs only[go_sem,cfg,vcells_agg,vlen3,hs,h0,h1,h2,c0,c1,c2,c3,hn]
 obtain ⟨k,rfl⟩:∃ k:Nat,o=(k:Int):=⟨o.toNat,by omega⟩
 obtain ⟨m,rfl⟩:∃ m:Nat,l=(m:Int):=⟨l.toNat,by omega⟩
 obtain ⟨n,rfl⟩:∃ n:Nat,b=(n:Int):=⟨b.toNat,by omega⟩
 have hp:2^k <= 256:=by
  have:(2:Nat)^k <= 2^8:=Nat.pow_le_pow_right (by omega) (by omega)
  simpa using this
 have hpos:0<2^k:=Nat.pow_pos (by omega)
 have hmp:m*2^k <= 64*256:=Nat.mul_le_mul (by omega) hp
 have e1:shlI .i64 (m:Int) (k:Int)=((m*2^k:Nat):Int):=i64_shl (by omega) (by omega)
 have e2:shlI .u64 (4096:Int) (k:Int)=((4096*2^k:Nat):Int):=u64_shl (a:=4096) (by omega) (by omega)
 have hk0:(0:Int) <= (k:Int):=by omega
 have hc1:((m*2^k:Nat):Int)=(m:Int)*2^k:=by simp
 have hc2:((4096*2^k:Nat):Int)=4096*2^k:=by simp
 have hc3:((4096*2^k*m:Nat):Int)=4096*2^k*(m:Int):=by simp
 have spec:MayC n m k↔m*2^k <= 1024 /\ n≠0 /\ n%(4096*2^k)=0 /\ 4096*2^k*m+n <= 9223372036854775808:=by
  constructor
  ·intro h
   have h1:=h.pages;have h2:=h.al;have h3:=h.top;have h4:=h.b0
   simp only [Int.toNat_natCast] at h1 h2 h3
   rw [<- hc1] at h1;rw [<- hc2] at h2;rw [<- hc3] at h3
   exact ⟨by omega,by omega,by omega,by omega⟩
  ·rintro ⟨h1,h2,h3,h4⟩
   refine ⟨by omega,by omega,by omega,by omega,?_,by omega,?_,?_⟩ <;> simp only [Int.toNat_natCast]
   ·rw [<- hc1];omega
   ·rw [<- hc2];omega
   ·rw [<- hc3];omega
 by_cases c4:(1024:Int)<((m*2^k:Nat):Int)
 ·have hn:¬ MayC n m k:=fun h=>by have:=(spec.1 h).1;omega
  simp -implicitDefEqProofs only[go_sem,cfg,vcells_agg,vlen3,hs,h0,h1,h2,c0,c1,c2,c3,bin_shl,hk0,e1,e2,c4,hn]
 have hr:((4096*2^k:Nat):Int)≠0:=by omega
 by_cases c5:(n:Int)=0
 ·have hn:¬ MayC n m k:=fun h=>by have:=(spec.1 h).2.1;omega
  have hd:decide ((n:Int)≠0)=false:=by simp [c5]
  simp -implicitDefEqProofs only[go_sem,cfg,vcells_agg,vlen3,hs,h0,h1,h2,c0,c1,c2,c3,bin_shl,hk0,e1,e2,c4,hd,hn]
 have e3:(n:Int).tmod ((4096*2^k:Nat):Int)=((n%(4096*2^k):Nat):Int):=nat_tmod _ _
 by_cases c6:((n%(4096*2^k):Nat):Int)=0
 ·by_cases c7:(n:Int) <= 9223372036854775808
  ·have e4:IntKind.u64.wrap (m:Int)=(m:Int):=u64_nat (by omega)
   have hrm:4096*2^k*m <= 4096*256*64:=Nat.mul_le_mul (Nat.mul_le_mul_left _ hp) (by omega)
   have e5:IntKind.u64.wrap (((4096*2^k:Nat):Int)*(m:Int))=((4096*2^k*m:Nat):Int):=u64_mul (by omega)
   have e6:IntKind.u64.wrap (9223372036854775808-(n:Int))=((9223372036854775808-n:Nat):Int):=u64_sub (a:=9223372036854775808) (by omega) (by omega)
   have e7:decide (((4096*2^k*m:Nat):Int) <= ((9223372036854775808-n:Nat):Int))=decide (MayC n m k):=by
    rw [decide_eq_decide,spec]
    constructor
    ·intro h;exact ⟨by omega,by omega,by omega,by omega⟩
    ·rintro ⟨_,_,_,h⟩;omega
   simp -implicitDefEqProofs only[go_sem,cfg,vcells_agg,vlen3,hs,h0,h1,h2,c0,c1,c2,c3,bin_shl,hk0,e1,e2,c4,c5,bin_rem,hr,e3,c6,c7,e4,e5,e6,e7,ne_eq,not_false_eq_true,not_true_eq_false]
  ·have hn:¬ MayC n m k:=fun h=>by have:=(spec.1 h).2.2.2;omega
   simp -implicitDefEqProofs only[go_sem,cfg,vcells_agg,vlen3,hs,h0,h1,h2,c0,c1,c2,c3,bin_shl,hk0,e1,e2,c4,c5,bin_rem,hr,e3,c6,c7,ne_eq,not_false_eq_true,not_true_eq_false,hn]
 ·have hn:¬ MayC n m k:=fun h=>by have:=(spec.1 h).2.2.1;omega
  simp -implicitDefEqProofs only[go_sem,cfg,vcells_agg,vlen3,hs,h0,h1,h2,c0,c1,c2,c3,bin_shl,hk0,e1,e2,c4,c5,bin_rem,hr,e3,c6,ne_eq,not_false_eq_true,not_true_eq_false,hn]
end
noncomputable section
variable {σ:St} {A:Slot -> Nat} {has:Slot -> Prop} {size:Slot -> Nat} {cell:Slot -> Nat -> V}
theorem RepF.add (h:RepF σ has A size cell) {s0:Slot} (hs:¬ has s0) {b n:Nat} {f:Nat -> V} (L:Lcl σ b n f) (hne:∀ t,has t -> A t≠b) :
  RepF σ (fun t=>has t \/ t=s0) (upd A s0 b) (upd size s0 n) (upd cell s0 f):=by
 have hn:∀ s,has s -> s≠s0:=fun s a e=>hs (e▸a)
 obtain ⟨m,z,t,hm,ho,hc⟩:=L
 refine ⟨h.gw,h.wid,?_,?_,?_⟩
 ·rintro a c (ha | rfl) (hb | rfl) e
  ·rw [upd_ne (hn a ha),upd_ne (hn c hb)] at e;exact h.inj a c ha hb e
  ·rw [upd_ne (hn a ha),upd_same] at e;exact (hne a ha e).elim
  ·rw [upd_ne (hn c hb),upd_same] at e;exact (hne c hb e.symm).elim
  ·rfl
 ·rintro a (ha | rfl)
  ·rw [upd_ne (hn a ha),upd_ne (hn a ha),upd_ne (hn a ha)];exact h.row a ha
  ·rw [upd_same,upd_same,upd_same];exact ⟨0,m,z,t,hm,ho,hc⟩
 ·rintro a c o (ha | rfl) hb hab hoo hg
  ·rw [upd_ne (hn a ha)] at hoo
   rcases hb with hb | rfl
   ·rw [upd_ne (hn c hb)];exact h.cut a c o ha hb hab hoo hg
   ·rw [upd_same]
    intro k
    have:=h.gw.grp _ _ _ k ho rfl
    exact hg this.symm
  ·rw [upd_same,ho] at hoo
   simp only [Option.some.injEq] at hoo;subst hoo
   exact absurd rfl hg
theorem RepF.none (w:GW σ) (hw:Wid σ) (A:Slot -> Nat) (size:Slot -> Nat) (cell:Slot -> Nat -> V):RepF σ (fun _=>False) A size cell :=
 ⟨w,hw,fun _ _ h=>h.elim,fun _ h=>h.elim,fun _ _ _ h=>h.elim⟩
theorem vlen5 {a b c d e:V}:[a,b,c,d,e].length=5:=rfl
theorem load_cfg {id:Nat} {b l o:Int} (h:Lcl σ id 3 (lst [.int .u64 b,.int .i64 l,.int .i64 o])):σ.load id 0 3=some [.int .u64 b,.int .i64 l,.int .i64 o]:=by
 rw [h.load (by omega)];rfl
theorem r_memNew {b l o:Int} (hb0:0 <= b) (hb:b<18446744073709551616) (hw:GW σ) :
  Runs G0 [] 117 [cfg b l o] σ fun v σ'=>Grow σ σ' /\ GW σ' /\ (MayC b l o -> ∃ s,v=.tuple [.ptr (some (s,0)),.int .i64 0] /\ σ.next <= s /\ Lcl σ' s 5 (lst [.int .u64 b,.int .i64 l,.int .i64 o,.int .u64 (shlI .u64 4096 o),.slice none 0 0])) /\ (¬ MayC b l o -> v=.tuple [.ptr none,.int .i64 1]):=by
 refine runs_body g117 rfl ?_
 have hl:=cfg_lcl σ b l o
 have hw1:GW (σ.newCells [.int .u64 b,.int .i64 l,.int .i64 o]):=hw.new _ rfl
 have hg1:Grow σ (σ.newCells [.int .u64 b,.int .i64 l,.int .i64 o]):=Grow.new σ _
 generalize hs:σ.newCells [.int .u64 b,.int .i64 l,.int .i64 o]=σ1 at hl hw1 hg1
 have hld:=load_cfg hl
 obtain ⟨v,σ2,⟨rfl,hs2⟩,hr⟩:=r_may (l:=l) (o:=o) hb0 hb hw1
 have hl2:Lcl σ2 σ.next 3 (lst [.int .u64 b,.int .i64 l,.int .i64 o]):=by rw [hs2];exact hl.grow hw1 (Grow.new σ1 _)
 have hg2:Grow σ σ2:=hg1.trans (by rw [hs2];exact Grow.new σ1 _)
 have hw2:GW σ2:=by rw [hs2];exact hw1.new _ rfl
 have hld2:=load_cfg hl2
 have h2:σ2.cell σ.next 2=some (.int .i64 o):=hl2.cell (i:=2) (by omega)
 simp -implicitDefEqProofs only[go_sem,cfg,vcells_agg,vlen3,hs,hld]
 refine runs_ret hr ?_
 by_cases hm:MayC b l o
 ·have hk0:0 <= o:=hm.o0
  have e0:fillP [V.int .u64 0,.int .i64 0,.int .i64 0,.int .u64 0,.slice none 0 0] [(0,3,.agg [.int .u64 b,.int .i64 l,.int .i64 o]),(3,1,.int .u64 (shlI .u64 4096 o))] =
   some [V.int .u64 b,.int .i64 l,.int .i64 o,.int .u64 (shlI .u64 4096 o),.slice none 0 0]:=rfl
  simp -implicitDefEqProofs only[go_sem,cfg,vcells_agg,vlen3,vlen5,hs,hld2,h2,hm,bin_shl,hk0,evalParts,e0]
  exact ⟨hg2.trans (Grow.new σ2 _),hw2.new _ rfl,fun _=>⟨_,rfl,hg2.next,Lcl.of_cells σ2 _⟩,fun h=>(h trivial).elim⟩
 ·simp -implicitDefEqProofs only[go_sem,cfg,vcells_agg,vlen3,hs,hld2,h2,hm]
  exact ⟨hg2,hw2,fun h=>h.elim,fun _=>trivial⟩
theorem r_NewSet0 (gw:GW σ):Runs G0 [] 162 [.int .i64 0] σ fun v σ'=>v=.ptr (some (σ.next+1,0)) /\ Grow σ σ' /\ GW σ' /\ σ'.next=σ.next+2 /\ Lcl σ' σ.next 0 (fun _=>.int .u64 0) /\ Lcl σ' (σ.next+1) 2 (lst [.int .i64 0,.slice (some (σ.next,0)) 0 1]):=by
 refine runs_body g162 rfl ?_
 obtain ⟨v,σ1,hv,hr⟩:=r_Of0 (σ:=σ) (n:=0) gw (by omega) (Q:=fun v σ'=>v=.ptr (some (σ.next+1,0)) /\ Grow σ σ' /\ GW σ' /\ σ'.next=σ.next+2 /\ Lcl σ' σ.next 0 (fun _=>.int .u64 0) /\ Lcl σ' (σ.next+1) 2 (lst [.int .i64 0,.slice (some (σ.next,0)) 0 1]))
  (fun s nw e h1 h2 h3 h4 h5=>by subst e;exact ⟨rfl,h2,h1,h3,h4,h5⟩)
 obtain ⟨rfl,h⟩:=hv
 simp -implicitDefEqProofs only[go_sem]
 refine runs_ret hr ?_
 simp -implicitDefEqProofs only[go_sem]
 exact h
theorem r_linksNew {s:Option (Nat × Nat)} {x:Int} (gw:GW σ):Runs G0 [] 211 [.ptr s,.int .u64 x] σ fun v σ'=>v=.ptr (some (σ.next,0)) /\ Grow σ σ' /\ GW σ' /\ σ'.next=σ.next+1 /\ Lcl σ' σ.next 2 (lst [.ptr s,.int .u64 x]):=by
 refine runs_body g211 rfl ?_
 have hg:Grow σ (σ.newCells [.ptr s,.int .u64 x]):=Grow.new σ _
 have hw:GW (σ.newCells [.ptr s,.int .u64 x]):=gw.new _ rfl
 have e0:fillP [V.ptr none,.int .u64 0] [(0,1,.ptr s),(1,1,.int .u64 x)]=some [V.ptr s,.int .u64 x]:=rfl
 have l2:[V.ptr s,.int .u64 x].length=2:=rfl
 simp -implicitDefEqProofs only[go_sem,evalParts,e0,vcells_agg,l2]
 exact ⟨hg,hw,rfl,Lcl.of_cells σ _⟩
end
noncomputable section
variable {σ:St} {A:Slot -> Nat} {has:Slot -> Prop} {size:Slot -> Nat} {cell:Slot -> Nat -> V}
def ptrRow (A:Slot -> Nat) (s0:Slot) (i:Nat):V:=if i=0 then .slice none 0 0 else .slice (some (A s0,0)) i 1
theorem RepF.push (h:RepF σ has A size cell) {s0:Slot} {i tt:Nat} {x:V} (h0:i=0 -> ¬ has s0) (h1:i≠0 -> has s0 /\ size s0=i) (hi:i<1000) (hx:[x].all V.flat=true) (ht:σ.load tt 0 1=some [x]) :
  ∃ σ',appendV σ 1 8 (ptrRow A s0 i) (.slice (some (tt,0)) 1 1)=some (.slice (some (σ.next,0)) (i+1) 1,σ') /\ σ'.next=σ.next+1 ∧
   RepF σ' (fun t=>has t \/ t=s0) (upd A s0 σ.next) (upd size s0 (i+1)) (upd cell s0 fun j=>if j<i then cell s0 j else x):=by
 by_cases c:i=0
 ·subst c
  have R:=h.new (s0:=s0) (h0 rfl) (n:=1) (z:=[]) (t:=ofList [x]) (f:=lst [x]) (fun j hj=>by
   have:=cellOf_ofList [x] j
   rw [show [x].length=1 from rfl] at this
   rw [this,show j=0 by omega];rfl)
  refine ⟨_,?_,rfl,R.congr (fun _ h=>h) (fun _ _=>rfl) (fun _ _=>Nat.le_refl _) fun t ht2 j hj=>?_⟩
  ·unfold appendV ptrRow
   rw [if_pos rfl]
   simp only [Nat.mul_one,ht]
   unfold appendL
   rw [if_neg (by simp),if_neg (by omega),if_pos ⟨by unfold maxLenBytes;omega,by unfold maxLenBytes;omega,hx⟩]
   simp only [if_true]
   rfl
  ·by_cases ct:t=s0
   ·subst ct
    rw [upd_same] at hj
    rw [upd_same,upd_same,if_neg (by omega),show j=0 by omega];rfl
   ·rw [upd_ne ct,upd_ne ct]
 ·obtain ⟨hs,hsz⟩:=h1 c
  obtain ⟨v3,σ3,ha3⟩:=append_ok (h.row s0 hs) (esz:=1) (bytes:=8) (k:=1) (xl:=i) (vs:=[x]) (by omega) (by unfold maxLenBytes;omega) (by unfold maxLenBytes;omega) hx
  obtain ⟨hv3,hn3,R3⟩:=h.append (s0:=s0) hs (by omega) ha3
  refine ⟨σ3,?_,hn3,R3.congr ?_ (fun _ _=>rfl) ?_ ?_⟩
  ·unfold appendV ptrRow
   rw [if_neg c]
   simp only [Nat.mul_one,ht]
   simpa [hv3] using ha3
  ·rintro t (h | rfl)
   ·exact h
   ·exact hs
  ·intro t ht2
   by_cases ct:t=s0
   ·subst ct;rw [upd_same,upd_same];show i+1 <= i*1+1;omega
   ·rw [upd_ne ct,upd_ne ct];exact Nat.le_refl _
  ·intro t ht2 j hj
   by_cases ct:t=s0
   ·subst ct
    rw [upd_same] at hj
    rw [upd_same,upd_same,Nat.mul_one]
    by_cases cj:j<i
    ·rw [if_pos cj,if_pos cj]
    ·rw [if_neg cj,if_neg cj,show j-i=0 by omega];rfl
   ·rw [upd_ne ct,upd_ne ct]
theorem upd_or {α:Type} {f:Slot -> α} {s t:Slot} {x:α}:upd f s x t=if t=s then x else f t:=rfl
def mapHas (i:Nat) (t:Slot):Prop:=t=.map \/ (t=.pairs /\ 0<i) \/ ∃ j,j<i /\ (t=.set j \/ t=.words j)
structure MapF (k i:Nat) (A:Slot -> Nat) (size:Slot -> Nat) (cell:Slot -> Nat -> V):Prop where
 sm:size .map=3
 cm:∀ j,j<3 -> cell .map j=lst [.int .i64 k,.slice none 0 0,ptrRow A .pairs i] j
 sp:0<i -> size .pairs=i
 cp:∀ j,j<i -> cell .pairs j=.ptr (some (A (.set j),0))
 ss:∀ j,j<i -> size (.set j)=2
 cs:∀ j,j<i -> ∀ m,m<2 -> cell (.set j) m=lst [.int .i64 0,.slice (some (A (.words j),0)) 0 1] m
 sw:∀ j,j<i -> size (.words j)=0
theorem r_mapNew {k:Nat} (hk:k <= 8) (h:RepF σ has A size cell) (hno:∀ i t,mapHas i t -> ¬ has t) :
  Runs G0 [] 118 [.int .i64 k] σ fun v s=>∃ A' size' cell',v=.ptr (some (A' .map,0)) /\ RepF s (fun t=>has t \/ mapHas k t) A' size' cell' /\ (∀ t,has t -> A' t=A t /\ size' t=size t /\ cell' t=cell t) /\ MapF k k A' size' cell':=by
 refine runs_body g118 rfl ?_
 have x1:maxV false (.int .i64 (k:Int)) [.int .i64 8]=some (.int .i64 k):=by
  simp only [maxV,if_true,Bool.false_eq_true,if_false];rw [if_neg (by omega)]
 have x2:maxV true (.int .i64 0) [.int .i64 (k:Int)]=some (.int .i64 k):=by
  simp only [maxV,if_true]
  by_cases h:(k:Int) > 0
  ·rw [if_pos h]
  ·rw [if_neg h];congr 2;omega
 have e0:fillP [V.int .i64 0,.slice none 0 0,.slice none 0 0] [(0,1,.int .i64 (k:Int))]=some [V.int .i64 k,.slice none 0 0,.slice none 0 0]:=rfl
 have hmn:¬ has .map:=hno 0 .map (.inl rfl)
 obtain ⟨m,hm⟩:∃ m,m=σ.next:=⟨_,rfl⟩
 obtain ⟨σ1,hs1⟩:∃ s,s=σ.newCells [.int .i64 k,.slice none 0 0,.slice none 0 0]:=⟨_,rfl⟩
 have R1:=h.new (s0:=.map) hmn (n:=3) (z:=[]) (t:=ofList [.int .i64 k,.slice none 0 0,.slice none 0 0]) (f:=lst [.int .i64 k,.slice none 0 0,.slice none 0 0]) (fun i hi=>by
  have:=cellOf_ofList [V.int .i64 k,.slice none 0 0,.slice none 0 0] i
  rw [show [V.int .i64 k,.slice none 0 0,.slice none 0 0].length=3 from rfl] at this
  rw [this]
  rcases (by omega:i=0 \/ i=1 \/ i=2) with rfl | rfl | rfl <;> rfl)
 have R1':RepF σ1 (fun t=>has t \/ t=.map) (upd A .map m) (upd size .map 3) (upd cell .map (lst [.int .i64 k,.slice none 0 0,.slice none 0 0])):=by rw [hs1,hm];exact R1
 have c0:σ1.cell m 0=some (.int .i64 k):=by
  have:=R1'.cell_at (s:=.map) (.inr rfl) (i:=0) (by rw [upd_same];omega)
  rw [upd_same,upd_same] at this;exact this
 simp -implicitDefEqProofs only[go_sem,pure_mm,x1,x2,evalParts,e0,vcells_agg,vlen3,<- hm,<- hs1,c0]
 refine aw_loop (fun (n:Nat) (fr:AM.Fr) (s:St)=>fr.defers=[] /\ fr.tmps.get 3=some (.ptr (some (m,0))) /\ fr.tmps.get 12=some (.int .i64 k) ∧
  ∃ i:Nat,fr.tmps.get 13=some (.int .i64 i) /\ i+n=k /\ ∃ A' size' cell',RepF s (fun t=>has t \/ mapHas i t) A' size' cell' /\ (∀ t,has t -> A' t=A t /\ size' t=size t /\ cell' t=cell t) /\ MapF k i A' size' cell' /\ A' .map=m) ?_ k ?_
 ·rintro n ⟨tm,ds⟩ s ⟨hd,t3,t12,i,t13,hi,A',size',cell',R,hold,M,hAm⟩
  simp only at hd t3 t12 t13
  subst hd
  by_cases hik:i<k
  ·have d1:(i:Int)<(k:Int):=by omega
   have hmap:has Slot.map \/ mapHas i .map:=.inr (.inl rfl)
   have d2:s.cell m 2=some (ptrRow A' .pairs i):=by
    have:=R.cell_at (s:=.map) hmap (i:=2) (by rw [M.sm];omega)
    rw [hAm,M.cm 2 (by omega)] at this;exact this
   have nW:¬ (has (.words i) \/ mapHas i (.words i)):=by
    rintro (h | h | ⟨h,_⟩ | ⟨j,hj,h | h⟩)
    ·exact hno (i+1) (.words i) (.inr (.inr ⟨i,by omega,.inr rfl⟩)) h
    ·cases h
    ·cases h
    ·cases h
    ·cases h;omega
   have nS:¬ ((has (.set i) \/ mapHas i (.set i)) \/ Slot.set i=.words i):=by
    rintro ((h | h | ⟨h,_⟩ | ⟨j,hj,h | h⟩) | h)
    ·exact hno (i+1) (.set i) (.inr (.inr ⟨i,by omega,.inl rfl⟩)) h
    ·cases h
    ·cases h
    ·cases h;omega
    ·cases h
    ·cases h
   obtain ⟨v,s1,⟨rfl,g1,w1,n1,Lw,Ls⟩,hr⟩:=r_NewSet0 R.gw
   have Ra:=(R.grow g1 w1).add (s0:=.words i) nW Lw (fun t ht=>by have:=R.is_lt ht;omega)
   have Rb:=Ra.add (s0:=.set i) nS Ls (fun t ht=>by
    rcases ht with ht | rfl
    ·have:=R.is_lt ht
     by_cases e:t=.words i
     ·subst e;rw [upd_same];omega
     ·rw [upd_ne e];omega
    ·rw [upd_same];omega)
   have e1:fillP (repeatZ [V.ptr none] 1) [(0,1,.ptr (some (s.next+1,0)))]=some [V.ptr (some (s.next+1,0))]:=rfl
   obtain ⟨s2,hs2⟩:∃ s2,s2=s1.newCells [.ptr (some (s.next+1,0))]:=⟨_,rfl⟩
   have g2:Grow s1 s2:=by rw [hs2];exact Grow.new s1 _
   have w2:GW s2:=by rw [hs2];exact w1.new _ rfl
   have Rc:=Rb.grow g2 w2
   have ht:s2.load s1.next 0 1=some [.ptr (some (s.next+1,0))]:=by
    rw [hs2,(newCellsRow s1 [.ptr (some (s.next+1,0))]).load (off:=0) (k:=1) (by simp)];rfl
   have hpp:upd (upd A' (.words i) s.next) (.set i) (s.next+1) .pairs=A' .pairs:=by rw [upd_ne (by simp),upd_ne (by simp)]
   have hrow:ptrRow (upd (upd A' (.words i) s.next) (.set i) (s.next+1)) .pairs i=ptrRow A' .pairs i:=by unfold ptrRow;rw [hpp]
   obtain ⟨s3,ha,n3,Rd⟩:=Rc.push (s0:=.pairs) (i:=i) (tt:=s1.next) (x:=.ptr (some (s.next+1,0))) (fun e=>by
    rintro ((h | h) | h)
    ·rcases h with h | h | ⟨h,h2⟩ | ⟨j,hj,h | h⟩
     ·exact hno 1 .pairs (.inr (.inl ⟨rfl,by omega⟩)) h
     ·cases h
     ·omega
     ·cases h
     ·cases h
    ·cases h
    ·cases h) (fun e=>⟨.inl (.inl (.inr (.inr (.inl ⟨rfl,by omega⟩)))),by rw [upd_ne (by simp),upd_ne (by simp)];exact M.sp (by omega)⟩) (by omega) rfl ht
   rw [hrow] at ha
   obtain ⟨s4,hst,Re,n4⟩:=Rd.store (s:=.map) (.inl (.inl (.inl (.inr (.inl rfl))))) (off:=2) (vs:=[.slice (some (s2.next,0)) (i+1) 1]) (by rw [upd_ne (by simp),upd_ne (by simp),upd_ne (by simp),M.sm];simp) rfl
   rw [upd_ne (by simp),upd_ne (by simp),upd_ne (by simp),hAm] at hst
   have hcell:∀ (τ:St),Grow s τ -> τ.cell m 2=some (ptrRow A' .pairs i):=by
    intro τ g
    unfold St.cell at d2 ⊢
    have hml:m<s.next:=by have:=R.is_lt hmap;rw [hAm] at this;exact this
    rw [g.old m hml];exact d2
   have d3:=hcell s1 g1
   have d4:=hcell s2 (g1.trans g2)
   have hAe:ptrRow A' .pairs i=ptrRow A' .pairs i:=rfl
   have hvc:(V.slice (some (s2.next,0)) (i+1) 1).cells=[.slice (some (s2.next,0)) (i+1) 1]:=rfl
   have hl1:[V.slice (some (s2.next,0)) (i+1) 1].length=1:=rfl
   have e9:IntKind.i64.wrap ((i:Int)+1)=((i+1:Nat):Int):=i64_add (a:=i) (b:=1) (by omega)
   simp -implicitDefEqProofs only[go_sem,t3,t12,t13,d1,d2]
   refine runs_ret hr ?_
   simp -implicitDefEqProofs only[go_sem,t3,t12,t13,d1,d2,d3,d4,evalParts,e1,<- hs2,ha,hvc,hl1,hst,e9]
   refine ⟨n-1,by omega,i+1,rfl,by omega,_,_,_,Re.congr ?_ (fun _ _=>rfl) (fun _ _=>Nat.le_refl _) (fun _ _ _ _=>rfl),?_,?_,?_⟩
   ·rintro t (h | rfl | ⟨rfl,h⟩ | ⟨j,hj,h⟩)
    ·exact .inl (.inl (.inl (.inl h)))
    ·exact .inl (.inl (.inl (.inr (.inl rfl))))
    ·exact .inr rfl
    ·by_cases e:j=i
     ·subst e
      rcases h with rfl | rfl
      ·exact .inl (.inr rfl)
      ·exact .inl (.inl (.inr rfl))
     ·exact .inl (.inl (.inl (.inr (.inr (.inr ⟨j,by omega,h⟩)))))
   ·intro t ht
    have n1:t≠.pairs:=fun e=>hno 1 .pairs (.inr (.inl ⟨rfl,by omega⟩)) (e▸ht)
    have n2:t≠.set i:=fun e=>hno (i+1) (.set i) (.inr (.inr ⟨i,by omega,.inl rfl⟩)) (e▸ht)
    have n3:t≠.words i:=fun e=>hno (i+1) (.words i) (.inr (.inr ⟨i,by omega,.inr rfl⟩)) (e▸ht)
    have n4:t≠.map:=fun e=>hmn (e▸ht)
    obtain ⟨a,b,c⟩:=hold t ht
    refine ⟨?_,?_,?_⟩
    ·rw [upd_ne n1,upd_ne n2,upd_ne n3];exact a
    ·rw [upd_ne n1,upd_ne n2,upd_ne n3];exact b
    ·rw [upd_ne n4,upd_ne n1,upd_ne n2,upd_ne n3];exact c
   ·have nsi:∀ j,j<i -> Slot.set j≠.set i:=fun j hj e=>by cases e;omega
    have nwi:∀ j,j<i -> Slot.words j≠.words i:=fun j hj e=>by cases e;omega
    refine ⟨?_,?_,?_,?_,?_,?_,?_⟩
    ·rw [upd_ne (by simp),upd_ne (by simp),upd_ne (by simp)];exact M.sm
    ·intro j hj
     rw [upd_same]
     unfold over
     have hrow2:ptrRow (upd (upd (upd A' (.words i) s.next) (.set i) (s.next+1)) .pairs s2.next) .pairs (i+1)=.slice (some (s2.next,0)) (i+1) 1:=by
      unfold ptrRow;rw [if_neg (by omega),upd_same]
     rw [hrow2]
     rcases (by omega:j=0 \/ j=1 \/ j=2) with rfl | rfl | rfl
     ·rw [if_neg (by simp),upd_ne (by simp),upd_ne (by simp),upd_ne (by simp)];exact M.cm 0 (by omega)
     ·rw [if_neg (by simp),upd_ne (by simp),upd_ne (by simp),upd_ne (by simp)];exact M.cm 1 (by omega)
     ·rw [if_pos (by simp)];rfl
    ·intro _;rw [upd_same]
    ·intro j hj
     by_cases e:j=i
     ·subst e;simp [upd_or]
     ·have:=M.cp j (by omega)
      simp [upd_or,e,show j<i by omega,this]
    ·intro j hj
     by_cases e:j=i
     ·subst e;simp [upd_or]
     ·have:=M.ss j (by omega)
      simp [upd_or,e,this]
    ·intro j hj q hq
     by_cases e:j=i
     ·subst e;simp [upd_or]
     ·have:=M.cs j (by omega) q hq
      simp [upd_or,e,this]
    ·intro j hj
     by_cases e:j=i
     ·subst e;simp [upd_or]
     ·have:=M.sw j (by omega)
      simp [upd_or,e,this]
   ·rw [upd_ne (by simp),upd_ne (by simp),upd_ne (by simp)];exact hAm
  ·have c1:¬ ((i:Int)<(k:Int)):=by omega
   have e:i=k:=by omega
   subst e
   simp -implicitDefEqProofs only[go_sem,t3,t12,t13,c1]
   exact ⟨A',size',cell',by rw [hAm],R,hold,M⟩
 ·simp -implicitDefEqProofs only[go_sem]
  refine ⟨0,rfl,by omega,_,_,_,R1'.congr ?_ (fun _ _=>rfl) (fun _ _=>Nat.le_refl _) (fun _ _ _ _=>rfl),?_,?_,upd_same⟩
  ·rintro t (h | rfl | ⟨_,h⟩ | ⟨j,hj,h⟩)
   ·exact .inl h
   ·exact .inr rfl
   ·omega
   ·omega
  ·intro t ht
   have n4:t≠.map:=fun e=>hmn (e▸ht)
   exact ⟨upd_ne n4,upd_ne n4,upd_ne n4⟩
  ·refine ⟨upd_same,fun j hj=>?_,fun h=>by omega,fun j hj=>by omega,fun j hj=>by omega,fun j hj=>by omega,fun j hj=>by omega⟩
   rw [upd_same]
   unfold ptrRow
   rw [if_pos rfl]
end
noncomputable section
variable {σ:St} {A:Slot -> Nat} {has:Slot -> Prop} {size:Slot -> Nat} {cell:Slot -> Nat -> V}
def budHas (i:Nat) (t:Slot):Prop:=t=.buddy \/ (t=.lists /\ 0<i) \/ ∃ j,j<i /\ t=.list j
structure BudF (b l:Int) (k:Nat) (ps pm:Option (Nat × Nat)) (i:Nat) (A:Slot -> Nat) (size:Slot -> Nat) (cell:Slot -> Nat -> V):Prop where
 sb:size .buddy=6
 cb:∀ j,j<6 -> cell .buddy j=lst [.int .u64 b,.int .i64 l,.int .i64 k,.ptr ps,.ptr pm,ptrRow A .lists i] j
 sl:0<i -> size .lists=i
 cl:∀ j,j<i -> cell .lists j=.ptr (some (A (.list j),0))
 ss:∀ j,j<i -> size (.list j)=2
 cs:∀ j,j<i -> ∀ m,m<2 -> cell (.list j) m=lst [.ptr ps,.int .u64 0] m
theorem r_buddyOpen {b l:Int} {k hd:Nat} {ps pm:Option (Nat × Nat)} (hk:k <= 8) (h:RepF σ has A size cell) (hh:has .heap) (hhd:A .heap=hd) (hs:size .heap=k+1) (hc:cell .heap=fun _=>.int .u64 0) (hno:∀ i t,budHas i t -> ¬ has t) :
  Runs G0 [] 163 [cfg b l k,.ptr ps,.ptr pm,.slice (some (hd,0)) (k+1) 1] σ fun v s=>∃ A' size' cell',v=.tuple [.ptr (some (A' .buddy,0)),.int .i64 0] /\ RepF s (fun t=>has t \/ budHas (k+1) t) A' size' cell' /\ (∀ t,has t -> A' t=A t /\ size' t=size t /\ cell' t=cell t) /\ BudF b l k ps pm (k+1) A' size' cell':=by
 refine runs_body g163 rfl ?_
 obtain ⟨σ1,hs1⟩:∃ s,s=σ.newCells [.int .u64 b,.int .i64 l,.int .i64 k]:=⟨_,rfl⟩
 have hl:=cfg_lcl σ b l k
 have gw:=h.gw
 have w1:GW (σ.newCells [.int .u64 b,.int .i64 l,.int .i64 k]):=gw.new _ rfl
 have g1:Grow σ σ1:=by rw [hs1];exact Grow.new _ _
 rw [<- hs1] at hl w1
 have hld:=load_cfg hl
 have c2:σ1.cell σ.next 2=some (.int .i64 k):=hl.cell (i:=2) (by omega)
 have e1:IntKind.i64.wrap ((k:Int)+1)=((k+1:Nat):Int):=i64_add (a:=k) (b:=1) (by omega)
 have d1:decide (((k+1:Nat):Int)≠((k+1:Nat):Int))=false:=by simp
 have e0:fillP [V.int .u64 0,.int .i64 0,.int .i64 0,.ptr none,.ptr none,.slice none 0 0] [(0,3,.agg [.int .u64 b,.int .i64 l,.int .i64 k]),(3,1,.ptr ps),(4,1,.ptr pm)] =
  some [V.int .u64 b,.int .i64 l,.int .i64 k,.ptr ps,.ptr pm,.slice none 0 0]:=rfl
 have l6:[V.int .u64 b,.int .i64 l,.int .i64 k,.ptr ps,.ptr pm,.slice none 0 0].length=6:=rfl
 obtain ⟨m,hm⟩:∃ m,m=σ1.next:=⟨_,rfl⟩
 obtain ⟨σ2,hs2⟩:∃ s,s=σ1.newCells [V.int .u64 b,.int .i64 l,.int .i64 k,.ptr ps,.ptr pm,.slice none 0 0]:=⟨_,rfl⟩
 have hbn:¬ has .buddy:=hno 0 .buddy (.inl rfl)
 have R1:=(h.grow g1 w1).new (s0:=.buddy) hbn (n:=6) (z:=[]) (t:=ofList [V.int .u64 b,.int .i64 l,.int .i64 k,.ptr ps,.ptr pm,.slice none 0 0]) (f:=lst [V.int .u64 b,.int .i64 l,.int .i64 k,.ptr ps,.ptr pm,.slice none 0 0]) (fun i hi=>by
  have:=cellOf_ofList [V.int .u64 b,.int .i64 l,.int .i64 k,.ptr ps,.ptr pm,.slice none 0 0] i
  rw [l6] at this
  rw [this]
  rcases (by omega:i=0 \/ i=1 \/ i=2 \/ i=3 \/ i=4 \/ i=5) with rfl | rfl | rfl | rfl | rfl | rfl <;> rfl)
 have R2:RepF σ2 (fun t=>has t \/ t=.buddy) (upd A .buddy m) (upd size .buddy 6) (upd cell .buddy (lst [V.int .u64 b,.int .i64 l,.int .i64 k,.ptr ps,.ptr pm,.slice none 0 0])):=by rw [hs2,hm];exact R1
 simp -implicitDefEqProofs only[go_sem,cfg,vcells_agg,vlen3,<- hs1,hld,c2,e1,d1,evalParts,e0,l6,<- hm,<- hs2]
 refine aw_loop (fun (n:Nat) (fr:AM.Fr) (s:St)=>fr.defers=[] /\ fr.tmps.get 1=some (.ptr ps) /\ fr.tmps.get 10=some (.ptr (some (m,0))) /\ fr.tmps.get 24=some (.slice (some (hd,0)) (k+1) 1) /\ fr.tmps.get 25=some (.int .i64 (k+1:Nat)) ∧
  ∃ i:Nat,fr.tmps.get 26=some (.int .i64 i) /\ i+n=k+1 /\ ∃ A' size' cell',RepF s (fun t=>has t \/ budHas i t) A' size' cell' /\ (∀ t,has t -> A' t=A t /\ size' t=size t /\ cell' t=cell t) /\ BudF b l k ps pm i A' size' cell' /\ A' .buddy=m) ?_ (k+1) ?_
 ·rintro n ⟨tm,ds⟩ s ⟨hde,t1,t10,t24,t25,i,t26,hi,A',size',cell',R,hold,M,hAm⟩
  simp only at hde t1 t10 t24 t25 t26
  subst hde
  by_cases hik:i<k+1
  ·have c1:(i:Int)<((k+1:Nat):Int):=by omega
   have c1':(0:Int) <= (i:Int):=by omega
   have hbud:has Slot.buddy \/ budHas i .buddy:=.inr (.inl rfl)
   have ch:s.cell hd i=some (.int .u64 0):=by
    obtain ⟨a1,a2,a3⟩:=hold .heap hh
    have:=R.cell_at (s:=.heap) (.inl hh) (i:=i) (by rw [a2,hs];exact hik)
    rw [a1,a3,hc,hhd] at this;exact this
   have d2:s.cell m 5=some (ptrRow A' .lists i):=by
    have:=R.cell_at (s:=.buddy) hbud (i:=5) (by rw [M.sb];omega)
    rw [hAm,M.cb 5 (by omega)] at this;exact this
   have nL:¬ (has (.list i) \/ budHas i (.list i)):=by
    rintro (h | h | ⟨h,_⟩ | ⟨j,hj,h⟩)
    ·exact hno (i+1) (.list i) (.inr (.inr ⟨i,by omega,rfl⟩)) h
    ·cases h
    ·cases h
    ·cases h;omega
   obtain ⟨v,s1,⟨rfl,g2,w2,n2,Ll⟩,hr⟩:=r_linksNew (s:=ps) (x:=0) R.gw
   have Ra:=(R.grow g2 w2).add (s0:=.list i) nL Ll (fun t ht=>by have:=R.is_lt ht;omega)
   have e1:fillP (repeatZ [V.ptr none] 1) [(0,1,.ptr (some (s.next,0)))]=some [V.ptr (some (s.next,0))]:=rfl
   obtain ⟨s2,hs2⟩:∃ s2,s2=s1.newCells [.ptr (some (s.next,0))]:=⟨_,rfl⟩
   have g3:Grow s1 s2:=by rw [hs2];exact Grow.new s1 _
   have w3:GW s2:=by rw [hs2];exact w2.new _ rfl
   have Rc:=Ra.grow g3 w3
   have ht:s2.load s1.next 0 1=some [.ptr (some (s.next,0))]:=by
    rw [hs2,(newCellsRow s1 [.ptr (some (s.next,0))]).load (off:=0) (k:=1) (by simp)];rfl
   have hpp:upd A' (.list i) s.next .lists=A' .lists:=upd_ne (by simp)
   have hrow:ptrRow (upd A' (.list i) s.next) .lists i=ptrRow A' .lists i:=by unfold ptrRow;rw [hpp]
   obtain ⟨s3,ha,n3,Rd⟩:=Rc.push (s0:=.lists) (i:=i) (tt:=s1.next) (x:=.ptr (some (s.next,0))) (fun e=>by
    rintro (h | h)
    ·rcases h with h | h | ⟨h,h2⟩ | ⟨j,hj,h⟩
     ·exact hno 1 .lists (.inr (.inl ⟨rfl,by omega⟩)) h
     ·cases h
     ·omega
     ·cases h
    ·cases h) (fun e=>⟨.inl (.inr (.inr (.inl ⟨rfl,by omega⟩))),by rw [upd_ne (by simp)];exact M.sl (by omega)⟩) (by omega) rfl ht
   rw [hrow] at ha
   obtain ⟨s4,hst,Re,n4⟩:=Rd.store (s:=.buddy) (.inl (.inl (.inr (.inl rfl)))) (off:=5) (vs:=[.slice (some (s2.next,0)) (i+1) 1]) (by rw [upd_ne (by simp),upd_ne (by simp),M.sb];simp) rfl
   rw [upd_ne (by simp),upd_ne (by simp),hAm] at hst
   have hcell:∀ (τ:St),Grow s τ -> τ.cell m 5=some (ptrRow A' .lists i):=by
    intro τ g
    unfold St.cell at d2 ⊢
    have hml:m<s.next:=by have:=R.is_lt hbud;rw [hAm] at this;exact this
    rw [g.old m hml];exact d2
   have d3:=hcell s1 g2
   have d4:=hcell s2 (g2.trans g3)
   have hvc:(V.slice (some (s2.next,0)) (i+1) 1).cells=[.slice (some (s2.next,0)) (i+1) 1]:=rfl
   have hl1:[V.slice (some (s2.next,0)) (i+1) 1].length=1:=rfl
   have e9:IntKind.i64.wrap ((i:Int)+1)=((i+1:Nat):Int):=i64_add (a:=i) (b:=1) (by omega)
   simp -implicitDefEqProofs only[go_sem,t1,t10,t24,t25,t26,c1,c1',and_self,Int.toNat_natCast,Nat.mul_one,Nat.zero_add,ch,d2]
   refine runs_ret hr ?_
   simp -implicitDefEqProofs only[go_sem,t1,t10,t24,t25,t26,c1,c1',d2,d3,d4,evalParts,e1,<- hs2,ha,hvc,hl1,hst,e9]
   refine ⟨n-1,by omega,i+1,rfl,by omega,_,_,_,Re.congr ?_ (fun _ _=>rfl) (fun _ _=>Nat.le_refl _) (fun _ _ _ _=>rfl),?_,?_,?_⟩
   ·rintro t (h | rfl | ⟨rfl,h⟩ | ⟨j,hj,rfl⟩)
    ·exact .inl (.inl (.inl h))
    ·exact .inl (.inl (.inr (.inl rfl)))
    ·exact .inr rfl
    ·by_cases e:j=i
     ·subst e;exact .inl (.inr rfl)
     ·exact .inl (.inl (.inr (.inr (.inr ⟨j,by omega,rfl⟩))))
   ·intro t ht
    have n1:t≠.lists:=fun e=>hno 1 .lists (.inr (.inl ⟨rfl,by omega⟩)) (e▸ht)
    have n2:t≠.list i:=fun e=>hno (i+1) (.list i) (.inr (.inr ⟨i,by omega,rfl⟩)) (e▸ht)
    have n4:t≠.buddy:=fun e=>hbn (e▸ht)
    obtain ⟨a,b,c⟩:=hold t ht
    refine ⟨?_,?_,?_⟩
    ·rw [upd_ne n1,upd_ne n2];exact a
    ·rw [upd_ne n1,upd_ne n2];exact b
    ·rw [upd_ne n4,upd_ne n1,upd_ne n2];exact c
   ·refine ⟨?_,?_,?_,?_,?_,?_⟩
    ·rw [upd_ne (by simp),upd_ne (by simp)];exact M.sb
    ·intro j hj
     rw [upd_same]
     unfold over
     have hrow2:ptrRow (upd (upd A' (.list i) s.next) .lists s2.next) .lists (i+1)=.slice (some (s2.next,0)) (i+1) 1:=by
      unfold ptrRow;rw [if_neg (by omega),upd_same]
     rw [hrow2]
     have hM:=M.cb j hj
     rcases (by omega:j=0 \/ j=1 \/ j=2 \/ j=3 \/ j=4 \/ j=5) with rfl | rfl | rfl | rfl | rfl | rfl
     ·rw [if_neg (by simp),upd_ne (by simp),upd_ne (by simp)];exact hM
     ·rw [if_neg (by simp),upd_ne (by simp),upd_ne (by simp)];exact hM
     ·rw [if_neg (by simp),upd_ne (by simp),upd_ne (by simp)];exact hM
     ·rw [if_neg (by simp),upd_ne (by simp),upd_ne (by simp)];exact hM
     ·rw [if_neg (by simp),upd_ne (by simp),upd_ne (by simp)];exact hM
     ·rw [if_pos (by simp)];rfl
    ·intro _;rw [upd_same]
    ·intro j hj
     by_cases e:j=i
     ·subst e;simp [upd_or]
     ·have:=M.cl j (by omega)
      simp [upd_or,e,show j<i by omega,this]
    ·intro j hj
     by_cases e:j=i
     ·subst e;simp [upd_or]
     ·have:=M.ss j (by omega)
      simp [upd_or,e,this]
    ·intro j hj q hq
     by_cases e:j=i
     ·subst e;simp [upd_or]
     ·have:=M.cs j (by omega) q hq
      simp [upd_or,e,this]
   ·rw [upd_ne (by simp),upd_ne (by simp)];exact hAm
  ·have c1:¬ ((i:Int)<((k+1:Nat):Int)):=by omega
   have e:i=k+1:=by omega
   subst e
   simp -implicitDefEqProofs only[go_sem,t10,t24,t25,t26,c1]
   exact ⟨A',size',cell',by rw [hAm],R,hold,M⟩
 ·simp -implicitDefEqProofs only[go_sem]
  refine ⟨0,rfl,by omega,_,_,_,R2.congr ?_ (fun _ _=>rfl) (fun _ _=>Nat.le_refl _) (fun _ _ _ _=>rfl),?_,?_,upd_same⟩
  ·rintro t (h | rfl | ⟨_,h⟩ | ⟨j,hj,h⟩)
   ·exact .inl h
   ·exact .inr rfl
   ·omega
   ·omega
  ·intro t ht
   have n4:t≠.buddy:=fun e=>hbn (e▸ht)
   exact ⟨upd_ne n4,upd_ne n4,upd_ne n4⟩
  ·refine ⟨upd_same,fun j hj=>?_,fun h=>by omega,fun j hj=>by omega,fun j hj=>by omega,fun j hj=>by omega⟩
   rw [upd_same]
   unfold ptrRow
   rw [if_pos rfl]
theorem r_buddyNew {b l:Int} {k:Nat} {ps pm:Option (Nat × Nat)} (hk:k <= 8) (h:RepF σ has A size cell) (hh:¬ has .heap) (hno:∀ i t,budHas i t -> ¬ has t) :
  Runs G0 [] 119 [cfg b l k,.ptr ps,.ptr pm] σ fun v s=>∃ A' size' cell',v=.ptr (some (A' .buddy,0)) /\ RepF s (fun t=>has t \/ budHas (k+1) t) A' size' cell' /\ (∀ t,has t -> A' t=A t /\ size' t=size t /\ cell' t=cell t) /\ BudF b l k ps pm (k+1) A' size' cell':=by
 refine runs_body g119 rfl ?_
 obtain ⟨σ1,hs1⟩:∃ s,s=σ.newCells [.int .u64 b,.int .i64 l,.int .i64 k]:=⟨_,rfl⟩
 have gw:=h.gw
 have hl:=cfg_lcl σ b l k
 have w1:GW (σ.newCells [.int .u64 b,.int .i64 l,.int .i64 k]):=gw.new _ rfl
 have g1:Grow σ σ1:=by rw [hs1];exact Grow.new _ _
 rw [<- hs1] at hl w1
 have hld:=load_cfg hl
 have c2:σ1.cell σ.next 2=some (.int .i64 k):=hl.cell (i:=2) (by omega)
 have e1:IntKind.i64.wrap ((k:Int)+1)=((k+1:Nat):Int):=i64_add (a:=k) (b:=1) (by omega)
 have x2:maxV true (.int .i64 0) [.int .i64 ((k+1:Nat):Int)]=some (.int .i64 ((k+1:Nat):Int)):=by
  simp only [maxV,if_true]
  rw [if_pos (by omega)]
 have m0:(0:Int) <= ((k+1:Nat):Int) /\ ((k+1:Nat):Int) <= ((k+1:Nat):Int) /\ (k+1)*8 <= maxLenBytes /\ ((k+1:Nat):Int)<9223372036854775808:=by unfold maxLenBytes;omega
 obtain ⟨hd,hhd⟩:∃ m,m=σ1.next:=⟨_,rfl⟩
 obtain ⟨σ2,hs2⟩:∃ s,s=σ1.new (.cells false 0 (k+1) [.int .u64 0] .nil):=⟨_,rfl⟩
 have R2:=(h.grow g1 w1).new (s0:=.heap) hh (n:=k+1) (z:=[.int .u64 0]) (t:=.nil) (f:=fun _=>.int .u64 0) (fun i hi=>by
  unfold cellOf
  rw [if_pos hi,T.get_nil]
  simp [Nat.mod_one])
 have R2':RepF σ2 (fun t=>has t \/ t=.heap) (upd A .heap hd) (upd size .heap (k+1)) (upd cell .heap fun _=>.int .u64 0):=by rw [hs2,hhd];exact R2
 have g2:Grow σ1 σ2:=by rw [hs2];exact Grow.new _ _
 have hld2:=load_cfg (hl.grow w1 g2)
 obtain ⟨v,σ3,⟨A3,s3,c3,rfl,R3,hold,M⟩,hr⟩:=r_buddyOpen (b:=b) (l:=l) (ps:=ps) (pm:=pm) (hd:=hd) hk R2' (.inr rfl) upd_same upd_same upd_same (fun i t ht=>by
  rintro (h | rfl)
  ·exact hno i t ht h
  ·rcases ht with h | ⟨h,_⟩ | ⟨j,_,h⟩ <;> cases h)
 have hcall:∀ {Q:V -> St -> Prop},Q (.tuple [.ptr (some (A3 .buddy,0)),.int .i64 0]) σ3 -> Runs G0 [] 163 [.agg [.int .u64 b,.int .i64 l,.int .i64 k],.ptr ps,.ptr pm,.slice (some (hd,0)) (k+1) 1] σ2 Q:=fun h=>runs_ret hr h
 simp -implicitDefEqProofs only[go_sem,cfg,vcells_agg,vlen3,<- hs1,hld,hld2,c2,e1,pure_mm,x2,m0,and_self,Int.toNat_natCast,Nat.mul_one,<- hhd,<- hs2]
 refine hcall ?_
 simp -implicitDefEqProofs only[go_sem,hld,hld2,c2]
 have hne:∀ t,has t -> t≠.heap:=fun t ht e=>hh (e▸ht)
 refine ⟨A3,s3,c3,rfl,R3.congr ?_ (fun _ _=>rfl) (fun _ _=>Nat.le_refl _) (fun _ _ _ _=>rfl),fun t ht=>?_,M⟩
 ·rintro t (h | h)
  ·exact .inl (.inl h)
  ·exact .inr h
 ·obtain ⟨a,b,c⟩:=hold t (.inl ht)
  rw [upd_ne (hne t ht)] at a b c
  exact ⟨a,b,c⟩
end
end Go.Proofs.YtlgmpheammbacaaGreatDoor
