import Derived.Test.YtlgmpheammbacaaGreatDoorSmj
set_option maxRecDepth 1000000
set_option linter.unusedVariables false
set_option linter.unusedSimpArgs false
attribute [local irreducible] AM.T.get AM.T.set
namespace Go.Proofs.YtlgmpheammbacaaGreatDoor
open AM Go
noncomputable section
variable {σ:St} {A:Slot -> Nat} {has:Slot -> Prop} {size:Slot -> Nat} {cell:Slot -> Nat -> V}
theorem r_slabNew {p:Option (Nat × Nat)} (h:RepF σ has A size cell) (hno:¬ has .slab) :
  Runs G0 [] 59 [.ptr p] σ fun v s=>∃ a,v=.ptr (some (a,0)) /\ RepF s (fun t=>has t \/ t=.slab) (upd A .slab a) (upd size .slab 9) (upd cell .slab fun i=>if i=0 then .ptr p else .int .i64 (-1)):=by
 refine runs_body g59 rfl ?_
 have e0:fillP [V.ptr none,.int .i64 0,.int .i64 0,.int .i64 0,.int .i64 0,.int .i64 0,.int .i64 0,.int .i64 0,.int .i64 0] [(0,1,.ptr p)]=some [V.ptr p,.int .i64 0,.int .i64 0,.int .i64 0,.int .i64 0,.int .i64 0,.int .i64 0,.int .i64 0,.int .i64 0]:=rfl
 obtain ⟨L,hL⟩:∃ L,L=[V.ptr p,.int .i64 0,.int .i64 0,.int .i64 0,.int .i64 0,.int .i64 0,.int .i64 0,.int .i64 0,.int .i64 0]:=⟨_,rfl⟩
 have l9:L.length=9:=by rw [hL];rfl
 rw [<- hL] at e0
 obtain ⟨a,ha⟩:∃ a,a=σ.next:=⟨_,rfl⟩
 obtain ⟨σ1,hs1⟩:∃ s,s=σ.newCells L:=⟨_,rfl⟩
 have R1:=h.new (s0:=.slab) hno (n:=9) (z:=[]) (t:=ofList L) (f:=lst L) (fun i hi=>by
  have:=cellOf_ofList L i
  rw [l9] at this
  rw [this];simp [lst,l9,hi])
 have R1':RepF σ1 (fun t=>has t \/ t=.slab) (upd A .slab a) (upd size .slab 9) (upd cell .slab (lst L)):=by
  rw [hs1,ha];unfold St.newCells;rw [l9];exact R1
 simp -implicitDefEqProofs only[go_sem,evalParts,e0,vcells_agg,l9,<- ha,<- hs1]
 refine aw_loop (fun (n:Nat) (fr:AM.Fr) (s:St)=>fr.defers=[] /\ fr.tmps.get 3=some (.ptr (some (a,0))) /\ ∃ i:Nat,fr.tmps.get 8=some (.int .i64 i) /\ i+n=8 ∧
  RepF s (fun t=>has t \/ t=.slab) (upd A .slab a) (upd size .slab 9) (upd cell .slab fun j=>if j=0 then .ptr p else if j <= i then .int .i64 (-1) else .int .i64 0)) ?_ 8 ?_
 ·rintro n ⟨tm,ds⟩ s ⟨hd,t3,i,t8,hi,R⟩
  simp only at hd t3 t8
  subst hd
  by_cases c:i<8
  ·have d1:(i:Int)<8:=by omega
   have d2:(0:Int) <= (i:Int) /\ (i:Int)<((8:Nat):Int):=by omega
   obtain ⟨s1,hst,R1,n1⟩:=R.store (s:=.slab) (.inr rfl) (off:=1+i) (vs:=[.int .i64 (-1)]) (by rw [upd_same];simp;omega) rfl
   rw [upd_same] at hst
   have e9:IntKind.i64.wrap ((i:Int)+1)=((i+1:Nat):Int):=i64_add (a:=i) (b:=1) (by omega)
   simp -implicitDefEqProofs only[go_sem,t3,t8,d1,d2,and_self,Int.toNat_natCast,Nat.mul_one,vcells_int,List.length_cons,List.length_nil,hst,e9]
   refine ⟨n-1,by omega,i+1,rfl,by omega,R1.congr (fun _ h=>h) (fun _ _=>rfl) (fun _ _=>Nat.le_refl _) fun t ht j hj=>?_⟩
   by_cases ct:t=.slab
   ·subst ct
    rw [upd_same] at hj
    rw [upd_same,upd_same,upd_same]
    unfold over
    show (if 1+i <= j /\ j<1+i+1 then [V.int .i64 (-1)].getD (j-(1+i)) V.undef else if j=0 then V.ptr p else if j <= i then .int .i64 (-1) else .int .i64 0)=if j=0 then V.ptr p else if j <= i+1 then .int .i64 (-1) else .int .i64 0
    by_cases c0:j=0
    ·subst c0;rw [if_neg (by omega),if_pos rfl,if_pos rfl]
    ·rw [if_neg c0,if_neg c0]
     by_cases c1:j=1+i
     ·subst c1;rw [if_pos (by omega),if_pos (by omega),Nat.sub_self];rfl
     ·rw [if_neg (by omega)]
      by_cases c2:j <= i
      ·rw [if_pos c2,if_pos (by omega)]
      ·rw [if_neg c2,if_neg (by omega)]
   ·rw [upd_ne ct,upd_ne ct,upd_ne ct]
  ·have d1:¬ ((i:Int)<8):=by omega
   simp -implicitDefEqProofs only[go_sem,t3,t8,d1]
   refine ⟨a,rfl,R.congr (fun _ h=>h) (fun _ _=>rfl) (fun _ _=>Nat.le_refl _) fun t ht j hj=>?_⟩
   by_cases ct:t=.slab
   ·subst ct
    rw [upd_same] at hj
    rw [upd_same,upd_same]
    by_cases c0:j=0
    ·rw [if_pos c0,if_pos c0]
    ·rw [if_neg c0,if_neg c0,if_pos (by omega)]
   ·rw [upd_ne ct,upd_ne ct]
 ·simp -implicitDefEqProofs only[go_sem]
  refine ⟨0,rfl,rfl,R1'.congr (fun _ h=>h) (fun _ _=>rfl) (fun _ _=>Nat.le_refl _) fun t ht j hj=>?_⟩
  by_cases ct:t=.slab
  ·subst ct
   rw [upd_same] at hj
   rw [upd_same,upd_same,hL]
   rcases (by omega:j=0 \/ j=1 \/ j=2 \/ j=3 \/ j=4 \/ j=5 \/ j=6 \/ j=7 \/ j=8) with rfl | rfl | rfl | rfl | rfl | rfl | rfl | rfl | rfl <;> rfl
  ·rw [upd_ne ct,upd_ne ct]
def heap0 (b l o:Nat):Heap:=⟨b,l,o,0,0,fun _=>0,fun _=>zeroP,fun _ _=>0,fun _=>0,fun _=>-1,false,false⟩
theorem ok_heap0 {b l o:Nat} (h:MayC b l o):(heap0 b l o).OK:=by
 have h1:=h.o8;have h2:=h.l1;have h3:=h.l64;have h4:=h.pages;have h5:=h.b0;have h6:=h.al;have h7:=h.top
 simp only [Int.toNat_natCast] at h4 h6 h7
 have hc1:((l*2^o:Nat):Int)=(l:Int)*2^o:=by simp
 have hc2:((4096*2^o:Nat):Int)=4096*2^o:=by simp
 have hc3:((4096*2^o*l:Nat):Int)=4096*2^o*(l:Int):=by simp
 rw [<- hc1] at h4
 rw [<- hc2] at h6
 rw [<- hc3] at h7
 refine ⟨?_,?_,?_,?_,?_,?_,?_,Nat.zero_le _,fun _=>?_,fun _=>?_,fun _ _=>?_,fun h=>absurd h (Nat.lt_irrefl _),fun h=>absurd h (Nat.lt_irrefl _)⟩
 ·show 0<b;omega
 ·show o <= 8;omega
 ·show 1 <= l;omega
 ·show l <= 64;omega
 ·show l*2^o <= 1024;omega
 ·show b+4096*2^o*l <= 9223372036854775808;omega
 ·show b%(4096*2^o)=0;omega
 ·show 0<256;omega
 ·show 0<18446744073709551616;omega
 ·show 0<18446744073709551616;omega
theorem inv_heap0 {b l o:Nat} (h:MayC b l o):Inv (heap0 b l o) (fun _=>[]) (fun _=>[]) (fun _=>[]) (fun _=>False) where
 ok:=ok_heap0 h
 pg x hx:=by have:(heap0 b l o).np=0:=(by show 0*_=0;omega);omega
 fmem k hk p:=by
  have:(heap0 b l o).np=0:=by show 0*_=0;omega
  rw [this];simp
 fnd k hk:=by simp
 flk k hk:=⟨rfl,trivial⟩
 bits k hk i hi:=by
  have h0:(heap0 b l o).np=0:=by show 0*_=0;omega
  have:(heap0 b l o).nw k=0:=by unfold Heap.nw Heap.npair;rw [h0];simp
  omega
 sl x hx:=by have:(heap0 b l o).np=0:=(by show 0*_=0;omega);omega
 pmem c hc x:=by
  have:(heap0 b l o).np=0:=by show 0*_=0;omega
  rw [this];simp
 pnd c hc:=by simp
 plk c hc:=⟨rfl,trivial⟩
theorem r_regionNew {b l o:Int} (hb0:0 <= b) (hb:b<18446744073709551616) (h:RepF σ (fun t=>t=.pages) A size cell) :
  Runs G0 [] 58 [cfg b l o] σ fun v s=>(¬ MayC b l o -> v=.tuple [.ptr none,.int .i64 1] /\ Grow σ s) /\ (MayC b l o -> ∃ A' size' cell',v=.tuple [.ptr (some (A' .pool,0)),.int .i64 0] /\ A' .pages=A .pages ∧
   RepF s (fun t=>t=.pages \/ t=.pool \/ t=.space \/ mapHas o.toNat t \/ budHas (o.toNat+1) t) A' size' cell' /\ size' .pages=size .pages /\ cell' .pages=cell .pages ∧
   size' .pool=3 /\ (∀ i,i<3 -> cell' .pool i=lst [.ptr (some (A' .space,0)),.ptr (some (A' .map,0)),.ptr (some (A' .buddy,0))] i) ∧
   size' .space=5 /\ (∀ i,i<5 -> cell' .space i=lst [.int .u64 b,.int .i64 l,.int .i64 o,.int .u64 (shlI .u64 4096 o),.slice none 0 0] i) ∧
   MapF o.toNat o.toNat A' size' cell' /\ BudF b l o.toNat (some (A' .space,0)) (some (A' .map,0)) (o.toNat+1) A' size' cell'):=by
 refine runs_body g58 rfl ?_
 obtain ⟨q,hq⟩:∃ q,q=σ.next:=⟨_,rfl⟩
 obtain ⟨σ1,hs1⟩:∃ s,s=σ.newCells [.int .u64 b,.int .i64 l,.int .i64 o]:=⟨_,rfl⟩
 have R1:=h.new (s0:=.parts) (by simp) (n:=3) (z:=[]) (t:=ofList [.int .u64 b,.int .i64 l,.int .i64 o]) (f:=lst [.int .u64 b,.int .i64 l,.int .i64 o]) (fun i hi=>by
  have:=cellOf_ofList [V.int .u64 b,.int .i64 l,.int .i64 o] i
  rw [vlen3] at this
  rw [this]
  rcases (by omega:i=0 \/ i=1 \/ i=2) with rfl | rfl | rfl <;> rfl)
 have R1':RepF σ1 (fun t=>t=.pages \/ t=.parts) (upd A .parts q) (upd size .parts 3) (upd cell .parts (lst [.int .u64 b,.int .i64 l,.int .i64 o])):=by rw [hs1,hq];exact R1
 have rd:∀ {τ:St} {hs:Slot -> Prop} {B:Slot -> Nat} {sz:Slot -> Nat} {cl:Slot -> Nat -> V},RepF τ hs B sz cl -> hs .parts -> B .parts=q -> sz .parts=3 -> cl .parts=lst [.int .u64 b,.int .i64 l,.int .i64 o] →
   τ.load q 0 3=some [.int .u64 b,.int .i64 l,.int .i64 o] /\ τ.cell q 2=some (.int .i64 o):=by
  intro τ hs B sz cl R a1 a2 a3 a4
  have hr:=R.row .parts a1
  rw [a2,a3,a4] at hr
  exact ⟨by rw [hr.load (by omega)];rfl,hr.cell (by omega)⟩
 obtain ⟨hld1,hc1⟩:=rd R1' (.inr rfl) upd_same upd_same upd_same
 obtain ⟨v,σ2,⟨g2,w2,m1,m2⟩,hr2⟩:=r_memNew (l:=l) (o:=o) hb0 hb R1'.gw
 have hr2':Ret G0 [] 117 [.agg [.int .u64 b,.int .i64 l,.int .i64 o]] σ1 v σ2:=hr2
 simp -implicitDefEqProofs only[go_sem,cfg,vcells_agg,vlen3,<- hs1,<- hq,hld1]
 refine runs_ret hr2' ?_
 by_cases hm:MayC b l o
 ·obtain ⟨s,rfl,hsn,Ls⟩:=m1 hm
  obtain ⟨k,rfl⟩:∃ k:Nat,o=(k:Int):=⟨o.toNat,by have:=hm.o0;omega⟩
  have hk:k <= 8:=by have:=hm.o8;omega
  simp only [Int.toNat_natCast]
  have R2:=(R1'.grow g2 w2).add (s0:=.space) (by simp) Ls (fun t ht=>by have:=R1'.is_lt ht;omega)
  obtain ⟨hld2,hc2⟩:=rd R2 (.inl (.inr rfl)) (by rw [upd_ne (by simp),upd_same]) (by rw [upd_ne (by simp),upd_same]) (by rw [upd_ne (by simp),upd_same])
  obtain ⟨v,σ3,⟨A3,s3,c3,rfl,R3,hold3,M⟩,hr3⟩:=r_mapNew hk R2 (fun i t ht=>by
   rintro ((rfl | rfl) | rfl) <;> rcases ht with h | ⟨h,_⟩ | ⟨j,_,h | h⟩ <;> cases h)
  obtain ⟨a3,b3,d3⟩:=hold3 .parts (.inl (.inr rfl))
  rw [upd_ne (by simp),upd_same] at a3 b3 d3
  obtain ⟨hld3,hc3⟩:=rd R3 (.inl (.inl (.inr rfl))) a3 b3 d3
  obtain ⟨aS,bS,dS⟩:=hold3 .space (.inr rfl)
  rw [upd_same] at aS bS dS
  obtain ⟨v,σ4,⟨A4,s4,c4,rfl,R4,hold4,B⟩,hr4⟩:=r_buddyNew (b:=b) (l:=l) (ps:=some (s,0)) (pm:=some (A3 .map,0)) hk R3 (by
   rintro (((h | h) | h) | h | ⟨h,_⟩ | ⟨j,_,h | h⟩) <;> cases h) (fun i t ht=>by
   rcases ht with rfl | ⟨rfl,_⟩ | ⟨j,_,rfl⟩ <;> (rintro (((h | h) | h) | h | ⟨h,_⟩ | ⟨j,_,h | h⟩) <;> cases h))
  have hr4':Ret G0 [] 119 [.agg [.int .u64 b,.int .i64 l,.int .i64 k],.ptr (some (s,0)),.ptr (some (A3 .map,0))] σ3 (.ptr (some (A4 .buddy,0))) σ4:=hr4
  have hmp:∀ t,mapHas k t -> A4 t=A3 t /\ s4 t=s3 t /\ c4 t=c3 t:=fun t ht=>hold4 t (.inr ht)
  obtain ⟨am,_,_⟩:=hmp .map (.inl rfl)
  obtain ⟨asp,bsp,dsp⟩:=hold4 .space (.inl (.inr rfl))
  rw [aS] at asp;rw [bS] at bsp;rw [dS] at dsp
  have hno:∀ t,t=Slot.pool -> ¬ (((((t=.pages \/ t=.parts) \/ t=.space) \/ mapHas k t) \/ budHas (k+1) t)):=by
   rintro t rfl
   rintro ((((h | h) | h) | h | ⟨h,_⟩ | ⟨j,_,h | h⟩) | h | ⟨h,_⟩ | ⟨j,_,h⟩) <;> cases h
  have e1:fillP [V.ptr none,.ptr none,.ptr none] [(0,1,.ptr (some (s,0))),(1,1,.ptr (some (A3 .map,0))),(2,1,.ptr (some (A4 .buddy,0)))]=some [V.ptr (some (s,0)),.ptr (some (A3 .map,0)),.ptr (some (A4 .buddy,0))]:=rfl
  have e2:fillP [V.ptr none,.ptr none,.ptr none] [(0,3,.agg [V.ptr (some (s,0)),.ptr (some (A3 .map,0)),.ptr (some (A4 .buddy,0))])]=some [V.ptr (some (s,0)),.ptr (some (A3 .map,0)),.ptr (some (A4 .buddy,0))]:=rfl
  have R5:=R4.new (s0:=.pool) (hno .pool rfl) (n:=3) (z:=[]) (t:=ofList [V.ptr (some (s,0)),.ptr (some (A3 .map,0)),.ptr (some (A4 .buddy,0))]) (f:=lst [V.ptr (some (s,0)),.ptr (some (A3 .map,0)),.ptr (some (A4 .buddy,0))]) (fun i hi=>by
   have:=cellOf_ofList [V.ptr (some (s,0)),.ptr (some (A3 .map,0)),.ptr (some (A4 .buddy,0))] i
   rw [vlen3] at this
   rw [this]
   rcases (by omega:i=0 \/ i=1 \/ i=2) with rfl | rfl | rfl <;> rfl)
  simp -implicitDefEqProofs only[go_sem,ne_eq,not_true_eq_false,hc2]
  refine runs_ret hr3 ?_
  simp -implicitDefEqProofs only[go_sem,hld3]
  refine runs_ret hr4' ?_
  simp -implicitDefEqProofs only[go_sem,evalParts,e1,e2,vcells_agg,vlen3]
  refine ⟨fun hn=>(hn hm).elim,fun _=>⟨_,_,_,by rw [upd_same],?_,R5.congr ?_ (fun _ _=>rfl) (fun _ _=>Nat.le_refl _) (fun _ _ _ _=>rfl),?_,?_,upd_same,?_,?_,?_,?_,?_⟩⟩
  ·rw [upd_ne (by simp),(hold4 .pages (.inl (.inl (.inl rfl)))).1,(hold3 .pages (.inl (.inl rfl))).1,upd_ne (by simp),upd_ne (by simp)]
  ·rintro t (h | h | h | h | h)
   ·exact .inl (.inl (.inl (.inl (.inl h))))
   ·exact .inr h
   ·exact .inl (.inl (.inl (.inr h)))
   ·exact .inl (.inl (.inr h))
   ·exact .inl (.inr h)
  ·rw [upd_ne (by simp),(hold4 .pages (.inl (.inl (.inl rfl)))).2.1,(hold3 .pages (.inl (.inl rfl))).2.1,upd_ne (by simp),upd_ne (by simp)]
  ·rw [upd_ne (by simp),(hold4 .pages (.inl (.inl (.inl rfl)))).2.2,(hold3 .pages (.inl (.inl rfl))).2.2,upd_ne (by simp),upd_ne (by simp)]
  ·intro i hi
   rw [upd_same,upd_ne (by simp),upd_ne (by simp),upd_ne (by simp),asp,am]
  ·rw [upd_ne (by simp),bsp]
  ·intro i hi;rw [upd_ne (by simp),dsp]
  ·have hAp:upd A4 .pool σ4.next .pairs=A4 .pairs:=upd_ne (by simp)
   refine ⟨?_,fun j hj=>?_,fun h0=>?_,fun j hj=>?_,fun j hj=>?_,fun j hj m hm'=>?_,fun j hj=>?_⟩
   ·rw [upd_ne (by simp),(hmp .map (.inl rfl)).2.1];exact M.sm
   ·rw [upd_ne (by simp),(hmp .map (.inl rfl)).2.2]
    have:ptrRow (upd A4 .pool σ4.next) .pairs k=ptrRow A3 .pairs k:=by
     unfold ptrRow
     by_cases c:k=0
     ·rw [if_pos c,if_pos c]
     ·rw [if_neg c,if_neg c,hAp,(hmp .pairs (.inr (.inl ⟨rfl,by omega⟩))).1]
    rw [this];exact M.cm j hj
   ·rw [upd_ne (by simp),(hmp .pairs (.inr (.inl ⟨rfl,h0⟩))).2.1];exact M.sp h0
   ·rw [upd_ne (by simp),upd_ne (by simp),(hmp .pairs (.inr (.inl ⟨rfl,by omega⟩))).2.2,(hmp (.set j) (.inr (.inr ⟨j,hj,.inl rfl⟩))).1];exact M.cp j hj
   ·rw [upd_ne (by simp),(hmp (.set j) (.inr (.inr ⟨j,hj,.inl rfl⟩))).2.1];exact M.ss j hj
   ·rw [upd_ne (by simp),upd_ne (by simp),(hmp (.set j) (.inr (.inr ⟨j,hj,.inl rfl⟩))).2.2,(hmp (.words j) (.inr (.inr ⟨j,hj,.inr rfl⟩))).1];exact M.cs j hj m hm'
   ·rw [upd_ne (by simp),(hmp (.words j) (.inr (.inr ⟨j,hj,.inr rfl⟩))).2.1];exact M.sw j hj
  ·have hrow:ptrRow (upd A4 .pool σ4.next) .lists (k+1)=ptrRow A4 .lists (k+1):=by unfold ptrRow;rw [upd_ne (by simp)]
   rw [upd_ne (by simp),upd_ne (by simp),asp,am]
   refine ⟨?_,fun j hj=>?_,fun h0=>?_,fun j hj=>?_,fun j hj=>?_,fun j hj m hm'=>?_⟩
   ·rw [upd_ne (by simp)];exact B.sb
   ·rw [upd_ne (by simp),hrow];exact B.cb j hj
   ·rw [upd_ne (by simp)];exact B.sl h0
   ·rw [upd_ne (by simp),upd_ne (by simp)];exact B.cl j hj
   ·rw [upd_ne (by simp)];exact B.ss j hj
   ·rw [upd_ne (by simp)];exact B.cs j hj m hm'
 ·obtain rfl:=m2 hm
  have d1:(1:Int)≠0:=by decide
  simp -implicitDefEqProofs only[go_sem,d1,ne_eq,not_false_eq_true]
  have g1:Grow σ σ1:=by rw [hs1];exact Grow.new _ _
  exact ⟨fun _=>g1.trans g2,fun h=>(hm h).elim⟩
end
noncomputable section
variable {σ σ':St} {A:Slot -> Nat} {H:Heap}
theorem r_mallocNew0 {b l o:Int} (hb0:0 <= b) (hb:b<18446744073709551616) (w:GW σ) (hw:Wid σ) :
  Runs G0 [] 16 [cfg b l o] σ fun v s=>(¬ MayC b l o -> v=.tuple [.ptr none,.int .i64 1] /\ Grow σ s) /\ (MayC b l o -> ∃ A,v=.tuple [.ptr (some (A .heap,0)),.int .i64 0] /\ HRep s A (heap0 b.toNat l.toNat o.toNat)):=by
 refine runs_body g16 rfl ?_
 obtain ⟨q,hq⟩:∃ q,q=σ.next:=⟨_,rfl⟩
 obtain ⟨σ1,hs1⟩:∃ s,s=σ.newCells [.int .u64 b,.int .i64 l,.int .i64 o]:=⟨_,rfl⟩
 have R0:=RepF.none w hw (fun _=>0) (fun _=>0) (fun _ _=>V.undef)
 have R1:=R0.new (s0:=.pages) (fun h=>h) (n:=3) (z:=[]) (t:=ofList [.int .u64 b,.int .i64 l,.int .i64 o]) (f:=lst [.int .u64 b,.int .i64 l,.int .i64 o]) (fun i hi=>by
  have:=cellOf_ofList [V.int .u64 b,.int .i64 l,.int .i64 o] i
  rw [vlen3] at this
  rw [this]
  rcases (by omega:i=0 \/ i=1 \/ i=2) with rfl | rfl | rfl <;> rfl)
 have R1':RepF σ1 (fun t=>t=.pages) (upd (fun _=>0) .pages q) (upd (fun _=>0) .pages 3) (upd (fun _ _=>V.undef) .pages (lst [.int .u64 b,.int .i64 l,.int .i64 o])):=by
  rw [hs1,hq];exact R1.congr (fun _ h=>.inr h) (fun _ _=>rfl) (fun _ _=>Nat.le_refl _) (fun _ _ _ _=>rfl)
 have rd:∀ {τ:St} {hs:Slot -> Prop} {B:Slot -> Nat} {sz:Slot -> Nat} {cl:Slot -> Nat -> V},RepF τ hs B sz cl -> hs .pages -> B .pages=q -> sz .pages=3 -> cl .pages=lst [.int .u64 b,.int .i64 l,.int .i64 o] →
   τ.load q 0 3=some [.int .u64 b,.int .i64 l,.int .i64 o]:=by
  intro τ hs B sz cl R a1 a2 a3 a4
  have hr:=R.row .pages a1
  rw [a2,a3,a4] at hr
  rw [hr.load (by omega)];rfl
 have hld1:=rd R1' rfl upd_same upd_same upd_same
 obtain ⟨v,σ2,⟨m1,m2⟩,hr2⟩:=r_regionNew (l:=l) (o:=o) hb0 hb R1'
 have hr2':Ret G0 [] 58 [.agg [.int .u64 b,.int .i64 l,.int .i64 o]] σ1 v σ2:=hr2
 simp -implicitDefEqProofs only[go_sem,cfg,vcells_agg,vlen3,<- hs1,<- hq,hld1]
 refine runs_ret hr2' ?_
 by_cases hm:MayC b l o
 ·obtain ⟨A2,s2,c2,rfl,ap,R2,sp,cp,pl3,pc,sp5,sc,M,B⟩:=m2 hm
  rw [upd_same] at ap sp cp
  have hld2:=rd R2 (.inl rfl) ap sp cp
  obtain ⟨k,rfl⟩:∃ k:Nat,o=(k:Int):=⟨o.toNat,by have:=hm.o0;omega⟩
  obtain ⟨n,rfl⟩:∃ n:Nat,b=(n:Int):=⟨b.toNat,by omega⟩
  obtain ⟨m,rfl⟩:∃ m:Nat,l=(m:Int):=⟨l.toNat,by have:=hm.l1;omega⟩
  simp only [Int.toNat_natCast] at R2 M B ⊢
  have hk:k <= 8:=by have:=hm.o8;omega
  have hns:¬ ((Slot.slab)=.pages \/ (Slot.slab)=.pool \/ (Slot.slab)=.space \/ mapHas k .slab \/ budHas (k+1) .slab):=by
   rintro (h | h | h | (h | ⟨h,_⟩ | ⟨j,_,h | h⟩) | h | ⟨h,_⟩ | ⟨j,_,h⟩) <;> cases h
  obtain ⟨v,σ3,⟨a,rfl,R3⟩,hr3⟩:=r_slabNew (p:=some (A2 .pool,0)) R2 hns
  have hld3:=rd R3 (.inl (.inl rfl)) (by rw [upd_ne (by simp)];exact ap) (by rw [upd_ne (by simp)];exact sp) (by rw [upd_ne (by simp)];exact cp)
  have e1:fillP [V.int .i32 0,.int .u32 0,.int .u64 0,.int .i64 0,.int .i64 0,.ptr none,.ptr none] [(2,3,.agg [V.int .u64 n,.int .i64 m,.int .i64 k]),(5,1,.ptr (some (A2 .pool,0))),(6,1,.ptr (some (a,0)))] =
   some [V.int .i32 0,.int .u32 0,.int .u64 n,.int .i64 m,.int .i64 k,.ptr (some (A2 .pool,0)),.ptr (some (a,0))]:=rfl
  have l7:[V.int .i32 0,.int .u32 0,.int .u64 n,.int .i64 m,.int .i64 k,.ptr (some (A2 .pool,0)),.ptr (some (a,0))].length=7:=rfl
  have hnh:¬ ((Slot.heap=.pages \/ Slot.heap=.pool \/ Slot.heap=.space \/ mapHas k .heap \/ budHas (k+1) .heap) \/ Slot.heap=.slab):=by
   rintro ((h | h | h | (h | ⟨h,_⟩ | ⟨j,_,h | h⟩) | h | ⟨h,_⟩ | ⟨j,_,h⟩) | h) <;> cases h
  have R4:=R3.new (s0:=.heap) hnh (n:=7) (z:=[]) (t:=ofList [V.int .i32 0,.int .u32 0,.int .u64 n,.int .i64 m,.int .i64 k,.ptr (some (A2 .pool,0)),.ptr (some (a,0))]) (f:=lst [V.int .i32 0,.int .u32 0,.int .u64 n,.int .i64 m,.int .i64 k,.ptr (some (A2 .pool,0)),.ptr (some (a,0))]) (fun i hi=>by
   have:=cellOf_ofList [V.int .i32 0,.int .u32 0,.int .u64 n,.int .i64 m,.int .i64 k,.ptr (some (A2 .pool,0)),.ptr (some (a,0))] i
   rw [l7] at this
   rw [this]
   rcases (by omega:i=0 \/ i=1 \/ i=2 \/ i=3 \/ i=4 \/ i=5 \/ i=6) with rfl | rfl | rfl | rfl | rfl | rfl | rfl <;> rfl)
  simp -implicitDefEqProofs only[go_sem,ne_eq,not_true_eq_false,hld2]
  refine runs_ret hr3 ?_
  simp -implicitDefEqProofs only[go_sem,hld2,hld3,evalParts,e1,vcells_agg,l7]
  refine ⟨fun hn=>(hn hm).elim,fun _=>⟨upd (upd A2 .slab a) .heap σ3.next,by rw [upd_same],?_⟩⟩
  have hrz:shlI .u64 4096 (k:Int)=((4096*2^k:Nat):Int):=by
   have hp:2^k <= 2^8:=Nat.pow_le_pow_right (by omega) hk
   exact u64_shl (a:=4096) (by omega) (by omega)
  have hz0:∀ j,(heap0 n m k).npair j=0 /\ (heap0 n m k).nw j=0:=by
   intro j
   have h0:(heap0 n m k).np=0:=by show 0*_=0;omega
   have h1:(heap0 n m k).npair j=0:=by unfold Heap.npair;rw [h0];simp
   exact ⟨h1,by unfold Heap.nw;rw [h1]⟩
  refine R4.hrep (fun t ht=>?_) (fun t ht=>?_) (fun t ht i hi=>?_)
  ·cases t with
   |heap=>exact .inr rfl
   |slab=>exact .inl (.inr rfl)
   |pool=>exact .inl (.inl (.inr (.inl rfl)))
   |space=>exact .inl (.inl (.inr (.inr (.inl rfl))))
   |map=>exact .inl (.inl (.inr (.inr (.inr (.inl (.inl rfl))))))
   |pairs=>exact .inl (.inl (.inr (.inr (.inr (.inl (.inr (.inl ⟨rfl,ht⟩)))))))
   |set j=>exact .inl (.inl (.inr (.inr (.inr (.inl (.inr (.inr ⟨j,ht,.inl rfl⟩)))))))
   |words j=>exact .inl (.inl (.inr (.inr (.inr (.inl (.inr (.inr ⟨j,ht,.inr rfl⟩)))))))
   |buddy=>exact .inl (.inl (.inr (.inr (.inr (.inr (.inl rfl))))))
   |lists=>exact .inl (.inl (.inr (.inr (.inr (.inr (.inr (.inl ⟨rfl,by omega⟩)))))))
   |list j=>exact .inl (.inl (.inr (.inr (.inr (.inr (.inr (.inr ⟨j,Nat.lt_succ_of_le ht,rfl⟩)))))))
   |parts=>cases ht
   |pages=>cases ht
   |reg r=>exact absurd ht (Nat.not_lt_zero r)
  ·cases t with
   |heap=>rw [upd_same];exact Nat.le_refl _
   |slab=>rw [upd_ne (by simp),upd_same];exact Nat.le_refl _
   |pool=>rw [upd_ne (by simp),upd_ne (by simp),pl3];exact Nat.le_refl _
   |space=>rw [upd_ne (by simp),upd_ne (by simp),sp5];exact Nat.le_refl _
   |map=>rw [upd_ne (by simp),upd_ne (by simp),M.sm];exact Nat.le_refl _
   |pairs=>rw [upd_ne (by simp),upd_ne (by simp),M.sp ht];exact Nat.le_refl _
   |set j=>rw [upd_ne (by simp),upd_ne (by simp),M.ss j ht];exact Nat.le_refl _
   |words j=>rw [upd_ne (by simp),upd_ne (by simp),M.sw j ht];show (heap0 n m k).nw j <= 0;rw [(hz0 j).2];exact Nat.le_refl _
   |buddy=>rw [upd_ne (by simp),upd_ne (by simp),B.sb];exact Nat.le_refl _
   |lists=>rw [upd_ne (by simp),upd_ne (by simp),B.sl (by omega)];exact Nat.le_refl _
   |list j=>rw [upd_ne (by simp),upd_ne (by simp),B.ss j (Nat.lt_succ_of_le ht)];exact Nat.le_refl _
   |parts=>cases ht
   |pages=>cases ht
   |reg r=>exact absurd ht (Nat.not_lt_zero r)
  ·cases t with
   |heap =>
    rw [upd_same]
    simp only [Heap.cell]
    rw [upd_ne (show Slot.pool≠.heap by simp),upd_ne (show Slot.pool≠.slab by simp),upd_ne (show Slot.slab≠.heap by simp),upd_same];rfl
   |slab =>
    rw [upd_ne (by simp),upd_same]
    simp only [Heap.cell]
    rw [upd_ne (show Slot.pool≠.heap by simp),upd_ne (show Slot.pool≠.slab by simp)];rfl
   |pool =>
    rw [upd_ne (by simp),upd_ne (by simp),pc i hi]
    simp only [Heap.cell]
    rw [upd_ne (by simp),upd_ne (by simp),upd_ne (by simp),upd_ne (by simp),upd_ne (by simp),upd_ne (by simp)]
   |space =>
    rw [upd_ne (by simp),upd_ne (by simp),sc i hi,hrz];rfl
   |map =>
    rw [upd_ne (by simp),upd_ne (by simp),M.cm i hi]
    have e:ptrRow A2 .pairs k=(heap0 n m k).pairsV (upd (upd A2 .slab a) .heap σ3.next):=by
     unfold ptrRow Heap.pairsV
     show _=if 0<k then V.slice (some (upd (upd A2 .slab a) .heap σ3.next .pairs,0)) k 1 else .slice none 0 0
     rw [upd_ne (by simp),upd_ne (by simp)]
     by_cases c:k=0
     ·rw [if_pos c,if_neg (by omega)]
     ·rw [if_neg c,if_pos (by omega)]
    rw [e];rfl
   |pairs =>
    rw [upd_ne (by simp),upd_ne (by simp),M.cp i hi]
    simp only [Heap.cell]
    rw [upd_ne (by simp),upd_ne (by simp)]
   |set j =>
    rw [upd_ne (by simp),upd_ne (by simp),M.cs j ht i hi]
    simp only [Heap.cell,(hz0 j).1,(hz0 j).2]
    rw [upd_ne (by simp),upd_ne (by simp)];rfl
   |words j =>
    have hi':i<(heap0 n m k).nw j:=hi
    rw [(hz0 j).2] at hi';omega
   |buddy =>
    rw [upd_ne (by simp),upd_ne (by simp),B.cb i hi]
    simp only [Heap.cell]
    rw [upd_ne (by simp),upd_ne (by simp),upd_ne (by simp),upd_ne (by simp),upd_ne (by simp),upd_ne (by simp)]
    unfold ptrRow;rw [if_neg (by omega)];rfl
   |lists =>
    rw [upd_ne (by simp),upd_ne (by simp),B.cl i hi]
    simp only [Heap.cell]
    rw [upd_ne (by simp),upd_ne (by simp)]
   |list j =>
    rw [upd_ne (by simp),upd_ne (by simp),B.cs j (Nat.lt_succ_of_le ht) i hi]
    simp only [Heap.cell]
    rw [upd_ne (by simp),upd_ne (by simp)];rfl
   |parts=>cases ht
   |pages=>cases ht
   |reg r=>exact absurd ht (Nat.not_lt_zero r)
 ·obtain ⟨rfl,g2⟩:=m1 hm
  have d1:(1:Int)≠0:=by decide
  have g1:Grow σ σ1:=by rw [hs1];exact Grow.new _ _
  simp -implicitDefEqProofs only[go_sem,d1,ne_eq,not_false_eq_true]
  exact ⟨fun _=>g1.trans g2,fun h=>(hm h).elim⟩
theorem gw_keep (gw:GW σ) (own:Nat -> Prop):GW (σ.keep own) where
 pos:=gw.pos
 fresh a ha:=by
  by_cases h:own a
  ·rw [(σ.keep_get own a).1 h];exact gw.fresh a ha
  ·exact (σ.keep_get own a).2 h
 zero:=gw.zero
 lt:=gw.lt
 grp g a o h1 h2 h3:=by
  by_cases h:own a
  ·rw [(σ.keep_get own a).1 h] at h2;exact gw.grp g a o h1 h2 h3
  ·rw [(σ.keep_get own a).2 h] at h2;cases h2
 mem a o h1 h2:=by
  by_cases h:own a
  ·rw [(σ.keep_get own a).1 h] at h1;exact gw.mem a o h1 h2
  ·rw [(σ.keep_get own a).2 h] at h1;cases h1
end
noncomputable section
variable {σ:St} {A:Slot -> Nat} {H:Heap}
theorem r_blkS (hR:HRep σ A H) (ok:H.OK) {p c q y:Nat} (hp:p<H.np) (hkind:(H.page p).kind=4) (hcls:(H.page p).cls=(c:Int)) (hc:c<8) (hy:y<4096) (hqy:q=y / (16*2^c))
  (hwords:∀ j,(H.page p).bw j<18446744073709551616) :
  Runs G0 [] 132 [.ptr (some (A .heap,0)),.int .u64 (H.addr p+y:Nat)] σ fun r σ' =>
   r=.tuple [.agg [.int .u64 (H.addr p+q*(16*2^c):Nat),.int .u64 (16*2^c:Nat)],.bool (decide ((H.page p).bit q=1))] /\ Grow σ σ':=by
 have hq:q<256 / 2^c:=by
  obtain ⟨w1,w2,w3,w4,w5⟩:=w8 hc
  rw [hqy]
  refine Nat.div_lt_of_lt_mul ?_
  rw [w1];exact hy
 refine runs_body g132 rfl ?_
 obtain ⟨w,hwd⟩:∃ w,w=16*2^c:=⟨_,rfl⟩
 obtain ⟨n,hnd⟩:∃ n,n=256 / 2^c:=⟨_,rfl⟩
 have hw8:=w8 hc
 rw [<- hwd, <- hnd] at hw8
 rw [<- hwd]
 rw [<- hwd] at hqy
 rw [<- hnd] at hq
 obtain ⟨w1,w2,w3,w4,w5⟩:=hw8
 have hqw:q*w+w <= 4096:=by
  have h:(q+1)*w <= n*w:=Nat.mul_le_mul_right _ hq
  rw [Nat.add_mul,Nat.mul_comm n,w1] at h;omega
 have hnp:=np_le ok
 have ha2:H.addr p+4096<18446744073709551616:=by
  have:=addr_lt ok (p:=p+1) hp
  unfold Heap.addr at *;omega
 have hba:=base_al ok
 obtain ⟨o,ho⟩:∃ o,o=q*w:=⟨_,rfl⟩
 rw [<- ho] at hqw ⊢
 obtain ⟨a,had⟩:∃ a,a=H.addr p+o:=⟨_,rfl⟩
 obtain ⟨a0,ha0⟩:∃ a0,a0=H.addr p+y:=⟨_,rfl⟩
 rw [<- had, <- ha0]
 have hwp:w∣H.addr p:=by
  have h4096:w∣4096:=⟨n,w1.symm⟩
  refine Nat.dvd_trans h4096 (Nat.dvd_of_mod_eq_zero ?_)
  unfold Heap.addr;omega
 have haa:a0 / w=a / w:=by
  obtain ⟨m,hm⟩:=hwp
  rw [had,ha0,hm,ho,Nat.mul_add_div (by omega),Nat.mul_comm q, <- Nat.mul_add,Nat.mul_div_cancel_left _ (by omega),hqy]
 have haw:a / w*w=a:=by
  refine Nat.div_mul_cancel ?_
  rw [had]
  refine Nat.dvd_add ?_ ⟨q,by rw [ho,Nat.mul_comm]⟩
  have h4096:w∣4096:=⟨n,w1.symm⟩
  refine Nat.dvd_trans h4096 (Nat.dvd_of_mod_eq_zero ?_)
  unfold Heap.addr;omega
 have hrem:a%4096=o:=by rw [had];unfold Heap.addr;omega
 have g1:=Grow.new σ (.cells false 0 2 [.int .u64 0,.int .u64 0] .nil)
 have R1:=hR.new (.cells false 0 2 [.int .u64 0,.int .u64 0] .nil) rfl
 have L1:=Lcl.of_new σ [.int .u64 0,.int .u64 0] 2 (.inl (by simp))
 obtain ⟨lx,hlx⟩:∃ lx,lx=σ.next:=⟨_,rfl⟩
 have hb:=heap_base R1
 have h5:=heap_pool R1
 have hps:=pool_space R1
 have hfin:=fin_np4 H
 have c1:¬ ((a0:Int)<(H.base:Int)):=by unfold Heap.addr at *;omega
 have c2:¬ ((H.fin:Int) <= (a0:Int)):=by rw [hfin];unfold Heap.addr at *;omega
 simp -implicitDefEqProofs only[go_sem,List.length_cons,List.length_nil,hb,c1,h5,hps]
 rw [<- hlx] at L1 ⊢
 have N1:∀ s,H.has s -> A s≠lx:=fun s hs=>by have:=hR.lt hs;omega
 generalize σ.new (.cells false 0 2 _ .nil)=σ1 at g1 R1 L1 hb h5 hps ⊢
 obtain ⟨v,σ2,⟨hv,hs⟩,hr2⟩:=r_PSpace R1
 subst hv hs
 refine runs_ret hr2 ?_
 obtain ⟨v,σ3,⟨hv,hs⟩,hr3⟩:=r_End R1 ok
 subst hv hs
 simp -implicitDefEqProofs only[go_sem]
 refine runs_ret hr3 ?_
 have e1:IntKind.u64.wrap ((a0:Int)-(H.base:Int))=((4096*p+y:Nat):Int):=by
  unfold Heap.addr at *;rw [wu64_id] <;> omega
 have d2:(4096:Int)≠0:=by decide
 have e2:IntKind.u64.wrap (((4096*p+y:Nat):Int).tdiv 4096)=(p:Int):=by
  rw [show (4096:Int)=((4096:Nat):Int) from rfl,nat_tdiv,wu64_id] <;> omega
 have e3:IntKind.i64.wrap (p:Int)=(p:Int):=i64_nat (by omega)
 obtain ⟨v,σ4,⟨hv,hs⟩,hr4⟩:=r_PMap R1
 subst hv hs
 simp -implicitDefEqProofs only[go_sem,c2,hb,e1,d2,bin_quo,ne_eq,not_false_eq_true,e2,e3,h5]
 refine runs_ret hr4 ?_
 simp -implicitDefEqProofs only[go_sem]
 obtain ⟨v,σ5,⟨hv,g5,R5⟩,hr5⟩:=R1.rgrow (r_At R1 ok hp)
 subst hv
 refine runs_ret hr5 ?_
 have L5:=L1.grow R1.gw g5
 obtain ⟨x,hx⟩:∃ x,x=H.page p:=⟨_,rfl⟩
 rw [<- hx]
 have hz:zeroP.cells=[V.int .i64 0,.int .i64 0,.int .i64 0,.int .i64 0,.int .i64 0,.int .i64 0,.int .i64 0,.int .u64 0,.int .u64 0,.int .u64 0,.int .u64 0]:=rfl
 have hst:=new_store (σ:=σ5) (z:=zeroP.cells) (vs:=x.cells) (n:=11) (by simp [Page.cells_len]) rfl
 have g6:=Grow.lay σ5 11 zeroP.cells x.cells
 have R6:=R5.lay (n:=11) (z:=zeroP.cells) (vs:=x.cells) (by simp [Page.cells_len]) rfl
 have L6:=Lcl.lay σ5 11 zeroP.cells x.cells rfl
 have L6':=L5.grow R5.gw g6
 rw [hz] at hst R6 L6 L6' g6
 have k0:=L6.cell (i:=0) (by omega)
 rw [show lst x.cells 0=.int .i64 4 by rw [<- hkind, <- hx];rfl] at k0
 have k2:=L6.cell (i:=2) (by omega)
 rw [show lst x.cells 2=.int .i64 c by rw [<- hcls, <- hx];rfl] at k2
 have c3:(0:Int) <= (c:Int):=by omega
 have e4:shlI .u64 16 (c:Int)=(w:Int):=by rw [hwd];exact u64_shl (a:=16) (n:=c) (by omega) (by omega)
 have cw:(w:Int)≠0:=by omega
 have e5:IntKind.u64.wrap ((a0:Int).tdiv (w:Int))=((a / w:Nat):Int):=by rw [u64_div (by omega),haa]
 have e6:IntKind.u64.wrap (((a / w:Nat):Int)*(w:Int))=(a:Int):=by rw [u64_mul (by rw [haw];omega),haw]
 have e7:fillP [V.int .u64 0,.int .u64 0] [(0,1,.int .u64 (a:Int)),(1,1,.int .u64 (w:Int))]=some [V.int .u64 a,.int .u64 w]:=rfl
 obtain ⟨ly,hly⟩:∃ ly,ly=σ5.next:=⟨_,rfl⟩
 have hst2:=new_store (σ:=σ5.lay 11 zeroP.cells x.cells) (z:=[.int .u64 0,.int .u64 0]) (vs:=[.int .u64 a,.int .u64 w]) (n:=2) (by simp) rfl
 rw [hz] at hst2
 simp -implicitDefEqProofs only[go_sem,List.length_cons,List.length_nil,vcells_agg,Page.cells_len,hst,k0,k2,bin_shl,c3,e4,bin_quo,cw,ne_eq,not_false_eq_true,e5,e6,evalParts,e7,hst2]
 rw [<- hly] at L6 k0 k2 ⊢
 have hne:lx≠ly:=by have:=L5.lt R5.gw;omega
 generalize σ5.lay 11 _ _=σ6 at R6 L6 L6' g6 k0 k2 ⊢
 have g7:=Grow.lay σ6 2 [.int .u64 0,.int .u64 0] [.int .u64 a,.int .u64 w]
 have R7:=R6.lay (n:=2) (z:=[.int .u64 0,.int .u64 0]) (vs:=[.int .u64 a,.int .u64 w]) (by simp) rfl
 have L7:=Lcl.lay σ6 2 [.int .u64 0,.int .u64 0] [.int .u64 a,.int .u64 w] rfl
 have Lx:=L6'.grow R6.gw g7
 have Ly:=L6.grow R6.gw g7
 obtain ⟨lz,hlz⟩:∃ lz,lz=σ6.next:=⟨_,rfl⟩
 rw [<- hlz] at L7 ⊢
 have hne2:lx≠lz:=by have:=L6'.lt R6.gw;omega
 have hgx:Grow σ σ6:=(g1.trans g5).trans g6
 have hgy:=hgx.trans g7
 generalize σ6.lay 2 _ _=σ7 at R7 L7 Lx Ly g7 hgy ⊢
 have z0:=L7.cell (i:=0) (by omega)
 rw [show lst [V.int .u64 a,.int .u64 w] 0=.int .u64 a from rfl] at z0
 have zl:=L7.load (off:=0) (k:=2) (by omega)
 rw [show ((List.range 2).map fun j=>lst [V.int .u64 a,V.int .u64 w] (0+j))=[V.int .u64 a,V.int .u64 w] from rfl] at zl
 have e8:(a:Int).tmod 4096=(o:Int):=by rw [show (4096:Int)=((4096:Nat):Int) from rfl,nat_tmod,hrem]
 have e9:IntKind.u64.wrap ((o:Int).tdiv (w:Int))=(q:Int):=by rw [u64_div (by omega),ho,Nat.mul_div_cancel _ (by omega)]
 have c5:(64:Int)≠0:=by decide
 have f2:IntKind.u64.wrap ((q:Int).tdiv 64)=((q / 64:Nat):Int):=u64_div (b:=64) (by omega)
 have f3:((q:Int).tmod 64)=((q%64:Nat):Int):=nat_tmod q 64
 have hj:q / 64<4:=by omega
 have hm:q%64<64:=Nat.mod_lt _ (by omega)
 obtain ⟨j,hjj⟩:∃ j,j=q / 64:=⟨_,rfl⟩
 obtain ⟨m,hmm⟩:∃ m,m=q%64:=⟨_,rfl⟩
 rw [<- hjj] at hj f2
 rw [<- hmm] at hm f3
 have c6:(0:Int) <= (j:Int) /\ (j:Int)<((4:Nat):Int):=by omega
 have h1:σ7.cell ly (7+j)=some (.int .u64 (x.bw j)):=by
  rw [Ly.cell (by omega), <- cell_bw x hj]
  rcases (by omega:j=0 \/ j=1 \/ j=2 \/ j=3) with h | h | h | h <;> rw [h] <;> rfl
 have c7:(0:Int) <= (m:Int):=by omega
 have f4:shrI .u64 ((x.bw j:Nat):Int) (m:Int)=((x.bw j / 2^m:Nat):Int):=shr_nat rfl (by omega)
 have f5:=u64_bit (w:=x.bw j) (n:=m) (by rw [hx];exact hwords j)
 have f6:(decide (((x.bw j / 2^m%2:Nat):Int)=1))=decide (x.bit q=1):=by
  have:x.bit q=x.bw j / 2^m%2:=by simp [Page.bit, <- hjj, <- hmm]
  rw [this]
  exact decide_eq_decide.mpr (by omega)
 obtain ⟨σ8,hs8,L8,w8',P8⟩:=Lx.store R7.gw (off:=0) (vs:=[.int .u64 a,.int .u64 w]) (by simp) rfl
 have h8:σ8.cell ly (7+j)=some (.int .u64 (x.bw j)):=by
  rw [(Ly.put P8 (by omega)).cell (by omega), <- cell_bw x hj]
  rcases (by omega:j=0 \/ j=1 \/ j=2 \/ j=3) with h | h | h | h <;> rw [h] <;> rfl
 have g8:Grow σ σ8:=⟨by rw [P8.next];exact hgy.next,P8.grps.trans hgy.grps,fun b hb=>(P8.old b (by omega)).trans (hgy.old b hb)⟩
 have hl:=L8.load (off:=0) (k:=2) (by omega)
 rw [show ((List.range 2).map fun j=>over (fun i=>[V.int .u64 0,V.int .u64 0].getD (i% [V.int .u64 0,V.int .u64 0].length) .undef) 0 [V.int .u64 a,V.int .u64 w] (0+j))=[V.int .u64 a,V.int .u64 w] from rfl] at hl
 simp -implicitDefEqProofs only[go_sem,List.length_cons,List.length_nil,vcells_agg,z0,zl,d2,bin_rem,bin_quo,cw,ne_eq,not_false_eq_true,e8,e9,c5,f2,f3,c6,and_self,Int.toNat_natCast,Nat.mul_one,h1,c7,bin_shr,f4,f5,f6,hs8,h8,hl]
 exact g8
theorem r_blkP (hR:HRep σ A H) (ok:H.OK) {p k y:Nat} {kd:Int} (hp:p<H.np) (hkd:kd=2 \/ kd=3) (hkind:(H.page p).kind=kd) (hord:(H.page p).order=(k:Int)) (hk8:k <= 8) (hy:y<4096) :
  Runs G0 [] 132 [.ptr (some (A .heap,0)),.int .u64 (H.addr p+y:Nat)] σ fun r σ' =>
   r=.tuple [.agg [.int .u64 (H.addr (p / 2^k*2^k)),.int .u64 (4096*2^k:Nat)],.bool true] /\ Grow σ σ':=by
 refine runs_body g132 rfl ?_
 have hnp:=np_le ok
 have ha2:H.addr p+4096<18446744073709551616:=by
  have:=addr_lt ok (p:=p+1) hp
  unfold Heap.addr at *;omega
 obtain ⟨o,ho⟩:∃ o,o=0:=⟨_,rfl⟩
 obtain ⟨f,hf⟩:∃ f,f=p / 2^k*2^k:=⟨_,rfl⟩
 have hfp:f <= p:=by rw [hf];exact Nat.div_mul_le_self _ _
 obtain ⟨a,had⟩:∃ a,a=H.addr f:=⟨_,rfl⟩
 obtain ⟨a0,ha0⟩:∃ a0,a0=H.addr p+y:=⟨_,rfl⟩
 rw [<- hf, <- had, <- ha0]
 have g1:=Grow.new σ (.cells false 0 2 [.int .u64 0,.int .u64 0] .nil)
 have R1:=hR.new (.cells false 0 2 [.int .u64 0,.int .u64 0] .nil) rfl
 have L1:=Lcl.of_new σ [.int .u64 0,.int .u64 0] 2 (.inl (by simp))
 obtain ⟨lx,hlx⟩:∃ lx,lx=σ.next:=⟨_,rfl⟩
 have hb:=heap_base R1
 have h5:=heap_pool R1
 have hps:=pool_space R1
 have hfin:=fin_np4 H
 have c1:¬ ((a0:Int)<(H.base:Int)):=by unfold Heap.addr at *;omega
 have c2:¬ ((H.fin:Int) <= (a0:Int)):=by rw [hfin];unfold Heap.addr at *;omega
 simp -implicitDefEqProofs only[go_sem,List.length_cons,List.length_nil,hb,c1,h5,hps]
 rw [<- hlx] at L1 ⊢
 have N1:∀ s,H.has s -> A s≠lx:=fun s hs=>by have:=hR.lt hs;omega
 generalize σ.new (.cells false 0 2 _ .nil)=σ1 at g1 R1 L1 hb h5 hps ⊢
 obtain ⟨v,σ2,⟨hv,hs⟩,hr2⟩:=r_PSpace R1
 subst hv hs
 refine runs_ret hr2 ?_
 obtain ⟨v,σ3,⟨hv,hs⟩,hr3⟩:=r_End R1 ok
 subst hv hs
 simp -implicitDefEqProofs only[go_sem]
 refine runs_ret hr3 ?_
 have e1:IntKind.u64.wrap ((a0:Int)-(H.base:Int))=((4096*p+y:Nat):Int):=by
  unfold Heap.addr at *;rw [wu64_id] <;> omega
 have d2:(4096:Int)≠0:=by decide
 have e2:IntKind.u64.wrap (((4096*p+y:Nat):Int).tdiv 4096)=(p:Int):=by
  rw [show (4096:Int)=((4096:Nat):Int) from rfl,nat_tdiv,wu64_id] <;> omega
 have e3:IntKind.i64.wrap (p:Int)=(p:Int):=i64_nat (by omega)
 obtain ⟨v,σ4,⟨hv,hs⟩,hr4⟩:=r_PMap R1
 subst hv hs
 simp -implicitDefEqProofs only[go_sem,c2,hb,e1,d2,bin_quo,ne_eq,not_false_eq_true,e2,e3,h5]
 refine runs_ret hr4 ?_
 simp -implicitDefEqProofs only[go_sem]
 obtain ⟨v,σ5,⟨hv,g5,R5⟩,hr5⟩:=R1.rgrow (r_At R1 ok hp)
 subst hv
 refine runs_ret hr5 ?_
 have L5:=L1.grow R1.gw g5
 obtain ⟨x,hx⟩:∃ x,x=H.page p:=⟨_,rfl⟩
 rw [<- hx]
 have hz:zeroP.cells=[V.int .i64 0,.int .i64 0,.int .i64 0,.int .i64 0,.int .i64 0,.int .i64 0,.int .i64 0,.int .u64 0,.int .u64 0,.int .u64 0,.int .u64 0]:=rfl
 have hst:=new_store (σ:=σ5) (z:=zeroP.cells) (vs:=x.cells) (n:=11) (by simp [Page.cells_len]) rfl
 have g6:=Grow.lay σ5 11 zeroP.cells x.cells
 have R6:=R5.lay (n:=11) (z:=zeroP.cells) (vs:=x.cells) (by simp [Page.cells_len]) rfl
 have L6:=Lcl.lay σ5 11 zeroP.cells x.cells rfl
 have L6':=L5.grow R5.gw g6
 rw [hz] at hst R6 L6 L6' g6
 have k0:=L6.cell (i:=0) (by omega)
 rw [show lst x.cells 0=.int .i64 kd by rw [<- hkind, <- hx];rfl] at k0
 have k1:=L6.cell (i:=1) (by omega)
 rw [show lst x.cells 1=.int .i64 k by rw [<- hord, <- hx];rfl] at k1
 obtain ⟨ly,hly⟩:∃ ly,ly=σ5.next:=⟨_,rfl⟩
 have d4:¬ (kd=4):=by omega
 have d5:¬ (kd=2) -> kd=3:=by omega
 have h56:=heap_pool R6
 have hps6:=pool_space R6
 rcases hkd with rfl | rfl
 ·simp -implicitDefEqProofs only[go_sem,List.length_cons,List.length_nil,vcells_agg,Page.cells_len,hst,k0,k1,Int.reduceEq,h56]
  rw [<- hly] at L6 k0 k1 ⊢
  have hne:lx≠ly:=by have:=L5.lt R5.gw;omega
  have hgx:Grow σ (σ5.lay 11 zeroP.cells x.cells):=by rw [hz];exact (g1.trans g5).trans g6
  rw [hz] at hgx
  generalize σ5.lay 11 _ _=σ6 at R6 L6 L6' g6 k0 k1 h56 hps6 hgx ⊢
  obtain ⟨v,σ7,⟨hv,hs⟩,hr7⟩:=r_PMap R6
  subst hv hs
  refine runs_ret hr7 ?_
  obtain ⟨v,σ8,⟨hv,g8,R8⟩,hr8⟩:=R6.rgrow (r_Head R6 ok (p:=p) (k:=k) hp hord hk8)
  subst hv
  simp -implicitDefEqProofs only[go_sem]
  refine runs_ret hr8 ?_
  have Lx:=L6'.grow R6.gw g8
  have Ly:=L6.grow R6.gw g8
  have m1:=Ly.cell (i:=1) (by omega)
  rw [show lst x.cells 1=.int .i64 k by rw [<- hord, <- hx];rfl] at m1
  have hb8:=heap_base R8
  have hpk:p / 2^k*2^k=f:=hf.symm
  have e4:IntKind.u64.wrap (f:Int)=(f:Int):=wu64_id (by omega) (by omega)
  have e5:IntKind.u64.wrap ((f:Int)*4096)=((4096*f:Nat):Int):=by rw [wu64_id] <;> omega
  have e6:IntKind.u64.wrap ((H.base:Int)+((4096*f:Nat):Int))=(a:Int):=by
   rw [had];unfold Heap.addr at *;rw [wu64_id] <;> omega
  have c3:(0:Int) <= (k:Int):=by omega
  have hp8:=pow_le hk8
  have e7:shlI .u64 4096 (k:Int)=((4096*2^k:Nat):Int):=u64_shl (a:=4096) (n:=k) (by omega) (by omega)
  obtain ⟨w,hw⟩:∃ w,w=4096*2^k:=⟨_,rfl⟩
  rw [<- hw] at e7 ⊢
  have e8:fillP [V.int .u64 0,.int .u64 0] [(0,1,.int .u64 (a:Int)),(1,1,.int .u64 (w:Int))]=some [V.int .u64 a,.int .u64 w]:=rfl
  obtain ⟨σ9,hs9,L9,w9,P9⟩:=Lx.store R8.gw (off:=0) (vs:=[.int .u64 a,.int .u64 w]) (by simp) rfl
  have hg8:=hgx.trans g8
  have g9:Grow σ σ9:=⟨by rw [P9.next];exact hg8.next,P9.grps.trans hg8.grps,fun b hb=>(P9.old b (by omega)).trans (hg8.old b hb)⟩
  have hl:=L9.load (off:=0) (k:=2) (by omega)
  rw [show ((List.range 2).map fun j=>over (fun i=>[V.int .u64 0,V.int .u64 0].getD (i% [V.int .u64 0,V.int .u64 0].length) .undef) 0 [V.int .u64 a,V.int .u64 w] (0+j))=[V.int .u64 a,V.int .u64 w] from rfl] at hl
  have m1':=(Ly.put P9 (by omega)).cell (i:=1) (by omega)
  rw [show lst x.cells 1=.int .i64 k by rw [<- hord, <- hx];rfl] at m1'
  have hb9:=heap_base (R8.other w9 N1 P9 (R8.wid.not_lcl Lx))
  simp -implicitDefEqProofs only[go_sem,List.length_cons,List.length_nil,vcells_agg,hpk,hb8,e4,e5,e6,m1,bin_shl,c3,e7,evalParts,e8,hs9,hb9,m1',hl]
  exact g9
 ·simp -implicitDefEqProofs only[go_sem,List.length_cons,List.length_nil,vcells_agg,Page.cells_len,hst,k0,k1,Int.reduceEq,h56]
  rw [<- hly] at L6 k0 k1 ⊢
  have hne:lx≠ly:=by have:=L5.lt R5.gw;omega
  have hgx:Grow σ (σ5.lay 11 zeroP.cells x.cells):=by rw [hz];exact (g1.trans g5).trans g6
  rw [hz] at hgx
  generalize σ5.lay 11 _ _=σ6 at R6 L6 L6' g6 k0 k1 h56 hps6 hgx ⊢
  obtain ⟨v,σ7,⟨hv,hs⟩,hr7⟩:=r_PMap R6
  subst hv hs
  refine runs_ret hr7 ?_
  obtain ⟨v,σ8,⟨hv,g8,R8⟩,hr8⟩:=R6.rgrow (r_Head R6 ok (p:=p) (k:=k) hp hord hk8)
  subst hv
  simp -implicitDefEqProofs only[go_sem]
  refine runs_ret hr8 ?_
  have Lx:=L6'.grow R6.gw g8
  have Ly:=L6.grow R6.gw g8
  have m1:=Ly.cell (i:=1) (by omega)
  rw [show lst x.cells 1=.int .i64 k by rw [<- hord, <- hx];rfl] at m1
  have hb8:=heap_base R8
  have hpk:p / 2^k*2^k=f:=hf.symm
  have e4:IntKind.u64.wrap (f:Int)=(f:Int):=wu64_id (by omega) (by omega)
  have e5:IntKind.u64.wrap ((f:Int)*4096)=((4096*f:Nat):Int):=by rw [wu64_id] <;> omega
  have e6:IntKind.u64.wrap ((H.base:Int)+((4096*f:Nat):Int))=(a:Int):=by
   rw [had];unfold Heap.addr at *;rw [wu64_id] <;> omega
  have c3:(0:Int) <= (k:Int):=by omega
  have hp8:=pow_le hk8
  have e7:shlI .u64 4096 (k:Int)=((4096*2^k:Nat):Int):=u64_shl (a:=4096) (n:=k) (by omega) (by omega)
  obtain ⟨w,hw⟩:∃ w,w=4096*2^k:=⟨_,rfl⟩
  rw [<- hw] at e7 ⊢
  have e8:fillP [V.int .u64 0,.int .u64 0] [(0,1,.int .u64 (a:Int)),(1,1,.int .u64 (w:Int))]=some [V.int .u64 a,.int .u64 w]:=rfl
  obtain ⟨σ9,hs9,L9,w9,P9⟩:=Lx.store R8.gw (off:=0) (vs:=[.int .u64 a,.int .u64 w]) (by simp) rfl
  have hg8:=hgx.trans g8
  have g9:Grow σ σ9:=⟨by rw [P9.next];exact hg8.next,P9.grps.trans hg8.grps,fun b hb=>(P9.old b (by omega)).trans (hg8.old b hb)⟩
  have hl:=L9.load (off:=0) (k:=2) (by omega)
  rw [show ((List.range 2).map fun j=>over (fun i=>[V.int .u64 0,V.int .u64 0].getD (i% [V.int .u64 0,V.int .u64 0].length) .undef) 0 [V.int .u64 a,V.int .u64 w] (0+j))=[V.int .u64 a,V.int .u64 w] from rfl] at hl
  have m1':=(Ly.put P9 (by omega)).cell (i:=1) (by omega)
  rw [show lst x.cells 1=.int .i64 k by rw [<- hord, <- hx];rfl] at m1'
  have hb9:=heap_base (R8.other w9 N1 P9 (R8.wid.not_lcl Lx))
  simp -implicitDefEqProofs only[go_sem,List.length_cons,List.length_nil,vcells_agg,hpk,hb8,e4,e5,e6,m1,bin_shl,c3,e7,evalParts,e8,hs9,hb9,m1',hl]
  exact g9
theorem r_blkF (hR:HRep σ A H) (ok:H.OK) {p y:Nat} {kd:Int} (hp:p<H.np) (hkd:kd=0 \/ kd=1) (hkind:(H.page p).kind=kd) (hy:y<4096) :
  Runs G0 [] 132 [.ptr (some (A .heap,0)),.int .u64 (H.addr p+y:Nat)] σ fun r σ'=>r=.tuple [.agg [.int .u64 0,.int .u64 0],.bool false] /\ Grow σ σ':=by
 refine runs_body g132 rfl ?_
 have hnp:=np_le ok
 have ha2:H.addr p+4096<18446744073709551616:=by
  have:=addr_lt ok (p:=p+1) hp
  unfold Heap.addr at *;omega
 obtain ⟨o,ho⟩:∃ o,o=0:=⟨_,rfl⟩
 obtain ⟨a0,ha0⟩:∃ a0,a0=H.addr p+y:=⟨_,rfl⟩
 rw [<- ha0]
 have g1:=Grow.new σ (.cells false 0 2 [.int .u64 0,.int .u64 0] .nil)
 have R1:=hR.new (.cells false 0 2 [.int .u64 0,.int .u64 0] .nil) rfl
 have L1:=Lcl.of_new σ [.int .u64 0,.int .u64 0] 2 (.inl (by simp))
 obtain ⟨lx,hlx⟩:∃ lx,lx=σ.next:=⟨_,rfl⟩
 have hb:=heap_base R1
 have h5:=heap_pool R1
 have hps:=pool_space R1
 have hfin:=fin_np4 H
 have c1:¬ ((a0:Int)<(H.base:Int)):=by unfold Heap.addr at *;omega
 have c2:¬ ((H.fin:Int) <= (a0:Int)):=by rw [hfin];unfold Heap.addr at *;omega
 simp -implicitDefEqProofs only[go_sem,List.length_cons,List.length_nil,hb,c1,h5,hps]
 rw [<- hlx] at L1 ⊢
 have N1:∀ s,H.has s -> A s≠lx:=fun s hs=>by have:=hR.lt hs;omega
 generalize σ.new (.cells false 0 2 _ .nil)=σ1 at g1 R1 L1 hb h5 hps ⊢
 obtain ⟨v,σ2,⟨hv,hs⟩,hr2⟩:=r_PSpace R1
 subst hv hs
 refine runs_ret hr2 ?_
 obtain ⟨v,σ3,⟨hv,hs⟩,hr3⟩:=r_End R1 ok
 subst hv hs
 simp -implicitDefEqProofs only[go_sem]
 refine runs_ret hr3 ?_
 have e1:IntKind.u64.wrap ((a0:Int)-(H.base:Int))=((4096*p+y:Nat):Int):=by
  unfold Heap.addr at *;rw [wu64_id] <;> omega
 have d2:(4096:Int)≠0:=by decide
 have e2:IntKind.u64.wrap (((4096*p+y:Nat):Int).tdiv 4096)=(p:Int):=by
  rw [show (4096:Int)=((4096:Nat):Int) from rfl,nat_tdiv,wu64_id] <;> omega
 have e3:IntKind.i64.wrap (p:Int)=(p:Int):=i64_nat (by omega)
 obtain ⟨v,σ4,⟨hv,hs⟩,hr4⟩:=r_PMap R1
 subst hv hs
 simp -implicitDefEqProofs only[go_sem,c2,hb,e1,d2,bin_quo,ne_eq,not_false_eq_true,e2,e3,h5]
 refine runs_ret hr4 ?_
 simp -implicitDefEqProofs only[go_sem]
 obtain ⟨v,σ5,⟨hv,g5,R5⟩,hr5⟩:=R1.rgrow (r_At R1 ok hp)
 subst hv
 refine runs_ret hr5 ?_
 have L5:=L1.grow R1.gw g5
 obtain ⟨x,hx⟩:∃ x,x=H.page p:=⟨_,rfl⟩
 rw [<- hx]
 have hz:zeroP.cells=[V.int .i64 0,.int .i64 0,.int .i64 0,.int .i64 0,.int .i64 0,.int .i64 0,.int .i64 0,.int .u64 0,.int .u64 0,.int .u64 0,.int .u64 0]:=rfl
 have hst:=new_store (σ:=σ5) (z:=zeroP.cells) (vs:=x.cells) (n:=11) (by simp [Page.cells_len]) rfl
 have g6:=Grow.lay σ5 11 zeroP.cells x.cells
 have R6:=R5.lay (n:=11) (z:=zeroP.cells) (vs:=x.cells) (by simp [Page.cells_len]) rfl
 have L6:=Lcl.lay σ5 11 zeroP.cells x.cells rfl
 have L6':=L5.grow R5.gw g6
 rw [hz] at hst R6 L6 L6' g6
 have k0:=L6.cell (i:=0) (by omega)
 rw [show lst x.cells 0=.int .i64 kd by rw [<- hkind, <- hx];rfl] at k0
 obtain ⟨ly,hly⟩:∃ ly,ly=σ5.next:=⟨_,rfl⟩
 have h56:=heap_pool R6
 have hps6:=pool_space R6
 have e0:fillP [V.int .u64 0,.int .u64 0] []=some [V.int .u64 0,.int .u64 0]:=rfl
 have hgx:Grow σ (σ5.lay 11 zeroP.cells x.cells):=by rw [hz];exact (g1.trans g5).trans g6
 rw [hz] at hgx
 obtain ⟨σ8,hs8,L8,w8',P8⟩:=L6'.store R6.gw (off:=0) (vs:=[.int .u64 0,.int .u64 0]) (by simp) rfl
 have hl:=L8.load (off:=0) (k:=2) (by omega)
 rw [show ((List.range 2).map fun j=>over (fun i=>[V.int .u64 0,V.int .u64 0].getD (i% [V.int .u64 0,V.int .u64 0].length) .undef) 0 [V.int .u64 0,V.int .u64 0] (0+j))=[V.int .u64 0,V.int .u64 0] from rfl] at hl
 have g8:Grow σ σ8:=⟨by rw [P8.next];exact hgx.next,P8.grps.trans hgx.grps,fun b hb=>(P8.old b (by omega)).trans (hgx.old b hb)⟩
 rcases hkd with rfl | rfl
 ·simp -implicitDefEqProofs only[go_sem,List.length_cons,List.length_nil,vcells_agg,Page.cells_len,hst,k0,Int.reduceEq,evalParts,e0,hs8,hl]
  exact g8
 ·simp -implicitDefEqProofs only[go_sem,List.length_cons,List.length_nil,vcells_agg,Page.cells_len,hst,k0,Int.reduceEq,evalParts,e0,hs8,hl]
  exact g8
theorem r_blkO (hR:HRep σ A H) (ok:H.OK) {a:Nat} (ha:a<H.base \/ H.fin <= a) :
  Runs G0 [] 132 [.ptr (some (A .heap,0)),.int .u64 a] σ fun r σ'=>r=.tuple [.agg [.int .u64 0,.int .u64 0],.bool false] /\ Grow σ σ':=by
 refine runs_body g132 rfl ?_
 have g1:=Grow.new σ (.cells false 0 2 [.int .u64 0,.int .u64 0] .nil)
 have R1:=hR.new (.cells false 0 2 [.int .u64 0,.int .u64 0] .nil) rfl
 have L1:=Lcl.of_new σ [.int .u64 0,.int .u64 0] 2 (.inl (by simp))
 obtain ⟨lx,hlx⟩:∃ lx,lx=σ.next:=⟨_,rfl⟩
 have hb:=heap_base R1
 have h5:=heap_pool R1
 have hps:=pool_space R1
 have e0:fillP [V.int .u64 0,.int .u64 0] []=some [V.int .u64 0,.int .u64 0]:=rfl
 obtain ⟨σ8,hs8,L8,w8',P8⟩:=L1.store R1.gw (off:=0) (vs:=[.int .u64 0,.int .u64 0]) (by simp) rfl
 have hl:=L8.load (off:=0) (k:=2) (by omega)
 rw [show ((List.range 2).map fun j=>over (fun i=>[V.int .u64 0,V.int .u64 0].getD (i% [V.int .u64 0,V.int .u64 0].length) .undef) 0 [V.int .u64 0,V.int .u64 0] (0+j))=[V.int .u64 0,V.int .u64 0] from rfl] at hl
 have g8:Grow σ σ8:=⟨by rw [P8.next];exact g1.next,P8.grps.trans g1.grps,fun b hb=>(P8.old b (by omega)).trans (g1.old b hb)⟩
 by_cases c1:(a:Int)<(H.base:Int)
 ·simp -implicitDefEqProofs only[go_sem,List.length_cons,List.length_nil,hb,c1,h5,hps,evalParts,e0,vcells_agg,hs8,hl]
  exact g8
 ·have c2:(H.fin:Int) <= (a:Int):=by omega
  simp -implicitDefEqProofs only[go_sem,List.length_cons,List.length_nil,hb,c1,h5,hps]
  rw [<- hlx] at L1 ⊢
  rw [<- hlx] at hs8 hl
  generalize σ.new (.cells false 0 2 _ .nil)=σ1 at g1 R1 L1 hb h5 hps hs8 ⊢
  obtain ⟨v,σ2,⟨hv,hs⟩,hr2⟩:=r_PSpace R1
  subst hv hs
  refine runs_ret hr2 ?_
  obtain ⟨v,σ3,⟨hv,hs⟩,hr3⟩:=r_End R1 ok
  subst hv hs
  simp -implicitDefEqProofs only[go_sem]
  refine runs_ret hr3 ?_
  simp -implicitDefEqProofs only[go_sem,List.length_cons,List.length_nil,c2,evalParts,e0,vcells_agg,hs8,hl]
  exact g8
end
noncomputable section
variable {σ:St} {A:Slot -> Nat} {H H':Heap} {fl pl fc:Nat -> List Nat} {hole:Nat -> Prop}
def _root_.AM.Heap.blockF (H:Heap) (a:Nat):Option (Nat × Nat) :=
 if a<H.base \/ H.fin <= a then none
 else if (H.page ((a-H.base) / 4096)).kind=4 then
  (if (H.page ((a-H.base) / 4096)).bit ((a-H.base)%4096 / (16*2^(H.page ((a-H.base) / 4096)).cls.toNat))=1 then
   some (H.addr ((a-H.base) / 4096)+(a-H.base)%4096 / (16*2^(H.page ((a-H.base) / 4096)).cls.toNat)*(16*2^(H.page ((a-H.base) / 4096)).cls.toNat),16*2^(H.page ((a-H.base) / 4096)).cls.toNat) else none)
 else if (H.page ((a-H.base) / 4096)).kind=2 \/ (H.page ((a-H.base) / 4096)).kind=3 then
  some (H.addr ((a-H.base) / 4096 / 2^(H.page ((a-H.base) / 4096)).order.toNat*2^(H.page ((a-H.base) / 4096)).order.toNat),4096*2^(H.page ((a-H.base) / 4096)).order.toNat)
 else none
theorem r_blockG (hR:HRep σ A H) (h:Inv H fl pl fc (fun _=>False)) (a:Nat) :
  Runs G0 [] 132 [.ptr (some (A .heap,0)),.int .u64 a] σ fun r s=>(∃ P w:Nat,r=.tuple [.agg [.int .u64 P,.int .u64 w],.bool (H.blockF a).isSome] /\ ∀ x,H.blockF a=some x -> x=(P,w)) /\ Grow σ s:=by
 unfold Heap.blockF
 by_cases c:a<H.base \/ H.fin <= a
 ·rw [if_pos c]
  refine (r_blkO hR h.ok c).mono ?_
  rintro v s ⟨rfl,g⟩
  exact ⟨⟨0,0,rfl,fun x hx=>by cases hx⟩,g⟩
 ·rw [if_neg c]
  obtain ⟨x,hx⟩:∃ x,x=(a-H.base) / 4096:=⟨_,rfl⟩
  obtain ⟨y,hy⟩:∃ y,y=(a-H.base)%4096:=⟨_,rfl⟩
  have hfn:=fin_np H
  have hxp:x<H.np:=by omega
  have ha:a=H.addr x+y:=by unfold Heap.addr;omega
  have hy4:y<4096:=by omega
  rw [<- hx, <- hy,ha]
  obtain ⟨k,fam,g⟩:=h.pg x hxp (fun e=>e)
  have hord:=g.order
  by_cases c4:(H.page x).kind=4
  ·rw [if_pos c4]
   obtain ⟨cc,s⟩:=h.sl x hxp (fun e=>e) c4
   have hct:(H.page x).cls.toNat=cc:=by have:=s.cls;omega
   rw [hct]
   refine (r_blkS hR h.ok (q:=y / (16*2^cc)) hxp c4 s.cls s.c8 hy4 rfl s.words).mono ?_
   rintro v t ⟨rfl,gr⟩
   refine ⟨⟨H.addr x+y / (16*2^cc)*(16*2^cc),16*2^cc,?_,?_⟩,gr⟩
   ·by_cases cb:(H.page x).bit (y / (16*2^cc))=1
    ·rw [if_pos cb,decide_eq_true cb];rfl
    ·rw [if_neg cb,decide_eq_false cb];rfl
   ·intro z hz
    by_cases cb:(H.page x).bit (y / (16*2^cc))=1
    ·rw [if_pos cb] at hz;exact (Option.some.inj hz).symm
    ·rw [if_neg cb] at hz;cases hz
  ·rw [if_neg c4]
   have hot:(H.page x).order.toNat=k:=by omega
   rw [hot]
   have hk8:k <= 8:=Nat.le_trans g.le h.ok.order_le
   by_cases c23:(H.page x).kind=2 \/ (H.page x).kind=3
   ·rw [if_pos c23]
    refine (r_blkP hR h.ok (k:=k) hxp c23 rfl hord hk8 hy4).mono ?_
    rintro v t ⟨rfl,gr⟩
    exact ⟨⟨_,_,rfl,fun z hz=>(Option.some.inj hz).symm⟩,gr⟩
   ·rw [if_neg c23]
    have c01:(H.page x).kind=0 \/ (H.page x).kind=1:=by
     have hk:=(g.all x rfl).2.2
     rcases g.fams with f | f | ⟨f,f2⟩
     ·split at hk <;> omega
     ·split at hk <;> omega
     ·subst f2
      rw [if_pos (by simp [Nat.mod_one])] at hk
      omega
    refine (r_blkF hR h.ok hxp c01 rfl hy4).mono ?_
    rintro v t ⟨rfl,gr⟩
    exact ⟨⟨0,0,rfl,fun z hz=>by cases hz⟩,gr⟩
def _root_.AM.Heap.startF (H:Heap) (a:Nat):Option Nat:=match H.blockF a with
 |some x=>if x.1=a then some x.2 else none
 |none=>none
theorem r_startG (hR:HRep σ A H) (h:Inv H fl pl fc (fun _=>False)) (a:Nat) :
  Runs G0 [] 122 [.ptr (some (A .heap,0)),.int .u64 a] σ fun r s=>r=(match H.startF a with | some w=>.tuple [.agg [.int .u64 a,.int .u64 w],.int .i64 0] | none=>.tuple [.agg [.int .u64 0,.int .u64 0],.int .i64 1]) /\ Grow σ s:=by
 refine runs_body g122 rfl ?_
 have g1:=Grow.new σ (.cells false 0 2 [.int .u64 0,.int .u64 0] .nil)
 have R1:=hR.new (.cells false 0 2 [.int .u64 0,.int .u64 0] .nil) rfl
 have L1:=Lcl.of_new σ [.int .u64 0,.int .u64 0] 2 (.inl (by simp))
 obtain ⟨lx,hlx⟩:∃ lx,lx=σ.next:=⟨_,rfl⟩
 simp -implicitDefEqProofs only[go_sem,List.length_cons,List.length_nil]
 rw [<- hlx] at L1 ⊢
 generalize σ.new (.cells false 0 2 _ .nil)=σ1 at g1 R1 L1 ⊢
 obtain ⟨v,σ2,⟨⟨P,w,hv,hb⟩,g2,R2⟩,hr2⟩:=R1.rgrow (r_blockG R1 h a)
 subst hv
 refine runs_ret hr2 ?_
 have hst:=new_store (σ:=σ2) (z:=[.int .u64 0,.int .u64 0]) (vs:=[.int .u64 P,.int .u64 w]) (n:=2) (by simp) rfl
 have g3:=Grow.lay σ2 2 [.int .u64 0,.int .u64 0] [.int .u64 P,.int .u64 w]
 have R3:=R2.lay (n:=2) (z:=[.int .u64 0,.int .u64 0]) (vs:=[.int .u64 P,.int .u64 w]) (by simp) rfl
 have L3:=Lcl.lay σ2 2 [.int .u64 0,.int .u64 0] [.int .u64 P,.int .u64 w] rfl
 have Lx:=(L1.grow R1.gw g2).grow R2.gw g3
 have m0:=L3.cell (i:=0) (by omega)
 rw [show lst [V.int .u64 P,.int .u64 w] 0=.int .u64 P from rfl] at m0
 have ml:=L3.load (off:=0) (k:=2) (by omega)
 rw [show ((List.range 2).map fun j=>lst [V.int .u64 P,V.int .u64 w] (0+j))=[V.int .u64 P,V.int .u64 w] from rfl] at ml
 obtain ⟨σ4,hs4,L4,w4,P4⟩:=Lx.store R3.gw (off:=0) (vs:=[.int .u64 P,.int .u64 w]) (by simp) rfl
 have g23:=(g1.trans g2).trans g3
 have g4:Grow σ σ4:=⟨by rw [P4.next];exact g23.next,P4.grps.trans g23.grps,fun b hb=>(P4.old b (by omega)).trans (g23.old b hb)⟩
 have hl:=L4.load (off:=0) (k:=2) (by omega)
 rw [show ((List.range 2).map fun j=>over (fun i=>[V.int .u64 0,V.int .u64 0].getD (i% [V.int .u64 0,V.int .u64 0].length) .undef) 0 [V.int .u64 P,V.int .u64 w] (0+j))=[V.int .u64 P,V.int .u64 w] from rfl] at hl
 obtain ⟨σ5,hs5,L5,w5,P5⟩:=Lx.store R3.gw (off:=0) (vs:=[.int .u64 0,.int .u64 0]) (by simp) rfl
 have g5:Grow σ σ5:=⟨by rw [P5.next];exact g23.next,P5.grps.trans g23.grps,fun b hb=>(P5.old b (by omega)).trans (g23.old b hb)⟩
 have hl5:=L5.load (off:=0) (k:=2) (by omega)
 rw [show ((List.range 2).map fun j=>over (fun i=>[V.int .u64 0,V.int .u64 0].getD (i% [V.int .u64 0,V.int .u64 0].length) .undef) 0 [V.int .u64 0,V.int .u64 0] (0+j))=[V.int .u64 0,V.int .u64 0] from rfl] at hl5
 have e0:fillP [V.int .u64 0,.int .u64 0] []=some [V.int .u64 0,.int .u64 0]:=rfl
 cases hbk:H.blockF a with
 |none =>
  rw [show H.startF a=none by unfold Heap.startF;rw [hbk]]
  simp -implicitDefEqProofs only[go_sem,List.length_cons,List.length_nil,vcells_agg,hst,Option.isSome,Bool.not_false,m0,ml,evalParts,e0,hs5,hl5,if_true]
  exact g5
 |some x =>
  have:=hb x hbk
  subst this
  by_cases c:P=a
  ·subst c
   rw [show H.startF P=some w by unfold Heap.startF;rw [hbk];exact if_pos rfl]
   simp -implicitDefEqProofs only[go_sem,List.length_cons,List.length_nil,vcells_agg,hst,Option.isSome,Bool.not_true,m0,ml,ne_eq,not_true_eq_false,hs4,hl]
   exact g4
  ·rw [show H.startF a=none by unfold Heap.startF;rw [hbk];exact if_neg c]
   have d1:¬ ((P:Int)=(a:Int)):=by omega
   simp -implicitDefEqProofs only[go_sem,List.length_cons,List.length_nil,vcells_agg,hst,Option.isSome,Bool.not_true,m0,ml,ne_eq,d1,not_false_eq_true,evalParts,e0,hs5,hl5]
   exact g5
theorem Inv.setLock (h:Inv H fl pl fc hole) (l:Int):Inv (H.setLock l) fl pl fc hole :=
 ⟨ok_setLock h.ok,fun x hx hn=>by obtain ⟨k,fam,g⟩:=h.pg x hx hn;exact ⟨k,fam,g.le,g.fams,g.all⟩,h.fmem,h.fnd,fun k hk=>FL.other (h.flk k hk) rfl rfl fun _ _ _ _=>rfl,h.bits,fun x hx hn hk=>by
  obtain ⟨c,s⟩:=h.sl x hx hn hk
  exact ⟨c,s.transfer rfl (Core.refl _) fun _ _=>rfl⟩,h.pmem,h.pnd,fun c hc=>(h.plk c hc).congr rfl fun _ _=>⟨rfl,rfl⟩⟩
theorem startF_lock (H:Heap) (l:Int) (a:Nat):(H.setLock l).startF a=H.startF a:=rfl
theorem setLock_id {H:Heap} (h:H.lock=0):(H.setLock 1).setLock 0=H:=by rw [<- h];rfl
theorem r_UsableF (hR:HRep σ A H) (h:Inv H fl pl fc (fun _=>False)) (hl:H.lock=0) (a:Nat) :
  Runs G0 [] 62 [.ptr (some (A .heap,0)),.int .u64 a] σ fun r s=>HRep s A H /\ r=match H.startF a with | some w=>.tuple [.int .u64 w,.int .i64 0] | none=>.tuple [.int .u64 0,.int .i64 1]:=by
 refine runs_body g62 rfl ?_
 obtain ⟨v,σ1,⟨R1,hv⟩,hr1⟩:=r_lock hR hl
 subst hv
 simp -implicitDefEqProofs only[go_sem]
 refine runs_ret hr1 ?_
 obtain ⟨v,σ2,⟨hv,g2,R2⟩,hr2⟩:=R1.rgrow (r_startG R1 (h.setLock 1) a)
 rw [startF_lock] at hv
 cases hs:H.startF a with
 |some w =>
  rw [hs] at hv;simp only at hv;subst hv
  simp -implicitDefEqProofs only[go_sem]
  refine runs_ret hr2 ?_
  have hst:=new_store (σ:=σ2) (z:=[.int .u64 0,.int .u64 0]) (vs:=[.int .u64 a,.int .u64 w]) (n:=2) (by simp) rfl
  have R3:=R2.lay (n:=2) (z:=[.int .u64 0,.int .u64 0]) (vs:=[.int .u64 a,.int .u64 w]) (by simp) rfl
  have L3:=Lcl.lay σ2 2 [.int .u64 0,.int .u64 0] [.int .u64 a,.int .u64 w] rfl
  have m1:=L3.cell (i:=1) (by omega)
  rw [show lst [V.int .u64 a,.int .u64 w] 1=.int .u64 w from rfl] at m1
  obtain ⟨v,σ4,⟨R4,hv⟩,hr4⟩:=r_unlock R3 rfl
  subst hv
  simp -implicitDefEqProofs only[go_sem,List.length_cons,List.length_nil,vcells_agg,hst,m1,wpDefers_cons]
  refine ⟨.inr gUnlock,?_⟩
  refine runs_ret hr4 ?_
  simp -implicitDefEqProofs only[go_sem]
  rw [setLock_id hl] at R4;exact R4
 |none =>
  rw [hs] at hv;simp only at hv;subst hv
  simp -implicitDefEqProofs only[go_sem]
  refine runs_ret hr2 ?_
  have hst:=new_store (σ:=σ2) (z:=[.int .u64 0,.int .u64 0]) (vs:=[.int .u64 0,.int .u64 0]) (n:=2) (by simp) rfl
  have R3:=R2.lay (n:=2) (z:=[.int .u64 0,.int .u64 0]) (vs:=[.int .u64 0,.int .u64 0]) (by simp) rfl
  have L3:=Lcl.lay σ2 2 [.int .u64 0,.int .u64 0] [.int .u64 0,.int .u64 0] rfl
  have m1:=L3.cell (i:=1) (by omega)
  rw [show lst [V.int .u64 0,.int .u64 0] 1=.int .u64 0 from rfl] at m1
  obtain ⟨v,σ4,⟨R4,hv⟩,hr4⟩:=r_unlock R3 rfl
  subst hv
  simp -implicitDefEqProofs only[go_sem,List.length_cons,List.length_nil,vcells_agg,hst,m1,wpDefers_cons]
  refine ⟨.inr gUnlock,?_⟩
  refine runs_ret hr4 ?_
  simp -implicitDefEqProofs only[go_sem]
  rw [setLock_id hl] at R4;exact R4
theorem giveM_lock:∀ (n:Nat) (H:Heap) (p k:Nat),(H.giveM n p k).lock=H.lock
 | 0,H,p,k=>by rw [Heap.giveM,Heap.enter,pushed_lock];exact turned_lock H p k
 |n+1,H,p,k=>by
  rw [Heap.giveM]
  split
  ·rw [Heap.enter,pushed_lock];exact turned_lock H p k
  ·rw [giveM_lock n,removed_lock,turned_lock]
theorem hung_lock (H:Heap) (p c:Nat):(H.hung p c).lock=H.lock:=by simp only [Heap.hung,Heap.setPart];split <;> rfl
theorem unhung_lock (H:Heap) (p c:Nat):(H.unhung p c).lock=H.lock:=by
 simp only [Heap.unhung,Heap.unh2,Heap.unh1,Heap.setPage,Heap.setPart]
 split <;> split <;> rfl
theorem emptied_lock (H:Heap) (p c q:Nat):(H.emptied p c q).lock=H.lock:=(unhung_lock (H.given1 p q) p c)
theorem given_lock (H:Heap) (p c q:Nat):(H.given p c q).lock=H.lock:=by
 show (H.given2 p c q).lock=_
 unfold Heap.given2
 split
 ·exact hung_lock _ _ _
 ·rfl
theorem taken_lock (H:Heap) (p c f:Nat) (nf:Int):(H.taken p c f nf).lock=H.lock:=by
 unfold Heap.taken
 split
 ·exact unhung_lock _ _ _
 ·rfl
theorem sgiveF_lock (H:Heap) (p c q:Nat):(H.sgiveF p c q).lock=H.lock:=by
 unfold Heap.sgiveF
 split
 ·rw [giveM_lock,emptied_lock]
 ·exact given_lock _ _ _ _
def _root_.AM.Heap.giveF (H:Heap) (a w:Nat):Heap :=
 if w<4096 then H.sgiveF ((a-H.base) / 4096) (H.page ((a-H.base) / 4096)).cls.toNat ((a-H.base)%4096 / w) else H.giveM H.order ((a-H.base) / 4096) (H.page ((a-H.base) / 4096)).order.toNat
def _root_.AM.Heap.freeF (H:Heap) (a:Nat):Heap × Nat:=if a=0 then (H,0) else match H.startF a with
 |some w=>(H.giveF a w,0)
 |none=>(H,1)
theorem giveF_lock (H:Heap) (a w:Nat):(H.giveF a w).lock=H.lock:=by
 unfold Heap.giveF
 split
 ·exact sgiveF_lock _ _ _ _
 ·exact giveM_lock _ _ _ _
theorem Inv.starts (h : Inv H fl pl fc (fun _ => False)) {a w : Nat} (hs : H.startF a = some w) : (a - H.base) / 4096 < H.np /\ H.base <= a ∧
    ((∃ c, (H.page ((a - H.base) / 4096)).kind = 4 /\ (H.page ((a - H.base) / 4096)).cls = ((c : Nat) : Int) /\ c < 8 /\ w = 16 * 2 ^ c /\ (a - H.base) % 4096 / w < 256 / 2 ^ c /\ (H.page ((a - H.base) / 4096)).bit ((a - H.base) % 4096 / w) = 1 /\ a = H.addr ((a - H.base) / 4096) + (a - H.base) % 4096 / w * w) ∨
     (∃ k, (H.page ((a - H.base) / 4096)).kind = 2 /\ (H.page ((a - H.base) / 4096)).order = ((k : Nat) : Int) /\ k <= H.order /\ w = 4096 * 2 ^ k /\ a = H.addr ((a - H.base) / 4096) /\ (a - H.base) / 4096 % 2 ^ k = 0)) := by
  unfold Heap.startF Heap.blockF at hs
  by_cases c : a < H.base \/ H.fin <= a
  · rw [if_pos c] at hs; cases hs
  · rw [if_neg c] at hs
    obtain ⟨x, hx⟩ : ∃ x, x = (a - H.base) / 4096 := ⟨_, rfl⟩
    obtain ⟨y, hy⟩ : ∃ y, y = (a - H.base) % 4096 := ⟨_, rfl⟩
    have hfn := fin_np H
    have hxp : x < H.np := by omega
    have ha : a = H.addr x + y := by unfold Heap.addr; omega
    have hy4 : y < 4096 := by omega
    rw [<- hx, <- hy] at hs ⊢
    refine ⟨hxp, by omega, ?_⟩
    obtain ⟨k, fam, g⟩ := h.pg x hxp (fun e => e)
    have hord := g.order
    by_cases c4 : (H.page x).kind = 4
    · rw [if_pos c4] at hs
      obtain ⟨cc, s⟩ := h.sl x hxp (fun e => e) c4
      have hct : (H.page x).cls.toNat = cc := by have := s.cls; omega
      rw [hct] at hs
      by_cases cb : (H.page x).bit (y / (16 * 2 ^ cc)) = 1
      · rw [if_pos cb] at hs
        simp only at hs
        split at hs
        · rename_i e
          simp only [Option.some.injEq] at hs
          subst hs
          refine .inl ⟨cc, c4, s.cls, s.c8, rfl, ?_, cb, e.symm⟩
          have := (w8 s.c8).1
          exact Nat.div_lt_of_lt_mul (by rw [this]; exact hy4)
        · cases hs
      · rw [if_neg cb] at hs; cases hs
    · rw [if_neg c4] at hs
      have hot : (H.page x).order.toNat = k := by omega
      rw [hot] at hs
      by_cases c23 : (H.page x).kind = 2 \/ (H.page x).kind = 3
      · rw [if_pos c23] at hs
        simp only at hs
        split at hs
        · rename_i e
          simp only [Option.some.injEq] at hs
          subst hs
          have hle : x / 2 ^ k * 2 ^ k <= x := Nat.div_mul_le_self _ _
          have hxe : x / 2 ^ k * 2 ^ k = x /\ y = 0 := by unfold Heap.addr at e ha; omega
          have hm : x % 2 ^ k = 0 := by have := Nat.div_add_mod x (2 ^ k); rw [Nat.mul_comm] at this; omega
          have hk2 := (g.all x rfl).2.2
          rw [if_pos hm] at hk2
          have hkind : (H.page x).kind = 2 := by rcases g.fams with f | f | ⟨f, _⟩ <;> omega
          exact .inr ⟨k, hkind, hord, g.le, rfl, by omega, hm⟩
        · cases hs
      · rw [if_neg c23] at hs; cases hs
theorem r_giveF (hR:HRep σ A H) (h:Inv H fl pl fc (fun _=>False)) {a w:Nat} (hs:H.startF a=some w) :
  Runs G0 [] 127 [.ptr (some (A .heap,0)),.agg [.int .u64 a,.int .u64 w]] σ fun r s=>HRep s A (H.giveF a w):=by
 obtain ⟨h1,h2,h3 | h3⟩:=h.starts hs
 ·obtain ⟨c,k1,k2,k3,k4,k5,k6,k7⟩:=h3
  have hw:=(w8 k3).2.2.1
  have hwl:w<4096:=by omega
  unfold Heap.giveF
  rw [if_pos hwl,show (H.page ((a-H.base) / 4096)).cls.toNat=c by omega]
  refine r_giveS hR (a:=(a:Nat)) (w:=(w:Nat)) (P:=fun s=>HRep s A (H.sgiveF ((a-H.base) / 4096) c ((a-H.base)%4096 / w))) (by omega) fun s R=>?_
  have:=r_SGiveF R h h1 k1 k2 k5 k6
  rw [<- k4, <- k7] at this
  exact this.mono fun v s' hh=>hh.1
 ·obtain ⟨k,k1,k2,k3,k4,k5,k6⟩:=h3
  have hwl:¬ w<4096:=by have:=pow_pos' k;omega
  unfold Heap.giveF
  rw [if_neg hwl,show (H.page ((a-H.base) / 4096)).order.toNat=k by omega,k4]
  refine r_giveP hR (a:=(a:Nat)) (k:=k) (P:=fun s=>HRep s A (H.giveM H.order ((a-H.base) / 4096) k)) (by have:=h.ok.order_le;omega) fun s R=>?_
  have:=r_Give R h h1 k1 k2
  rw [<- k5] at this
  exact this.mono fun v s' hh=>hh.1
theorem r_FreeF (hR:HRep σ A H) (h:Inv H fl pl fc (fun _=>False)) (hl:H.lock=0) (a:Nat) :
  Runs G0 [] 72 [.ptr (some (A .heap,0)),.int .u64 a] σ fun r s=>HRep s A (((H.setLock 1).freeF a).1.setLock 0) /\ r=.int .i64 ((H.setLock 1).freeF a).2:=by
 refine runs_body g72 rfl ?_
 obtain ⟨v,σ1,⟨R1,hv⟩,hr1⟩:=r_lock hR hl
 subst hv
 have h1:=h.setLock 1
 simp -implicitDefEqProofs only[go_sem]
 refine runs_ret hr1 ?_
 by_cases c:a=0
 ·have d:(a:Int)=0:=by omega
  unfold Heap.freeF
  rw [if_pos c]
  obtain ⟨v,σ5,⟨R5,hv⟩,hr5⟩:=r_unlock R1 rfl
  subst hv
  simp -implicitDefEqProofs only[go_sem,d,wpDefers_cons]
  refine ⟨.inr gUnlock,?_⟩
  refine runs_ret hr5 ?_
  simp -implicitDefEqProofs only[go_sem]
  exact ⟨R5,rfl⟩
 ·have d:¬ (a:Int)=0:=by omega
  obtain ⟨v,σ2,⟨hv,g2,R2⟩,hr2⟩:=R1.rgrow (r_startG R1 h1 a)
  cases hs:(H.setLock 1).startF a with
  |some w =>
   rw [hs] at hv;simp only at hv;subst hv
   have hlk:=giveF_lock (H.setLock 1) a w
   have e:(H.setLock 1).freeF a=((H.setLock 1).giveF a w,0):=by unfold Heap.freeF;rw [if_neg c,hs]
   rw [e]
   simp -implicitDefEqProofs only[go_sem,d]
   refine runs_ret hr2 ?_
   have hst:=new_store (σ:=σ2) (z:=[.int .u64 0,.int .u64 0]) (vs:=[.int .u64 a,.int .u64 w]) (n:=2) (by simp) rfl
   have R3:=R2.lay (n:=2) (z:=[.int .u64 0,.int .u64 0]) (vs:=[.int .u64 a,.int .u64 w]) (by simp) rfl
   have L3:=Lcl.lay σ2 2 [.int .u64 0,.int .u64 0] [.int .u64 a,.int .u64 w] rfl
   have ml:=L3.load (off:=0) (k:=2) (by omega)
   rw [show ((List.range 2).map fun j=>lst [V.int .u64 a,V.int .u64 w] (0+j))=[V.int .u64 a,V.int .u64 w] from rfl] at ml
   simp -implicitDefEqProofs only[go_sem,List.length_cons,List.length_nil,vcells_agg,hst,ml]
   obtain ⟨v,σ4,R4,hr4⟩:=r_giveF R3 h1 hs
   refine runs_ret hr4 ?_
   obtain ⟨v,σ5,⟨R5,hv⟩,hr5⟩:=r_unlock R4 hlk
   subst hv
   simp -implicitDefEqProofs only[go_sem,wpDefers_cons]
   refine ⟨.inr gUnlock,?_⟩
   refine runs_ret hr5 ?_
   simp -implicitDefEqProofs only[go_sem]
   exact ⟨R5,rfl⟩
  |none =>
   rw [hs] at hv;simp only at hv;subst hv
   have e:(H.setLock 1).freeF a=(H.setLock 1,1):=by unfold Heap.freeF;rw [if_neg c,hs]
   rw [e]
   simp -implicitDefEqProofs only[go_sem,d]
   refine runs_ret hr2 ?_
   have hst:=new_store (σ:=σ2) (z:=[.int .u64 0,.int .u64 0]) (vs:=[.int .u64 0,.int .u64 0]) (n:=2) (by simp) rfl
   have R3:=R2.lay (n:=2) (z:=[.int .u64 0,.int .u64 0]) (vs:=[.int .u64 0,.int .u64 0]) (by simp) rfl
   have d1:¬ (1:Int)=0:=by decide
   obtain ⟨v,σ5,⟨R5,hv⟩,hr5⟩:=r_unlock R3 rfl
   subst hv
   simp -implicitDefEqProofs only[go_sem,List.length_cons,List.length_nil,vcells_agg,hst,d1,wpDefers_cons]
   refine ⟨.inr gUnlock,?_⟩
   refine runs_ret hr5 ?_
   simp -implicitDefEqProofs only[go_sem]
   exact ⟨R5,rfl⟩
end
noncomputable section
variable {σ:St} {A:Slot -> Nat} {H H':Heap} {fl pl fc:Nat -> List Nat} {hole:Nat -> Prop}
theorem born_lock (H:Heap) (p c:Nat):(H.born p c).lock=H.lock:=by
 unfold Heap.born
 rw [hung_lock]
 show (H.born1 p c).lock=H.lock
 unfold Heap.born1
 have:∀ (G:Heap) (a w n i:Nat),(G.laidN a w n i).lock=G.lock:=by
  intro G a w n i
  induction i with
  |zero=>rfl
  |succ i ih=>exact ih
 rw [this];rfl
def Fine (H:Heap):Prop:=∃ fl pl fc,Inv H fl pl fc (fun _=>False)
theorem Inv.stakeF (h:Inv H fl pl fc (fun _=>False)) {c:Nat} (hc:c<8) (d:Bool):Fine (H.stakeF c d).1 /\ (H.stakeF c d).1.lock=H.lock:=by
 unfold Heap.stakeF
 by_cases hp:0 <= H.part c
 ·rw [if_pos hp]
  obtain ⟨p,f,r,h0,hm,hf,hfi,_⟩:=h.head_page hc hp
  have e1:(H.part c).toNat=p:=by omega
  have e2:(H.page p).first.toNat=f:=by omega
  rw [e1,e2,h.nextF hc hm hf]
  obtain ⟨pl',i⟩:=h.taken hc hm hf
  exact ⟨⟨_,_,_,i⟩,taken_lock _ _ _ _ _⟩
 ·rw [if_neg hp]
  obtain ⟨h0,hl⟩:=h.no_page hc hp
  obtain ⟨hN,fl',hI⟩:=h.needF (Nat.zero_le _) d
  have hb:=hN.base
  cases ho:(H.needF 0 d).2 with
  |none=>exact ⟨⟨_,_,_,hI⟩,hb.2.2.2.2.1⟩
  |some p =>
   rw [ho] at hN
   obtain ⟨hpn,gp⟩:=hN.page0 hI
   obtain ⟨i1,i2,i3,i4⟩:=hI.born hpn hc gp hl
   have w4:=(w8 hc).2.2.2.1
   have hpm:p∈(fun j=>if j=c then [p] else pl j) c:=by simp
   have hfc:(fun x=>if x=p then List.range' 0 (256 / 2^c) else fc x) p=0 :: List.range' 1 (256 / 2^c-1):=by
    simp only [if_true]
    obtain ⟨m,hm⟩:∃ m,256 / 2^c=m+1:=⟨256 / 2^c-1,by omega⟩
    rw [hm,List.range'_succ];rfl
   have hh1:hdI (List.range' 1 (256 / 2^c-1)) (-1)=1:=by
    obtain ⟨m,hm⟩:∃ m,256 / 2^c=m+2:=⟨256 / 2^c-2,by omega⟩
    rw [hm,show m+2-1=m+1 by omega,List.range'_succ];rfl
   obtain ⟨pl',i⟩:=i1.taken hc hpm hfc
   rw [hh1] at i
   exact ⟨⟨_,_,_,i⟩,by rw [taken_lock,born_lock,hb.2.2.2.2.1]⟩
def _root_.AM.Heap.mtakeF (H:Heap) (r:Nat) (deny:Bool):Heap × Option Nat :=
 if r<4096 then ((H.stakeF (blen (r / 16)-1) deny).1,(H.stakeF (blen (r / 16)-1) deny).2.map fun x=>H.addr x.1+x.2*r)
 else ((H.needF (blen (r / 4096)-1) deny).1,(H.needF (blen (r / 4096)-1) deny).2.map H.addr)
theorem roundP_pow {n a:Nat} (hn:n<18446744073709551616) (ha:a<18446744073709551616):∃ b,4 <= b /\ roundP n a=2^b:=by
 unfold roundP ceilP
 have hm:16 <= max (max n a) 16:=by omega
 rw [if_neg (by omega)]
 refine ⟨_,?_,rfl⟩
 have h3:3 <= (max (max n a) 16-1).log2:=(Nat.le_log2 (by omega)).2 (by omega)
 unfold blen
 rw [if_neg (by omega)];omega
theorem size_cases (ok:H.OK) {b:Nat} (hb:4 <= b) (hle:¬ H.rsz<2^b):(∃ c,c<8 /\ 2^b=16*2^c /\ 2^b<4096 /\ blen (2^b / 16)-1=c) \/ (∃ k,k <= H.order /\ 2^b=4096*2^k /\ ¬ 2^b<4096 /\ blen (2^b / 4096)-1=k):=by
 by_cases c:b<12
 ·have e:2^b=16*2^(b-4):=by rw [show (16:Nat)=2^4 from rfl, <- Nat.pow_add];congr 1;omega
  refine .inl ⟨b-4,by omega,e,?_,?_⟩
  ·have:2^b <= 2^11:=Nat.pow_le_pow_right (by omega) (by omega)
   omega
  ·rw [e,Nat.mul_div_cancel_left _ (by omega),blen_pow];omega
 ·have e:2^b=4096*2^(b-12):=by rw [show (4096:Nat)=2^12 from rfl, <- Nat.pow_add];congr 1;omega
  refine .inr ⟨b-12,?_,e,?_,?_⟩
  ·unfold Heap.rsz at hle
   rw [e] at hle
   exact (Nat.pow_le_pow_iff_right (by omega:1<2)).1 (by omega)
  ·have:2^12 <= 2^b:=Nat.pow_le_pow_right (by omega) (by omega)
   omega
  ·rw [e,Nat.mul_div_cancel_left _ (by omega),blen_pow];omega
theorem Inv.mtakeF (h:Inv H fl pl fc (fun _=>False)) {b:Nat} (hb:4 <= b) (hle:¬ H.rsz<2^b) (d:Bool):Fine (H.mtakeF (2^b) d).1 /\ (H.mtakeF (2^b) d).1.lock=H.lock:=by
 unfold Heap.mtakeF
 rcases size_cases h.ok hb hle with ⟨c,h1,h2,h3,h4⟩ | ⟨k,h1,h2,h3,h4⟩
 ·rw [if_pos h3,h4];exact h.stakeF h1 d
 ·rw [if_neg h3,h4]
  obtain ⟨hN,fl',hI⟩:=h.needF h1 d
  exact ⟨⟨_,_,_,hI⟩,hN.base.2.2.2.2.1⟩
theorem r_mtakeF (hR:HRep σ A H) (h:Inv H fl pl fc (fun _=>False)) {b:Nat} (hb:4 <= b) (hle:¬ H.rsz<2^b) (d:Bool) :
  Runs G0 [] 158 [.ptr (some (A .heap,0)),.int .u64 (2^b:Nat),.bool d] σ fun r s=>∃ A',HRep s A' (H.mtakeF (2^b) d).1 /\ A' .heap=A .heap ∧
   r=.tuple [.int .u64 ((match (H.mtakeF (2^b) d).2 with | some x=>x | none=>0:Nat):Int),.int .i64 (match (H.mtakeF (2^b) d).2 with | some _=>0 | none=>2)]:=by
 unfold Heap.mtakeF
 rcases size_cases h.ok hb hle with ⟨c,h1,h2,h3,h4⟩ | ⟨k,h1,h2,h3,h4⟩
 ·rw [if_pos h3,h4,h2]
  obtain ⟨v,s,⟨⟨A',st,R⟩,hv⟩,hr⟩:=r_STakeF hR h h1 d
  have hst:=st .heap (by simp) (by simp) (by simp) (by simp)
  cases ho:(H.stakeF c d).2 with
  |some x =>
   rw [ho] at hv
   obtain ⟨g,rfl⟩:=hv
   refine (r_takeS hR h1 (P:=fun s=>∃ A',HRep s A' (H.stakeF c d).1 /\ A' .heap=A .heap) (e:=0) ⟨_,s,⟨⟨A',R,hst⟩,rfl⟩,hr⟩).mono ?_
   rintro v s ⟨⟨A',a1,a2⟩,rfl⟩
   exact ⟨A',a1,a2,rfl⟩
  |none =>
   rw [ho] at hv
   simp only at hv
   subst hv
   refine (r_takeS hR h1 (P:=fun s=>∃ A',HRep s A' (H.stakeF c d).1 /\ A' .heap=A .heap) (a:=0) (e:=2) ⟨_,s,⟨⟨A',R,hst⟩,rfl⟩,hr⟩).mono ?_
   rintro v s ⟨⟨A',a1,a2⟩,rfl⟩
   exact ⟨A',a1,a2,rfl⟩
 ·rw [if_neg h3,h4,h2]
  obtain ⟨v,s,⟨⟨A',st,R⟩,hv⟩,hr⟩:=r_NeedF hR h h1 d
  have hst:=st .heap (by simp) (by simp) (by simp) (by simp)
  have hk40:k <= 40:=by have:=h.ok.order_le;omega
  cases ho:(H.needF k d).2 with
  |some x =>
   rw [ho] at hv
   obtain ⟨g,rfl⟩:=hv
   refine (r_takeP hR hk40 (P:=fun s=>∃ A',HRep s A' (H.needF k d).1 /\ A' .heap=A .heap) (e:=0) ⟨_,s,⟨⟨A',R,hst⟩,rfl⟩,hr⟩).mono ?_
   rintro v s ⟨⟨A',a1,a2⟩,rfl⟩
   exact ⟨A',a1,a2,rfl⟩
  |none =>
   rw [ho] at hv
   simp only at hv
   subst hv
   refine (r_takeP hR hk40 (P:=fun s=>∃ A',HRep s A' (H.needF k d).1 /\ A' .heap=A .heap) (a:=0) (e:=2) ⟨_,s,⟨⟨A',R,hst⟩,rfl⟩,hr⟩).mono ?_
   rintro v s ⟨⟨A',a1,a2⟩,rfl⟩
   exact ⟨A',a1,a2,rfl⟩
def _root_.AM.Heap.allocF (H:Heap) (n a:Nat) (deny:Bool):Heap × Nat × Nat :=
 if isPow a=false then (H,0,1)
 else if H.rsz<roundP n a then (H,0,3)
 else match (H.mtakeF (roundP n a) deny).2 with
  |some x=>((H.mtakeF (roundP n a) deny).1,x,0)
  |none=>((H.mtakeF (roundP n a) deny).1,0,2)
theorem Inv.allocF (h:Inv H fl pl fc (fun _=>False)) {n a:Nat} (hn:n<18446744073709551616) (ha:a<18446744073709551616) (d:Bool):Fine (H.allocF n a d).1 /\ (H.allocF n a d).1.lock=H.lock:=by
 unfold Heap.allocF
 by_cases c:isPow a=false
 ·rw [if_pos c];exact ⟨⟨_,_,_,h⟩,rfl⟩
 ·rw [if_neg c]
  by_cases c2:H.rsz<roundP n a
  ·rw [if_pos c2];exact ⟨⟨_,_,_,h⟩,rfl⟩
  ·rw [if_neg c2]
   obtain ⟨b,hb,e⟩:=roundP_pow hn ha
   rw [e] at c2 ⊢
   have:=h.mtakeF hb c2 d
   split <;> exact this
theorem r_mallocF (hR:HRep σ A H) (h:Inv H fl pl fc (fun _=>False)) {n a:Nat} (hn:n<18446744073709551616) (ha:a<18446744073709551616) (d:Bool) :
  Runs G0 [] 121 [.ptr (some (A .heap,0)),.int .u64 n,.int .u64 a,.bool d] σ fun r s=>∃ A',HRep s A' (H.allocF n a d).1 /\ A' .heap=A .heap ∧
   r=.tuple [.agg [.int .u64 (H.allocF n a d).2.1,.int .u64 ((if (H.allocF n a d).2.2=0 then roundP n a else 0:Nat):Int)],.int .i64 (H.allocF n a d).2.2]:=by
 unfold Heap.allocF
 by_cases c:isPow a=false
 ·rw [if_pos c]
  refine ((hR.rgrow (r_mallocE hR h.ok (d:=.bool d) hn ha (.inl c)))).mono ?_
  rintro v s ⟨rfl,_,R⟩
  rw [if_pos c]
  exact ⟨A,R,rfl,rfl⟩
 ·rw [if_neg c]
  by_cases c2:H.rsz<roundP n a
  ·rw [if_pos c2]
   refine ((hR.rgrow (r_mallocE hR h.ok (d:=.bool d) hn ha (.inr c2)))).mono ?_
   rintro v s ⟨rfl,_,R⟩
   rw [if_neg c]
   exact ⟨A,R,rfl,rfl⟩
  ·rw [if_neg c2]
   obtain ⟨b,hb,e⟩:=roundP_pow hn ha
   have c3:=c2
   rw [e] at c3
   have key:∀ s,HRep s A H -> Runs G0 [] 158 [.ptr (some (A .heap,0)),.int .u64 (roundP n a),.bool d] s fun r s'=>∃ A',HRep s' A' (H.mtakeF (roundP n a) d).1 /\ A' .heap=A .heap ∧
     r=.tuple [.int .u64 ((match (H.mtakeF (roundP n a) d).2 with | some x=>x | none=>0:Nat):Int),.int .i64 (match (H.mtakeF (roundP n a) d).2 with | some _=>0 | none=>2)]:=by
    intro s R
    have:=r_mtakeF R h hb c3 d
    rw [<- e] at this
    exact this
   have hp:isPow a=true:=by cases hx:isPow a;exact (c hx).elim;rfl
   cases ho:(H.mtakeF (roundP n a) d).2 with
   |some x =>
    rw [ho] at key
    exact r_malloc (e:=0) hR h.ok hn ha hp c2 key
   |none =>
    rw [ho] at key
    exact r_malloc (adr:=(0:Nat)) (e:=2) hR h.ok hn ha hp c2 key
def _root_.AM.Heap.held (H:Heap):Heap:=H.setLock 1
theorem r_AllocF (hR:HRep σ A H) (h:Inv H fl pl fc (fun _=>False)) (hl:H.lock=0) {n a:Nat} (hn:n<18446744073709551616) (ha:a<18446744073709551616) (d:Bool) :
  Runs G0 [] 61 [.ptr (some (A .heap,0)),.int .u64 a,.int .u64 n,.bool d] σ fun r s=>∃ A',HRep s A' ((H.held.allocF n a d).1.setLock 0) /\ A' .heap=A .heap /\ r=.tuple [.int .u64 (H.held.allocF n a d).2.1,.int .i64 (H.held.allocF n a d).2.2]:=by
 have h1:=h.setLock 1
 exact r_AlignedAlloc hR hl (h1.allocF hn ha d).2 fun s R=>r_mallocF R h1 hn ha d
end
noncomputable section
variable {H H':Heap} {fl pl fc:Nat -> List Nat} {hole:Nat -> Prop}
def LiveAt (H:Heap) (x a s:Nat):Prop :=
 ((H.page x).kind=2 /\ ∃ k:Nat,(H.page x).order=(k:Int) /\ a=H.addr x /\ s=4096*2^k) ∨
 ((H.page x).kind=4 /\ ∃ c q:Nat,(H.page x).cls=(c:Int) /\ q<256 / 2^c /\ (H.page x).bit q=1 /\ a=H.addr x+q*(16*2^c) /\ s=16*2^c)
def LiveB (H:Heap) (a s:Nat):Prop:=∃ x,x<H.np /\ LiveAt H x a s
theorem Inv.live_of (h:Inv H fl pl fc (fun _=>False)) {a s:Nat} (hs:H.startF a=some s):LiveB H a s:=by
 obtain ⟨h1,h2,h3 | h3⟩:=h.starts hs
 ·obtain ⟨c,k1,k2,k3,k4,k5,k6,k7⟩:=h3
  subst k4
  exact ⟨_,h1,.inr ⟨k1,c,_,k2,k5,k6,k7,rfl⟩⟩
 ·obtain ⟨k,k1,k2,k3,k4,k5,k6⟩:=h3
  exact ⟨_,h1,.inl ⟨k1,k,k2,k5,k4⟩⟩
theorem Inv.start_of (h:Inv H fl pl fc (fun _=>False)) {a s:Nat} (hl:LiveB H a s):H.startF a=some s:=by
 obtain ⟨x,hx,hl⟩:=hl
 have hfn:=fin_np H
 obtain ⟨k,fam,g⟩:=h.pg x hx (fun e=>e)
 unfold Heap.startF Heap.blockF
 rcases hl with ⟨h2,j,h3,h4,h5⟩ | ⟨h4,c,q,h5,h6,h7,h8,h9⟩
 ·have hjk:j=k:=by have:=g.order;omega
  subst hjk
  obtain ⟨_,al⟩:=g.two h2
  have e1:(a-H.base) / 4096=x:=by rw [h4];unfold Heap.addr;omega
  have hna:¬ (a<H.base \/ H.fin <= a):=by rw [h4];unfold Heap.addr;omega
  rw [if_neg hna,e1,if_neg (by omega),if_pos (.inl h2),show (H.page x).order.toNat=j by omega,al_mul al]
  simp only
  rw [if_pos h4.symm,h5]
 ·have s:=h.slab hx (fun e=>e) h4 h5
  have hf:=cell_fits s.c8 h6
  have hw:=w8 s.c8
  have e1:(a-H.base) / 4096=x:=by rw [h8];unfold Heap.addr;omega
  have e2:(a-H.base)%4096=q*(16*2^c):=by rw [h8];unfold Heap.addr;omega
  have hna:¬ (a<H.base \/ H.fin <= a):=by rw [h8];unfold Heap.addr;omega
  rw [if_neg hna,e1,e2,if_pos h4,show (H.page x).cls.toNat=c by omega,Nat.mul_div_cancel _ (by omega),if_pos h7]
  simp only
  rw [if_pos h8.symm,h9]
theorem LiveAt.congr {x a s:Nat} (hb:H'.base=H.base) (hc:Core (H.page x) (H'.page x)):LiveAt H' x a s↔LiveAt H x a s:=by
 have ha:H'.addr x=H.addr x:=by unfold Heap.addr;rw [hb]
 unfold LiveAt
 rw [hc.kind,hc.order,hc.cls,ha]
 simp only [hc.bit]
theorem LiveAt.free {x a s:Nat} (h:IsFr H x):¬ LiveAt H x a s:=by
 unfold IsFr at h
 rintro (⟨h2,_⟩ | ⟨h4,_⟩) <;> omega
theorem Took.live {k p:Nat} (t:Took H H' k p) {a s:Nat}:LiveB H' a s↔LiveB H a s \/ (a=H.addr p /\ s=4096*2^k):=by
 have sm:=t.same
 have hpos:=pow_pos' k
 constructor
 ·rintro ⟨x,hx,hl⟩
  rw [sm.np] at hx
  by_cases c:x / 2^k=p / 2^k
  ·have e:=t.is x c
   by_cases d:x=p
   ·subst d
    rw [if_pos rfl] at e
    rcases hl with ⟨h2,j,h3,h4,h5⟩ | ⟨h4,_⟩
    ·rw [e] at h3
     have h3':(k:Int)=(j:Int):=h3
     have:k=j:=by omega
     subst this
     exact .inr ⟨by rw [h4,sm.addr],h5⟩
    ·rw [e] at h4;have h4':(2:Int)=4:=h4;omega
   ·rw [if_neg d] at e
    rcases hl with ⟨h2,_⟩ | ⟨h4,_⟩
    ·rw [e] at h2;have h2':(2:Int)+1=2:=h2;omega
    ·rw [e] at h4;have h4':(2:Int)+1=4:=h4;omega
  ·by_cases f:IsFr H x
   ·exact (LiveAt.free (t.free x hx f c) hl).elim
   ·obtain ⟨e,_⟩:=t.held x hx f
    exact .inl ⟨x,hx,(LiveAt.congr sm.base (e▸Core.refl _)).1 hl⟩
 ·rintro (⟨x,hx,hl⟩ | ⟨rfl,rfl⟩)
  ·by_cases f:IsFr H x
   ·exact (LiveAt.free f hl).elim
   ·obtain ⟨e,_⟩:=t.held x hx f
    exact ⟨x,by rw [sm.np];exact hx,(LiveAt.congr sm.base (e▸Core.refl _)).2 hl⟩
  ·have e:=t.is p rfl
   rw [if_pos rfl] at e
   exact ⟨p,by rw [sm.np];have:=t.le;omega,.inl ⟨by rw [e];rfl,k,by rw [e];rfl,by rw [sm.addr],rfl⟩⟩
theorem Grew.live (g:Grew H H') {a s:Nat}:LiveB H' a s↔LiveB H a s:=by
 have hnp:=g.np
 have hpos:=pow_pos' H.order
 constructor
 ·rintro ⟨x,hx,hl⟩
  rw [hnp] at hx
  by_cases c:x<H.np
  ·by_cases f:IsFr H x
   ·exact (LiveAt.free (g.free x c f) hl).elim
   ·obtain ⟨e,_⟩:=g.held x c f
    exact ⟨x,c,(LiveAt.congr g.base (e▸Core.refl _)).1 hl⟩
  ·exact (LiveAt.free (g.new x (by omega) hx) hl).elim
 ·rintro ⟨x,hx,hl⟩
  by_cases f:IsFr H x
  ·exact (LiveAt.free f hl).elim
  ·obtain ⟨e,_⟩:=g.held x hx f
   exact ⟨x,by rw [hnp];omega,(LiveAt.congr g.base (e▸Core.refl _)).2 hl⟩
theorem Needed.live {k p:Nat} {d:Bool} (n:Needed H k d H' (some p)) {a s:Nat}:LiveB H' a s↔LiveB H a s \/ (a=H.addr p /\ s=4096*2^k):=by
 cases n with
 |old _ t=>exact t.live
 |grew _ _ _ g t=>rw [t.live,g.live,g.addr]
def Bytes (H H':Heap):Prop:=∀ a s,LiveB H a s -> ∀ i,i<s -> H'.mem (a-H.base+i)=H.mem (a-H.base+i)
theorem Inv.live_pages (h:Inv H fl pl fc (fun _=>False)) {x a s:Nat} (hx:x<H.np) (hl:LiveAt H x a s) {i:Nat} (hi:i<s) :
  ∃ y j,a-H.base+i=4096*y+j /\ j<4096 /\ y<H.np /\ ¬ IsFr H y /\ ((H.page x).kind=4 -> y=x):=by
 obtain ⟨k,fam,g⟩:=h.pg x hx (fun e=>e)
 rcases hl with ⟨h2,j,h3,h4,h5⟩ | ⟨h4,c,q,h5,h6,h7,h8,h9⟩
 ·have hjk:j=k:=by have:=g.order;omega
  subst hjk
  obtain ⟨rfl,al⟩:=g.two h2
  have hy:(x+i / 4096) / 2^j=x / 2^j:=(blk_iff al).2 ⟨by omega,by rw [h5] at hi;have:i / 4096<2^j:=Nat.div_lt_of_lt_mul hi;omega⟩
  refine ⟨x+i / 4096,i%4096,by rw [h4];unfold Heap.addr;omega,by omega,blk_lt g.le hx hy,?_,fun e=>by omega⟩
  unfold IsFr
  rcases g.kinds hy with e | e <;> omega
 ·have s:=h.slab hx (fun e=>e) h4 h5
  have hf:=cell_fits s.c8 h6
  refine ⟨x,q*(16*2^c)+i,by rw [h8];unfold Heap.addr;omega,by omega,hx,?_,fun _=>rfl⟩
  unfold IsFr;omega
theorem Took.bytes (h:Inv H fl pl fc (fun _=>False)) {k p:Nat} (t:Took H H' k p):Bytes H H':=by
 rintro a s ⟨x,hx,hl⟩ i hi
 obtain ⟨y,j,e,hj,hy,hf,_⟩:=h.live_pages hx hl hi
 rw [e];exact (t.held y hy hf).2 j hj
theorem Grew.bytes (h:Inv H fl pl fc (fun _=>False)) (g:Grew H H'):Bytes H H':=by
 rintro a s ⟨x,hx,hl⟩ i hi
 obtain ⟨y,j,e,hj,hy,hf,_⟩:=h.live_pages hx hl hi
 rw [e];exact (g.held y hy hf).2 j hj
theorem Needed.bytes (h:Inv H fl pl fc (fun _=>False)) {k:Nat} {d:Bool} {o:Option Nat} (n:Needed H k d H' o):Bytes H H':=by
 cases n with
 |old _ t=>exact t.bytes h
 |grew _ _ hlt g t =>
  intro a s hl i hi
  have h1:=g.bytes h a s hl i hi
  have h2:=t.bytes (h.fed hlt).1 a s (g.live.2 hl) i hi
  rw [g.base] at h2
  exact h2.trans h1
 |none _ _=>exact fun _ _ _ _ _=>rfl
theorem Inv.apart (h:Inv H fl pl fc (fun _=>False)) {a s b t:Nat} (h1:LiveB H a s) (h2:LiveB H b t) (hne:a≠b):a+s <= b \/ b+t <= a:=by
 obtain ⟨x,hx,hx2⟩:=h1
 obtain ⟨y,hy,hy2⟩:=h2
 obtain ⟨k,fam,g⟩:=h.pg x hx (fun e=>e)
 obtain ⟨j,fam',g'⟩:=h.pg y hy (fun e=>e)
 have cells:∀ {x a s k fam},PgOk H (fun _=>False) x k fam -> x<H.np -> LiveAt H x a s -> H.addr (x / 2^k*2^k) <= a /\ a+s <= H.addr (x / 2^k*2^k+2^k):=by
  intro x a s k fam g hx hl
  rcases hl with ⟨h2,j,h3,h4,h5⟩ | ⟨h4,c,q,h5,h6,h7,h8,h9⟩
  ·have hjk:j=k:=by have:=g.order;omega
   subst hjk
   obtain ⟨rfl,al⟩:=g.two h2
   rw [al_mul al,h4,h5]
   unfold Heap.addr
   omega
  ·obtain ⟨rfl,rfl⟩:=g.four h4
   have s:=h.slab hx (fun e=>e) h4 h5
   have hf:=cell_fits s.c8 h6
   have e:x / 2^0*2^0=x:=by simp
   rw [e,h8,h9]
   have:(2:Nat)^0=1:=rfl
   unfold Heap.addr;omega
 by_cases c:x / 2^k=y / 2^k /\ k=j
 ·obtain ⟨c1,rfl⟩:=c
  rcases hx2 with ⟨h2,i,h3,h4,h5⟩ | ⟨h4,c,q,h5,h6,h7,h8,h9⟩
  ·obtain ⟨rfl,al⟩:=g.two h2
   rcases hy2 with ⟨k2,i',k3,k4,k5⟩ | ⟨k4,_⟩
   ·obtain ⟨rfl,al'⟩:=g'.two k2
    have:=blk_eq al' al c1
    subst this
    omega
   ·obtain ⟨_,rfl⟩:=g'.four k4
    have:x=y:=by simpa using c1
    subst this;omega
  ·obtain ⟨rfl,rfl⟩:=g.four h4
   have hxy:x=y:=by simpa using c1
   subst hxy
   rcases hy2 with ⟨k2,_⟩ | ⟨k4,c',q',k5,k6,k7,k8,k9⟩
   ·omega
   ·have:c'=c:=by omega
    subst this
    have hqq:q≠q':=by intro e;subst e;omega
    rcases Nat.lt_or_gt_of_ne hqq with l | l
    ·left
     have:=Nat.mul_le_mul_right (16*2^c') (show q+1 <= q' by omega)
     rw [Nat.add_mul] at this;omega
    ·right
     have:=Nat.mul_le_mul_right (16*2^c') (show q'+1 <= q by omega)
     rw [Nat.add_mul] at this;omega
 ·have b1:=cells g hx hx2
  have b2:=cells g' hy hy2
  have al1:x / 2^k*2^k%2^k=0:=Nat.mul_mod_left _ _
  have al2:y / 2^j*2^j%2^j=0:=Nat.mul_mod_left _ _
  have p1:=pow_pos' k
  have p2:=pow_pos' j
  have d1:x / 2^k*2^k / 2^k=x / 2^k:=Nat.mul_div_cancel _ p1
  have d2:y / 2^j*2^j / 2^j=y / 2^j:=Nat.mul_div_cancel _ p2
  have key:∀ z, ¬ (z / 2^k=x / 2^k /\ z / 2^j=y / 2^j):=by
   rintro z ⟨z1,z2⟩
   obtain ⟨e1,e2⟩:=g.one g' z1 z2
   exact c ⟨e2,e1⟩
  have far:x / 2^k*2^k+2^k <= y / 2^j*2^j \/ y / 2^j*2^j+2^j <= x / 2^k*2^k:=by
   rcases Nat.lt_or_ge (x / 2^k*2^k) (y / 2^j*2^j) with l | l
   ·left
    refine Nat.le_of_not_lt fun hlt=>?_
    refine key (y / 2^j*2^j) ⟨?_,d2⟩
    rw [<- d1];exact (blk_iff al1).2 ⟨by omega,hlt⟩
   ·right
    refine Nat.le_of_not_lt fun hlt=>?_
    refine key (x / 2^k*2^k) ⟨d1,?_⟩
    rw [<- d2];exact (blk_iff al2).2 ⟨l,hlt⟩
  unfold Heap.addr at b1 b2
  omega
end
noncomputable section
variable {H H':Heap} {fl pl fc:Nat -> List Nat} {hole:Nat -> Prop}
def Full (H:Heap):Prop:=∀ x,x<H.np -> (H.page x).kind=4 -> 1 <= (H.page x).live
theorem Took.fresh (h:Inv H fl pl fc (fun _=>False)) {k p:Nat} (t:Took H H' k p) {a s:Nat} (hl:LiveB H a s):a+s <= H.addr p \/ H.addr p+4096*2^k <= a:=by
 obtain ⟨x,hx,hl⟩:=hl
 have hpos:0<s:=by
  rcases hl with ⟨_,j,_,_,h5⟩ | ⟨_,c,q,_,_,_,_,h9⟩
  ·have:=pow_pos' j;omega
  ·have:=pow_pos' c;omega
 have hab:H.base <= a:=by
  rcases hl with ⟨_,j,_,h4,_⟩ | ⟨_,c,q,_,_,_,h8,_⟩
  ·rw [h4];unfold Heap.addr;omega
  ·rw [h8];unfold Heap.addr;omega
 have al:=t.al
 refine Decidable.byContradiction fun hn=>?_
 obtain ⟨i,hi,hlo,hhi⟩:∃ i,i<s /\ H.addr p <= a+i /\ a+i<H.addr p+4096*2^k:=by
  rcases Nat.lt_or_ge a (H.addr p) with c | c
  ·exact ⟨H.addr p-a,by omega,by omega,by have:=pow_pos' k;omega⟩
  ·exact ⟨0,hpos,by omega,by omega⟩
 obtain ⟨y,j,e,hj,hy,hf,_⟩:=h.live_pages hx hl hi
 refine hf (t.was y ((blk_iff al).2 ?_))
 unfold Heap.addr at hlo hhi
 omega
theorem Needed.fresh (h:Inv H fl pl fc (fun _=>False)) {k p:Nat} {d:Bool} (n:Needed H k d H' (some p)) {a s:Nat} (hl:LiveB H a s):a+s <= H.addr p \/ H.addr p+4096*2^k <= a:=by
 cases n with
 |old _ t=>exact t.fresh h hl
 |grew _ _ hlt g t=>have:=t.fresh (h.fed hlt).1 (g.live.2 hl);rw [g.addr] at this;exact this
theorem Took.full {k p:Nat} (t:Took H H' k p) (hf:Full H):Full H':=by
 intro x hx hk
 rw [t.same.np] at hx
 by_cases c:x / 2^k=p / 2^k
 ·have e:=t.is x c
  by_cases d:x=p
  ·rw [if_pos d] at e;rw [e] at hk;have h2:(2:Int)=4:=hk;omega
  ·rw [if_neg d] at e;rw [e] at hk;have h2:(2:Int)+1=4:=hk;omega
 ·by_cases f:IsFr H x
  ·have:=t.free x hx f c
   unfold IsFr at this;omega
  ·obtain ⟨e,_⟩:=t.held x hx f
   rw [e] at hk ⊢
   exact hf x hx hk
theorem Grew.full (g:Grew H H') (hf:Full H):Full H':=by
 intro x hx hk
 rw [g.np] at hx
 by_cases c:x<H.np
 ·by_cases f:IsFr H x
  ·have:=g.free x c f
   unfold IsFr at this;omega
  ·obtain ⟨e,_⟩:=g.held x c f
   rw [e] at hk ⊢
   exact hf x c hk
 ·have:=g.new x (by omega) hx
  unfold IsFr at this;omega
theorem Needed.full {k:Nat} {d:Bool} {o:Option Nat} (n:Needed H k d H' o) (hf:Full H):Full H':=by
 cases n with
 |old _ t=>exact t.full hf
 |grew _ _ _ g t=>exact t.full (g.full hf)
 |none _ _=>exact hf
theorem live_own {p c f:Nat} {b:Bool} (hb:H'.base=H.base) (hk:(H'.page p).kind=(H.page p).kind) (h4:(H.page p).kind=4) (hc:(H'.page p).cls=(H.page p).cls) (hcl:(H.page p).cls=(c:Int)) (hc8:c<8)
  (hbw:∀ j,(H'.page p).bw j=((H.page p).own f b).bw j) (hf:f<256 / 2^c) (hbit:(H.page p).bit f=if b=true then 0 else 1) {a s:Nat} :
  LiveAt H' p a s↔if b=true then LiveAt H p a s \/ (a=H.addr p+f*(16*2^c) /\ s=16*2^c) else LiveAt H p a s /\ a≠H.addr p+f*(16*2^c):=by
 have ha:H'.addr p=H.addr p:=by unfold Heap.addr;rw [hb]
 have hw:=w8 hc8
 have hbits:∀ q,q<256 / 2^c -> (H'.page p).bit q=if q=f then 1-(H.page p).bit f else (H.page p).bit q:=by
  intro q hq
  have:(H'.page p).bit q=((H.page p).own f b).bit q:=by unfold Page.bit;rw [hbw]
  rw [this,bit_own _ _ (by omega) (by omega)]
 have hcu:∀ {c':Nat},(H.page p).cls=(c':Int) -> c'=c:=fun e=>by omega
 cases b with
 |true =>
  simp only [if_true] at hbit ⊢
  constructor
  ·rintro (⟨h2,_⟩ | ⟨_,c',q,k5,k6,k7,k8,k9⟩)
   ·omega
   ·rw [hc] at k5
    obtain rfl:=hcu k5
    rw [ha] at k8
    by_cases e:q=f
    ·subst e;exact .inr ⟨k8,k9⟩
    ·rw [hbits q k6,if_neg e] at k7
     exact .inl (.inr ⟨h4,c',q,k5,k6,k7,k8,k9⟩)
  ·rintro ((⟨h2,_⟩ | ⟨_,c',q,k5,k6,k7,k8,k9⟩) | ⟨rfl,rfl⟩)
   ·omega
   ·obtain rfl:=hcu k5
    refine .inr ⟨hk.trans h4,c',q,hc.trans k5,k6,?_,by rw [ha];exact k8,k9⟩
    rw [hbits q k6]
    by_cases e:q=f
    ·subst e;omega
    ·rw [if_neg e];exact k7
   ·exact .inr ⟨hk.trans h4,c,f,hc.trans hcl,hf,by rw [hbits f hf,if_pos rfl,hbit],by rw [ha],rfl⟩
 |false =>
  simp only [Bool.false_eq_true,if_false] at hbit ⊢
  constructor
  ·rintro (⟨h2,_⟩ | ⟨_,c',q,k5,k6,k7,k8,k9⟩)
   ·omega
   ·rw [hc] at k5
    obtain rfl:=hcu k5
    rw [ha] at k8
    by_cases e:q=f
    ·subst e;rw [hbits q k6,if_pos rfl,hbit] at k7;omega
    ·rw [hbits q k6,if_neg e] at k7
     refine ⟨.inr ⟨h4,c',q,k5,k6,k7,k8,k9⟩,fun e2=>e ?_⟩
     rw [k8] at e2
     exact Nat.eq_of_mul_eq_mul_right (by omega:0<16*2^c') (by omega)
  ·rintro ⟨⟨h2,_⟩ | ⟨_,c',q,k5,k6,k7,k8,k9⟩,hne⟩
   ·omega
   ·obtain rfl:=hcu k5
    refine .inr ⟨hk.trans h4,c',q,hc.trans k5,k6,?_,by rw [ha];exact k8,k9⟩
    have e:q≠f:=by rintro rfl;exact hne k8
    rw [hbits q k6,if_neg e];exact k7
theorem taken_page' (H:Heap) (p c f:Nat) (nf:Int):((H.taken p c f nf).page p).cls=(H.page p).cls /\ (∀ j,((H.taken p c f nf).page p).bw j=((H.page p).own f true).bw j) /\ ((H.taken p c f nf).page p).live=(H.page p).live+1 /\ (H.taken p c f nf).mem=H.mem:=by
 have e1:(H.taken1 p f nf).page p={ (H.page p).own f true with first:=nf }:=by rw [taken1_page,if_pos rfl]
 unfold Heap.taken
 by_cases e:nf<0
 ·rw [if_pos e]
  have k:=core_unhung (H.taken1 p f nf) p c p
  refine ⟨k.cls.trans (by rw [e1];rfl),fun j=>(k.bw j).trans (by rw [e1];rfl),k.live.trans (by rw [e1];rfl),?_⟩
  simp only [Heap.unhung,Heap.unh2,Heap.unh1,Heap.setPage,Heap.setPart]
  split <;> split <;> rfl
 ·rw [if_neg e,e1];exact ⟨rfl,fun _=>rfl,rfl,rfl⟩
theorem taken_live {p c f:Nat} {nf:Int} (t:H.TakeOk p c f nf) {a s:Nat}:LiveB (H.taken p c f nf) a s↔LiveB H a s \/ (a=H.addr p+f*(16*2^c) /\ s=16*2^c):=by
 have w:=taken_cellular H p c f nf
 obtain ⟨e1,e2,e3,e4⟩:=taken_page' H p c f nf
 have hp:=live_own (H':=H.taken p c f nf) (b:=true) w.same.base w.kind t.kind e1 t.cls t.cls8 e2 t.cell (by rw [t.free];rfl) (a:=a) (s:=s)
 rw [if_pos rfl] at hp
 constructor
 ·rintro ⟨x,hx,hl⟩
  rw [w.same.np] at hx
  by_cases e:x=p
  ·subst e
   rcases hp.1 hl with k | k
   ·exact .inl ⟨x,hx,k⟩
   ·exact .inr k
  ·exact .inl ⟨x,hx,(LiveAt.congr w.same.base (w.core x e)).1 hl⟩
 ·rintro (⟨x,hx,hl⟩ | k)
  ·by_cases e:x=p
   ·subst e;exact ⟨x,by rw [w.same.np];exact hx,hp.2 (.inl hl)⟩
   ·exact ⟨x,by rw [w.same.np];exact hx,(LiveAt.congr w.same.base (w.core x e)).2 hl⟩
  ·exact ⟨p,by rw [w.same.np];exact t.page,hp.2 (.inr k)⟩
theorem taken_full {p c f:Nat} {nf:Int} (t:H.TakeOk p c f nf) (hf:∀ x,x<H.np -> x≠p -> (H.page x).kind=4 -> 1 <= (H.page x).live):Full (H.taken p c f nf):=by
 have w:=taken_cellular H p c f nf
 obtain ⟨e1,e2,e3,e4⟩:=taken_page' H p c f nf
 intro x hx hk
 rw [w.same.np] at hx
 by_cases e:x=p
 ·subst e;rw [e3];have:=t.live.1;omega
 ·rw [(w.core x e).kind] at hk
  rw [(w.core x e).live];exact hf x hx e hk
structure Celled (H H':Heap) (p q c:Nat):Prop where
 live:∀ a s,LiveB H' a s↔LiveB H a s \/ (a=H.addr p+q*(16*2^c) /\ s=16*2^c)
 bytes:Bytes H H'
 full:Full H -> Full H'
 new:∀ a s,LiveB H a s -> a+s <= H.addr p+q*(16*2^c) \/ H.addr p+q*(16*2^c)+16*2^c <= a
 cell:q<256 / 2^c
 page:p<H'.np
theorem Inv.celled (h:Inv H fl pl fc (fun _=>False)) {c:Nat} (hc:c<8) (d:Bool):match (H.stakeF c d).2 with
  |some x=>Celled H (H.stakeF c d).1 x.1 x.2 c /\ ((0 <= H.part c /\ (H.stakeF c d).1.Same H) \/ (¬ 0 <= H.part c /\ ∃ H1,Needed H 0 d H1 (some x.1) /\ (H.stakeF c d).1.Same H1))
  |none=>(H.stakeF c d).1=H /\ ¬ 0 <= H.part c /\ Needed H 0 d H none:=by
 unfold Heap.stakeF
 by_cases hp:0 <= H.part c
 ·rw [if_pos hp]
  obtain ⟨p,f,r,h0,hm,hf,hfi,_⟩:=h.head_page hc hp
  have e1:(H.part c).toNat=p:=by omega
  have e2:(H.page p).first.toNat=f:=by omega
  rw [e1,e2,h.nextF hc hm hf]
  have t:=h.takeOk hc hm hf
  obtain ⟨k1,k2,k3,k4⟩:=taken_page' H p c f (hdI r (-1))
  have w:=taken_cellular H p c f (hdI r (-1))
  show Celled H (H.taken p c f (hdI r (-1))) p f c /\ ((0 <= H.part c /\ (H.taken p c f (hdI r (-1))).Same H) \/ _)
  refine ⟨⟨fun a s=>taken_live t,fun a s _ i _=>by rw [k4],fun hfu=>taken_full t fun x hx _ hk=>hfu x hx hk,fun a s hl=>?_,t.cell,by rw [w.same.np];exact t.page⟩,.inl ⟨hp,w.same⟩⟩
  obtain ⟨pl',i⟩:=h.taken hc hm hf
  have n1:LiveB (H.taken p c f (hdI r (-1))) (H.addr p+f*(16*2^c)) (16*2^c):=(taken_live t).2 (.inr ⟨rfl,rfl⟩)
  have n2:LiveB (H.taken p c f (hdI r (-1))) a s:=(taken_live t).2 (.inl hl)
  refine i.apart n2 n1 ?_
  rintro rfl
  have hs:=h.start_of hl
  obtain ⟨x,hx,hla⟩:=hl
  have hfit:=cell_fits hc t.cell
  have hw:=w8 hc
  have hxp:x=p:=by
   obtain ⟨y,j,e,hj,hy,hfr,hyx⟩:=h.live_pages hx hla (i:=0) (by
    rcases hla with ⟨_,j,_,_,h5⟩ | ⟨_,c',q,_,_,_,_,h9⟩
    ·have:=pow_pos' j;omega
    ·have:=pow_pos' c';omega)
   have hyp:y=p:=by unfold Heap.addr at e;omega
   rcases hla with ⟨h2,j',h3,h4,h5⟩ | ⟨h4,_⟩
   ·obtain ⟨k,fam,g⟩:=h.pg x hx (fun e=>e)
    obtain ⟨k',fam',g'⟩:=h.pg p t.page (fun e=>e)
    obtain ⟨_,rfl⟩:=g'.four t.kind
    have:H.addr x=H.addr p+f*(16*2^c):=h4.symm
    unfold Heap.addr at this
    omega
   ·exact (hyx h4).symm.trans hyp
  subst hxp
  rcases hla with ⟨h2,_⟩ | ⟨_,c',q,k5,k6,k7,k8,k9⟩
  ·have:=t.kind;omega
  ·have:c'=c:=by have:=t.cls;omega
   subst this
   have:q=f:=Nat.eq_of_mul_eq_mul_right (by omega:0<16*2^c') (by omega)
   subst this
   have:=t.free;omega
 ·rw [if_neg hp]
  obtain ⟨h0,hl⟩:=h.no_page hc hp
  obtain ⟨hN,fl',hI⟩:=h.needF (Nat.zero_le _) d
  have hb:=hN.base
  cases ho:(H.needF 0 d).2 with
  |none =>
   rw [ho] at hN
   simp only
   have:(H.needF 0 d).1=H:=by
    generalize (H.needF 0 d).1=X at hN
    cases hN;rfl
   rw [this] at hN ⊢
   exact ⟨rfl,hp,hN⟩
  |some p =>
   rw [ho] at hN
   simp only
   obtain ⟨hpn,gp⟩:=hN.page0 hI
   obtain ⟨H1,hH1⟩:∃ H1,H1=(H.needF 0 d).1:=⟨_,rfl⟩
   rw [<- hH1] at hN hI hpn gp hb ⊢
   obtain ⟨i1,i2,i3,i4⟩:=hI.born hpn hc gp hl
   have hw:=w8 hc
   have hpm:p∈(fun j=>if j=c then [p] else pl j) c:=by simp
   have hfc:(fun x=>if x=p then List.range' 0 (256 / 2^c) else fc x) p=0 :: List.range' 1 (256 / 2^c-1):=by
    simp only [if_true]
    obtain ⟨m,hm⟩:∃ m,256 / 2^c=m+1:=⟨256 / 2^c-1,by omega⟩
    rw [hm,List.range'_succ];rfl
   have hh1:hdI (List.range' 1 (256 / 2^c-1)) (-1)=1:=by
    obtain ⟨m,hm⟩:∃ m,256 / 2^c=m+2:=⟨256 / 2^c-2,by omega⟩
    rw [hm,show m+2-1=m+1 by omega,List.range'_succ];rfl
   have t:=i1.takeOk hc hpm hfc
   rw [hh1] at t
   obtain ⟨k1,k2,k3,k4⟩:=taken_page' (H1.born p c) p c 0 1
   have w:=taken_cellular (H1.born p c) p c 0 1
   have ea:(H1.born p c).addr p=H.addr p:=by rw [i3.addr];unfold Heap.addr;rw [hb.1]
   have empty:∀ a s, ¬ LiveAt (H1.born p c) p a s:=by
    have s:=i1.slab (p:=p) (by rw [i3.np];exact hpn) (fun e=>e) t.kind t.cls
    rintro a s' (⟨h2,_⟩ | ⟨_,c',q,k5,k6,k7,_⟩)
    ·have:=t.kind;omega
    ·have:c'=c:=by have:=t.cls;omega
     subst this
     have hb2:=s.bit q k6
     rw [if_pos rfl] at hb2
     rw [if_pos (by rw [List.mem_range'_1];omega)] at hb2
     omega
   have hp1:∀ a s,LiveAt H1 p a s -> a=H.addr p /\ s=4096:=by
    intro a s hla
    have e:=hN.is.2 p rfl
    rw [if_pos rfl] at e
    rcases hla with ⟨_,j,h3,h4,h5⟩ | ⟨h4,_⟩
    ·rw [e] at h3
     have h3':(0:Int)=(j:Int):=h3
     have:j=0:=by omega
     subst this
     exact ⟨by rw [h4];unfold Heap.addr;rw [hb.1],h5⟩
    ·rw [e] at h4;have h4':(2:Int)=4:=h4;omega
   have lv:∀ a s,LiveB (H1.born p c) a s↔LiveB H a s:=by
    intro a s
    constructor
    ·rintro ⟨x,hx,hla⟩
     rw [i3.np] at hx
     by_cases e:x=p
     ·subst e;exact (empty a s hla).elim
     ·have h1:LiveAt H1 x a s:=(LiveAt.congr i3.base (i2 x e)).1 hla
      rcases hN.live.1 ⟨x,hx,h1⟩ with k | ⟨rfl,rfl⟩
      ·exact k
      ·exfalso
       apply e
       rcases h1 with ⟨_,j,_,h4,_⟩ | ⟨hk4,c',q,k5,k6,_,k8,_⟩
       ·unfold Heap.addr at h4;rw [hb.1] at h4;omega
       ·have s:=hI.slab hx (fun e=>e) hk4 k5
        have:=cell_fits s.c8 k6
        unfold Heap.addr at k8;rw [hb.1] at k8;omega
    ·intro hlb
     obtain ⟨x,hx,h1⟩:=hN.live.2 (.inl hlb)
     by_cases e:x=p
     ·subst e
      obtain ⟨rfl,rfl⟩:=hp1 a s h1
      have:=hN.fresh h hlb
      have e2:(2:Nat)^0=1:=rfl
      omega
     ·exact ⟨x,by rw [i3.np];exact hx,(LiveAt.congr i3.base (i2 x e)).2 h1⟩
   refine ⟨⟨fun a s=>?_,fun a s hlb i hi=>?_,fun hfu=>?_,fun a s hlb=>?_,t.cell,by rw [w.same.np,i3.np];exact hpn⟩,.inr ⟨hp,H1,hN,Heap.Same.trans w.same i3⟩⟩
   ·rw [taken_live t,lv,ea]
   ·
    rw [k4]
    have e1:=hN.bytes h a s hlb i hi
    obtain ⟨x,hx,hla⟩:=hN.live.2 (.inl hlb)
    obtain ⟨y,j,e,hj,hy,hfr,_⟩:=hI.live_pages hx hla hi
    rw [hb.1] at e
    have hyp:y≠p:=by
     rintro rfl
     have hfrs:=hN.fresh h hlb
     have e2:(2:Nat)^0=1:=rfl
     have hba:H.base <= a:=by
      rcases hla with ⟨_,j,_,h4,_⟩ | ⟨_,c',q,_,_,_,h8,_⟩
      ·rw [h4];unfold Heap.addr;rw [hb.1];omega
      ·rw [h8];unfold Heap.addr;rw [hb.1];omega
     unfold Heap.addr at hfrs
     omega
    rw [e] at e1 ⊢
    exact (i4 y hyp j hj).trans e1
   ·refine taken_full t fun x hx hne hk=>?_
    rw [i3.np] at hx
    rw [(i2 x hne).kind] at hk
    rw [(i2 x hne).live]
    exact hN.full hfu x hx hk
   ·have:=hN.fresh h hlb
    have e2:(2:Nat)^0=1:=rfl
    have hfit:=cell_fits hc t.cell
    rcases this with k | k
    ·left;omega
    ·right;omega
end
noncomputable section
variable {H H':Heap} {fl pl fc:Nat -> List Nat} {hole:Nat -> Prop}
structure Freed (H H':Heap) (a:Nat):Prop where
 live:∀ b s,LiveB H' b s↔LiveB H b s /\ b≠a
 bytes:∀ b s,LiveB H' b s -> ∀ i,i<s -> H'.mem (b-H.base+i)=H.mem (b-H.base+i)
 full:Full H -> Full H'
 same:H'.Same H
theorem Inv.giveM_freed (h:Inv H fl pl fc (fun _=>False)) {p k:Nat} (hp:p<H.np) (g:PgOk H (fun _=>False) p k 2) (al:p%2^k=0):Fine (H.giveM H.order p k) /\ Freed H (H.giveM H.order p k) (H.addr p):=by
 have hpos:=pow_pos' k
 have hpn:p+2^k <= H.np:=by
  have hl:=blk_lt (x:=p) (y:=p+2^k-1) g.le hp ((blk_iff al).2 (by omega))
  omega
 have ho:=(h.opened g).congr_hole (hole':=fun x=>x / 2^k=p / 2^k) (fun x=>by simp)
 obtain ⟨⟨fl',i1⟩,i2,i3⟩:=Inv.giveM H.order (H:=H) (by omega) g.le al hpn ho
 refine ⟨⟨_,_,_,i1⟩,?_,?_,?_,i2.same⟩
 ·intro a s
  constructor
  ·rintro ⟨x,hx,hl⟩
   rw [i2.same.np] at hx
   by_cases c:x / 2^k=p / 2^k
   ·exact (LiveAt.free (i3 x c) hl).elim
   ·by_cases f:IsFr H x
    ·exact (LiveAt.free (i2.free x hx c f) hl).elim
    ·obtain ⟨e,_⟩:=i2.held x hx c f
     have hl':=(LiveAt.congr i2.same.base (e▸Core.refl _)).1 hl
     refine ⟨⟨x,hx,hl'⟩,?_⟩
     rintro rfl
     rcases hl' with ⟨_,j,_,h4,_⟩ | ⟨h4,c',q,k5,k6,_,k8,_⟩
     ·have:x=p:=(addr_inj h4).symm
      exact c (by rw [this])
     ·have s:=h.slab hx (fun e=>e) h4 k5
      have:=cell_fits s.c8 k6
      have hw2:=(w8 s.c8).2.1
      have hxp:x=p:=by unfold Heap.addr at k8;omega
      exact c (by rw [hxp])
  ·rintro ⟨⟨x,hx,hl⟩,hne⟩
   by_cases f:IsFr H x
   ·exact (LiveAt.free f hl).elim
   ·by_cases c:x / 2^k=p / 2^k
    ·exfalso
     rcases hl with ⟨h2,j,h3,h4,h5⟩ | ⟨h4,_⟩
     ·have e:=(g.all x c).2.2
      rw [h2] at e
      split at e
      ·rename_i hm
       have:=blk_eq al hm c
       subst this
       exact hne h4
      ·omega
     ·rcases g.kinds c with e | e <;> omega
    ·obtain ⟨e,_⟩:=i2.held x hx c f
     exact ⟨x,by rw [i2.same.np];exact hx,(LiveAt.congr i2.same.base (e▸Core.refl _)).2 hl⟩
 ·rintro b s ⟨x,hx,hl⟩ i hi
  obtain ⟨y,j,e,hj,hy,hf,_⟩:=i1.live_pages hx hl hi
  rw [i2.same.np] at hy
  rw [i2.same.base] at e
  have c:¬ y / 2^k=p / 2^k:=fun c=>hf (i3 y c)
  have f:¬ IsFr H y:=fun f=>hf (i2.free y hy c f)
  rw [e];exact (i2.held y hy c f).2 j hj
 ·intro hfu x hx hk
  rw [i2.same.np] at hx
  by_cases c:x / 2^k=p / 2^k
  ·have:=i3 x c;unfold IsFr at this;omega
  ·by_cases f:IsFr H x
   ·have:=i2.free x hx c f;unfold IsFr at this;omega
   ·obtain ⟨e,_⟩:=i2.held x hx c f
    rw [e] at hk ⊢
    exact hfu x hx hk
theorem Inv.sgiveF_freed (h:Inv H fl pl fc (fun _=>False)) {p c q:Nat} (hp:p<H.np) (hk:(H.page p).kind=4) (hcls:(H.page p).cls=(c:Int)) (hq:q<256 / 2^c) (hb:(H.page p).bit q=1) :
  Fine (H.sgiveF p c q) /\ Freed H (H.sgiveF p c q) (H.addr p+q*(16*2^c)):=by
 have s:=h.slab hp (fun e=>e) hk hcls
 have hc:=s.c8
 obtain ⟨w1,w2,w3,w4,w5⟩:=w8 hc
 have hqfit:=cell_fits hc hq
 have hqf:q∉fc p:=fun hm=>by rw [s.bit q hq,if_pos hm] at hb;cases hb
 unfold Heap.sgiveF
 by_cases hlv:(H.page p).live=1
 ·rw [if_pos hlv]
  obtain ⟨⟨pl',i1⟩,e1,e2,e3,e4⟩:=h.emptied hp (fun e=>e) hk hcls hq hb hlv
  obtain ⟨H1,hH1⟩:∃ H1,H1=H.emptied p c q:=⟨_,rfl⟩
  rw [<- hH1] at i1 e1 e2 e3 e4 ⊢
  have hp1:p<H1.np:=by rw [e4.np];exact hp
  obtain ⟨k,fam,g⟩:=i1.pg p hp1 (fun e=>e)
  have hk0:k=0:=by
   have h2:=g.order
   rw [e3] at h2
   have h3:(0:Int)=(k:Int):=h2
   omega
  subst hk0
  obtain ⟨rfl,al⟩:=g.two (by rw [e3];rfl)
  obtain ⟨f1,f2⟩:=i1.giveM_freed hp1 g al
  have ea:H1.addr p=H.addr p:=e4.addr p
  have only:∀ a s',LiveAt H p a s' -> a=H.addr p+q*(16*2^c):=by
   rintro a s' (⟨h2,_⟩ | ⟨_,c',q',k5,k6,k7,k8,k9⟩)
   ·omega
   ·have:c'=c:=by omega
    subst this
    rw [k8]
    have hq'f:q'∉fc p:=fun hm=>by rw [s.bit q' k6,if_pos hm] at k7;cases k7
    by_cases e:q'=q
    ·rw [e]
    ·exfalso
     have hs:(q' :: q :: fc p) ⊆ List.range (256 / 2^c'):=fun x hx=>by
      rcases List.mem_cons.1 hx with rfl | hx
      ·exact List.mem_range.2 k6
      ·rcases List.mem_cons.1 hx with rfl | hx
       ·exact List.mem_range.2 hq
       ·exact List.mem_range.2 (s.lt x hx)
     have hnd:(q' :: q :: fc p).Nodup:=List.nodup_cons.2 ⟨by simp [e,hq'f],List.nodup_cons.2 ⟨hqf,s.nd⟩⟩
     have hlen:=List.Nodup.length_le_of_subset hnd hs
     simp only [List.length_cons,List.length_range] at hlen
     have:=s.live
     omega
  have lv1:∀ a s',(LiveB H1 a s' /\ a≠H.addr p)↔LiveB H a s' /\ a≠H.addr p+q*(16*2^c):=by
   intro a s'
   constructor
   ·rintro ⟨⟨x,hx,hl⟩,hne⟩
    rw [e4.np] at hx
    by_cases e:x=p
    ·subst e
     exfalso
     rcases hl with ⟨_,j,_,h4,_⟩ | ⟨h4,_⟩
     ·rw [ea] at h4;exact hne h4
     ·rw [e3] at h4;have h4':(2:Int)=4:=h4;omega
    ·have hl':=(LiveAt.congr e4.base (e2 x e)).1 hl
     refine ⟨⟨x,hx,hl'⟩,?_⟩
     rintro rfl
     have hsx:=h.live_pages hx hl' (i:=0) (by
      rcases hl' with ⟨_,j,_,_,h5⟩ | ⟨_,c',q',_,_,_,_,h9⟩
      ·have:=pow_pos' j;omega
      ·have:=pow_pos' c';omega)
     obtain ⟨y,j,e5,hj,hy,hfr,hyx⟩:=hsx
     have hyp:y=p:=by unfold Heap.addr at e5;omega
     rcases hl' with ⟨_,j',_,h4,_⟩ | ⟨h4,_⟩
     ·unfold Heap.addr at h4;omega
     ·exact e ((hyx h4).symm.trans hyp)
   ·rintro ⟨⟨x,hx,hl⟩,hne⟩
    by_cases e:x=p
    ·subst e;exact (hne (only a s' hl)).elim
    ·refine ⟨⟨x,by rw [e4.np];exact hx,(LiveAt.congr e4.base (e2 x e)).2 hl⟩,?_⟩
     rintro rfl
     apply e
     rcases hl with ⟨_,j,_,h4,_⟩ | ⟨h4,c',q',k5,k6,_,k8,_⟩
     ·exact (addr_inj h4).symm
     ·have s2:=h.slab hx (fun e=>e) h4 k5
      have:=cell_fits s2.c8 k6
      have hw2:=(w8 s2.c8).2.1
      unfold Heap.addr at k8;omega
  refine ⟨f1,fun b t=>?_,fun b t hl i hi=>?_,fun hfu=>f2.full ?_,Heap.Same.trans f2.same e4⟩
  ·rw [f2.live,ea,lv1]
  ·have:=f2.bytes b t hl i hi
   rw [e4.base,e1] at this;exact this
  ·intro x hx hk4
   rw [e4.np] at hx
   by_cases e:x=p
   ·subst e;rw [e3] at hk4;have h4':(2:Int)=4:=hk4;omega
   ·rw [(e2 x e).kind] at hk4
    rw [(e2 x e).live];exact hfu x hx hk4
 ·rw [if_neg hlv]
  obtain ⟨⟨pl',i1⟩,w,hm⟩:=h.given hp (fun e=>e) hk hcls hq hb
  have g2:=given2_page' H p c q
  have pgp:=given_page H p c q p
  rw [if_pos rfl] at pgp
  have hlo:=fun a s=>live_own (H':=H.given p c q) (b:=false) (f:=q) (a:=a) (s:=s) w.same.base w.kind hk (by rw [pgp];exact g2.2.1.cls) hcls hc (fun j=>by rw [pgp];exact g2.2.1.bw j) hq (by rw [hb];rfl)
  refine ⟨⟨_,_,_,i1⟩,fun b t=>?_,?_,fun hfu x hx hk4=>?_,w.same⟩
  ·have hlo':=hlo b t
   rw [if_neg (by simp)] at hlo'
   constructor
   ·rintro ⟨x,hx,hl⟩
    rw [w.same.np] at hx
    by_cases e:x=p
    ·subst e
     obtain ⟨a1,a2⟩:=hlo'.1 hl
     exact ⟨⟨x,hx,a1⟩,a2⟩
    ·have hl':=(LiveAt.congr w.same.base (w.core x e)).1 hl
     refine ⟨⟨x,hx,hl'⟩,?_⟩
     rintro rfl
     obtain ⟨y,j,e5,hj,hy,hfr,hyx⟩:=h.live_pages hx hl' (i:=0) (by
      rcases hl' with ⟨_,j,_,_,h5⟩ | ⟨_,c',q',_,_,_,_,h9⟩
      ·have:=pow_pos' j;omega
      ·have:=pow_pos' c';omega)
     have hyp:y=p:=by unfold Heap.addr at e5;omega
     rcases hl' with ⟨h2,j',_,h4,_⟩ | ⟨h4,_⟩
     ·have h4':H.addr x=H.addr p+q*(16*2^c):=h4.symm
      unfold Heap.addr at h4';omega
     ·exact e ((hyx h4).symm.trans hyp)
   ·rintro ⟨⟨x,hx,hl⟩,hne⟩
    by_cases e:x=p
    ·subst e;exact ⟨x,by rw [w.same.np];exact hx,hlo'.2 ⟨hl,hne⟩⟩
    ·exact ⟨x,by rw [w.same.np];exact hx,(LiveAt.congr w.same.base (w.core x e)).2 hl⟩
  ·rintro b t ⟨x,hx,hl⟩ i hi
   have hx':=hx
   rw [w.same.np] at hx'
   by_cases e:x=p
   ·subst e
    have hlo':=hlo b t
    rw [if_neg (by simp)] at hlo'
    obtain ⟨a1,a2⟩:=hlo'.1 hl
    rcases a1 with ⟨h2,_⟩ | ⟨_,c',q',k5,k6,k7,k8,k9⟩
    ·omega
    ·have:c'=c:=by omega
     subst this
     have hqq:q'≠q:=by rintro rfl;exact a2 k8
     have hf':=cell_fits hc k6
     have e5:b-H.base+i=4096*x+(q'*(16*2^c')+i):=by rw [k8];unfold Heap.addr;omega
     rw [e5]
     refine hm _ (by omega) ?_
     rcases Nat.lt_or_gt_of_ne hqq with l | l
     ·left
      have:=Nat.mul_le_mul_right (16*2^c') (show q'+1 <= q by omega)
      rw [Nat.add_mul] at this;omega
     ·right
      have:=Nat.mul_le_mul_right (16*2^c') (show q+1 <= q' by omega)
      rw [Nat.add_mul] at this;omega
   ·have hl':=(LiveAt.congr w.same.base (w.core x e)).1 hl
    obtain ⟨y,j,e5,hj,hy,hfr,hyx⟩:=h.live_pages hx' hl' hi
    rw [e5]
    refine w.mem y ?_ j hj
    rintro rfl
    rcases hl' with ⟨h2,k',h3,h4,h5⟩ | ⟨h4,_⟩
    ·
     obtain ⟨k,fam,g⟩:=h.pg x hx' (fun e=>e)
     have hkk:k'=k:=by have:=g.order;omega
     subst hkk
     obtain ⟨rfl,al⟩:=g.two h2
     have hyb:y / 2^k'=x / 2^k':=(blk_iff al).2 (by
      rw [h4] at e5
      unfold Heap.addr at e5
      omega)
     rcases g.kinds hyb with e6 | e6 <;> omega
    ·exact e (hyx h4).symm
  ·rw [w.same.np] at hx
   by_cases e:x=p
   ·subst e
    rw [pgp]
    show 1 <= ((H.given2 x c q).page x).live
    rw [g2.2.1.live]
    show 1 <= (H.page x).live-1
    have:=hfu x hx hk
    omega
   ·rw [(w.core x e).kind] at hk4
    rw [(w.core x e).live];exact hfu x hx hk4
theorem Inv.giveF (h:Inv H fl pl fc (fun _=>False)) {a w:Nat} (hs:H.startF a=some w):Fine (H.giveF a w) /\ Freed H (H.giveF a w) a:=by
 obtain ⟨h1,h2,h3 | h3⟩:=h.starts hs
 ·obtain ⟨c,k1,k2,k3,k4,k5,k6,k7⟩:=h3
  have hw:=(w8 k3).2.2.1
  unfold Heap.giveF
  rw [if_pos (by omega),show (H.page ((a-H.base) / 4096)).cls.toNat=c by omega]
  have:=h.sgiveF_freed h1 k1 k2 k5 k6
  rw [<- k4, <- k7] at this
  exact this
 ·obtain ⟨k,k1,k2,k3,k4,k5,k6⟩:=h3
  unfold Heap.giveF
  rw [if_neg (by have:=pow_pos' k;omega),show (H.page ((a-H.base) / 4096)).order.toNat=k by omega]
  obtain ⟨j,fam,g⟩:=h.pg _ h1 (fun e=>e)
  have:j=k:=by have:=g.order;omega
  subst this
  obtain ⟨rfl,al⟩:=g.two k1
  have:=h.giveM_freed h1 g al
  rw [<- k5] at this
  exact this
end
noncomputable section
variable {σ σ':St}
inductive Cont where
 |row (n:Nat) (f:Nat -> V)
 |ro (o n:Nat) (f:Nat -> V)
 |map (es:List (V × V))
def RoRow (σ:St) (id o n:Nat) (f:Nat -> V):Prop:=∃ m z t,o+n <= m /\ σ.objs.get id=some (.cells true 0 m z t) /\ ∀ i,i<n -> cellOf m z t (o+i)=some (f i)
theorem RoRow.load {id o n:Nat} {f:Nat -> V} (h:RoRow σ id o n f) {off k:Nat} (hk:off+k <= n):σ.load id (o+off) k=some ((List.range k).map fun j=>f (off+j)):=by
 obtain ⟨m,z,t,hm,ho,hc⟩:=h
 simp only [St.load,ho]
 rw [loadN_of (f:=fun j=>f (j-o)) k (o+off) fun i h1 h2=>by
  have:=hc (i-o) (by omega)
  rwa [show o+(i-o)=i by omega] at this]
 congr 1
 apply List.map_congr_left
 intro j _
 show f (o+off+j-o)=_
 congr 1;omega
theorem RoRow.congr {id o n:Nat} {f:Nat -> V} (h:RoRow σ id o n f) {f':Nat -> V} {n':Nat} (hn:n' <= n) (hf:∀ i,i<n' -> f i=f' i):RoRow σ id o n' f':=by
 obtain ⟨m,z,t,hm,ho,hc⟩:=h
 exact ⟨m,z,t,by omega,ho,fun i hi=>by rw [<- hf i hi];exact hc i (by omega)⟩
def Holds (σ:St) (id:Nat):Cont -> Prop
 | .row n f=>Row σ id n f
 | .ro o n f=>RoRow σ id o n f
 | .map es=>σ.objs.get id=some (.map es)
theorem Holds.obj {id:Nat} {c:Cont} (h:Holds σ id c):∃ o,σ.objs.get id=some o /\ o.live=true:=by
 cases c with
 |row n f =>
  obtain ⟨g,m,z,t,hm,ho,hc⟩:=h
  exact ⟨_,ho,rfl⟩
 |ro k n f =>
  obtain ⟨m,z,t,hm,ho,hc⟩:=h
  exact ⟨_,ho,rfl⟩
 |map es=>exact ⟨_,h,rfl⟩
theorem Holds.keep {id:Nat} {c:Cont} (h:Holds σ id c) (e:σ'.objs.get id=σ.objs.get id):Holds σ' id c:=by
 cases c with
 |row n f =>
  obtain ⟨g,m,z,t,hm,ho,hc⟩:=h
  exact ⟨g,m,z,t,hm,e.trans ho,hc⟩
 |ro k n f =>
  obtain ⟨m,z,t,hm,ho,hc⟩:=h
  exact ⟨m,z,t,hm,e.trans ho,hc⟩
 |map es=>exact e.trans h
structure Wd {ι:Type} (σ:St) (has:ι -> Prop) (A:ι -> Nat) (c:ι -> Cont):Prop where
 gw:GW σ
 wid:Wid σ
 not_wid:∀ {i},has i -> A i≠widthsId
 inj:∀ i j,has i -> has j -> A i=A j -> i=j
 hold:∀ i,has i -> Holds σ (A i) (c i)
 cut:∀ i j o,has i -> has j -> i≠j -> σ.objs.get (A i)=some o -> o.grp≠0 -> A j∉σ.row o.grp
section
variable {ι κ:Type} {has:ι -> Prop} {A:ι -> Nat} {c:ι -> Cont}
theorem Wd.lt (h:Wd σ has A c) {i:ι} (hi:has i):A i<σ.next:=by
 obtain ⟨o,ho,_⟩:=(h.hold i hi).obj
 exact h.gw.is_lt ho
theorem Wd.grow (h:Wd σ has A c) (g:Grow σ σ') (w:GW σ'):Wd σ' has A c where
 gw:=w
 wid:=h.wid.of_get (g.old _ (h.wid.lt h.gw))
 not_wid:=h.not_wid
 inj:=h.inj
 hold i hi:=(h.hold i hi).keep (g.old _ (h.lt hi))
 cut i j o hi hj hne ho hg:=by
  rw [g.old _ (h.lt hi)] at ho
  have:=h.cut i j o hi hj hne ho hg
  simpa only [St.row,g.grps] using this
theorem Wd.new (h:Wd σ has A c) (o:AM.Obj) (ho:o.grp=0):Wd (σ.new o) has A c:=h.grow (Grow.new σ o) (h.gw.new o ho)
theorem Wd.lay (h:Wd σ has A c) {n:Nat} {z vs:List V} (hl:vs.length <= n) (hf:vs.all V.flat=true):Wd (σ.lay n z vs) has A c:=h.grow (Grow.lay σ n z vs) (h.gw.lay hl hf)
theorem Wd.sub {has':κ -> Prop} {A':κ -> Nat} {c':κ -> Cont} (h:Wd σ has A c) (e:κ -> ι) (hh:∀ k,has' k -> has (e k)) (hi:∀ k l,has' k -> has' l -> e k=e l -> k=l) (hA:∀ k,has' k -> A' k=A (e k))
  (hc:∀ k,has' k -> c' k=c (e k) \/ ∃ n f n' f',c (e k)=.row n f /\ c' k=.row n' f' /\ n' <= n /\ ∀ i,i<n' -> f i=f' i):Wd σ has' A' c' where
 gw:=h.gw
 wid:=h.wid
 not_wid hk:=by rw [hA _ hk];exact h.not_wid (hh _ hk)
 inj k l hk hl e1:=hi k l hk hl (h.inj _ _ (hh k hk) (hh l hl) (by rw [<- hA k hk, <- hA l hl];exact e1))
 hold k hk:=by
  have:=h.hold _ (hh k hk)
  rw [hA k hk]
  rcases hc k hk with e1 | ⟨n,f,n',f',e1,e2,h1,h2⟩
  ·rw [e1];exact this
  ·rw [e1] at this
   rw [e2]
   exact Row.congr this h1 h2
 cut k l o hk hl hne ho hg:=by
  rw [hA k hk] at ho
  rw [hA l hl]
  exact h.cut _ _ o (hh k hk) (hh l hl) (fun e1=>hne (hi k l hk hl e1)) ho hg
theorem Wd.row (h:Wd σ has A c) {i:ι} (hi:has i) {n:Nat} {f:Nat -> V} (e:c i=.row n f):Row σ (A i) n f:=by
 have:=h.hold i hi
 rw [e] at this;exact this
theorem Wd.cell (h:Wd σ has A c) {i:ι} (hi:has i) {n:Nat} {f:Nat -> V} (e:c i=.row n f) {k:Nat} (hk:k<n):σ.cell (A i) k=some (f k):=(h.row hi e).cell hk
theorem Wd.load (h:Wd σ has A c) {i:ι} (hi:has i) {n:Nat} {f:Nat -> V} (e:c i=.row n f) {off k:Nat} (hk:off+k <= n):σ.load (A i) off k=some ((List.range k).map fun j=>f (off+j)):=(h.row hi e).load hk
theorem Wd.roRow (h:Wd σ has A c) {i:ι} (hi:has i) {n:Nat} {f:Nat -> V} {o:Nat} (e:c i=.ro o n f):RoRow σ (A i) o n f:=by
 have:=h.hold i hi
 rw [e] at this;exact this
theorem Wd.map (h:Wd σ has A c) {i:ι} (hi:has i) {es:List (V × V)} (e:c i=.map es):σ.objs.get (A i)=some (.map es):=by
 have:=h.hold i hi
 rw [e] at this;exact this
variable [DecidableEq ι]
def updG {α:Type} (f:ι -> α) (i:ι) (x:α):ι -> α:=fun j=>if j=i then x else f j
theorem updG_same {α:Type} {f:ι -> α} {i:ι} {x:α}:updG f i x i=x:=if_pos rfl
theorem updG_ne {α:Type} {f:ι -> α} {i j:ι} {x:α} (h:j≠i):updG f i x j=f j:=if_neg h
theorem Wd.store (h:Wd σ has A c) {i:ι} (hi:has i) {n:Nat} {f:Nat -> V} (e:c i=.row n f) {off:Nat} {vs:List V} (hk:off+vs.length <= n) (hf:vs.all V.flat=true) :
  ∃ σ',σ.store (A i) off vs=some σ' /\ Wd σ' has A (updG c i (.row n (over f off vs))) /\ σ'.next=σ.next:=by
 obtain ⟨σ',e1,hr,hn,hg,hst,hgrp⟩:=(h.row hi e).store hk hf
 have hwid:Wid σ':=by
  obtain ⟨m,z,t,hm,ho,hc⟩:=h.wid
  exact h.wid.of_get (hst.keep h.gw (Ne.symm (h.not_wid hi)) ho rfl rfl)
 refine ⟨σ',e1,⟨h.gw.store e1,hwid,h.not_wid,h.inj,?_,?_⟩,hn⟩
 ·intro j hj
  by_cases d:j=i
  ·subst d
   rw [updG_same];exact hr
  ·have hne:A j≠A i:=fun e=>d (h.inj j i hj hi e)
   rw [updG_ne d]
   refine (h.hold j hj).keep ?_
   exact hst (A j) hne fun o hoo hg0=>h.cut i j o hi hj (Ne.symm d) hoo hg0
 ·intro a b o ha hb hne ho hg0
  simp only [St.row,hg]
  by_cases d:a=i
  ·subst d
   obtain ⟨q,hq,_⟩:=(h.hold a hi).obj
   obtain ⟨o',ho',hgo⟩:=hgrp _ hq
   rw [ho] at ho';simp only [Option.some.injEq] at ho';subst ho'
   have:=h.cut a b q hi hb hne hq (by omega)
   rwa [<- hgo] at this
  ·have hne':A a≠A i:=fun e=>d (h.inj a i ha hi e)
   rw [hst (A a) hne' fun o hoo hg0=>h.cut i a o hi ha (Ne.symm d) hoo hg0] at ho
   exact h.cut a b o ha hb hne ho hg0
theorem Wd.add (h:Wd σ has A c) {i0:ι} (hs:¬ has i0) {b:Nat} {x:Cont} (L:Holds σ b x) (h0:∀ o,σ.objs.get b=some o -> o.grp=0) (hne:∀ i,has i -> A i≠b) (hbw:b≠widthsId):Wd σ (fun i=>has i \/ i=i0) (updG A i0 b) (updG c i0 x):=by
 have hn:∀ i,has i -> i≠i0:=fun i a e=>hs (e▸a)
 refine ⟨h.gw,h.wid,?_,?_,?_,?_⟩
 ·rintro i (ha | rfl)
  ·rw [updG_ne (hn i ha)];exact h.not_wid ha
  ·rw [updG_same];exact hbw
 ·rintro i j (ha | rfl) (hb | rfl) e
  ·rw [updG_ne (hn i ha),updG_ne (hn j hb)] at e;exact h.inj i j ha hb e
  ·rw [updG_ne (hn i ha),updG_same] at e;exact (hne i ha e).elim
  ·rw [updG_ne (hn j hb),updG_same] at e;exact (hne j hb e.symm).elim
  ·rfl
 ·rintro i (ha | rfl)
  ·rw [updG_ne (hn i ha),updG_ne (hn i ha)];exact h.hold i ha
  ·rw [updG_same,updG_same];exact L
 ·rintro i j o (ha | rfl) hb hab hoo hg
  ·rw [updG_ne (hn i ha)] at hoo
   rcases hb with hb | rfl
   ·rw [updG_ne (hn j hb)];exact h.cut i j o ha hb hab hoo hg
   ·rw [updG_same]
    intro k
    obtain ⟨q,hq,hl⟩:=L.obj
    have:=h.gw.grp _ _ _ k hq hl
    rw [h0 q hq] at this
    exact hg this.symm
  ·rw [updG_same] at hoo
   exact absurd (h0 o hoo) hg
theorem Wd.addLcl (h:Wd σ has A c) {i0:ι} (hs:¬ has i0) {b n:Nat} {f:Nat -> V} (L:Lcl σ b n f) (hne:∀ i,has i -> A i≠b):Wd σ (fun i=>has i \/ i=i0) (updG A i0 b) (updG c i0 (.row n f)):=by
 refine h.add hs (x:=.row n f) L.row (fun o ho=>?_) hne (Ne.symm (h.wid.not_lcl L))
 obtain ⟨m,z,t,hm,ho',hc⟩:=L
 rw [ho',Option.some.injEq] at ho
 subst ho;rfl
theorem Wd.cells (h:Wd σ has A c) {i0:ι} (hs:¬ has i0) (vs:List V):Wd (σ.newCells vs) (fun i=>has i \/ i=i0) (updG A i0 σ.next) (updG c i0 (.row vs.length (lst vs))) :=
 (h.new _ rfl).addLcl hs (Lcl.of_cells σ vs) fun i hi=>Nat.ne_of_lt (h.lt hi)
theorem Wd.alloc (h:Wd σ has A c) {i0:ι} (hs:¬ has i0) {z:List V} {n:Nat} (hz:z≠[] \/ n=0):Wd (σ.new (.cells false 0 n z .nil)) (fun i=>has i \/ i=i0) (updG A i0 σ.next) (updG c i0 (.row n fun i=>z.getD (i%z.length) .undef)) :=
 (h.new _ rfl).addLcl hs (Lcl.of_new σ z n hz) fun i hi=>Nat.ne_of_lt (h.lt hi)
theorem Wd.newMap (h:Wd σ has A c) {i0:ι} (hs:¬ has i0):Wd (σ.new (.map [])) (fun i=>has i \/ i=i0) (updG A i0 σ.next) (updG c i0 (.map [])):=by
 have hget:(σ.new (.map [])).objs.get σ.next=some (.map []):=by simp only [St.new,T.get_set,if_true]
 refine (h.new _ rfl).add hs (x:=.map []) hget (fun o ho=>?_) (fun i hi=>Nat.ne_of_lt (h.lt hi)) (Ne.symm (Nat.ne_of_lt (h.wid.lt h.gw)))
 rw [hget,Option.some.injEq] at ho
 subst ho;rfl
theorem Wd.setMap (h:Wd σ has A c) {i:ι} (hi:has i) {es es':List (V × V)} (e:c i=.map es):Wd { σ with objs:=σ.objs.set (A i) (.map es') } has A (updG c i (.map es')):=by
 have hg:=h.map hi e
 refine ⟨h.gw.set hg rfl rfl,?_,h.not_wid,h.inj,?_,?_⟩
 ·refine h.wid.of_get ?_
  simp only [T.get_set]
  rw [if_neg (Ne.symm (h.not_wid hi))]
 ·intro j hj
  by_cases d:j=i
  ·subst d
   rw [updG_same]
   show T.get (T.set _ _ _) _=_
   rw [T.get_set,if_pos rfl]
  ·have hne:A j≠A i:=fun e=>d (h.inj j i hj hi e)
   rw [updG_ne d]
   refine (h.hold j hj).keep ?_
   simp only [T.get_set]
   rw [if_neg hne]
 ·intro a b o ha hb hne ho hg0
  by_cases d:a=i
  ·subst d
   simp only [T.get_set,if_true,Option.some.injEq] at ho
   subst ho
   exact absurd rfl hg0
  ·have hne':A a≠A i:=fun e=>d (h.inj a i ha hi e)
   simp only [T.get_set] at ho
   rw [if_neg hne'] at ho
   exact h.cut a b o ha hb hne ho hg0
theorem Wd.append (h:Wd σ has A c) {i:ι} (hi:has i) {n:Nat} {f:Nat -> V} (e:c i=.row n f) {esz bytes k xl:Nat} {vs:List V} (hsz:n=xl*esz) (h1:(xl+k)*bytes <= maxLenBytes) (h2:xl+k <= maxLenBytes) (hf:vs.all V.flat=true) :
  ∃ σ',appendL σ esz bytes k vs (some (A i,0)) xl=some (.slice (some (σ.next,0)) (xl+k) esz,σ') /\ σ'.next=σ.next+1 ∧
   Wd σ' has (updG A i σ.next) (updG c i (.row (n+vs.length) fun j=>if j<n then f j else lst vs (j-n))):=by
 obtain ⟨v0,σ',ha⟩:=append_ok (h.row hi e) (esz:=esz) (bytes:=bytes) (k:=k) (xl:=xl) (vs:=vs) (by omega) h1 h2 hf
 have hw:=h.gw.appendL ha
 obtain ⟨g,m,z,t,old,hg,hold,hv,hn,hgr,hat⟩:=appendL_at ha
 have hrow0:=h.row hi e
 have hload:=hrow0.load (off:=0) (k:=xl*esz) (by omega)
 have hold':σ.load (A i) 0 (xl*esz)=some old:=by simp only [St.load,hg,hold]
 rw [hold',Option.some.injEq] at hload
 have hol:old.length=xl*esz:=by rw [hload];simp
 have hnext:∀ j,has j -> A j≠σ.next:=fun j a=>by have:=h.lt a;omega
 have hst:∀ j,has j -> j≠i -> σ'.objs.get (A j)=σ.objs.get (A j):=by
  intro j hj hne
  have h1:A j≠A i:=fun e=>hne (h.inj j i hj hi e)
  have h3:¬ (g≠0 /\ A j∈σ.row g):=fun ⟨k1,k2⟩=>h.cut i j _ hi hj (Ne.symm hne) hg k1 k2
  rw [hat,if_neg (hnext j hj),if_neg (fun k=>h3 ⟨k.1,List.mem_of_mem_drop k.2⟩),if_neg h1,if_neg h3]
 have hstw:σ'.objs.get widthsId=σ.objs.get widthsId:=by
  obtain ⟨mw,zw,tw,hmw,hw0,hcw⟩:=h.wid
  have h1:widthsId≠A i:=Ne.symm (h.not_wid hi)
  have hlw:=h.wid.lt h.gw
  have h3:¬ (g≠0 /\ widthsId∈σ.row g):=fun ⟨k1,k2⟩=>k1 (h.gw.grp g _ _ k2 hw0 rfl).symm
  rw [hat,if_neg (by omega),if_neg (fun k=>h3 ⟨k.1,List.mem_of_mem_drop k.2⟩),if_neg h1,if_neg h3]
 subst hv
 have hnewget:σ'.objs.get σ.next=some (.cells false (if g=0 then σ.next else g) (old++vs).length [] (ofList (old++vs))):=by rw [hat,if_pos rfl]
 obtain ⟨G,hG⟩:∃ G,G=(if g=0 then σ.next else g):=⟨_,rfl⟩
 rw [<- hG] at hgr hnewget
 have hrowO:∀ g',g'≠G -> σ'.row g'=σ.row g':=by
  intro g' hne
  simp only [St.row,hgr,T.get_set]
  rw [if_neg hne]
 have hrowG:σ'.row G=σ.next :: (if g=0 then [A i] else (σ.row g).take 8):=by
  simp only [St.row,hgr,T.get_set,if_true,Option.getD_some]
 have hmemG:∀ j,has j -> j≠i -> A j∉σ'.row G:=by
  intro j hj hne hm
  rw [hrowG] at hm
  rcases List.mem_cons.1 hm with e1 | hm
  ·exact hnext j hj e1
  ·by_cases c0:g=0
   ·rw [if_pos c0] at hm
    have:A j=A i:=by simpa using hm
    exact hne (h.inj j i hj hi this)
   ·rw [if_neg c0] at hm
    exact h.cut i j _ hi hj (Ne.symm hne) hg c0 (List.mem_of_mem_take hm)
 refine ⟨σ',ha,hn,⟨hw,h.wid.of_get hstw,?_,?_,?_,?_⟩⟩
 ·intro a hha
  by_cases da:a=i
  ·rw [da,updG_same];have:=h.wid.lt h.gw;omega
  ·rw [updG_ne da];exact h.not_wid hha
 ·intro a b hha hhb e1
  by_cases da:a=i
  ·by_cases db:b=i
   ·rw [da,db]
   ·rw [da,updG_same,updG_ne db] at e1;exact (hnext b hhb e1.symm).elim
  ·by_cases db:b=i
   ·rw [db,updG_same,updG_ne da] at e1;exact (hnext a hha e1).elim
   ·rw [updG_ne da,updG_ne db] at e1;exact h.inj a b hha hhb e1
 ·intro j hj
  by_cases d:j=i
  ·subst d
   rw [updG_same,updG_same]
   refine ⟨_,_,_,_,?_,hnewget,fun q hq=>?_⟩
   ·rw [List.length_append];omega
   ·rw [cellOf_ofList]
    have hq2:q<(old++vs).length:=by rw [List.length_append];omega
    rw [List.getElem?_eq_getElem hq2,Option.some.injEq]
    show _=if q<n then f q else lst vs (q-n)
    by_cases cq:q<n
    ·rw [if_pos cq,List.getElem_append_left (by omega)]
     have hx:old[q]?=some (f q):=by
      rw [hload,List.getElem?_map,List.getElem?_range (by omega)];simp
     rw [List.getElem?_eq_getElem (by omega),Option.some.injEq] at hx
     exact hx
    ·rw [if_neg cq,List.getElem_append_right (by omega)]
     unfold lst
     rw [List.getD_eq_getElem?_getD,List.getElem?_eq_getElem (by omega),Option.getD_some]
     congr 1;omega
  ·rw [updG_ne d,updG_ne d]
   exact (h.hold j hj).keep (hst j hj d)
 ·intro a b o hha hhb hne ho hg0
  by_cases da:a=i
  ·subst da
   rw [updG_same,hnewget,Option.some.injEq] at ho
   subst ho
   rw [updG_ne (Ne.symm hne)]
   exact hmemG b hhb (Ne.symm hne)
  ·rw [updG_ne da,hst a hha da] at ho
   have hoG:o.grp≠G:=by
    intro e1
    have hin:=(h.gw.mem _ _ ho hg0).1
    by_cases c0:g=0
    ·rw [if_pos c0] at hG
     have:=(h.gw.mem _ _ ho hg0).2
     omega
    ·rw [if_neg c0] at hG
     rw [e1,hG] at hin
     exact h.cut i a _ hi hha (Ne.symm da) hg c0 hin
   rw [hrowO _ hoG]
   by_cases db:b=i
   ·subst db
    rw [updG_same]
    intro hm
    have:=h.gw.lt _ _ hm;omega
   ·rw [updG_ne db]
    exact h.cut a b o hha hhb hne ho hg0
end
section
variable {ι κ:Type} {has0:ι -> Prop} {A0:ι -> Nat} {c0:ι -> Cont} {hasK:κ -> Prop} {AK:κ -> Nat} {cK:κ -> Cont}
def WOwn {ι:Type} (σ:St) (has:ι -> Prop) (A:ι -> Nat) (a:Nat):Prop:=a=widthsId \/ ∃ i,has i /\ (a=A i \/ ∃ o q,σ.objs.get (A i)=some o /\ o.grp≠0 /\ a∈σ.row o.grp /\ σ.objs.get a=some q /\ q.live=true)
theorem Wd.left (h:Wd σ (Sum.elim has0 hasK) (Sum.elim A0 AK) (Sum.elim c0 cK)):Wd σ has0 A0 c0 :=
 h.sub Sum.inl (fun _ h=>h) (fun _ _ _ _ e=>Sum.inl.inj e) (fun _ _=>rfl) fun _ _=>.inl rfl
theorem Wd.right (h:Wd σ (Sum.elim has0 hasK) (Sum.elim A0 AK) (Sum.elim c0 cK)):Wd σ hasK AK cK :=
 h.sub Sum.inr (fun _ h=>h) (fun _ _ _ _ e=>Sum.inr.inj e) (fun _ _=>rfl) fun _ _=>.inl rfl
theorem Wd.own_lt (h:Wd σ has0 A0 c0) {a:Nat} (ha:WOwn σ has0 A0 a):a<σ.next:=by
 obtain rfl | ⟨i,hi,rfl | ⟨o,q,h1,h2,h3,h4,h5⟩⟩:=ha
 ·exact h.wid.lt h.gw
 ·exact h.lt hi
 ·exact h.gw.is_lt h4
theorem Wd.apart (h:Wd σ has0 A0 c0):Apart (WOwn σ has0 A0) σ:=by
 intro a g o hna ha hl hg hmem b o' hb hob hgb
 rcases hb with rfl | ⟨i,hi,hb⟩
 ·obtain ⟨m,z,t,hm,ho,hc⟩:=h.wid
  rw [ho] at hob;simp only [Option.some.injEq] at hob;subst hob
  exact hg hgb.symm
 rcases hb with rfl | ⟨p,q,h1,h2,h3,h4,h5⟩
 ·exact hna <| .inr ⟨i,hi,.inr ⟨o',o,hob,by omega,by rw [hgb];exact hmem,ha,hl⟩⟩
 ·rw [hob] at h4;simp only [Option.some.injEq] at h4;subst h4
  have:=h.gw.grp _ _ _ h3 hob h5
  exact hna <| .inr ⟨i,hi,.inr ⟨p,o,h1,h2,by rw [<- this,hgb];exact hmem,ha,hl⟩⟩
theorem Wd.keep (h:Wd σ has0 A0 c0):Wd (σ.keep (WOwn σ has0 A0)) has0 A0 c0 where
 gw:=gw_keep h.gw _
 wid:=h.wid.of_get ((σ.keep_get _ _).1 (.inl rfl))
 not_wid:=h.not_wid
 inj:=h.inj
 hold i hi:=(h.hold i hi).keep ((σ.keep_get _ _).1 (.inr ⟨i,hi,.inl rfl⟩))
 cut i j o hi hj hne ho hg:=by
  rw [((σ.keep_get _ _).1 (.inr ⟨i,hi,.inl rfl⟩))] at ho
  exact h.cut i j o hi hj hne ho hg
theorem Wd.others (h:Wd σ (Sum.elim has0 hasK) (Sum.elim A0 AK) (Sum.elim c0 cK)) {k:κ} (hk:hasK k):¬ WOwn σ has0 A0 (AK k):=by
 rintro (e | ⟨i,hi,e | ⟨o,q,h1,h2,h3,h4,h5⟩⟩)
 ·exact h.not_wid (i:=.inr k) hk e
 ·have:=h.inj (.inr k) (.inl i) hk hi e
  cases this
 ·exact h.cut (.inl i) (.inr k) o hi hk (by simp) h1 h2 h3
theorem Wd.call {Γ Γ':T AF} {M:List Memo} {g:FuncId} {xs:List V} {P:V -> (ι -> Prop) -> (ι -> Nat) -> (ι -> Cont) -> Prop} (hΓ:∀ g x,Γ.get g=some x -> Γ'.get g=some x) (hM:∀ m∈M,Γ.get m.g=none)
  (h:Wd σ (Sum.elim has0 hasK) (Sum.elim A0 AK) (Sum.elim c0 cK))
  (spec:∀ σ,Wd σ has0 A0 c0 -> Runs Γ [] g xs σ fun v σ'=>∃ has' A' c',Wd σ' has' A' c' /\ P v has' A' c') :
  Runs Γ' M g xs σ fun v σ'=>∃ has' A' c',Wd σ' (Sum.elim has' hasK) (Sum.elim A' AK) (Sum.elim c' cK) /\ P v has' A' c':=by
 have h0:=h.left
 have hrun:=Runs.frame hΓ hM (fun a=>h0.own_lt) h.gw.fresh h0.apart ((spec _ h0.keep).gw h0.keep.gw)
 obtain ⟨v,σ',⟨s',⟨⟨has',A',c',hW,hP⟩,hgw⟩,hpart⟩,hret⟩:=hrun
 have hgw':GW σ':=by
  obtain ⟨f0,hf⟩:=hret
  have hb:=spec σ h0
  obtain ⟨v3,σ3,⟨_,h3⟩,hr3⟩:=hb.gw h.gw
  obtain ⟨f3,hf3⟩:=hr3.lift (Γ':=Γ') (M:=M) hΓ hM
  have e:=(hf (max f0 f3) (by omega)).symm.trans (hf3 (max f0 f3) (by omega))
  simp only [Option.some.injEq,Prod.mk.injEq] at e
  rw [e.2];exact h3
 have hget:∀ a o,s'.objs.get a=some o -> σ'.objs.get a=some o:=fun a o=>hpart.get
 have hholds:∀ i,has' i -> Holds σ' (A' i) (c' i):=by
  intro i hi
  have:=hW.hold i hi
  cases hc:c' i with
  |row n f =>
   rw [hc] at this
   obtain ⟨g,m,z,t,hm,ho,hc⟩:=this
   exact ⟨g,m,z,t,hm,hget _ _ ho,hc⟩
  |ro k n f =>
   rw [hc] at this
   obtain ⟨m,z,t,hm,ho,hc⟩:=this
   exact ⟨m,z,t,hm,hget _ _ ho,hc⟩
  |map es=>rw [hc] at this;exact hget _ _ this
 have hwid:Wid σ':=by obtain ⟨m,z,t,hm,ho,hc⟩:=hW.wid;exact ⟨m,z,t,hm,hget _ _ ho,hc⟩
 have hle:σ.next <= σ'.next:=by rw [<- hpart.next];exact hpart.le
 have hold:∀ a,a<σ.next -> ¬ WOwn σ has0 A0 a -> σ'.objs.get a=σ.objs.get a:=fun a ha hn=>(hpart.theirs a ha hn).2
 have hown:∀ a,WOwn σ' has' A' a -> WOwn σ has0 A0 a \/ σ.next <= a:=by
  rintro a (rfl | ⟨i,hi,hor⟩)
  ·exact .inl (.inl rfl)
  obtain ⟨oi,hoi,hli⟩:=(hW.hold i hi).obj
  rcases hor with rfl | ⟨o,q,h1,h2,h3,h4,h5⟩
  ·exact hpart.is hoi
  ·rw [hget _ _ hoi] at h1;simp only [Option.some.injEq] at h1;subst h1
   rcases Nat.lt_or_ge a σ.next with d | d
   ·by_cases d2:WOwn σ has0 A0 a
    ·exact .inl d2
    ·obtain ⟨k1,k2⟩:=hpart.theirs a d d2
     rw [h4] at k2
     exact (hpart.sep a _ q d d2 k2.symm h5 h2 (by simpa only [St.row,hpart.grps] using h3) _ _ hoi rfl).elim
   ·exact .inr d
 have hk:∀ k,hasK k -> σ'.objs.get (AK k)=σ.objs.get (AK k):=fun k hk=>hold _ (h.lt (i:=.inr k) hk) (h.others hk)
 have hkn:∀ k,hasK k -> ¬ WOwn σ' has' A' (AK k):=by
  intro k hk ho
  rcases hown _ ho with e | e
  ·exact h.others hk e
  ·have:=h.lt (i:=.inr k) hk
   have e':σ.next <= AK k:=e
   have t':AK k<σ.next:=this
   omega
 have hkeep:∀ k,hasK k -> Holds σ' (AK k) (cK k):=fun k hk'=>(h.hold (.inr k) hk').keep (hk k hk')
 refine ⟨v,σ',⟨has',A',c',⟨hgw',hwid,?_,?_,?_,?_⟩,hP⟩,hret⟩
 ·rintro (i | k) hi
  ·exact hW.not_wid hi
  ·exact h.not_wid (i:=.inr k) hi
 ·rintro (i | k) (j | l) hi hj e
  ·exact congrArg _ (hW.inj i j hi hj e)
  ·exact (hkn l hj (.inr ⟨i,hi,.inl e.symm⟩)).elim
  ·exact (hkn k hi (.inr ⟨j,hj,.inl e⟩)).elim
  ·exact h.inj (.inr k) (.inr l) hi hj e
 ·rintro (i | k) hi
  ·exact hholds i hi
  ·exact hkeep k hi
 ·rintro (i | k) (j | l) o hi hj hne ho hg
  ·obtain ⟨oi,hoi,hli⟩:=(hW.hold i hi).obj
   have ho':σ'.objs.get (A' i)=some o:=ho
   rw [hget _ _ hoi,Option.some.injEq] at ho';subst ho'
   have:=hW.cut i j _ hi hj (fun e=>hne (congrArg _ e)) hoi hg
   show A' j∉σ'.row oi.grp
   simpa only [St.row,hpart.grps] using this
  ·intro hm
   obtain ⟨q,hq,hl⟩:=(hkeep l hj).obj
   exact hkn l hj (.inr ⟨i,hi,.inr ⟨o,q,ho,hg,hm,hq,hl⟩⟩)
  ·
   intro hm
   obtain ⟨q,hq,hl⟩:=(hholds j hj).obj
   have hqg:=hgw'.grp _ _ _ hm hq hl
   have ho':σ'.objs.get (AK k)=some o:=ho
   obtain ⟨q2,hq2,hl2⟩:=(hkeep k hi).obj
   rw [ho',Option.some.injEq] at hq2;subst hq2
   have hin:=(hgw'.mem _ _ ho' hg).1
   exact hkn k hi (.inr ⟨j,hj,.inr ⟨q,o,hq,by omega,by rw [hqg];exact hin,ho',hl2⟩⟩)
  ·have ho':σ'.objs.get (AK k)=some o:=ho
   have ho2:=ho'
   rw [hk k hi] at ho2
   have hcut:=h.cut (.inr k) (.inr l) o hi hj hne ho2 hg
   intro hm
   obtain ⟨q,hq,hl⟩:=(hkeep l hj).obj
   have hm':AK l∈σ'.row o.grp:=hm
   have hqg:=hgw'.grp _ _ _ hm' hq hl
   rw [hk l hj] at hq
   have:=(h.gw.mem _ _ hq (by omega)).1
   rw [hqg] at this
   exact hcut this
end
theorem wd_hrep {A:Slot -> Nat} {H:Heap} (h:Wd σ H.has A fun s=>.row (H.size s) (H.cell A s)):HRep σ A H:=⟨h.gw,h.wid,h.inj,h.hold,h.cut⟩
theorem hrep_wd {A:Slot -> Nat} {H:Heap} (h:HRep σ A H):Wd σ H.has A fun s=>.row (H.size s) (H.cell A s):=⟨h.gw,h.wid,fun hi=>Ne.symm (h.wid.not_row (h.row _ hi)),h.inj,h.row,h.cut⟩
end
end Go.Proofs.YtlgmpheammbacaaGreatDoor
