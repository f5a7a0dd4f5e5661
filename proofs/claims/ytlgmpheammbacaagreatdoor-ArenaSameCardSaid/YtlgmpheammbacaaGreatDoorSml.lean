import Derived.Test.YtlgmpheammbacaaGreatDoorSmk
set_option maxRecDepth 1000000
set_option linter.unusedVariables false
set_option linter.unusedSimpArgs false
attribute [local irreducible] AM.T.get AM.T.set
namespace Go.Proofs.YtlgmpheammbacaaGreatDoor
open AM Go
noncomputable section
variable {σ σ':St}
def heapC (H:Heap) (A:Slot -> Nat):Slot -> Cont:=fun s=>.row (H.size s) (H.cell A s)
abbrev HC {κ:Type} (σ:St) (A:Slot -> Nat) (H:Heap) (hasK:κ -> Prop) (B:κ -> Nat) (cK:κ -> Cont):Prop:=Wd σ (Sum.elim H.has hasK) (Sum.elim A B) (Sum.elim (heapC H A) cK)
section
variable {κ:Type} {A:Slot -> Nat} {H H':Heap} {hasK:κ -> Prop} {B:κ -> Nat} {cK:κ -> Cont}
theorem HC.rep (h:HC σ A H hasK B cK):HRep σ A H:=wd_hrep h.left
theorem HC.call {Γ Γ':T AF} {M:List Memo} {g:FuncId} {xs:List V} {P:V -> (Slot -> Nat) -> Prop} (hΓ:∀ g x,Γ.get g=some x -> Γ'.get g=some x) (hM:∀ m∈M,Γ.get m.g=none) (h:HC σ A H hasK B cK)
  (spec:∀ σ,HRep σ A H -> Runs Γ [] g xs σ fun v σ'=>∃ A',HRep σ' A' H' /\ P v A') :
  Runs Γ' M g xs σ fun v σ'=>∃ A',HC σ' A' H' hasK B cK /\ P v A':=by
 refine (Wd.call (P:=fun v has' A' c'=>has'=H'.has /\ c'=heapC H' A' /\ P v A') hΓ hM h fun s w=>(spec s (wd_hrep w)).mono ?_).mono ?_
 ·rintro v s' ⟨A',R,hp⟩
  exact ⟨_,A',_,hrep_wd R,rfl,rfl,hp⟩
 ·rintro v s' ⟨has',A',c',w,rfl,rfl,hp⟩
  exact ⟨A',w,hp⟩
theorem Wd.recont {ι:Type} {has:ι -> Prop} {A:ι -> Nat} {c c':ι -> Cont} (h:Wd σ has A c) (hc:∀ i,has i -> c' i=c i \/ ∃ n f n' f',c i=.row n f /\ c' i=.row n' f' /\ n' <= n /\ ∀ j,j<n' -> f j=f' j):Wd σ has A c' :=
 h.sub id (fun _ h=>h) (fun _ _ _ _ e=>e) (fun _ _=>rfl) hc
end
inductive AI where
 |arena | chunks | stand | marks
 deriving DecidableEq
structure Mk where
 n:Nat
 chunks:Nat
 taken:Nat
 used:Nat
def Mk.e (m:Mk):V × V:=(.int .i64 m.n,.agg [.int .i64 m.n,.int .i64 m.chunks,.int .u64 m.taken,.int .u64 m.used])
structure AS where
 chunk:Nat
 hasC:Bool
 chunks:List (Nat × Nat)
 taken:Nat
 used:Nat
 init:Bool
 ms:List Mk
 hasS:Bool
 made:Nat
def AS.once (S:AS):Int:=if S.init=true then 1 else 0
def AS.marks (S:AS):Option (List (V × V)):=if S.init=true then some (S.ms.map Mk.e) else none
def AS.stand (S:AS):List Int:=S.ms.map fun m=>(m.n:Int)
namespace AS
def has (S:AS):AI -> Prop
 | .arena=>True
 | .chunks=>S.hasC=true
 | .stand=>S.hasS=true
 | .marks=>S.marks.isSome=true
def chunksV (S:AS) (B:AI -> Nat):V:=if S.hasC=true then .slice (some (B .chunks,0)) S.chunks.length 2 else .slice none 0 0
def standV (S:AS) (B:AI -> Nat):V:=if S.hasS=true then .slice (some (B .stand,0)) S.stand.length 1 else .slice none 0 0
def marksV (S:AS) (B:AI -> Nat):V:=if S.marks.isSome=true then .map (some (B .marks)) else .map none
end AS
def blkV (l:List (Nat × Nat)) (i:Nat):V:=.int .u64 ((if i%2=0 then (l.getD (i / 2) (0,0)).1 else (l.getD (i / 2) (0,0)).2:Nat):Int)
def AS.cont (S:AS) (hp:Nat) (B:AI -> Nat):AI -> Cont
 | .arena=>.row 11 (lst [.ptr (some (hp,0)),.int .u64 S.chunk,S.chunksV B,.int .u64 S.taken,.int .u64 S.used,.int .u32 S.once,.int .i32 0,.int .u32 0,S.marksV B,S.standV B,.int .i64 S.made])
 | .chunks=>.row (S.chunks.length*2) (blkV S.chunks)
 | .stand=>.row S.stand.length fun i=>.int .i64 (S.stand.getD i 0)
 | .marks=>.map (S.marks.getD [])
abbrev AR (σ:St) (A:Slot -> Nat) (H:Heap) (B:AI -> Nat) (S:AS):Prop:=HC σ A H S.has B (S.cont (A .heap) B)
structure AS.OK (S:AS):Prop where
 chunks:∀ b,b∈S.chunks -> b.1+b.2 <= 9223372036854775808 /\ b.2 <= 8388608
 taken:S.taken <= 8388608
 used:S.used<18446744073709551616
 chunk:S.chunk <= 1048576
 nil:S.hasC=false -> S.chunks=[]
 nilS:S.hasS=false -> S.stand=[]
 few:S.chunks.length <= 5000000000000
theorem isPow_two {a:Nat} (h:isPow a=true):∃ j,a=2^j:=by
 unfold isPow at h
 simp only [Bool.and_eq_true,decide_eq_true_eq] at h
 obtain ⟨h0,h1⟩:=h
 refine ⟨a.log2,?_⟩
 have hlo:2^a.log2 <= a:=Nat.log2_self_le h0
 have hhi:a<2^(a.log2+1):=Nat.lt_log2_self
 refine Decidable.byContradiction fun hne=>?_
 have b1:a.testBit a.log2=true:=by
  rw [Nat.testBit_eq_decide_div_mod_eq,decide_eq_true_eq]
  have:a / 2^a.log2=1:=Nat.div_eq_of_lt_le (by omega) (by rw [Nat.pow_succ] at hhi;omega)
  rw [this]
 have b2:(a-1).testBit a.log2=true:=by
  rw [Nat.testBit_eq_decide_div_mod_eq,decide_eq_true_eq]
  have:(a-1) / 2^a.log2=1:=Nat.div_eq_of_lt_le (by omega) (by rw [Nat.pow_succ] at hhi;omega)
  rw [this]
 have:(a &&& (a-1)).testBit a.log2=true:=by rw [Nat.testBit_and,b1,b2];rfl
 rw [h1,Nat.zero_testBit] at this
 cases this
theorem andNot_down {y j:Nat} (hy:y<18446744073709551616) (hj:j<64):andNotI .u64 (y:Int) ((2^j-1:Nat):Int)=((y / 2^j*2^j:Nat):Int):=by
 have hp:=pow_pos' j
 have hk2:2^j<2^64:=Nat.pow_lt_pow_right (by omega) hj
 have e:(BitVec.ofInt IntKind.u64.bits (y:Int) &&& ~~~ BitVec.ofInt IntKind.u64.bits ((2^j-1:Nat):Int)).toNat=y / 2^j*2^j:=by
  rw [BitVec.toNat_and,BitVec.toNat_not,bv64 y (by omega),bv64 (2^j-1) (by omega),show IntKind.u64.bits=64 from rfl]
  apply Nat.eq_of_testBit_eq
  intro i
  rw [Nat.testBit_and,show 2^64-1-(2^j-1)=2^64-(2^j-1+1) by omega,Nat.testBit_two_pow_sub_succ (by omega),Nat.testBit_mul_two_pow,Nat.testBit_div_two_pow,Nat.testBit_two_pow_sub_one]
  by_cases c:i<j
  ·rw [decide_eq_true c,decide_eq_false (show ¬ i ≥ j by omega)];simp
  ·rw [decide_eq_false c,decide_eq_true (show i ≥ j by omega),show i-j+j=i by omega]
   by_cases c64:i<64
   ·simp [c64]
   ·have:y.testBit i=false:=Nat.testBit_lt_two_pow (Nat.lt_of_lt_of_le hy (Nat.pow_le_pow_right (by omega) (by omega):2^64 <= 2^i))
    rw [this];simp
 unfold andNotI
 rw [e]
 have:y / 2^j*2^j <= y:=Nat.div_mul_le_self _ _
 exact u64_nat (by omega)
def AS.fit (S:AS) (m a:Nat):Option Nat:=match S.chunks.getLast? with
 |none=>none
 |some t=>if (t.1+S.taken+a-1) / a*a+m <= t.1+t.2 then some ((t.1+S.taken+a-1) / a*a) else none
def allocA (H:Heap) (S:AS) (n a:Nat) (d:Bool):Heap × AS × Nat × Nat :=
 if isPow a=false then (H,S,0,1)
 else if H.rsz<max n 1 \/ H.rsz<a then (H,S,0,3)
 else match S.fit (max n 1) a with
  |some p=>(H, { S with taken:=p+max n 1-(S.chunks.getLast?.getD (0,0)).1,used:=(S.used+max n 1)%18446744073709551616 },p,0)
  |none=>if (H.held.allocF (max (max n 1) S.chunk) a d).2.2=0 then
    ((H.held.allocF (max (max n 1) S.chunk) a d).1.setLock 0,
     { S with hasC:=true,chunks:=S.chunks++[((H.held.allocF (max (max n 1) S.chunk) a d).2.1,(((H.held.allocF (max (max n 1) S.chunk) a d).1.setLock 0).startF (H.held.allocF (max (max n 1) S.chunk) a d).2.1).getD 0)],taken:=max n 1,used:=(S.used+max n 1)%18446744073709551616 },
     (H.held.allocF (max (max n 1) S.chunk) a d).2.1,0)
   else ((H.held.allocF (max (max n 1) S.chunk) a d).1.setLock 0,S,0,(H.held.allocF (max (max n 1) S.chunk) a d).2.2)
structure Good (H:Heap):Prop where
 fine:Fine H
 full:Full H
 lock:H.lock=0
section
variable {A:Slot -> Nat} {H:Heap} {B:AI -> Nat} {S:AS}
theorem r_Config (hR:HRep σ A H):Runs G0 [] 120 [.ptr (some (A .heap,0))] σ fun r s=>r=.agg [.int .u64 H.base,.int .i64 H.limit,.int .i64 H.order] /\ Grow σ s:=by
 refine runs_body g120 rfl ?_
 have g1:=Grow.new σ (.cells false 0 3 [.int .u64 0,.int .i64 0,.int .i64 0] .nil)
 have R1:=hR.new (.cells false 0 3 [.int .u64 0,.int .i64 0,.int .i64 0] .nil) rfl
 have hl:=R1.load (s:=.heap) trivial (off:=2) (k:=3) (show 2+3 <= 7 by omega)
 rw [show ((List.range 3).map fun j=>H.cell A .heap (2+j))=[V.int .u64 H.base,.int .i64 H.limit,.int .i64 H.order] from rfl] at hl
 have hst:=new_store (σ:=σ) (z:=[.int .u64 0,.int .i64 0,.int .i64 0]) (vs:=[V.int .u64 H.base,.int .i64 H.limit,.int .i64 H.order]) (n:=3) (by simp) rfl
 have L:=Lcl.lay σ 3 [.int .u64 0,.int .i64 0,.int .i64 0] [V.int .u64 H.base,.int .i64 H.limit,.int .i64 H.order] rfl
 have hl2:=L.load (off:=0) (k:=3) (by omega)
 rw [show ((List.range 3).map fun j=>lst [V.int .u64 H.base,.int .i64 H.limit,.int .i64 H.order] (0+j))=[V.int .u64 H.base,.int .i64 H.limit,.int .i64 H.order] from rfl] at hl2
 simp -implicitDefEqProofs only[go_sem,List.length_cons,List.length_nil,hl,vcells_agg,hst,hl2]
 exact Grow.lay _ _ _ _
theorem r_asize (hR:HRep σ A H) (ok:H.OK):Runs G0 [] 60 [.ptr (some (A .heap,0))] σ fun r s=>r=.int .u64 H.rsz /\ Grow σ s:=by
 refine runs_body g60 rfl ?_
 obtain ⟨v,s1,⟨rfl,g1⟩,hr⟩:=r_Config hR
 have ho:=ok.order_le
 have hz:=rsz_lt ok
 have d2:(0:Int) <= (H.order:Int):=by omega
 have e3:shlI .u64 4096 (H.order:Int)=(H.rsz:Int):=by
  unfold Heap.rsz at hz
  exact u64_shl (a:=4096) (n:=H.order) (by omega) (by omega)
 simp -implicitDefEqProofs only[go_sem]
 refine runs_ret hr ?_
 simp -implicitDefEqProofs only[go_sem,bin_shl,d2,e3]
 exact g1
end
end
noncomputable section
variable {σ σ':St} {A:Slot -> Nat} {H:Heap} {B:AI -> Nat} {S:AS}
theorem Wd.rgrow {ι:Type} {has:ι -> Prop} {A:ι -> Nat} {c:ι -> Cont} {Γ:T AF} {g:FuncId} {xs:List V} {P:V -> Prop} (h:Wd σ has A c) (r:Runs Γ [] g xs σ fun v σ'=>P v /\ Grow σ σ'):Runs Γ [] g xs σ fun v σ'=>P v /\ Grow σ σ' /\ Wd σ' has A c:=by
 refine (r.gw h.gw).mono ?_
 rintro v σ' ⟨⟨h1,h2⟩,h3⟩
 exact ⟨h1,h2,h.grow h2 h3⟩
theorem newCells_load (σ:St) (vs:List V):(σ.newCells vs).load σ.next 0 vs.length=some vs:=by
 have L:=Lcl.of_cells σ vs
 rw [L.load (off:=0) (k:=vs.length) (by omega)]
 congr 1
 apply List.ext_getElem (by simp)
 intro i h1 h2
 simp [lst,List.getD_eq_getElem?_getD,List.getElem?_eq_getElem h2]
theorem Wd.push {ι:Type} [DecidableEq ι] {has:ι -> Prop} {A:ι -> Nat} {c:ι -> Cont} (h:Wd σ has A c) {i0:ι} {xl esz bytes:Nat} {f:Nat -> V} {vs:List V} {sl:V}
  (hs:(has i0 /\ sl=.slice (some (A i0,0)) xl esz /\ c i0=.row (xl*esz) f) \/ (¬ has i0 /\ sl=.slice none 0 0 /\ xl=0)) (hz:0<esz) (hv:vs.length=esz) (m1:(xl+1)*bytes <= maxLenBytes) (m2:xl+1 <= maxLenBytes) (hf:vs.all V.flat=true) :
  ∃ b s,AM.appendV (σ.newCells vs) esz bytes sl (.slice (some (σ.next,0)) 1 esz)=some (.slice (some (b,0)) (xl+1) esz,s) /\ Wd s (fun i=>has i \/ i=i0) (updG A i0 b) (updG c i0 (.row (xl*esz+esz) fun j=>if j<xl*esz then f j else lst vs (j-xl*esz))):=by
 have h1:Wd (σ.newCells vs) has A c:=h.new _ rfl
 have hld:=newCells_load σ vs
 rw [hv] at hld
 rcases hs with ⟨hi,rfl,e⟩ | ⟨hi,rfl,rfl⟩
 ·obtain ⟨s,ha,hn,W⟩:=h1.append hi e (esz:=esz) (bytes:=bytes) (k:=1) (xl:=xl) (vs:=vs) rfl m1 m2 hf
  refine ⟨(σ.newCells vs).next,s,?_,?_⟩
  ·unfold AM.appendV
   simp only [Nat.one_mul,hld]
   rw [if_neg (by rintro (h | ⟨h,_⟩);omega;exact h rfl),if_neg (by omega)]
   exact ha
  ·rw [hv] at W
   refine W.sub id ?_ (fun _ _ _ _ e=>e) (fun _ _=>rfl) fun _ _=>.inl rfl
   rintro k (hk | rfl)
   ·exact hk
   ·exact hi
 ·refine ⟨(σ.newCells vs).next,(σ.newCells vs).newCells vs,?_,?_⟩
  ·unfold AM.appendV
   simp only [Nat.one_mul,hld]
   rw [if_neg (by rintro (h | ⟨_,h⟩);omega;cases h),if_neg (by omega)]
   unfold AM.appendL
   rw [if_pos ⟨m1,m2,hf⟩]
   simp only [if_true]
  ·have W:=h1.cells hi vs
   refine W.sub id (fun _ h=>h) (fun _ _ _ _ e=>e) (fun _ _=>rfl) ?_
   rintro k hk
   by_cases ck:k=i0
   ·subst ck
    right
    refine ⟨_,_,_,_,updG_same ..,updG_same ..,by omega,?_⟩
    intro j hj
    rw [if_neg (by omega),Nat.zero_mul,Nat.sub_zero]
   ·left;rw [updG_ne ck];exact (updG_ne ck).symm
def AS.contH (S:AS) (l:List V):AI -> Cont
 | .arena=>.row 11 (lst l)
 | .chunks=>.row (S.chunks.length*2) (blkV S.chunks)
 | .stand=>.row S.stand.length fun i=>.int .i64 (S.stand.getD i 0)
 | .marks=>.map (S.marks.getD [])
def AS.hdr (S:AS) (hp:Nat) (B:AI -> Nat):List V:=[.ptr (some (hp,0)),.int .u64 S.chunk,S.chunksV B,.int .u64 S.taken,.int .u64 S.used,.int .u32 S.once,.int .i32 0,.int .u32 0,S.marksV B,S.standV B,.int .i64 S.made]
theorem AS.cont_eq (S:AS) (hp:Nat) (B:AI -> Nat):S.cont hp B=S.contH (S.hdr hp B):=by funext i;cases i <;> rfl
abbrev AH (σ:St) (A:Slot -> Nat) (H:Heap) (B:AI -> Nat) (S:AS) (l:List V):Prop:=HC σ A H S.has B (S.contH l)
theorem AR.h (h:AR σ A H B S):AH σ A H B S (S.hdr (A .heap) B):=by unfold AR HC at h;rw [AS.cont_eq] at h;exact h
theorem AH.ar (h:AH σ A H B S (S.hdr (A .heap) B)):AR σ A H B S:=by unfold AR HC;rw [AS.cont_eq];exact h
variable {l:List V}
theorem AH.c (h:AH σ A H B S l) {k:Nat} (hk:k<11):σ.cell (B .arena) k=some (lst l k):=h.cell (i:=.inr .arena) trivial rfl hk
theorem AH.store (h:AH σ A H B S l) (hl:l.length=11) {k:Nat} {v:V} (hk:k<11) (hf:v.flat=true):∃ s,σ.store (B .arena) k [v]=some s /\ AH s A H B S (l.set k v) /\ s.next=σ.next:=by
 obtain ⟨s,e,W,hn⟩:=Wd.store h (i:=(Sum.inr AI.arena:Slot ⊕ AI)) trivial (n:=11) (f:=lst l) rfl (off:=k) (vs:=[v]) (by show k+1 <= 11;omega) (by simp [hf])
 refine ⟨s,e,W.sub id (fun _ h=>h) (fun _ _ _ _ e=>e) (fun _ _=>rfl) ?_,hn⟩
 rintro (i | i) hi
 ·left;show _=updG _ _ _ (Sum.inl i);rw [updG_ne (by intro h;cases h)];rfl
 ·cases i with
  |arena =>
   right
   refine ⟨_,_,11,lst (l.set k v),updG_same ..,rfl,Nat.le_refl _,?_⟩
   intro j hj
   unfold over lst
   by_cases c:k=j
   ·subst c
    rw [if_pos (by simp)]
    simp [List.getD_eq_getElem?_getD,hl,hk]
   ·rw [if_neg (by simp;omega)]
    simp [List.getD_eq_getElem?_getD,List.getElem?_set_ne c]
  |_=>left;show _=updG _ _ _ (Sum.inr _);rw [updG_ne (by intro h;cases h)];rfl
theorem AH.push (h:AH σ A H B S l) (hS:S.OK) (b:Nat × Nat):∃ b' s,AM.appendV (σ.newCells [.int .u64 b.1,.int .u64 b.2]) 2 16 (S.chunksV B) (.slice (some (σ.next,0)) 1 2)=some (.slice (some (b',0)) (S.chunks.length+1) 2,s) ∧
  AH s A H (fun i=>if i=.chunks then b' else B i) { S with hasC:=true,chunks:=S.chunks++[b] } l:=by
 obtain ⟨b',s,ha,W⟩:=Wd.push h (i0:=.inr .chunks) (xl:=S.chunks.length) (esz:=2) (bytes:=16) (f:=blkV S.chunks) (vs:=[.int .u64 b.1,.int .u64 b.2]) (sl:=S.chunksV B) (by
   unfold AS.chunksV
   by_cases c:S.hasC=true
   ·rw [if_pos c];exact .inl ⟨c,rfl,rfl⟩
   ·rw [if_neg c];refine .inr ⟨c,rfl,?_⟩
    rw [hS.nil (by simpa using c)];rfl) (by omega) rfl (by have:=hS.few;unfold maxLenBytes;omega) (by have:=hS.few;unfold maxLenBytes;omega) rfl
 refine ⟨b',s,ha,W.sub id ?_ (fun _ _ _ _ e=>e) ?_ ?_⟩
 ·rintro (i | i) hi
  ·exact .inl hi
  ·cases i with
   |chunks=>exact .inr rfl
   |_=>exact .inl hi
 ·rintro (i | i) hi
  ·show _=updG _ _ _ (Sum.inl i);rw [updG_ne (by intro h;cases h)];rfl
  ·cases i with
   |chunks=>exact (updG_same ..).symm
   |_=>show _=updG _ _ _ (Sum.inr _);rw [updG_ne (by intro h;cases h)];rfl
 ·rintro (i | i) hi
  ·left;show _=updG _ _ _ (Sum.inl i);rw [updG_ne (by intro h;cases h)];rfl
  ·cases i with
   |chunks =>
    right
    refine ⟨_,_,(S.chunks++[b]).length*2,blkV (S.chunks++[b]),updG_same ..,rfl,(by rw [List.length_append,List.length_singleton];omega),?_⟩
    intro j hj
    rw [List.length_append,List.length_singleton] at hj
    by_cases cj:j<S.chunks.length*2
    ·rw [if_pos cj]
     unfold blkV
     simp [List.getD_eq_getElem?_getD,List.getElem?_append_left (show j / 2<S.chunks.length by omega)]
    ·rw [if_neg cj]
     unfold blkV
     simp only [List.getD_eq_getElem?_getD,List.getElem?_append_right (show S.chunks.length <= j / 2 by omega),show j / 2-S.chunks.length=0 by omega]
     rcases (by omega:j=S.chunks.length*2 \/ j=S.chunks.length*2+1) with rfl | rfl
     ·rw [if_pos (by omega)];simp [lst]
     ·rw [if_neg (by omega)];simp [lst]
   |_=>left;show _=updG _ _ _ (Sum.inr _);rw [updG_ne (by intro h;cases h)];rfl
theorem max_two (a b:Nat):AM.maxV true (.int .u64 (a:Int)) [.int .u64 (b:Int)]=some (.int .u64 ((max a b:Nat):Int)):=by
 simp only [AM.maxV,if_true]
 by_cases c:a<b
 ·rw [Nat.max_eq_right (by omega)];simp [show (a:Int)<(b:Int) by omega]
 ·rw [Nat.max_eq_left (by omega)];simp [show ¬ (a:Int)<(b:Int) by omega]
end
noncomputable section
variable {σ σ':St} {A:Slot -> Nat} {H:Heap} {B:AI -> Nat} {S:AS}
theorem AR.c0 (h:AR σ A H B S):σ.cell (B .arena) 0=some (.ptr (some (A .heap,0))):=(AR.h h).c (k:=0) (by omega)
theorem AR.c1 (h:AR σ A H B S):σ.cell (B .arena) 1=some (.int .u64 S.chunk):=(AR.h h).c (k:=1) (by omega)
theorem AR.c2 (h:AR σ A H B S):σ.cell (B .arena) 2=some (S.chunksV B):=(AR.h h).c (k:=2) (by omega)
theorem AR.c3 (h:AR σ A H B S):σ.cell (B .arena) 3=some (.int .u64 S.taken):=(AR.h h).c (k:=3) (by omega)
theorem AR.c4 (h:AR σ A H B S):σ.cell (B .arena) 4=some (.int .u64 S.used):=(AR.h h).c (k:=4) (by omega)
def allocN (H:Heap) (S:AS) (m a:Nat) (d:Bool):Heap × AS × Nat × Nat :=
 if (H.held.allocF (max m S.chunk) a d).2.2=0 then
    ((H.held.allocF (max m S.chunk) a d).1.setLock 0,
     { S with hasC:=true,chunks:=S.chunks++[((H.held.allocF (max m S.chunk) a d).2.1,(((H.held.allocF (max m S.chunk) a d).1.setLock 0).startF (H.held.allocF (max m S.chunk) a d).2.1).getD 0)],taken:=m,used:=(S.used+m)%18446744073709551616 },
     (H.held.allocF (max m S.chunk) a d).2.1,0)
   else ((H.held.allocF (max m S.chunk) a d).1.setLock 0,S,0,(H.held.allocF (max m S.chunk) a d).2.2)
theorem tail_Alloc (hg:Good H) (hS:S.OK) {m a:Nat} (hm:m<18446744073709551616) (ha:a<18446744073709551616) {d:Bool} :
  ∀ (s:St),AR s A H B S -> ∀ (fr:AM.Fr) (K:Post),fr.defers=[] -> fr.tmps.get 0=some (.ptr (some (B .arena,0))) -> fr.tmps.get 1=some (.int .u64 m) -> fr.tmps.get 2=some (.int .u64 a) -> fr.tmps.get 3=some (.bool d) →
   (∀ fr' s' A' B',fr'.defers=[] -> AR s' A' (allocN H S m a d).1 B' (allocN H S m a d).2.1 -> A' .heap=A .heap -> B' .arena=B .arena -> fr'.tmps.get 8=some (.int .u64 (allocN H S m a d).2.2.1) -> fr'.tmps.get 9=some (.int .i64 (allocN H S m a d).2.2.2) -> K .ret fr' s') →
   wp G0 [] (hid (tlC (tlC (tlC (tlC (tlC c18.body)))))) fr s K:=by
 rintro s R ⟨tm,ds⟩ K hds t0 t1 t2 t3 hK
 simp only at hds t0 t1 t2 t3
 subst hds
 rw [hid_eq]
 obtain ⟨fl,pl,fc,hI⟩:=hg.fine
 have hx:max m S.chunk<18446744073709551616:=by have:=hS.chunk;omega
 obtain ⟨v,s1,⟨A1,R1,hA1,hv⟩,hr1⟩:=HC.call (Γ:=G0) (Γ':=G0) (M:=[]) (fun _ _ h=>h) (fun _ h=>nomatch h) R fun s hs=>r_AllocF hs hI hg.lock hx ha d
 subst hv
 have hf1:=hI.setLock 1
 have hfine:=(hf1.allocF hx ha d).1
 have hfl:=(hf1.allocF hx ha d).2
 unfold allocN at hK
 rw [show H.setLock 1=H.held from rfl] at hfine hfl
 generalize hq:H.held.allocF (max m S.chunk) a d=q at *
 obtain ⟨H1,p,e⟩:=q
 simp only at hK R1 hr1 hfine hfl
 have R1':AR s1 A1 (H1.setLock 0) B S:=by unfold AR;rw [hA1];exact R1
 have m1:=max_two m S.chunk
 simp -implicitDefEqProofs only [tlC,c18]
 simp -implicitDefEqProofs only[go_sem,t0,t1,t2,t3,R.c0,R.c1,pure_mm,m1]
 refine runs_ret hr1 ?_
 have k0:s1.cell (B .arena) 0=some (.ptr (some (A .heap,0))):=by rw [<- hA1];exact R1'.c0
 have k1:=R1'.c1
 by_cases c:e=0
 ·subst c
  rw [if_pos rfl] at hK
  have c1:¬ (((0:Nat):Int)≠0):=by omega
  simp -implicitDefEqProofs only[go_sem,t0,t1,t2,t3,k0,k1,pure_mm,m1,c1]
  have hS1:∀ x,S.chunksV x=S.chunksV x:=fun _=>rfl
  obtain ⟨fl1,pl1,fc1,hI1⟩:=hfine
  have hI2:=hI1.setLock 0
  obtain ⟨v,s2,⟨A2,R2,hA2,hv⟩,hr2⟩:=HC.call (Γ:=G0) (Γ':=G0) (M:=[]) (P:=fun v A'=>A' .heap=A1 .heap /\ v=match (H1.setLock 0).startF p with | some w=>.tuple [.int .u64 w,.int .i64 0] | none=>.tuple [.int .u64 0,.int .i64 1]) (fun _ _ h=>h) (fun _ h=>nomatch h) R1 fun s hs=>(r_UsableF hs hI2 rfl p).mono fun v s' ⟨h1,h2⟩=>⟨A1,h1,rfl,h2⟩
  rw [hA1] at hr2
  obtain ⟨w,x,hw,hv'⟩:∃ (w:Nat) (x:Int),((H1.setLock 0).startF p).getD 0=w /\ v=.tuple [.int .u64 w,.int .i64 x]:=by
   cases hh:(H1.setLock 0).startF p with
   |some w=>rw [hh] at hv;exact ⟨w,0,rfl,hv⟩
   |none=>rw [hh] at hv;exact ⟨0,1,rfl,hv⟩
  subst hv'
  rw [hw] at hK
  have R2':AR s2 A2 (H1.setLock 0) B S:=by unfold AR;rw [hA2,hA1];exact R2
  obtain ⟨b3,s3,ha3,R3⟩:=AH.push (AR.h R2') hS (p,w)
  obtain ⟨s4,hs4,R4,hn4⟩:=R3.store (by rfl) (k:=2) (v:=.slice (some (b3,0)) (S.chunks.length+1) 2) (by omega) rfl
  obtain ⟨s5,hs5,R5,hn5⟩:=R4.store (by simp [AS.hdr]) (k:=3) (v:=.int .u64 m) (by omega) rfl
  have g5:=R5.c (k:=4) (by omega)
  obtain ⟨s6,hs6,R6,hn6⟩:=R5.store (by simp [AS.hdr]) (k:=4) (v:=.int .u64 ((S.used+m)%18446744073709551616:Nat)) (by omega) rfl
  have q2:s2.cell (B .arena) 2=some (S.chunksV B):=R2'.c2
  have hs4':s3.store (B .arena) 2 [.slice (some (b3,0)) (S.chunks.length+1) 2]=some s4:=hs4
  have hs5':s4.store (B .arena) 3 [.int .u64 m]=some s5:=hs5
  have hs6':s5.store (B .arena) 4 [.int .u64 ((S.used+m)%18446744073709551616:Nat)]=some s6:=hs6
  have g5':s5.cell (B .arena) 4=some (.int .u64 S.used):=g5
  have eu:IntKind.u64.wrap ((S.used:Int)+(m:Int))=(((S.used+m)%18446744073709551616:Nat):Int):=by
   rw [<- Int.natCast_add];unfold IntKind.wrap;simp [IntKind.bits,IntKind.signed,Int.emod]
  have f1:fillP [V.int .u64 0,.int .u64 0] [(0,1,V.int .u64 p),(1,1,V.int .u64 w)]=some [V.int .u64 p,.int .u64 w]:=rfl
  have f2:fillP (repeatZ [V.int .u64 0,.int .u64 0] 1) [(0,2,V.agg [V.int .u64 p,.int .u64 w])]=some [V.int .u64 p,.int .u64 w]:=rfl
  refine ⟨by rw [R.c0,R.c1];simp only [sameV_refl,Bool.and_self],?_⟩
  refine runs_ret hr2 ?_
  simp -implicitDefEqProofs only[go_sem,t0,t1,t2,t3,q2,List.length_cons,List.length_nil,vcells_agg,vcells_slice,vcells_int,evalParts,f1,f2,ha3,hs4',hs5',hs6',g5',eu]
  refine hK _ s6 A2 (fun i=>if i=AI.chunks then b3 else B i) rfl ?_ (hA2.trans hA1) rfl ?_ ?_
  ·refine AH.ar ?_
   have e:AS.hdr { S with hasC:=true,chunks:=S.chunks++[(p,w)],taken:=m,used:=(S.used+m)%18446744073709551616 } (A2 .heap) (fun i=>if i=AI.chunks then b3 else B i)=((((S.hdr (A2 .heap) B).set 2 (.slice (some (b3,0)) (S.chunks.length+1) 2)).set 3 (.int .u64 m)).set 4 (.int .u64 ((S.used+m)%18446744073709551616:Nat))):=by
    simp [AS.hdr,AS.chunksV,AS.marksV,AS.standV,AS.marks,AS.stand,AS.once]
   rw [e];exact R6
  ·simp -implicitDefEqProofs only[go_sem]
  ·simp -implicitDefEqProofs only[go_sem];rfl
 ·rw [if_neg c] at hK
  have c1:((e:Nat):Int)≠0:=by omega
  simp -implicitDefEqProofs only[go_sem,t0,t1,t2,t3,k0,k1,pure_mm,m1,c1,ne_eq,not_false_eq_true]
  refine ⟨by rw [R.c0,R.c1];simp only [sameV_refl,Bool.and_self],?_⟩
  refine hK _ s1 A1 B rfl R1' hA1 rfl ?_ ?_
  ·simp -implicitDefEqProofs only[go_sem];rfl
  ·simp -implicitDefEqProofs only[go_sem]
end
noncomputable section
variable {σ σ':St} {A:Slot -> Nat} {H:Heap} {B:AI -> Nat} {S:AS}
theorem r_asizeW {κ:Type} {hasK:κ -> Prop} {BK:κ -> Nat} {cK:κ -> Cont} (h:HC σ A H hasK BK cK) (ok:H.OK) :
  Runs G0 [] 60 [.ptr (some (A .heap,0))] σ fun r s=>r=.int .u64 H.rsz /\ HC s A H hasK BK cK :=
 (Wd.rgrow h (r_asize h.rep ok)).mono fun _ _ ⟨h1,_,h3⟩=>⟨h1,h3⟩
theorem last_get {l:List (Nat × Nat)} {t:Nat × Nat} (h:l.getLast?=some t):0<l.length /\ l.getD (l.length-1) (0,0)=t:=by
 rw [List.getLast?_eq_getElem?] at h
 have hl:0<l.length:=by
  rcases Nat.eq_zero_or_pos l.length with z | z
  ·rw [List.getElem?_eq_none (by omega)] at h;cases h
  ·exact z
 exact ⟨hl,by rw [List.getD_eq_getElem?_getD,h];rfl⟩
theorem blkV_at {l:List (Nat × Nat)} {i:Nat} {t:Nat × Nat} (h:l.getD i (0,0)=t):((List.range 2).map fun j=>blkV l (i*2+j))=[V.int .u64 t.1,.int .u64 t.2]:=by
 show [blkV l (i*2+0),blkV l (i*2+1)]=_
 unfold blkV
 rw [if_pos (by omega),if_neg (by omega),show (i*2+0) / 2=i by omega,show (i*2+1) / 2=i by omega,h]
theorem AS.fit_last {S:AS} {m a:Nat} {t:Nat × Nat} (h:S.chunks.getLast?=some t):S.fit m a=if (t.1+S.taken+a-1) / a*a+m <= t.1+t.2 then some ((t.1+S.taken+a-1) / a*a) else none:=by
 unfold AS.fit;rw [h]
theorem r_AllocT (h:AR σ A H B S) (hg:Good H) (hS:S.OK) {n a:Nat} (hn:n<18446744073709551616) (ha:a<18446744073709551616) (d:Bool) :
  Runs G0 [] 18 [.ptr (some (B .arena,0)),.int .u64 n,.int .u64 a,.bool d] σ fun r s=>∃ A' B',AR s A' (allocA H S n a d).1 B' (allocA H S n a d).2.1 /\ A' .heap=A .heap /\ B' .arena=B .arena /\ r=.tuple [.int .u64 (allocA H S n a d).2.2.1,.int .i64 (allocA H S n a d).2.2.2]:=by
 refine runs_body g18 rfl ?_
 refine wp_cut 5 ?_
 rw [cutC,cutC,cutC,cutC,cutC,cutC]
 obtain ⟨fl,pl,fc,hI⟩:=hg.fine
 have ok:=hI.ok
 unfold allocA
 by_cases c0:(a:Int)=0
 ·have hp:isPow a=false:=by rw [show a=0 by omega];rfl
  rw [if_pos hp]
  simp -implicitDefEqProofs only[go_sem,c0]
  exact ⟨A,B,h,rfl,rfl,rfl⟩
 ·have e1:IntKind.u64.wrap ((a:Int)-1)=((a-1:Nat):Int):=u64_sub (b:=1) (by omega) ha
  have e2:=u64_and (a:=a) (b:=a-1) ha (by omega)
  by_cases c1:a &&& (a-1)=0
  ·have hp:isPow a=true:=by unfold isPow;simp;exact ⟨by omega,c1⟩
   rw [if_neg (by rw [hp];simp)]
   have c1':¬ (((a &&& (a-1):Nat):Int)≠0):=by rw [c1];simp
   have m1:=max_two n 1
   rw [show ((1:Nat):Int)=1 from rfl] at m1
   have hm64:max n 1<18446744073709551616:=by omega
   obtain ⟨m,hm⟩:∃ m,max n 1=m:=⟨_,rfl⟩
   rw [hm] at m1 hm64 ⊢
   have hz:=rsz_le ok
   obtain ⟨v,s1,⟨hv,R1⟩,hr1⟩:=r_asizeW h ok
   subst hv
   have R1':AR s1 A H B S:=R1
   obtain ⟨v,s2,⟨hv,R2⟩,hr2⟩:=r_asizeW R1 ok
   subst hv
   have R2':AR s2 A H B S:=R2
   by_cases c2:H.rsz<m
   ·rw [if_pos (.inl c2)]
    have c2':(H.rsz:Int)<(m:Int):=by omega
    simp -implicitDefEqProofs only[go_sem,c0,e1,e2,c1',h.c0,pure_mm,m1]
    refine runs_ret hr1 ?_
    simp -implicitDefEqProofs only[go_sem,c2',R1'.c0]
    exact ⟨A,B,R1,rfl,rfl,rfl⟩
   ·have c2':¬ (H.rsz:Int)<(m:Int):=by omega
    by_cases c3:H.rsz<a
    ·rw [if_pos (.inr c3)]
     have c3':(H.rsz:Int)<(a:Int):=by omega
     simp -implicitDefEqProofs only[go_sem,c0,e1,e2,c1',h.c0,pure_mm,m1]
     refine runs_ret hr1 ?_
     simp -implicitDefEqProofs only[go_sem,c2',R1'.c0]
     refine runs_ret hr2 ?_
     simp -implicitDefEqProofs only[go_sem,c3']
     exact ⟨A,B,R2,rfl,rfl,rfl⟩
    ·rw [if_neg (by omega)]
     have c3':¬ (H.rsz:Int)<(a:Int):=by omega
     simp -implicitDefEqProofs only[go_sem,c0,e1,e2,c1',h.c0,pure_mm,m1]
     refine runs_ret hr1 ?_
     simp -implicitDefEqProofs only[go_sem,c2',R1'.c0]
     refine runs_ret hr2 ?_
     cases hL:S.chunks.getLast? with
     |none =>
      have hnil:S.chunks=[]:=List.getLast?_eq_none_iff.mp hL
      have hV:∃ q z,S.chunksV B=.slice q 0 z:=by
       unfold AS.chunksV
       by_cases c:S.hasC=true
       ·rw [if_pos c,hnil];exact ⟨_,_,rfl⟩
       ·rw [if_neg c];exact ⟨_,_,rfl⟩
      obtain ⟨q,z,hV⟩:=hV
      have k2:s2.cell (B .arena) 2=some (.slice q 0 z):=by rw [<- hV];exact R2'.c2
      have hfit:S.fit m a=none:=by unfold AS.fit;rw [hL]
      have c4:¬ ((0:Int)<((0:Nat):Int)):=by omega
      simp -implicitDefEqProofs only[go_sem,c3',k2,c4]
      refine tail_Alloc hg hS hm64 ha (d:=d) _ R2' _ _ rfl ?_ ?_ ?_ ?_ ?_
      ·simp -implicitDefEqProofs only[go_sem]
      ·simp -implicitDefEqProofs only[go_sem]
      ·simp -implicitDefEqProofs only[go_sem]
      ·simp -implicitDefEqProofs only[go_sem]
      ·rintro ⟨tm,ds⟩ s' A' B' hds R' hA' hB' t8 t9
       simp only at hds t8 t9;subst hds
       simp -implicitDefEqProofs only[go_sem,t8,t9]
       rw [hfit]
       exact ⟨A',B',R',hA',hB',rfl⟩
     |some t =>
      obtain ⟨hk,ht⟩:=last_get hL
      have hC:S.hasC=true:=by
       cases hh:S.hasC with
       |true=>rfl
       |false=>rw [hS.nil hh] at hk;exact absurd hk (by simp)
      have hV:S.chunksV B=.slice (some (B .chunks,0)) S.chunks.length 2:=by unfold AS.chunksV;rw [if_pos hC]
      have k2:s2.cell (B .arena) 2=some (.slice (some (B .chunks,0)) S.chunks.length 2):=by rw [<- hV];exact R2'.c2
      have hfew:=hS.few
      have hld:s2.load (B .chunks) ((S.chunks.length-1)*2) 2=some [V.int .u64 t.1,.int .u64 t.2]:=by
       have:=Wd.load R2' (i:=(Sum.inr AI.chunks:Slot ⊕ AI)) hC (n:=S.chunks.length*2) (f:=blkV S.chunks) rfl (off:=(S.chunks.length-1)*2) (k:=2) (by omega)
       rw [blkV_at ht] at this;exact this
      have c4:(0:Int)<(S.chunks.length:Int):=by omega
      have e4:IntKind.i64.wrap ((S.chunks.length:Int)-1)=((S.chunks.length-1:Nat):Int):=i64_sub (b:=1) (by omega) (by omega)
      have c5:(0:Int) <= ((S.chunks.length-1:Nat):Int) /\ ((S.chunks.length-1:Nat):Int)<(S.chunks.length:Int):=by omega
      obtain ⟨P,Z⟩:=t
      have hst:=new_store (σ:=s2) (z:=[.int .u64 0,.int .u64 0]) (vs:=[.int .u64 P,.int .u64 Z]) (n:=2) (by simp) rfl
      have L:=Lcl.lay s2 2 [.int .u64 0,.int .u64 0] [.int .u64 P,.int .u64 Z] rfl
      have R3:AR (s2.lay 2 [.int .u64 0,.int .u64 0] [.int .u64 P,.int .u64 Z]) A H B S:=Wd.lay R2' (by simp) rfl
      have l0:=L.cell (i:=0) (by omega)
      have l1:=L.cell (i:=1) (by omega)
      rw [show lst [V.int .u64 P,.int .u64 Z] 0=.int .u64 P from rfl] at l0
      rw [show lst [V.int .u64 P,.int .u64 Z] 1=.int .u64 Z from rfl] at l1
      have a3:=R3.c3
      have hPZ:P+Z <= 9223372036854775808:=(hS.chunks (P,Z) (by
       have:S.chunks.getLast?=some (P,Z):=hL
       exact List.mem_of_getLast? this)).1
      have htk:=hS.taken
      obtain ⟨j,hj⟩:=isPow_two hp
      have hj64:j<64:=by
       refine Decidable.byContradiction fun c=>?_
       have:2^64 <= 2^j:=Nat.pow_le_pow_right (by omega) (by omega)
       omega
      have w1:IntKind.u64.wrap ((P:Int)+(S.taken:Int))=((P+S.taken:Nat):Int):=u64_add (by omega)
      have w2:IntKind.u64.wrap (((P+S.taken:Nat):Int)+(a:Int))=((P+S.taken+a:Nat):Int):=u64_add (by omega)
      have w3:IntKind.u64.wrap (((P+S.taken+a:Nat):Int)-1)=((P+S.taken+a-1:Nat):Int):=u64_sub (b:=1) (by omega) (by omega)
      have w4:andNotI .u64 ((P+S.taken+a-1:Nat):Int) ((a-1:Nat):Int)=(((P+S.taken+a-1) / a*a:Nat):Int):=by
       rw [hj];exact andNot_down (by omega) hj64
      have hlo:P+S.taken <= (P+S.taken+a-1) / a*a:=by
       have:=Nat.div_add_mod (P+S.taken+a-1) a
       have h2:=Nat.mod_lt (P+S.taken+a-1) (show 0<a by omega)
       rw [Nat.mul_comm] at this
       omega
      have hhi:(P+S.taken+a-1) / a*a <= P+S.taken+a-1:=Nat.div_mul_le_self _ _
      have hfit:=AS.fit_last (S:=S) (m:=m) (a:=a) hL
      simp only at hfit
      obtain ⟨p,hpd⟩:∃ p,p=(P+S.taken+a-1) / a*a:=⟨_,rfl⟩
      rw [<- hpd] at w4 hlo hhi hfit
      have w5:IntKind.u64.wrap ((p:Int)+(m:Int))=((p+m:Nat):Int):=u64_add (by omega)
      have w6:IntKind.u64.wrap ((P:Int)+(Z:Int))=((P+Z:Nat):Int):=u64_add (by omega)
      have w7:IntKind.u64.wrap (((p+m:Nat):Int)-(P:Int))=((p+m-P:Nat):Int):=u64_sub (by omega) (by omega)
      by_cases c6:p+m <= P+Z
      ·have c6':((p+m:Nat):Int) <= ((P+Z:Nat):Int):=by omega
       rw [hfit,if_pos c6]
       obtain ⟨s4,hs4,R4,hn4⟩:=(AR.h R3).store (by rfl) (k:=3) (v:=.int .u64 (p+m-P:Nat)) (by omega) rfl
       have g4:=R4.c (k:=4) (by omega)
       have g4':s4.cell (B .arena) 4=some (.int .u64 S.used):=g4
       obtain ⟨s5,hs5,R5,hn5⟩:=R4.store (by simp [AS.hdr]) (k:=4) (v:=.int .u64 ((S.used+m)%18446744073709551616:Nat)) (by omega) rfl
       have eu:IntKind.u64.wrap ((S.used:Int)+(m:Int))=(((S.used+m)%18446744073709551616:Nat):Int):=by
        rw [<- Int.natCast_add];unfold IntKind.wrap;simp [IntKind.bits,IntKind.signed,Int.emod]
       simp -implicitDefEqProofs only[go_sem,c3',k2,c4,e4,c5,and_self,hld,Int.toNat_natCast,vcells_agg,vcells_int,List.length_cons,List.length_nil,hst,l0,l1,a3,w1,w2,w3,e1,w4,w5,w6,c6',hs4,g4',eu,hs5,w7]
       refine ⟨A,B,AH.ar ?_,rfl,rfl,rfl⟩
       have e:AS.hdr { S with taken:=p+m-P,used:=(S.used+m)%18446744073709551616 } (A .heap) B=(((S.hdr (A .heap) B).set 3 (.int .u64 (p+m-P:Nat))).set 4 (.int .u64 ((S.used+m)%18446744073709551616:Nat))):=by
        simp [AS.hdr,AS.chunksV,AS.marksV,AS.standV,AS.marks,AS.stand,AS.once]
       rw [e];exact R5
      ·have c6':¬ ((p+m:Nat):Int) <= ((P+Z:Nat):Int):=by omega
       rw [if_neg c6] at hfit
       rw [hfit]
       simp -implicitDefEqProofs only[go_sem,c3',k2,c4,e4,c5,and_self,hld,Int.toNat_natCast,vcells_agg,vcells_int,List.length_cons,List.length_nil,hst,l0,l1,a3,w1,w2,w3,e1,w4,w5,w6,c6']
       refine tail_Alloc hg hS hm64 ha (d:=d) _ R3 _ _ rfl ?_ ?_ ?_ ?_ ?_
       ·simp -implicitDefEqProofs only[go_sem]
       ·simp -implicitDefEqProofs only[go_sem]
       ·simp -implicitDefEqProofs only[go_sem]
       ·simp -implicitDefEqProofs only[go_sem]
       ·rintro ⟨tm,ds⟩ s' A' B' hds R' hA' hB' t8 t9
        simp only at hds t8 t9;subst hds
        simp -implicitDefEqProofs only[go_sem,t8,t9]
        exact ⟨A',B',R',hA',hB',rfl⟩
  ·have hp:isPow a=false:=by unfold isPow;simp;exact fun _=>c1
   rw [if_pos hp]
   have c1':((a &&& (a-1):Nat):Int)≠0:=by omega
   simp -implicitDefEqProofs only[go_sem,c0,e1,e2,c1',ne_eq,not_false_eq_true]
   exact ⟨A,B,h,rfl,rfl,rfl⟩
end
noncomputable section
variable {H H':Heap} {fl pl fc:Nat -> List Nat}
structure Gave (H H':Heap) (d:Bool) (p s:Nat):Prop where
 live:∀ a w,LiveB H' a w↔LiveB H a w \/ (a=p /\ w=s)
 new:∀ a w,LiveB H a w -> a+w <= p \/ p+s <= a
 bytes:Bytes H H'
 full:Full H -> Full H'
 base:H'.base=H.base
 order:H'.order=H.order
 limit:H'.limit=H.limit
 regs:H'.regs=H.regs \/ (d=false /\ H.regs<H.limit /\ H'.regs=H.regs+1)
 al:p%s=0
 lo:H.base <= p
 hi:p+s <= H'.base+4096*H'.np
theorem Needed.regs {k p:Nat} {d:Bool} (n:Needed H k d H' (some p)):H'.regs=H.regs \/ (d=false /\ H.regs<H.limit /\ H'.regs=H.regs+1):=by
 cases n with
 |old h t=>exact .inl t.same.regs
 |grew h1 h2 h3 g t=>exact .inr ⟨h2,h3,by rw [t.same.regs,g.regs]⟩
theorem run_al (ok:H.OK) {x k:Nat} (hk:k <= H.order) (h:x%2^k=0):H.addr x%(4096*2^k)=0:=by
 have hb:=ok.base_al
 have d1:4096*2^k∣H.base:=by
  refine Nat.dvd_trans ?_ (Nat.dvd_of_mod_eq_zero hb)
  unfold Heap.rsz
  exact Nat.mul_dvd_mul_left _ (Nat.pow_dvd_pow 2 hk)
 have d2:4096*2^k∣4096*x:=Nat.mul_dvd_mul_left _ (Nat.dvd_of_mod_eq_zero h)
 exact Nat.mod_eq_zero_of_dvd (by unfold Heap.addr;exact Nat.dvd_add d1 d2)
theorem Needed.gave (h:Inv H fl pl fc (fun _=>False)) {k p:Nat} {d:Bool} (hk:k <= H.order) (n:Needed H k d H' (some p)):Gave H H' d (H.addr p) (4096*2^k):=by
 obtain ⟨b1,b2,b3,b4,b5,b6⟩:=n.base
 have:=b6 p rfl
 refine ⟨fun a w=>n.live,fun a w hl=>n.fresh h hl,n.bytes h,n.full,b1,b2,b3,n.regs,run_al h.ok hk n.is.1,by unfold Heap.addr;omega,?_⟩
 rw [b1];unfold Heap.addr
 generalize 2^k=z at *
 omega
theorem Celled.gave (h:Inv H fl pl fc (fun _=>False)) {p q c:Nat} {d:Bool} (hc:c<8) (t:Celled H H' p q c) (e:(0 <= H.part c /\ H'.Same H) \/ (¬ 0 <= H.part c /\ ∃ H1,Needed H 0 d H1 (some p) /\ H'.Same H1)):Gave H H' d (H.addr p+q*(16*2^c)) (16*2^c):=by
 have hb:H'.base=H.base /\ H'.order=H.order /\ H'.limit=H.limit:=by
  rcases e with ⟨_,s⟩ | ⟨_,H1,n,s⟩
  ·exact ⟨s.base,s.order,s.limit⟩
  ·obtain ⟨b1,b2,b3,_⟩:=n.base
   exact ⟨s.base.trans b1,s.order.trans b2,s.limit.trans b3⟩
 have w:=w8 hc
 have hcell:=t.cell
 have hpg:=t.page
 have hq:q*(16*2^c)+16*2^c <= 4096:=by
  have:(q+1)*(16*2^c) <= (256 / 2^c)*(16*2^c):=Nat.mul_le_mul_right _ (by omega)
  rw [Nat.add_mul,Nat.one_mul,Nat.mul_comm (256 / 2^c),w.1] at this
  exact this
 refine ⟨t.live,t.new,t.bytes,t.full,hb.1,hb.2.1,hb.2.2,?_,?_,by unfold Heap.addr;omega,?_⟩
 ·rcases e with ⟨_,s⟩ | ⟨_,H1,n,s⟩
  ·exact .inl s.regs
  ·rcases n.regs with r | ⟨r1,r2,r3⟩
   ·exact .inl (s.regs.trans r)
   ·exact .inr ⟨r1,r2,s.regs.trans r3⟩
 ·have d0:16*2^c∣4096:=⟨256 / 2^c,w.1.symm⟩
  have d1:16*2^c∣H.base:=Nat.dvd_trans d0 (Nat.dvd_of_mod_eq_zero (base_4096 h.ok))
  have d2:16*2^c∣4096*p:=Nat.dvd_trans d0 (Nat.dvd_mul_right _ _)
  exact Nat.mod_eq_zero_of_dvd (Nat.dvd_add (by unfold Heap.addr;exact Nat.dvd_add d1 d2) (Nat.dvd_mul_left _ _))
 ·rw [hb.1];unfold Heap.addr
  generalize q*(16*2^c)=u at *
  generalize 16*2^c=z at *
  omega
theorem Inv.mtake_gave (h:Inv H fl pl fc (fun _=>False)) {b:Nat} (hb:4 <= b) (hle:¬ H.rsz<2^b) (d:Bool):match (H.mtakeF (2^b) d).2 with
  |some p=>Gave H (H.mtakeF (2^b) d).1 d p (2^b)
  |none=>(H.mtakeF (2^b) d).1=H:=by
 unfold Heap.mtakeF
 rcases size_cases h.ok hb hle with ⟨c,h1,h2,h3,h4⟩ | ⟨k,h1,h2,h3,h4⟩
 ·rw [if_pos h3,h4]
  have:=h.celled h1 d
  cases ho:(H.stakeF c d).2 with
  |some x =>
   rw [ho] at this
   simp only [Option.map_some]
   rw [h2]
   exact this.1.gave h h1 this.2
  |none =>
   rw [ho] at this
   exact this.1
 ·rw [if_neg h3,h4]
  obtain ⟨n,_⟩:=h.needF h1 d
  cases ho:(H.needF k d).2 with
  |some p =>
   rw [ho] at n
   simp only [Option.map_some]
   rw [h2]
   exact n.gave h h1
  |none =>
   rw [ho] at n
   simp only [Option.map_none]
   generalize hg:(H.needF k d).1=G at n
   cases n;rfl
inductive AllocIs (H:Heap) (n a:Nat) (d:Bool):Heap × Nat × Nat -> Prop
 |einval:isPow a=false -> AllocIs H n a d (H,0,1)
 |etoobig:isPow a=true -> H.rsz<roundP n a -> AllocIs H n a d (H,0,3)
 |enomem:isPow a=true -> ¬ H.rsz<roundP n a -> AllocIs H n a d (H,0,2)
 |ok {H':Heap} {p:Nat}:isPow a=true -> ¬ H.rsz<roundP n a -> Gave H H' d p (roundP n a) -> AllocIs H n a d (H',p,0)
theorem Inv.alloc_is (h:Inv H fl pl fc (fun _=>False)) {n a:Nat} (hn:n<18446744073709551616) (ha:a<18446744073709551616) (d:Bool):AllocIs H n a d (H.allocF n a d):=by
 unfold Heap.allocF
 by_cases c:isPow a=false
 ·rw [if_pos c];exact .einval c
 ·rw [if_neg c]
  have hp:isPow a=true:=by cases hx:isPow a;exact (c hx).elim;rfl
  by_cases c2:H.rsz<roundP n a
  ·rw [if_pos c2];exact .etoobig hp c2
  ·rw [if_neg c2]
   obtain ⟨b,hb,e⟩:=roundP_pow hn ha
   have g:=h.mtake_gave hb (by rw [<- e];exact c2) d
   rw [<- e] at g
   split at g
   ·rename_i p hp2
    rw [hp2]
    exact .ok hp c2 g
   ·rename_i hp2
    rw [hp2,g]
    exact .enomem hp c2
theorem live_lock {l:Int} {a w:Nat}:LiveB (H.setLock l) a w↔LiveB H a w:=Iff.rfl
theorem Gave.locks {d:Bool} {p s:Nat} (g:Gave H.held H' d p s):Gave H (H'.setLock 0) d p s :=
 ⟨fun a w=>g.live a w,fun a w=>g.new a w,fun a s h=>g.bytes a s h,fun h=>g.full h,g.base,g.order,g.limit,g.regs,g.al,g.lo,g.hi⟩
theorem Good.setLock0 (h:Fine H) (hf:Full H):Good (H.setLock 0):=by
 obtain ⟨fl,pl,fc,i⟩:=h
 exact ⟨⟨fl,pl,fc,i.setLock 0⟩,hf,rfl⟩
def allocH (H:Heap) (n a:Nat) (d:Bool):Heap × Nat × Nat:=((H.held.allocF n a d).1.setLock 0,(H.held.allocF n a d).2)
theorem Good.alloc (g:Good H) {n a:Nat} (hn:n<18446744073709551616) (ha:a<18446744073709551616) (d:Bool):AllocIs H n a d (allocH H n a d) /\ Good (allocH H n a d).1:=by
 obtain ⟨fl,pl,fc,i⟩:=g.fine
 have i1:=i.setLock 1
 have hf:=(i1.allocF hn ha d).1
 have hi:=i1.alloc_is hn ha d
 have hl:=g.lock
 unfold allocH Heap.held
 revert hi hf
 generalize (H.setLock 1).allocF n a d=r
 intro hf hi
 have e:(H.setLock 1).setLock 0=H:=setLock_id hl
 cases hi with
 |einval c=>simp only;rw [e];exact ⟨.einval c,g⟩
 |etoobig c c2=>simp only;rw [e];exact ⟨.etoobig c c2,g⟩
 |enomem c c2=>simp only;rw [e];exact ⟨.enomem c c2,g⟩
 |ok c c2 gv=>exact ⟨.ok c c2 (Gave.locks gv),Good.setLock0 hf (gv.full g.full)⟩
end
noncomputable section
variable {H H':Heap} {S:AS} {fl pl fc:Nat -> List Nat}
theorem nodup_few:∀ (N lo:Nat) (l:List Nat),l.Nodup -> (∀ x∈l,lo <= x /\ x<lo+N) -> l.length <= N:=by
 intro N
 induction N with
 |zero =>
  intro lo l _ h
  cases l with
  |nil=>exact Nat.le_refl _
  |cons x r=>have:=h x (List.mem_cons_self ..);omega
 |succ N ih =>
  intro lo l hn h
  have h1:(l.erase (lo+N)).length <= N:=by
   refine ih lo _ (hn.erase _) fun x hx=>?_
   rw [hn.mem_erase_iff] at hx
   have:=h x hx.2
   omega
  rw [List.length_erase] at h1
  split at h1 <;> omega
theorem Inv.live_range (h:Inv H fl pl fc (fun _=>False)) {a s:Nat} (hl:LiveB H a s):H.base <= a /\ a+s <= H.base+4096*H.np /\ 16 <= s:=by
 obtain ⟨x,hx,hl⟩:=hl
 have hs:16 <= s /\ H.base <= a:=by
  rcases hl with ⟨_,k,_,rfl,rfl⟩ | ⟨_,c,q,_,_,_,rfl,rfl⟩
  ·have:=pow_pos' k
   refine ⟨by omega,by unfold Heap.addr;omega⟩
  ·have:=pow_pos' c
   refine ⟨by omega,by unfold Heap.addr;omega⟩
 obtain ⟨y,j,h1,h2,h3,_⟩:=h.live_pages hx hl (i:=s-1) (by omega)
 exact ⟨hs.2,by omega,hs.1⟩
theorem np_few (ok:H.OK):H.np <= 1024:=by
 have h1:=ok.pages_le
 have h2:H.regs*2^H.order <= H.limit*2^H.order:=Nat.mul_le_mul_right _ ok.regs_le
 unfold Heap.np
 omega
theorem end_np (ok:H.OK):H.base+4096*H.np <= 9223372036854775808:=by
 have h1:=ok.end_le
 have h2:H.rsz*H.regs <= H.rsz*H.limit:=Nat.mul_le_mul_left _ ok.regs_le
 rw [rsz_np] at h2
 omega
structure ArOk (H:Heap) (S:AS):Prop where
 live:∀ b,b∈S.chunks -> LiveB H b.1 b.2
 nodup:(S.chunks.map (·.1)).Nodup
 taken:S.taken <= 8388608
 used:S.used<18446744073709551616
 chunk:S.chunk <= H.rsz
 nil:S.hasC=false -> S.chunks=[]
 nilS:S.hasS=false -> S.stand=[]
theorem ArOk.ok (g:Good H) (h:ArOk H S):S.OK:=by
 obtain ⟨fl,pl,fc,i⟩:=g.fine
 have h1:=end_np i.ok
 have h2:=np_few i.ok
 have h3:=rsz_le i.ok
 refine ⟨fun b hb=>?_,h.taken,h.used,by have:=h.chunk;omega,h.nil,h.nilS,?_⟩
 ·have:=i.live_range (h.live b hb);omega
 ·have:=nodup_few (4096*H.np) H.base _ h.nodup fun x hx=>by
   obtain ⟨b,hb,rfl⟩:=List.mem_map.1 hx
   have:=i.live_range (h.live b hb);omega
  rw [List.length_map] at this;omega
theorem ArOk.alloc (g:Good H) (h:ArOk H S) {n a:Nat} (hn:n<18446744073709551616) (ha:a<18446744073709551616) (d:Bool) :
  Good (allocA H S n a d).1 /\ ArOk (allocA H S n a d).1 (allocA H S n a d).2.1:=by
 obtain ⟨fl,pl,fc,i⟩:=g.fine
 have hz:=rsz_le i.ok
 unfold allocA
 by_cases c:isPow a=false
 ·rw [if_pos c];exact ⟨g,h⟩
 ·rw [if_neg c]
  by_cases c2:H.rsz<max n 1 \/ H.rsz<a
  ·rw [if_pos c2];exact ⟨g,h⟩
  ·rw [if_neg c2]
   cases hf:S.fit (max n 1) a with
   |some p =>
    refine ⟨g,h.live,h.nodup,?_,Nat.mod_lt _ (by omega),h.chunk,h.nil,h.nilS⟩
    unfold AS.fit at hf
    cases hL:S.chunks.getLast? with
    |none=>rw [hL] at hf;cases hf
    |some t =>
     rw [hL] at hf
     simp only at hf
     split at hf
     ·rename_i hle
      cases hf
      have:=i.live_range (h.live t (List.mem_of_getLast? hL))
      have h2:=np_few i.ok
      simp only [Option.getD_some]
      omega
     ·cases hf
   |none =>
    have hx:max (max n 1) S.chunk<18446744073709551616:=by have:=h.chunk;omega
    obtain ⟨hi,hg⟩:=g.alloc hx ha d
    unfold allocH at hi hg
    revert hi hg
    generalize H.held.allocF (max (max n 1) S.chunk) a d=r
    obtain ⟨G,p,e⟩:=r
    simp only
    intro hi hg
    by_cases ce:e=0
    ·subst ce
     rw [if_pos rfl]
     refine ⟨hg,?_⟩
     generalize hG:G.setLock 0=G' at hi hg
     cases hi with
     |ok c3 c4 gv =>
      obtain ⟨fl',pl',fc',i'⟩:=hg.fine
      have hlp:LiveB G' p (roundP (max (max n 1) S.chunk) a):=(gv.live _ _).2 (.inr ⟨rfl,rfl⟩)
      have hst:=i'.start_of hlp
      rw [hst]
      simp only [Option.getD_some]
      refine ⟨?_,?_,by show max n 1 <= 8388608;omega,Nat.mod_lt _ (by omega),?_,by simp,h.nilS⟩
      ·intro b hb
       rcases List.mem_append.1 hb with hb | hb
       ·exact (gv.live _ _).2 (.inl (h.live b hb))
       ·rw [List.mem_singleton] at hb;subst hb;exact hlp
      ·rw [List.map_append,List.nodup_append]
       refine ⟨h.nodup,by simp,?_⟩
       intro x hx y hy
       obtain ⟨b,hb,rfl⟩:=List.mem_map.1 hx
       simp only [List.map_cons,List.map_nil,List.mem_singleton] at hy
       subst hy
       have h1:=gv.new _ _ (h.live b hb)
       have h2:=i.live_range (h.live b hb)
       have h3:=i'.live_range hlp
       omega
      ·have:G'.rsz=H.rsz:=by unfold Heap.rsz;rw [gv.order]
       rw [this];exact h.chunk
    ·rw [if_neg ce]
     refine ⟨hg,?_⟩
     generalize hG:G.setLock 0=G' at hi hg
     cases hi with
     |ok=>exact (ce rfl).elim
     |_=>exact h
end
noncomputable section
variable {σ σ':St} {A:Slot -> Nat} {H:Heap} {B:AI -> Nat} {S:AS}
theorem HC.of {κ:Type} (R:HRep σ A H) (B:κ -> Nat) (c:κ -> Cont):HC σ A H (fun _:κ=>False) B c:=by
 refine (hrep_wd R).sub (fun k=>match k with | .inl s=>s | .inr _=>.heap) ?_ ?_ ?_ ?_
 ·rintro (k | k) hk
  ·exact hk
  ·exact hk.elim
 ·rintro (k | k) (l | l) hk hl e
  ·exact congrArg _ e
  ·exact hl.elim
  ·exact hk.elim
  ·exact hk.elim
 ·rintro (k | k) hk
  ·rfl
  ·exact hk.elim
 ·rintro (k | k) hk
  ·exact .inl rfl
  ·exact hk.elim
def newA (c:Nat):AS:={ chunk:=c,hasC:=false,chunks:=[],taken:=0,used:=0,init:=false,ms:=[],hasS:=false,made:=0 }
theorem r_arNew (h:HRep σ A H) (ok:H.OK) {c:Nat} (hc:c<18446744073709551616) :
  Runs G0 [] 17 [.ptr (some (A .heap,0)),.int .u64 c] σ fun r s=>if c=0 then r=.tuple [.ptr none,.int .i64 1] /\ HRep s A H else if H.rsz<c then r=.tuple [.ptr none,.int .i64 3] /\ HRep s A H else ∃ b,r=.tuple [.ptr (some (b,0)),.int .i64 0] /\ AR s A H (fun _=>b) (newA c):=by
 refine runs_body g17 rfl ?_
 by_cases c0:c=0
 ·have d0:(c:Int)=0:=by omega
  simp -implicitDefEqProofs only[go_sem,d0]
  rw [if_pos c0]
  exact h
 ·have d0:¬ (c:Int)=0:=by omega
  obtain ⟨v,s1,⟨hv,R1⟩,hr1⟩:=r_asizeW (HC.of (κ:=AI) h (fun _=>0) (fun _=>.map [])) ok
  subst hv
  simp -implicitDefEqProofs only[go_sem,d0]
  refine runs_ret hr1 ?_
  by_cases c1:H.rsz<c
  ·have d1:(H.rsz:Int)<(c:Int):=by omega
   simp -implicitDefEqProofs only[go_sem,d1]
   rw [if_neg c0,if_pos c1]
   exact wd_hrep R1.left
  ·have d1:¬ (H.rsz:Int)<(c:Int):=by omega
   have f1:fillP [V.ptr none,V.int .u64 0,V.slice none 0 0,V.int .u64 0,V.int .u64 0,V.int .u32 0,V.int .i32 0,V.int .u32 0,V.map none,V.slice none 0 0,V.int .i64 0] [(0,1,V.ptr (some (A .heap,0))),(1,1,V.int .u64 c)]=some [V.ptr (some (A .heap,0)),V.int .u64 c,V.slice none 0 0,V.int .u64 0,V.int .u64 0,V.int .u32 0,V.int .i32 0,V.int .u32 0,V.map none,V.slice none 0 0,V.int .i64 0]:=rfl
   simp -implicitDefEqProofs only[go_sem,d1,evalParts,f1,vcells_agg,List.length_cons,List.length_nil]
   rw [if_neg c0,if_neg c1]
   refine ⟨_,rfl,?_⟩
   have W:=Wd.cells R1 (i0:=(Sum.inr AI.arena:Slot ⊕ AI)) (fun h=>h) [V.ptr (some (A .heap,0)),V.int .u64 c,V.slice none 0 0,V.int .u64 0,V.int .u64 0,V.int .u32 0,V.int .i32 0,V.int .u32 0,V.map none,V.slice none 0 0,V.int .i64 0]
   refine W.sub id ?_ (fun _ _ _ _ e=>e) ?_ ?_
   ·rintro (k | k) hk
    ·exact .inl hk
    ·cases k with
     |arena=>exact .inr rfl
     |chunks=>exact nomatch (show false=true from hk)
     |stand=>exact nomatch (show false=true from hk)
     |marks=>exact nomatch (show (none:Option (List (V × V))).isSome=true from hk)
   ·rintro (k | k) hk
    ·show _=updG _ _ _ _;rw [updG_ne (by intro h;cases h)];rfl
    ·cases k with
     |arena=>exact updG_same.symm
     |chunks=>exact nomatch (show false=true from hk)
     |stand=>exact nomatch (show false=true from hk)
     |marks=>exact nomatch (show (none:Option (List (V × V))).isSome=true from hk)
   ·rintro (k | k) hk
    ·left;show _=updG _ _ _ _;rw [updG_ne (by intro h;cases h)];rfl
    ·cases k with
     |arena=>left;exact updG_same.symm
     |chunks=>exact nomatch (show false=true from hk)
     |stand=>exact nomatch (show false=true from hk)
     |marks=>exact nomatch (show (none:Option (List (V × V))).isSome=true from hk)
end
noncomputable section
variable {σ σ':St} {A:Slot -> Nat} {H:Heap} {B:AI -> Nat} {S:AS}
theorem r_Chunks0 {ar z:Nat} {q:Option (Nat × Nat)} (h2:σ.cell ar 2=some (.slice q 0 z)) :
  Runs G0 [] 19 [.ptr (some (ar,0))] σ fun r s=>r=.slice none 0 0 /\ s=σ:=by
 refine runs_body g19 rfl ?_
 have ha:AM.appendV σ 2 16 (.slice none 0 0) (.slice q 0 z)=some (.slice none 0 0,σ):=rfl
 simp -implicitDefEqProofs only[go_sem,h2,ha]
theorem r_Chunks1 {ar b n:Nat} {vs:List V} (h2:σ.cell ar 2=some (.slice (some (b,0)) n 2)) (hn:0<n) (hx:n <= 5000000000000) (hl:σ.load b 0 (n*2)=some vs) (hf:vs.all V.flat=true) :
  Runs G0 [] 19 [.ptr (some (ar,0))] σ fun r s=>r=.slice (some (σ.next,0)) n 2 /\ s=σ.newCells vs:=by
 refine runs_body g19 rfl ?_
 have ha:AM.appendV σ 2 16 (.slice none 0 0) (.slice (some (b,0)) n 2)=some (.slice (some (σ.next,0)) n 2,σ.newCells vs):=by
  unfold AM.appendV
  simp only [hl]
  rw [if_neg (by rintro (h | ⟨_,h⟩);omega;cases h),if_neg (by omega)]
  unfold AM.appendL
  rw [if_pos ⟨by unfold maxLenBytes;omega,by unfold maxLenBytes;omega,hf⟩]
  simp only [if_true]
 simp -implicitDefEqProofs only[go_sem,h2,ha]
theorem r_Used (h:AR σ A H B S):Runs G0 [] 28 [.ptr (some (B .arena,0))] σ fun r s=>r=.int .u64 S.used /\ s=σ:=by
 refine runs_body g28 rfl ?_
 have h4:=AR.c4 h
 simp -implicitDefEqProofs only[go_sem,h4]
def sumB (l:List (Nat × Nat)):Nat:=(l.map (·.2)).sum
theorem sumB_take {l:List (Nat × Nat)} {i:Nat} (h:i<l.length):sumB (l.take (i+1))=sumB (l.take i)+(l.getD i (0,0)).2:=by
 unfold sumB
 rw [List.take_add_one,List.getElem?_eq_getElem h,List.map_append,List.sum_append]
 simp [List.getD_eq_getElem?_getD,List.getElem?_eq_getElem h]
theorem r_Held (h:AR σ A H B S) (hS:S.OK):Runs G0 [] 29 [.ptr (some (B .arena,0))] σ fun r s=>r=.int .u64 (sumB S.chunks%18446744073709551616:Nat) /\ Grow σ s:=by
 refine runs_body g29 rfl ?_
 have h2:=AR.c2 h
 obtain ⟨q,z,hV,hq⟩:∃ q z,S.chunksV B=.slice q S.chunks.length z /\ (0<S.chunks.length -> q=some (B .chunks,0) /\ z=2 /\ S.hasC=true):=by
  unfold AS.chunksV
  by_cases c:S.hasC=true
  ·rw [if_pos c];exact ⟨_,_,rfl,fun _=>⟨rfl,rfl,c⟩⟩
  ·rw [if_neg c]
   have:=hS.nil (by simpa using c)
   rw [this]
   exact ⟨_,_,rfl,fun h=>absurd h (by simp)⟩
 rw [hV] at h2
 have hfew:=hS.few
 simp -implicitDefEqProofs only[go_sem,h2]
 refine aw_loop (fun (n:Nat) (fr:AM.Fr) (s:St)=>fr.defers=[] /\ fr.tmps.get 9=some (.slice q S.chunks.length z) /\ fr.tmps.get 10=some (.int .i64 S.chunks.length) /\ Grow σ s /\ ∃ i:Nat,fr.tmps.get 11=some (.int .i64 i) /\ i+n=S.chunks.length /\ fr.tmps.get 3=some (.int .u64 (sumB (S.chunks.take i)%18446744073709551616:Nat))) ?_ S.chunks.length ?_
 ·rintro n ⟨tm,ds⟩ s ⟨hd,t9,t10,g,i,t11,hi,t3⟩
  simp only at hd t9 t10 t11 t3
  subst hd
  by_cases c:i<S.chunks.length
  ·obtain ⟨rfl,rfl,hC⟩:=hq (by omega)
   have d1:(i:Int)<(S.chunks.length:Int):=by omega
   have d2:(0:Int) <= (i:Int) /\ (i:Int)<(S.chunks.length:Int):=by omega
   have e9:IntKind.i64.wrap ((i:Int)+1)=((i+1:Nat):Int):=i64_add (a:=i) (b:=1) (by omega)
   have hrow:=Wd.row h (i:=(Sum.inr AI.chunks:Slot ⊕ AI)) hC (n:=S.chunks.length*2) (f:=blkV S.chunks) rfl
   have hrow':=Grow.row g h.gw hrow
   have hld:=hrow'.load (off:=i*2) (k:=2) (by omega)
   obtain ⟨t,ht⟩:∃ t,S.chunks.getD i (0,0)=t:=⟨_,rfl⟩
   rw [blkV_at ht] at hld
   have hld':s.load (B .chunks) (i*2) 2=some [V.int .u64 t.1,.int .u64 t.2]:=hld
   have hst:=new_store (σ:=s) (z:=[.int .u64 0,.int .u64 0]) (vs:=[.int .u64 t.1,.int .u64 t.2]) (n:=2) (by simp) rfl
   have L:=Lcl.lay s 2 [.int .u64 0,.int .u64 0] [.int .u64 t.1,.int .u64 t.2] rfl
   have l1:=L.cell (i:=1) (by omega)
   rw [show lst [V.int .u64 t.1,.int .u64 t.2] 1=.int .u64 t.2 from rfl] at l1
   have eu:IntKind.u64.wrap (((sumB (S.chunks.take i)%18446744073709551616:Nat):Int)+(t.2:Int))=((sumB (S.chunks.take (i+1))%18446744073709551616:Nat):Int):=by
    rw [sumB_take c,ht, <- Int.natCast_add];unfold IntKind.wrap;simp [IntKind.bits,IntKind.signed,Int.emod]
   simp -implicitDefEqProofs only[go_sem,t9,t10,t11,t3,d1,d2,and_self,Int.toNat_natCast,hld',vcells_agg,vcells_int,List.length_cons,List.length_nil,hst,l1,eu,e9]
   exact ⟨n-1,by omega,g.trans (Grow.lay _ _ _ _),i+1,rfl,by omega,rfl⟩
  ·have d1:¬ ((i:Int)<(S.chunks.length:Int)):=by omega
   simp -implicitDefEqProofs only[go_sem,t9,t10,t11,t3,d1]
   rw [List.take_of_length_le (by omega)]
   exact ⟨rfl,g⟩
 ·simp -implicitDefEqProofs only[go_sem]
  exact ⟨Grow.refl _,0,rfl,by omega,rfl⟩
end
noncomputable section
variable {σ σ':St} {A:Slot -> Nat} {H:Heap} {B:AI -> Nat} {S:AS}
def freeH (H:Heap) (a:Nat):Heap:=((H.setLock 1).freeF a).1.setLock 0
def freeAll (H:Heap):List Nat -> Heap
 | []=>H
 |a :: r=>freeAll (freeH H a) r
inductive FreeIs (H:Heap) (a:Nat):Heap -> Prop
 |no:(∀ w, ¬ LiveB H a w) -> FreeIs H a H
 |freed {H':Heap} {w:Nat}:LiveB H a w -> Freed H H' a -> FreeIs H a H'
theorem Good.free (g:Good H) (a:Nat):FreeIs H a (freeH H a) /\ Good (freeH H a):=by
 obtain ⟨fl,pl,fc,i⟩:=g.fine
 have i1:=i.setLock 1
 have hl:=g.lock
 have e:(H.setLock 1).setLock 0=H:=setLock_id hl
 unfold freeH Heap.freeF
 by_cases c:a=0
 ·rw [if_pos c]
  simp only
  rw [e]
  refine ⟨.no fun w hw=>?_,g⟩
  have:=i.live_range hw
  have:=i.ok.base_pos
  omega
 ·rw [if_neg c]
  cases hs:(H.setLock 1).startF a with
  |some w =>
   obtain ⟨f1,f2⟩:=i1.giveF hs
   have hlw:LiveB H a w:=live_lock.1 (i1.live_of hs)
   exact ⟨.freed hlw ⟨fun b s=>f2.live b s,fun b s h=>f2.bytes b s h,fun h=>f2.full h,⟨f2.same.order,f2.same.base,f2.same.regs,f2.same.limit⟩⟩,Good.setLock0 f1 (f2.full g.full)⟩
  |none =>
   simp only
   rw [e]
   refine ⟨.no fun w hw=>?_,g⟩
   have:=i1.start_of (live_lock.2 hw)
   rw [hs] at this;cases this
def cutL (S:AS) (n:Nat):List Nat:=((S.chunks.drop n).map (·.1)).reverse
theorem r_defers {K:St -> Prop} (l:List Nat):∀ {σ:St} {A:Slot -> Nat} {H:Heap},AR σ A H B S -> Good H -> (∀ s,AR s A (freeAll H l) B S -> K s) -> wpDefers G0 [] (l.map fun (p:Nat)=>(72,[.ptr (some (A .heap,0)),.int .u64 p])) σ K:=by
 induction l with
 |nil=>intro σ A H R g hK;exact hK σ R
 |cons a r ih =>
  intro σ A H R g hK
  rw [List.map_cons,wpDefers_cons]
  refine ⟨.inl ⟨_,g72⟩,?_⟩
  obtain ⟨fl,pl,fc,i⟩:=g.fine
  refine (HC.call (Γ:=G0) (Γ':=G0) (M:=[]) (H':=freeH H a) (P:=fun _ A'=>A'=A) (fun _ _ h=>h) (fun _ h=>nomatch h) R fun s hs=>(r_FreeF hs i g.lock a).mono fun v s' ⟨h1,h2⟩=>⟨A,h1,rfl⟩).mono ?_
  rintro v s ⟨A',R',rfl⟩
  exact ih R' (g.free a).2 hK
theorem r_arCut (h:AR σ A H B S) (hg:Good H) (hS:S.OK) {n:Nat} (hn:n <= S.chunks.length) :
  Runs G0 [] 102 [.ptr (some (B .arena,0)),.int .i64 n] σ fun r s=>AR s A (freeAll H (cutL S n)) B { S with chunks:=S.chunks.take n }:=by
 refine runs_body g102 rfl ?_
 have h2:=AR.c2 h
 have hfew:=hS.few
 obtain ⟨q,q',z,z',hV,hs1,hs2,hq,hq2⟩:∃ q q' z z',S.chunksV B=.slice q S.chunks.length z /\ sliceV 2 (.slice q S.chunks.length z) (some (.int .i64 n)) none=some (.slice q' (S.chunks.length-n) z) /\ sliceV 2 (.slice q S.chunks.length z) none (some (.int .i64 n))=some (.slice q n z) /\ (0<S.chunks.length -> q'=some (B .chunks,n*2) /\ z=2 /\ S.hasC=true) /\ AS.chunksV { S with chunks:=S.chunks.take n } B=.slice q n z:=by
  unfold AS.chunksV
  by_cases c:S.hasC=true
  ·rw [if_pos c]
   have e1:=sliceV_lo (esz:=2) (id:=B .chunks) (off:=0) (len:=S.chunks.length) (k:=.i64) (i:=(n:Int)) (by omega) (by omega)
   have e2:=sliceV_hi (esz:=2) (id:=B .chunks) (off:=0) (len:=S.chunks.length) (k:=.i64) (i:=(n:Int)) (by omega) (by omega)
   rw [Int.toNat_natCast,Nat.zero_add] at e1
   rw [Int.toNat_natCast] at e2
   refine ⟨_,_,_,0,rfl,e1,e2,fun _=>⟨rfl,rfl,c⟩,?_⟩
   simp only
   rw [if_pos c,List.length_take,Nat.min_eq_left hn]
  ·rw [if_neg c]
   have hnil:=hS.nil (by simpa using c)
   rw [hnil] at hn ⊢
   have hn0:n=0:=by simpa using hn
   subst hn0
   refine ⟨none,none,0,0,rfl,rfl,rfl,fun h=>absurd h (by simp),?_⟩
   simp only
   rw [if_neg c]
 rw [hV] at h2
 have hlen:((S.chunks.length-n:Nat):Int)=(S.chunks.length:Int)-n:=by omega
 simp -implicitDefEqProofs only[go_sem,h2,hs1]
 refine aw_loop (fun (m:Nat) (fr:AM.Fr) (s:St)=>fr.tmps.get 0=some (.ptr (some (B .arena,0))) /\ fr.tmps.get 1=some (.int .i64 n) /\ fr.tmps.get 11=some (.slice q' (S.chunks.length-n) z) /\ fr.tmps.get 12=some (.int .i64 (S.chunks.length-n:Nat)) /\ AR s A H B S /\ ∃ i:Nat,fr.tmps.get 13=some (.int .i64 i) /\ i+m=S.chunks.length-n /\ fr.defers=(((S.chunks.drop n).take i).map (·.1)).reverse.map fun (p:Nat)=>(72,[V.ptr (some (A .heap,0)),.int .u64 p])) ?_ (S.chunks.length-n) ?_
 ·rintro m ⟨tm,ds⟩ s ⟨t0,t1,t11,t12,R,i,t13,hi,hd⟩
  simp only at t0 t1 t11 t12 t13 hd
  by_cases c:i<S.chunks.length-n
  ·obtain ⟨rfl,rfl,hC⟩:=hq (by omega)
   have d1:(i:Int)<((S.chunks.length-n:Nat):Int):=by omega
   have d2:(0:Int) <= (i:Int) /\ (i:Int)<((S.chunks.length-n:Nat):Int):=by omega
   have e9:IntKind.i64.wrap ((i:Int)+1)=((i+1:Nat):Int):=i64_add (a:=i) (b:=1) (by omega)
   have hrow:=Wd.row R (i:=(Sum.inr AI.chunks:Slot ⊕ AI)) hC (n:=S.chunks.length*2) (f:=blkV S.chunks) rfl
   have hld:=hrow.load (off:=(n+i)*2) (k:=2) (by omega)
   obtain ⟨t,ht⟩:∃ t,S.chunks.getD (n+i) (0,0)=t:=⟨_,rfl⟩
   rw [blkV_at ht] at hld
   have hld':s.load (B .chunks) (n*2+i*2) 2=some [V.int .u64 t.1,.int .u64 t.2]:=by rw [<- Nat.add_mul];exact hld
   have hst:=new_store (σ:=s) (z:=[.int .u64 0,.int .u64 0]) (vs:=[.int .u64 t.1,.int .u64 t.2]) (n:=2) (by simp) rfl
   have L:=Lcl.lay s 2 [.int .u64 0,.int .u64 0] [.int .u64 t.1,.int .u64 t.2] rfl
   have R1:AR (s.lay 2 [.int .u64 0,.int .u64 0] [.int .u64 t.1,.int .u64 t.2]) A H B S:=Wd.lay R (by simp) rfl
   have l0:=L.cell (i:=0) (by omega)
   rw [show lst [V.int .u64 t.1,.int .u64 t.2] 0=.int .u64 t.1 from rfl] at l0
   have a0:=AR.c0 R1
   simp -implicitDefEqProofs only[go_sem,t0,t1,t11,t12,t13,d1,d2,and_self,Int.toNat_natCast,hld',vcells_agg,vcells_int,List.length_cons,List.length_nil,hst,l0,a0,e9]
   refine ⟨m-1,by omega,R1,i+1,rfl,by omega,?_⟩
   rw [List.take_add_one,List.getElem?_drop,List.getElem?_eq_getElem (by omega),hd]
   rw [List.getD_eq_getElem?_getD,List.getElem?_eq_getElem (show n+i<S.chunks.length by omega),Option.getD_some] at ht
   rw [ht]
   simp
  ·have d1:¬ ((i:Int)<((S.chunks.length-n:Nat):Int)):=by omega
   obtain ⟨s1,hs,R1,hn1⟩:=(AR.h R).store (by rfl) (k:=2) (v:=.slice q n z) (by omega) rfl
   have a2:=AR.c2 R
   rw [hV] at a2
   simp -implicitDefEqProofs only[go_sem,t0,t1,t11,t12,t13,d1,a2,hs2,vcells_slice,List.length_cons,List.length_nil,hs]
   rw [hd,List.take_of_length_le (by rw [List.length_drop];omega)]
   have R2:AR s1 A H B { S with chunks:=S.chunks.take n }:=by
    refine AH.ar ?_
    have e:AS.hdr { S with chunks:=S.chunks.take n } (A .heap) B=(S.hdr (A .heap) B).set 2 (.slice q n z):=by
     unfold AS.hdr;rw [hq2];rfl
    rw [e]
    refine Wd.sub R1 id (fun _ h=>h) (fun _ _ _ _ e=>e) (fun _ _=>rfl) ?_
    rintro (k | k) hk
    ·exact .inl rfl
    ·cases k with
     |chunks =>
      refine .inr ⟨_,_,(S.chunks.take n).length*2,blkV (S.chunks.take n),rfl,rfl,?_,?_⟩
      ·rw [List.length_take];omega
      ·intro j hj
       rw [List.length_take] at hj
       unfold blkV
       simp [List.getD_eq_getElem?_getD,List.getElem?_take,show j / 2<n by omega]
     |_=>exact .inl rfl
   refine r_defers (cutL S n) R2 hg fun s' R'=>?_
   exact R'
 ·simp -implicitDefEqProofs only[go_sem]
  exact ⟨h,0,rfl,by omega,rfl⟩
end
noncomputable section
variable {σ σ':St} {A:Slot -> Nat} {H:Heap} {B:AI -> Nat} {S:AS}
theorem gLd:G0.get 191=some (.ext .loadU32):=by kernel_rfl
theorem gSt:G0.get 240=some (.ext .storeU32):=by kernel_rfl
theorem r_bLoad {id off:Nat} {n:Int} (h:σ.cell id off=some (.int .u32 n)):Runs G0 [] 148 [.ptr (some (id,off))] σ fun r s=>r=.bool (decide (n≠0)) /\ s=σ:=by
 refine runs_body g148 rfl ?_
 have hr:Runs G0 [] 191 [.ptr (some (id,off))] σ fun r s=>r=.int .u32 n /\ s=σ:=runs_ext gLd rfl (show AM.extCall .loadU32 _ _=some (.int .u32 n,σ) by simp only [AM.extCall,h]) ⟨rfl,rfl⟩
 obtain ⟨v,s,⟨rfl,rfl⟩,hr⟩:=hr
 simp -implicitDefEqProofs only[go_sem]
 refine runs_ret hr ?_
 simp -implicitDefEqProofs only[go_sem]
theorem r_b32 {b:Bool}:Runs G0 [] 241 [.bool b] σ fun r s=>r=.int .u32 (if b=true then 1 else 0) /\ s=σ:=by
 refine runs_body g241 rfl ?_
 cases b <;> simp -implicitDefEqProofs only[go_sem]
theorem r_bStore {id off:Nat} {n:Int} (h:σ.cell id off=some (.int .u32 n)) (hs:σ.store id off [.int .u32 1]=some σ'):Runs G0 [] 192 [.ptr (some (id,off)),.bool true] σ fun r s=>s=σ':=by
 refine runs_body g192 rfl ?_
 obtain ⟨v,s,⟨hv,hs1⟩,hr⟩:=r_b32 (σ:=σ) (b:=true)
 subst hv hs1
 have hr2:Runs G0 [] 240 [.ptr (some (id,off)),.int .u32 (if true=true then 1 else 0)] s fun r s=>r=.tuple [] /\ s=σ':=runs_ext gSt rfl (show AM.extCall .storeU32 _ _=some (.tuple [],σ') by simp only [AM.extCall,h,if_true,hs,Option.map_some]) ⟨rfl,rfl⟩
 obtain ⟨v,s2,⟨rfl,rfl⟩,hr2⟩:=hr2
 simp -implicitDefEqProofs only[go_sem]
 refine runs_ret hr ?_
 simp -implicitDefEqProofs only[go_sem]
 refine runs_ret hr2 ?_
 simp -implicitDefEqProofs only[go_sem]
theorem r_Mark1 {b ar:Nat} {s2:St} (h:σ.cell b 0=some (.ptr (some (ar,0)))) (hs:(σ.new (.map [])).store ar 8 [.map (some σ.next)]=some s2):Runs G0 [] 101 [.ptr (some (b,0))] σ fun r s=>s=s2:=by
 refine runs_body g101 rfl ?_
 have e:(V.map (some σ.next)).cells=[V.map (some σ.next)]:=rfl
 simp -implicitDefEqProofs only[go_sem,h,e,List.length_cons,List.length_nil,hs]
theorem r_Do1 {ar:Nat} {f:V} (h:σ.cell ar 5=some (.int .u32 1)):Runs G0 [] 100 [.ptr (some (ar,5)),f] σ fun r s=>s=σ:=by
 refine runs_body g100 rfl ?_
 obtain ⟨v,s,⟨hv,hs⟩,hr⟩:=r_bLoad h
 subst hv hs
 rw [show decide ((1:Int)≠0)=true from rfl] at hr
 simp -implicitDefEqProofs only[go_sem]
 refine runs_ret hr ?_
 simp -implicitDefEqProofs only[go_sem]
theorem r_Do0 {ar b:Nat} {s1 s3 s4 s5:St} (h5:σ.cell ar 5=some (.int .u32 0)) (h6:σ.cell ar 6=some (.int .i32 0)) (hs1:σ.store ar 6 [.int .i32 1]=some s1) (h51:s1.cell ar 5=some (.int .u32 0)) (hb:s1.cell b 0=some (.ptr (some (ar,0))))
  (hs3:(s1.new (.map [])).store ar 8 [.map (some s1.next)]=some s3) (h53:s3.cell ar 5=some (.int .u32 0)) (hs4:s3.store ar 5 [.int .u32 1]=some s4) (h64:s4.cell ar 6=some (.int .i32 1)) (hs5:s4.store ar 6 [.int .i32 0]=some s5) :
  Runs G0 [] 100 [.ptr (some (ar,5)),.func 101 [] [.ptr (some (b,0))]] σ fun r s=>s=s5:=by
 refine runs_body g100 rfl ?_
 obtain ⟨v,s,⟨hv,hs⟩,hr⟩:=r_bLoad h5
 subst hv hs
 simp -implicitDefEqProofs only[go_sem]
 refine runs_ret hr ?_
 have slow:Runs G0 [] 149 [.ptr (some (ar,5)),.func 101 [] [.ptr (some (b,0))]] s fun r s=>s=s5:=by
  refine runs_body g149 rfl ?_
  have hl:Runs G0 [] 68 [.ptr (some (ar,6))] s fun r s=>r=.tuple [] /\ s=s1:=runs_ext gLock rfl (show AM.extCall .lock _ _=some (.tuple [],s1) by simp only [AM.extCall,h6,hs1,Option.map_some]) ⟨rfl,rfl⟩
  obtain ⟨v,s',⟨rfl,rfl⟩,hl⟩:=hl
  obtain ⟨v,s2,⟨hv,hs2⟩,hr2⟩:=r_bLoad h51
  subst hv hs2
  obtain ⟨v,s2,hs2,hr3⟩:=r_Mark1 hb hs3
  subst hs2
  obtain ⟨v4,s2',hs2',hr4⟩:=r_bStore h53 hs4
  subst hs2'
  have hu:Runs G0 [] 69 [.ptr (some (ar,6))] s2' fun r s=>r=.tuple [] /\ s=s5:=runs_ext gUnlock rfl (show AM.extCall .unlock _ _=some (.tuple [],s5) by simp only [AM.extCall,h64,hs5,Option.map_some]) ⟨rfl,rfl⟩
  obtain ⟨v,s6,⟨rfl,rfl⟩,hu⟩:=hu
  simp -implicitDefEqProofs only[go_sem]
  refine runs_ret hl ?_
  simp -implicitDefEqProofs only[go_sem]
  refine runs_ret hr2 ?_
  simp -implicitDefEqProofs only[go_sem,ne_eq,not_true_eq_false]
  refine runs_ret hr3 ?_
  simp -implicitDefEqProofs only[go_sem]
  rw [wpDefers_cons]
  refine ⟨.inl ⟨_,g192⟩,runs_ret hr4 ?_⟩
  rw [wpDefers_cons]
  exact ⟨.inr gUnlock,runs_ret hu rfl⟩
 obtain ⟨v,s',hs',hr2⟩:=slow
 subst hs'
 simp -implicitDefEqProofs only[go_sem,ne_eq,not_true_eq_false]
 refine runs_ret hr2 ?_
 simp -implicitDefEqProofs only[go_sem]
end
noncomputable section
variable {σ σ':St} {A:Slot -> Nat} {H:Heap} {B:AI -> Nat} {S:AS}
theorem Wd.setL {ι:Type} [DecidableEq ι] {has:ι -> Prop} {A:ι -> Nat} {c:ι -> Cont} (h:Wd σ has A c) {i:ι} (hi:has i) {n:Nat} {l:List V} (e:c i=.row n (lst l)) (hl:l.length=n) {k:Nat} {v:V} (hk:k<n) (hf:v.flat=true) :
  ∃ s,σ.store (A i) k [v]=some s /\ Wd s has A (updG c i (.row n (lst (l.set k v)))) /\ s.next=σ.next:=by
 obtain ⟨s,e,W,hn⟩:=Wd.store h hi e (off:=k) (vs:=[v]) (by show k+1 <= n;omega) (by simp [hf])
 refine ⟨s,e,W.sub id (fun _ h=>h) (fun _ _ _ _ e=>e) (fun _ _=>rfl) ?_,hn⟩
 intro j hj
 by_cases c:j=i
 ·subst c
  right
  refine ⟨_,_,n,lst (l.set k v),updG_same ..,updG_same ..,Nat.le_refl _,?_⟩
  intro j hj
  unfold over lst
  by_cases c:k=j
  ·subst c
   rw [if_pos (by simp)]
   simp [List.getD_eq_getElem?_getD,hl,hk]
  ·rw [if_neg (by simp;omega)]
   simp [List.getD_eq_getElem?_getD,List.getElem?_set_ne c]
 ·left;rw [updG_ne c];exact (updG_ne c).symm
theorem Wd.box {ι:Type} [DecidableEq ι] {has:ι -> Prop} {A:ι -> Nat} {c:ι -> Cont} (h:Wd σ has A c) {b n:Nat} {f:Nat -> V} (L:Lcl σ b n f) (hne:∀ i,has i -> A i≠b) :
  Wd σ (Sum.elim has fun _:Unit=>True) (Sum.elim A fun _=>b) (Sum.elim c fun _=>.row n f):=by
 have h0:Wd σ (Sum.elim has fun _:Unit=>False) (Sum.elim A fun _=>0) (Sum.elim c fun _=>.map []):=by
  refine ⟨h.gw,h.wid,?_,?_,?_,?_⟩
  ·rintro (i | i) hi
   ·exact h.not_wid hi
   ·exact hi.elim
  ·rintro (i | i) (j | j) hi hj e
   ·exact congrArg _ (h.inj i j hi hj e)
   ·exact hj.elim
   ·exact hi.elim
   ·exact hi.elim
  ·rintro (i | i) hi
   ·exact h.hold i hi
   ·exact hi.elim
  ·rintro (i | i) (j | j) o hi hj hne ho hg
   ·exact h.cut i j o hi hj (fun e=>hne (congrArg _ e)) ho hg
   ·exact hj.elim
   ·exact hi.elim
   ·exact hi.elim
 have W:=h0.addLcl (i0:=Sum.inr ()) (fun h=>h) L (fun i hi=>by
  rcases i with i | i
  ·exact hne i hi
  ·exact hi.elim)
 refine W.sub id ?_ (fun _ _ _ _ e=>e) ?_ ?_
 ·rintro (i | i) hi
  ·exact .inl hi
  ·exact .inr rfl
 ·rintro (i | i) hi
  ·show _=updG _ _ _ _;rw [updG_ne (by intro h;cases h)];rfl
  ·exact updG_same.symm
 ·rintro (i | i) hi
  ·left;show _=updG _ _ _ _;rw [updG_ne (by intro h;cases h)];rfl
  ·left;exact updG_same.symm
abbrev ARb (σ:St) (A:Slot -> Nat) (H:Heap) (B:AI -> Nat) (S:AS) (l:List V) (b n:Nat) (f:Nat -> V):Prop :=
 Wd σ (Sum.elim (Sum.elim H.has S.has) fun _:Unit=>True) (Sum.elim (Sum.elim A B) fun _=>b) (Sum.elim (Sum.elim (heapC H A) (S.contH l)) fun _=>.row n f)
variable {l:List V} {b n:Nat} {f:Nat -> V}
theorem ARb.c (h:ARb σ A H B S l b n f) {k:Nat} (hk:k<11):σ.cell (B .arena) k=some (lst l k):=Wd.cell h (i:=.inl (.inr .arena)) trivial rfl hk
theorem ARb.bx (h:ARb σ A H B S l b n f) {k:Nat} (hk:k<n):σ.cell b k=some (f k):=Wd.cell h (i:=.inr ()) trivial rfl hk
theorem ARb.store (h:ARb σ A H B S l b n f) (hl:l.length=11) {k:Nat} {v:V} (hk:k<11) (hf:v.flat=true):∃ s,σ.store (B .arena) k [v]=some s /\ ARb s A H B S (l.set k v) b n f /\ s.next=σ.next:=by
 obtain ⟨s,e,W,hn⟩:=Wd.setL h (i:=Sum.inl (Sum.inr AI.arena)) trivial (n:=11) (l:=l) rfl hl hk hf
 refine ⟨s,e,W.sub id (fun _ h=>h) (fun _ _ _ _ e=>e) (fun _ _=>rfl) ?_,hn⟩
 rintro ((i | i) | i) hi
 ·left;show _=updG _ _ _ _;rw [updG_ne (by intro h;cases h)];rfl
 ·cases i with
  |arena=>left;exact updG_same.symm
  |_=>left;show _=updG _ _ _ _;rw [updG_ne (by intro h;cases h)];rfl
 ·left;show _=updG _ _ _ _;rw [updG_ne (by intro h;cases h)];rfl
theorem ARb.newMap (h:ARb σ A H B S l b n f) (hi:S.init=false) (hm:S.ms=[]):ARb (σ.new (.map [])) A H (fun i=>if i=.marks then σ.next else B i) { S with init:=true } l b n f:=by
 have W:=Wd.newMap h (i0:=Sum.inl (Sum.inr AI.marks)) (by
  intro h
  have:S.marks.isSome=true:=h
  unfold AS.marks at this;rw [hi] at this;cases this)
 refine W.sub id ?_ (fun _ _ _ _ e=>e) ?_ ?_
 ·rintro ((i | i) | i) hh
  ·exact .inl hh
  ·cases i with
   |marks=>exact .inr rfl
   |_=>exact .inl hh
  ·exact .inl hh
 ·rintro ((i | i) | i) hh
  ·show _=updG _ _ _ _;rw [updG_ne (by intro h;cases h)];rfl
  ·cases i with
   |marks=>exact updG_same.symm
   |_=>show _=updG _ _ _ _;rw [updG_ne (by intro h;cases h)];rfl
  ·show _=updG _ _ _ _;rw [updG_ne (by intro h;cases h)];rfl
 ·rintro ((i | i) | i) hh
  ·left;show _=updG _ _ _ _;rw [updG_ne (by intro h;cases h)];rfl
  ·cases i with
   |marks =>
    left
    refine Eq.trans ?_ updG_same.symm
    show Cont.map (AS.marks { S with init:=true } |>.getD [])=Cont.map []
    unfold AS.marks;simp [hm]
   |_=>left;show _=updG _ _ _ _;rw [updG_ne (by intro h;cases h)];rfl
  ·left;show _=updG _ _ _ _;rw [updG_ne (by intro h;cases h)];rfl
theorem r_DoA {ar:Nat} (hB:B .arena=ar) (h:ARb σ A H B S (S.hdr (A .heap) B) b 1 (lst [.ptr (some (ar,0))])) (hm:S.init=false -> S.ms=[]) :
  Runs G0 [] 100 [.ptr (some (ar,5)),.func 101 [] [.ptr (some (b,0))]] σ fun r s=>∃ B',B' .arena=ar /\ ARb s A H B' { S with init:=true } (AS.hdr { S with init:=true } (A .heap) B') b 1 (lst [.ptr (some (ar,0))]):=by
 subst hB
 have h5:=ARb.c h (k:=5) (by omega)
 rw [show lst (S.hdr (A .heap) B) 5=.int .u32 S.once from rfl] at h5
 cases hi:S.init with
 |true =>
  unfold AS.once at h5
  rw [hi,if_pos rfl] at h5
  refine (r_Do1 h5).mono fun v s hs=>?_
  subst hs
  refine ⟨B,rfl,?_⟩
  have:({ S with init:=true }:AS)=S:=by cases S;simp only at hi;subst hi;rfl
  rw [this];exact h
 |false =>
  unfold AS.once at h5
  rw [hi,if_neg (by simp)] at h5
  have h6:=ARb.c h (k:=6) (by omega)
  obtain ⟨s1,hs1,R1,n1⟩:=ARb.store h (by rfl) (k:=6) (v:=.int .i32 1) (by omega) rfl
  have h51:=ARb.c R1 (k:=5) (by omega)
  have hb:=ARb.bx R1 (k:=0) (by omega)
  have R2:=R1.newMap hi (hm hi)
  obtain ⟨s3,hs3,R3,n3⟩:=ARb.store R2 (by simp [AS.hdr]) (k:=8) (v:=.map (some s1.next)) (by omega) rfl
  have h53:=ARb.c R3 (k:=5) (by omega)
  obtain ⟨s4,hs4,R4,n4⟩:=ARb.store R3 (by simp [AS.hdr]) (k:=5) (v:=.int .u32 1) (by omega) rfl
  have h64:=ARb.c R4 (k:=6) (by omega)
  obtain ⟨s5,hs5,R5,n5⟩:=ARb.store R4 (by simp [AS.hdr]) (k:=6) (v:=.int .i32 0) (by omega) rfl
  have e5:S.once=0:=by unfold AS.once;rw [hi];rfl
  refine (r_Do0 (b:=b) h5 h6 hs1 ?_ hb hs3 ?_ hs4 h64 hs5).mono fun v s hs=>?_
  ·rw [h51];simp [AS.hdr,lst,e5]
  ·refine Eq.trans h53 ?_;simp [AS.hdr,lst,e5]
  ·subst hs
   refine ⟨fun i=>if i=AI.marks then s1.next else B i,rfl,?_⟩
   have e:AS.hdr { S with init:=true } (A .heap) (fun i=>if i=AI.marks then s1.next else B i)=(((((S.hdr (A .heap) B).set 6 (.int .i32 1)).set 8 (.map (some s1.next))).set 5 (.int .u32 1)).set 6 (.int .i32 0)):=by
    simp [AS.hdr,AS.chunksV,AS.marksV,AS.standV,AS.marks,AS.stand,AS.once]
   rw [e];exact R5
end
noncomputable section
variable {σ σ':St} {A:Slot -> Nat} {H:Heap} {B:AI -> Nat} {S:AS}
def markA (S:AS):AS:={ S with init:=true,ms:=S.ms++[⟨S.made,S.chunks.length,S.taken,S.used⟩],hasS:=true,made:=S.made+1 }
theorem find_mk (l:List Mk):∀ (i n:Nat),(∀ m∈l,m.n≠n) -> mapFind .int (.int .i64 n) (l.map Mk.e) i=some none:=by
 induction l with
 |nil=>intro i n _;rfl
 |cons m r ih =>
  intro i n h
  have h1:=h m (List.mem_cons_self ..)
  have e:keyEq .int (.int .i64 (n:Int)) (.int .i64 (m.n:Int))=some false:=by
   unfold keyEq
   simp;omega
  rw [List.map_cons]
  show mapFind .int (.int .i64 n) ((.int .i64 m.n,_) :: r.map Mk.e) i=some none
  unfold mapFind
  rw [e]
  exact ih (i+1) n fun x hx=>h x (List.mem_cons_of_mem _ hx)
abbrev ARc (σ:St) (A:Slot -> Nat) (H:Heap) (B:AI -> Nat) (S:AS) (l:List V) (b n:Nat) (f:Nat -> V) (b' n':Nat) (f':Nat -> V):Prop :=
 Wd σ (Sum.elim (Sum.elim (Sum.elim H.has S.has) fun _:Unit=>True) fun _:Unit=>True) (Sum.elim (Sum.elim (Sum.elim A B) fun _=>b) fun _=>b') (Sum.elim (Sum.elim (Sum.elim (heapC H A) (S.contH l)) fun _=>.row n f) fun _=>.row n' f')
section
variable {l:List V} {b n b' n':Nat} {f f':Nat -> V}
theorem ARc.c (h:ARc σ A H B S l b n f b' n' f') {k:Nat} (hk:k<11):σ.cell (B .arena) k=some (lst l k):=Wd.cell h (i:=.inl (.inl (.inr .arena))) trivial rfl hk
theorem ARc.x (h:ARc σ A H B S l b n f b' n' f') {k:Nat} (hk:k<n):σ.cell b k=some (f k):=Wd.cell h (i:=.inl (.inr ())) trivial rfl hk
theorem ARc.y (h:ARc σ A H B S l b n f b' n' f') {k:Nat} (hk:k<n'):σ.cell b' k=some (f' k):=Wd.cell h (i:=.inr ()) trivial rfl hk
theorem ARc.store (h:ARc σ A H B S l b n f b' n' f') (hl:l.length=11) {k:Nat} {v:V} (hk:k<11) (hf:v.flat=true):∃ s,σ.store (B .arena) k [v]=some s /\ ARc s A H B S (l.set k v) b n f b' n' f' /\ s.next=σ.next:=by
 obtain ⟨s,e,W,hn⟩:=Wd.setL h (i:=Sum.inl (Sum.inl (Sum.inr AI.arena))) trivial (n:=11) (l:=l) rfl hl hk hf
 refine ⟨s,e,W.sub id (fun _ h=>h) (fun _ _ _ _ e=>e) (fun _ _=>rfl) ?_,hn⟩
 rintro (((i | i) | i) | i) hi
 ·left;show _=updG _ _ _ _;rw [updG_ne (by intro h;cases h)];rfl
 ·cases i with
  |arena=>left;exact updG_same.symm
  |_=>left;show _=updG _ _ _ _;rw [updG_ne (by intro h;cases h)];rfl
 ·left;show _=updG _ _ _ _;rw [updG_ne (by intro h;cases h)];rfl
 ·left;show _=updG _ _ _ _;rw [updG_ne (by intro h;cases h)];rfl
theorem ARc.mark (h:ARc σ A H B S l b n f b' n' f') (hi:S.init=true) (hnil:S.hasS=false -> S.ms=[]) (hms:S.ms.length <= 10000000000000) (m:Mk) :
  ∃ s3,s3={ σ with objs:=σ.objs.set (B .marks) (.map (S.ms.map Mk.e++[m.e])) } /\ σ.objs.get (B .marks)=some (.map (S.ms.map Mk.e)) ∧
   (∀ k,k<11 -> s3.cell (B .arena) k=some (lst l k) /\ (s3.newCells [.int .i64 m.n]).cell (B .arena) k=some (lst l k)) ∧
   (∀ k,k<n -> s3.cell b k=some (f k) /\ (s3.newCells [.int .i64 m.n]).cell b k=some (f k)) ∧
   (∀ k,k<n' -> s3.cell b' k=some (f' k) /\ (s3.newCells [.int .i64 m.n]).cell b' k=some (f' k)) ∧
   ∃ c s5,AM.appendV (s3.newCells [.int .i64 m.n]) 1 8 (S.standV B) (.slice (some (s3.next,0)) 1 1)=some (.slice (some (c,0)) (S.ms.length+1) 1,s5) ∧
    ARc s5 A H (fun i=>if i=.stand then c else B i) { S with ms:=S.ms++[m],hasS:=true } l b n f b' n' f':=by
 have hmk:S.marks=some (S.ms.map Mk.e):=by unfold AS.marks;rw [if_pos hi]
 have hhas:S.has .marks:=by show S.marks.isSome=true;rw [hmk];rfl
 have hget:=Wd.map h (i:=Sum.inl (Sum.inl (Sum.inr AI.marks))) hhas (es:=S.ms.map Mk.e) (by show Cont.map (S.marks.getD [])=_;rw [hmk];rfl)
 have W3:=Wd.setMap h (i:=Sum.inl (Sum.inl (Sum.inr AI.marks))) hhas (es:=S.ms.map Mk.e) (es':=S.ms.map Mk.e++[m.e]) (by show Cont.map (S.marks.getD [])=_;rw [hmk];rfl)
 have W4:=W3.new (.cells false 0 [V.int .i64 m.n].length [] (ofList [V.int .i64 m.n])) rfl
 refine ⟨_,rfl,hget,?_,?_,?_,?_⟩
 ·intro k hk
  exact ⟨Wd.cell W3 (i:=.inl (.inl (.inr .arena))) trivial (n:=11) (f:=lst l) (by rw [updG_ne (by intro h;cases h)];rfl) hk,Wd.cell W4 (i:=.inl (.inl (.inr .arena))) trivial (n:=11) (f:=lst l) (by rw [updG_ne (by intro h;cases h)];rfl) hk⟩
 ·intro k hk
  exact ⟨Wd.cell W3 (i:=.inl (.inr ())) trivial (n:=n) (f:=f) (by rw [updG_ne (by intro h;cases h)];rfl) hk,Wd.cell W4 (i:=.inl (.inr ())) trivial (n:=n) (f:=f) (by rw [updG_ne (by intro h;cases h)];rfl) hk⟩
 ·intro k hk
  exact ⟨Wd.cell W3 (i:=.inr ()) trivial (n:=n') (f:=f') (by rw [updG_ne (by intro h;cases h)];rfl) hk,Wd.cell W4 (i:=.inr ()) trivial (n:=n') (f:=f') (by rw [updG_ne (by intro h;cases h)];rfl) hk⟩
 ·obtain ⟨c,s5,ha,W5⟩:=Wd.push W3 (i0:=Sum.inl (Sum.inl (Sum.inr AI.stand))) (xl:=S.ms.length) (esz:=1) (bytes:=8) (f:=fun i=>.int .i64 (S.stand.getD i 0)) (vs:=[V.int .i64 m.n]) (sl:=S.standV B) (by
   unfold AS.standV
   have hsl:S.stand.length=S.ms.length:=by unfold AS.stand;simp
   by_cases c:S.hasS=true
   ·rw [if_pos c,hsl]
    refine .inl ⟨c,rfl,?_⟩
    rw [updG_ne (by intro h;cases h),Nat.mul_one, <- hsl];rfl
   ·rw [if_neg c];refine .inr ⟨c,rfl,?_⟩
    rw [hnil (by simpa using c)];rfl) (by omega) rfl (by unfold maxLenBytes;omega) (by unfold maxLenBytes;omega) rfl
  refine ⟨c,s5,ha,W5.sub id ?_ (fun _ _ _ _ e=>e) ?_ ?_⟩
  ·rintro (((i | i) | i) | i) hh
   ·exact .inl hh
   ·cases i with
    |stand=>exact .inr rfl
    |marks=>exact .inl hhas
    |_=>exact .inl hh
   ·exact .inl hh
   ·exact .inl hh
  ·rintro (((i | i) | i) | i) hh
   ·show _=updG _ _ _ _;rw [updG_ne (by intro h;cases h)];rfl
   ·cases i with
    |stand=>exact updG_same.symm
    |_=>show _=updG _ _ _ _;rw [updG_ne (by intro h;cases h)];rfl
   ·show _=updG _ _ _ _;rw [updG_ne (by intro h;cases h)];rfl
   ·show _=updG _ _ _ _;rw [updG_ne (by intro h;cases h)];rfl
  ·rintro (((i | i) | i) | i) hh
   ·left;show _=updG _ _ _ _;rw [updG_ne (by intro h;cases h),updG_ne (by intro h;cases h)];rfl
   ·cases i with
    |stand =>
     right
     have hsl:S.stand.length=S.ms.length:=by unfold AS.stand;simp
     refine ⟨_,_,(AS.stand { S with ms:=S.ms++[m],hasS:=true }).length,fun i=>.int .i64 ((AS.stand { S with ms:=S.ms++[m],hasS:=true }).getD i 0),updG_same ..,rfl,(by unfold AS.stand;simp),?_⟩
     intro j hj
     have hj':j<S.ms.length+1:=by unfold AS.stand at hj;simpa using hj
     have hst:AS.stand { S with ms:=S.ms++[m],hasS:=true }=S.stand++[(m.n:Int)]:=by unfold AS.stand;simp
     simp only
     rw [hst,Nat.mul_one]
     by_cases cj:j<S.ms.length
     ·rw [if_pos cj]
      simp [List.getD_eq_getElem?_getD,List.getElem?_append_left (show j<S.stand.length by omega)]
     ·rw [if_neg cj,show j=S.ms.length by omega,Nat.sub_self]
      simp [List.getD_eq_getElem?_getD, <- hsl,lst]
    |marks =>
     left;show _=updG _ _ _ _;rw [updG_ne (by intro h;cases h)]
     refine Eq.trans ?_ updG_same.symm
     show Cont.map (AS.marks { S with ms:=S.ms++[m],hasS:=true } |>.getD [])=_
     unfold AS.marks
     simp [hi]
    |_=>left;show _=updG _ _ _ _;rw [updG_ne (by intro h;cases h),updG_ne (by intro h;cases h)];rfl
   ·left;show _=updG _ _ _ _;rw [updG_ne (by intro h;cases h),updG_ne (by intro h;cases h)];rfl
   ·left;show _=updG _ _ _ _;rw [updG_ne (by intro h;cases h),updG_ne (by intro h;cases h)];rfl
end
def mapUpd (kk:Kk) (mv kv vv:V) (σ:St):Option (V × St):=match mv with
 | .map (some r)=>match σ.objs.get r with
  |some (.map es)=>match mapFind kk kv es 0 with
   |none=>none
   |some none=>some (.undef, { σ with objs:=σ.objs.set r (.map (es++[(kv,vv)])) })
   |some (some (i,_))=>some (.undef, { σ with objs:=σ.objs.set r (.map (es.set i (kv,vv))) })
  |_=>none
 |_=>none
theorem wr_mapUpdate {kk:Kk} {m k v:AM.Opd} {tm:T V}:AM.writeOp (.mapUpdate kk m k v) tm σ=mapUpd kk (m.eval tm) (k.eval tm) (v.eval tm) σ:=rfl
theorem chH {n:Nat} {z:List V} {es:List (Dfs × St)} {d:Dfs} (hz:sameL z z=true) (hn:z.length=n):checkH σ.next z 0 0 ((d,σ.new (.cells false 0 n z .nil)) :: es)=true:=by
 have hg:(σ.new (.cells false 0 n z .nil)).objs.get σ.next=some (.cells false 0 n z .nil):=by simp only [St.new,T.get_set,if_true]
 have rest:∀ (es:List (Dfs × St)) (m:Nat),0<m -> checkH σ.next z 0 m es=true:=by
  intro es
  induction es with
  |nil=>intro m _;rfl
  |cons e r ih =>
   intro m hm
   simp only [checkH,show ¬ m <= 0 by omega,if_false,Bool.true_and]
   exact ih (m+1) (by omega)
 simp only [checkH,Nat.le_refl,if_true,hg,hz,hn,beq_self_eq_true,Bool.true_and]
 exact rest es 1 (by omega)
theorem r_Mark (h:AR σ A H B S) (hS:S.OK) (hm:S.init=false -> S.ms=[]) (hl:∀ m∈S.ms,m.n<S.made) (hmade:S.made<10000000000000) (hms:S.ms.length <= 10000000000000) :
  Runs G0 [] 40 [.ptr (some (B .arena,0))] σ fun r s=>∃ B',r=.int .i64 S.made /\ AR s A H B' (markA S) /\ B' .arena=B .arena:=by
 refine runs_body g40 rfl ?_
 obtain ⟨ar,har⟩:∃ ar,B .arena=ar:=⟨_,rfl⟩
 have L:=Lcl.of_cells σ [.ptr (some (ar,0))]
 have W0:AH (σ.newCells [.ptr (some (ar,0))]) A H B S (S.hdr (A .heap) B):=Wd.new (AR.h h) _ rfl
 have W1:ARb (σ.newCells [.ptr (some (ar,0))]) A H B S (S.hdr (A .heap) B) σ.next 1 (lst [.ptr (some (ar,0))]):=Wd.box W0 L fun i hi e=>by
  have:=Wd.lt h hi;omega
 obtain ⟨v,s1,⟨B1,hB1,W2⟩,hr1⟩:=r_DoA har W1 hm
 have b0:=ARb.bx W1 (k:=0) (by omega)
 rw [har]
 generalize hbx:σ.next=bx at *
 have e1:(V.ptr (some (ar,0))).cells=[V.ptr (some (ar,0))]:=rfl
 have b0':(σ.newCells [.ptr (some (ar,0))]).cell bx 0=some (.ptr (some (ar,0))):=b0
 simp -implicitDefEqProofs only[go_sem,e1,List.length_cons,List.length_nil,hbx,b0']
 refine runs_ret hr1 ?_
 obtain ⟨Sx,hSx⟩:∃ Sx:AS,Sx={ S with init:=true }:=⟨_,rfl⟩
 rw [<- hSx] at W2
 obtain ⟨z0,hz0⟩:∃ z0,z0=[V.int .i64 0,V.int .i64 0,V.int .u64 0,V.int .u64 0]:=⟨_,rfl⟩
 obtain ⟨vs,hvs⟩:∃ vs,vs=[V.int .i64 S.made,V.int .i64 S.chunks.length,V.int .u64 S.taken,V.int .u64 S.used]:=⟨_,rfl⟩
 have hst:=new_store (σ:=s1) (z:=z0) (vs:=vs) (n:=4) (by rw [hvs];simp) (by rw [hvs];rfl)
 have W1n:ARb (s1.new (.cells false 0 4 z0 .nil)) A H B1 Sx (Sx.hdr (A .heap) B1) bx 1 (lst [.ptr (some (ar,0))]):=Wd.new W2 _ rfl
 have L2:=Lcl.lay s1 4 z0 vs (by rw [hvs];rfl)
 have W2n:ARb (s1.lay 4 z0 vs) A H B1 Sx (Sx.hdr (A .heap) B1) bx 1 (lst [.ptr (some (ar,0))]):=Wd.lay W2 (by rw [hvs];simp) (by rw [hvs];rfl)
 have W3:ARc (s1.lay 4 z0 vs) A H B1 Sx (Sx.hdr (A .heap) B1) bx 1 (lst [.ptr (some (ar,0))]) s1.next 4 (lst vs):=Wd.box W2n L2 fun i hi e=>by
  have:=Wd.lt W2 hi;omega
 have b1:(s1.new (.cells false 0 4 z0 .nil)).cell bx 0=some (.ptr (some (ar,0))):=ARb.bx W1n (k:=0) (by omega)
 have k2:=ARb.c W1n (k:=2) (by omega)
 have k3:=ARb.c W1n (k:=3) (by omega)
 have k4:=ARb.c W1n (k:=4) (by omega)
 have k10:=ARb.c W1n (k:=10) (by omega)
 rw [hB1] at k2 k3 k4 k10
 obtain ⟨q,z,hV⟩:∃ q z,Sx.chunksV B1=.slice q S.chunks.length z:=by
  rw [hSx]
  unfold AS.chunksV
  by_cases c:S.hasC=true
  ·rw [if_pos c];exact ⟨_,_,rfl⟩
  ·rw [if_neg c]
   have:=hS.nil (by simpa using c)
   exact ⟨none,0,by rw [this];rfl⟩
 rw [show lst (Sx.hdr (A .heap) B1) 2=Sx.chunksV B1 from rfl,hV] at k2
 rw [show lst (Sx.hdr (A .heap) B1) 3=.int .u64 S.taken by rw [hSx];rfl] at k3
 rw [show lst (Sx.hdr (A .heap) B1) 4=.int .u64 S.used by rw [hSx];rfl] at k4
 rw [show lst (Sx.hdr (A .heap) B1) 10=.int .i64 S.made by rw [hSx];rfl] at k10
 have f1:fillP z0 [(0,1,V.int .i64 S.made),(1,1,V.int .i64 S.chunks.length),(2,1,V.int .u64 S.taken),(3,1,V.int .u64 S.used)]=some vs:=by rw [hz0,hvs];rfl
 have zl:z0.length=4:=by rw [hz0];rfl
 have vl:vs.length=4:=by rw [hvs];rfl
 have zz:sameL z0 z0=true:=by rw [hz0];rfl
 have ch:=chH (σ:=s1) (n:=4) (z:=z0) (d:=[]) (es:=[([],s1.lay 4 z0 vs)]) zz zl
 obtain ⟨m,hm0⟩:∃ m:Mk,m=⟨S.made,S.chunks.length,S.taken,S.used⟩:=⟨_,rfl⟩
 have hme:m.e=(.int .i64 S.made,.agg vs):=by rw [hm0,hvs];rfl
 have hmn:m.n=S.made:=by rw [hm0]
 obtain ⟨s3,hs3,hmap,c3,x3,y3,bs,s5,hap,W5⟩:=ARc.mark W3 (by rw [hSx]) (by
  intro h
  rw [hSx] at h ⊢
  have:=hS.nilS h
  unfold AS.stand at this;simpa using this) (by rw [hSx];exact hms) m
 have c2a:=fun k (hk:k<11)=>ARc.c W3 (k:=k) hk
 have b2:(s1.lay 4 z0 vs).cell bx 0=some (.ptr (some (ar,0))):=ARc.x W3 (k:=0) (by omega)
 have y2:=ARc.y W3 (k:=0) (by omega)
 have y2l:=Wd.load W3 (i:=.inr ()) trivial (n:=4) (f:=lst vs) rfl (off:=0) (k:=4) (by omega)
 have y2l':(s1.lay 4 z0 vs).load s1.next 0 4=some vs:=by
  refine Eq.trans y2l ?_
  rw [hvs];rfl
 rw [show lst vs 0=.int .i64 S.made by rw [hvs];rfl] at y2
 have j2:=c2a 2 (by omega)
 have j3:=c2a 3 (by omega)
 have j4:=c2a 4 (by omega)
 have j8:=c2a 8 (by omega)
 have j10:=c2a 10 (by omega)
 rw [hB1] at j2 j3 j4 j8 j10
 rw [show lst (Sx.hdr (A .heap) B1) 2=Sx.chunksV B1 from rfl,hV] at j2
 rw [show lst (Sx.hdr (A .heap) B1) 3=.int .u64 S.taken by rw [hSx];rfl] at j3
 rw [show lst (Sx.hdr (A .heap) B1) 4=.int .u64 S.used by rw [hSx];rfl] at j4
 rw [show lst (Sx.hdr (A .heap) B1) 8=.map (some (B1 .marks)) by rw [hSx];unfold AS.hdr AS.marksV AS.marks;simp [lst]] at j8
 rw [show lst (Sx.hdr (A .heap) B1) 10=.int .i64 S.made by rw [hSx];rfl] at j10
 have hup:mapUpd .int (.map (some (B1 .marks))) (.int .i64 S.made) (.agg vs) (s1.lay 4 z0 vs)=some (.undef,s3):=by
  unfold mapUpd
  simp only [hmap]
  rw [find_mk _ 0 S.made (fun x hx=>by
   have:=hl x (by rw [hSx] at hx;exact hx)
   omega)]
  rw [hs3,hme]
 generalize hs2:s1.lay 4 z0 vs=s2 at *
 have hx0:lst [V.ptr (some (ar,0))] 0=.ptr (some (ar,0)):=rfl
 have hy0:lst vs 0=.int .i64 S.made:=by rw [hvs];rfl
 obtain ⟨p1,p2⟩:=x3 0 (by omega)
 obtain ⟨u1,u2⟩:=y3 0 (by omega)
 obtain ⟨w1,w2⟩:=c3 8 (by omega)
 obtain ⟨w3,w4⟩:=c3 9 (by omega)
 rw [hx0] at p1 p2
 rw [hy0] at u1 u2
 rw [hB1,show lst (Sx.hdr (A .heap) B1) 9=Sx.standV B1 from rfl] at w3 w4
 rw [hB1,show lst (Sx.hdr (A .heap) B1) 8=.map (some (B1 .marks)) by rw [hSx];unfold AS.hdr AS.marksV AS.marks;simp [lst]] at w1 w2
 have g1:fillP (repeatZ [V.int .i64 0] 1) [(0,1,V.int .i64 S.made)]=some [V.int .i64 S.made]:=rfl
 rw [hmn] at hap p2 u2 w2 w4
 have p5:=ARc.x W5 (k:=0) (by omega)
 rw [hx0] at p5
 obtain ⟨s6,hs6,W6,hn6⟩:=ARc.store W5 (by rfl) (k:=9) (v:=.slice (some (bs,0)) (Sx.ms.length+1) 1) (by omega) rfl
 have p6:=ARc.x W6 (k:=0) (by omega)
 rw [hx0] at p6
 have y6:=ARc.y W6 (k:=0) (by omega)
 have c6:=ARc.c W6 (k:=10) (by omega)
 obtain ⟨s7,hs7,W7,hn7⟩:=ARc.store W6 (by simp [AS.hdr]) (k:=10) (v:=.int .i64 (S.made+1:Nat)) (by omega) rfl
 have y7:=ARc.y W7 (k:=0) (by omega)
 rw [hy0] at y6 y7
 have hB5:(if AI.arena=AI.stand then bs else B1 AI.arena)=ar:=hB1
 rw [hB5] at hs6 hs7 c6
 have c6':s6.cell ar 10=some (.int .i64 S.made):=by rw [c6,hSx];rfl
 have eu:IntKind.i64.wrap ((S.made:Int)+1)=((S.made+1:Nat):Int):=i64_add (b:=1) (by omega)
 simp -implicitDefEqProofs only[go_sem,e1,<- hz0,zl,vl,List.length_cons,List.length_nil,b1,k2,k3,k4,k10,evalParts,f1,vcells_agg,hst,b2,j2,j3,j4,j8,j10,y2,y2l',wr_mapUpdate,hup,ch,p1,p2,u1,u2,w1,w2,w3,w4,g1,hap,vcells_slice,vcells_int,hs6,hs7,c6',p5,p6,y6,y7,eu]
 refine ⟨fun i=>if i=AI.stand then bs else B1 i,AH.ar ?_,hB1⟩
 subst hSx hm0
 have W8:=Wd.left (Wd.left W7)
 have e:AS.hdr (markA S) (A .heap) (fun i=>if i=AI.stand then bs else B1 i)=(((AS.hdr { S with init:=true } (A .heap) B1).set 9 (.slice (some (bs,0)) (S.ms.length+1) 1)).set 10 (.int .i64 (S.made+1:Nat))):=by
  simp [AS.hdr,markA,AS.chunksV,AS.marksV,AS.standV,AS.marks,AS.stand,AS.once]
 rw [e]
 exact W8
end
noncomputable section
variable {σ σ':St} {A:Slot -> Nat} {H H':Heap} {B:AI -> Nat} {S S':AS}
abbrev ARx {κ:Type} (σ:St) (A:Slot -> Nat) (H:Heap) (B:AI -> Nat) (S:AS) (hasK:κ -> Prop) (AK:κ -> Nat) (cK:κ -> Cont):Prop :=
 Wd σ (Sum.elim (Sum.elim H.has S.has) hasK) (Sum.elim (Sum.elim A B) AK) (Sum.elim (Sum.elim (heapC H A) (S.cont (A .heap) B)) cK)
section
variable {κ:Type} {hasK:κ -> Prop} {AK:κ -> Nat} {cK:κ -> Cont}
theorem ARx.call {g:FuncId} {xs:List V} {P:V -> (Slot -> Nat) -> (AI -> Nat) -> Prop} (h:ARx σ A H B S hasK AK cK)
  (spec:∀ σ,AR σ A H B S -> Runs G0 [] g xs σ fun v σ'=>∃ A' B',AR σ' A' H' B' S' /\ P v A' B') :
  Runs G0 [] g xs σ fun v σ'=>∃ A' B',ARx σ' A' H' B' S' hasK AK cK /\ P v A' B':=by
 refine (Wd.call (Γ:=G0) (Γ':=G0) (M:=[]) (P:=fun v has' A' c'=>∃ a b,has'=Sum.elim H'.has S'.has /\ A'=Sum.elim a b /\ c'=Sum.elim (heapC H' a) (S'.cont (a .heap) b) /\ P v a b) (fun _ _ h=>h) (fun _ h=>nomatch h) h fun s w=>(spec s w).mono ?_).mono ?_
 ·rintro v s' ⟨A',B',R,hp⟩
  exact ⟨_,_,_,R,A',B',rfl,rfl,rfl,hp⟩
 ·rintro v s' ⟨has',A',c',w,a,b,rfl,rfl,rfl,hp⟩
  exact ⟨a,b,w,hp⟩
end
def clearV (mv:V) (σ:St):Option (V × St):=match mv with
 | .map none=>some (.tuple [],σ)
 | .map (some r)=>match σ.objs.get r with | some (.map _)=>some (.tuple [], { σ with objs:=σ.objs.set r (.map []) }) | _=>none
 |_=>none
theorem wr_clearM {m:AM.Opd} {tm:T V}:AM.writeOp (.clearM m) tm σ=clearV (m.eval tm) σ:=rfl
def lookV (kk:Kk) (z:V) (ok:Bool) (mv kv:V) (σ:St):Option V:=match (match mv with
   | .map none=>some []
   | .map (some r)=>match σ.objs.get r with | some (.map es)=>some es | _=>none
   |_=>none:Option (List (V × V))) with
  |none=>none
  |some es=>match mapFind kk kv es 0 with
   |none=>none
   |some r=>match r with
    |none=>some (if ok then .tuple [z,.bool false] else z)
    |some (_,v)=>some (if ok then .tuple [v,.bool true] else v)
theorem rd_lookup {kk:Kk} {z:V} {ok:Bool} {m k:AM.Opd} {tm:T V}:AM.readOp (.lookup kk z ok m k) tm σ=lookV kk z ok (m.eval tm) (k.eval tm) σ:=rfl
def delV (kk:Kk) (mv kv:V) (σ:St):Option (V × St):=match mv with
  | .map (some r)=>match σ.objs.get r with
   |some (.map es)=>match mapFind kk kv es 0 with
    |none=>none
    |some none=>some (.tuple [], { σ with objs:=σ.objs.set r (.map es) })
    |some (some (i,_))=>some (.tuple [], { σ with objs:=σ.objs.set r (.map (es.eraseIdx i)) })
   |_=>none
  |_=>none
def resetA (S:AS):AS:={ S with chunks:=[],taken:=0,used:=0,ms:=[],hasS:=false }
theorem r_Reset (h:AR σ A H B S) (hg:Good H) (hS:S.OK) :
  Runs G0 [] 43 [.ptr (some (B .arena,0))] σ fun r s=>AR s A (freeAll H (cutL S 0)) B (resetA S):=by
 refine runs_body g43 rfl ?_
 obtain ⟨v,s1,R1,hr1⟩:=r_arCut h hg hS (n:=0) (Nat.zero_le _)
 rw [List.take_zero] at R1
 obtain ⟨s2,hs2,R2,_⟩:=(AR.h R1).store (by rfl) (k:=3) (v:=.int .u64 0) (by omega) rfl
 obtain ⟨s3,hs3,R3,_⟩:=R2.store (by simp [AS.hdr]) (k:=4) (v:=.int .u64 0) (by omega) rfl
 have m8:=R3.c (k:=8) (by omega)
 have m8':s3.cell (B .arena) 8=some (S.marksV B):=by rw [m8];rfl
 have key:∃ s4,clearV (S.marksV B) s3=some (.tuple [],s4) /\ AH s4 A (freeAll H (cutL S 0)) B { S with chunks:=[],taken:=0,used:=0,ms:=[],hasS:=false } (((AS.hdr { S with chunks:=[] } (A .heap) B).set 3 (.int .u64 0)).set 4 (.int .u64 0)):=by
  unfold AS.marksV AS.marks
  by_cases c:S.init=true
  ·rw [if_pos c]
   simp only [Option.isSome_some,if_true]
   have hmk:S.marks=some (S.ms.map Mk.e):=by unfold AS.marks;rw [if_pos c]
   have hhas:AS.has { S with chunks:=[] } .marks:=by show S.marks.isSome=true;rw [hmk];rfl
   have hget:=Wd.map R3 (i:=(Sum.inr AI.marks:Slot ⊕ AI)) hhas (es:=S.ms.map Mk.e) (by show Cont.map (S.marks.getD [])=_;rw [hmk];rfl)
   have W:=Wd.setMap R3 (i:=(Sum.inr AI.marks:Slot ⊕ AI)) hhas (es:=S.ms.map Mk.e) (es':=[]) (by show Cont.map (S.marks.getD [])=_;rw [hmk];rfl)
   have hget':s3.objs.get (B .marks)=some (.map (S.ms.map Mk.e)):=hget
   refine ⟨_,by unfold clearV;simp only [hget'];rfl,W.sub id ?_ (fun _ _ _ _ e=>e) (fun _ _=>rfl) ?_⟩
   ·rintro (i | i) hh
    ·exact hh
    ·cases i with
     |stand=>exact nomatch (show false=true from hh)
     |marks=>exact hhas
     |_=>exact hh
   ·rintro (i | i) hh
    ·left;show _=updG _ _ _ _;rw [updG_ne (by intro h;cases h)];rfl
    ·cases i with
     |stand=>exact nomatch (show false=true from hh)
     |marks =>
      left
      refine Eq.trans ?_ updG_same.symm
      show Cont.map ((AS.marks { S with chunks:=[],taken:=0,used:=0,ms:=[],hasS:=false }).getD [])=_
      unfold AS.marks;simp [c]
     |_=>left;show _=updG _ _ _ _;rw [updG_ne (by intro h;cases h)];rfl
  ·rw [if_neg c]
   refine ⟨s3,rfl,R3.sub id ?_ (fun _ _ _ _ e=>e) (fun _ _=>rfl) ?_⟩
   ·rintro (i | i) hh
    ·exact hh
    ·cases i with
     |stand=>exact nomatch (show false=true from hh)
     |marks =>
      exfalso
      have:(AS.marks { S with chunks:=[],taken:=0,used:=0,ms:=[],hasS:=false }).isSome=true:=hh
      unfold AS.marks at this;simp [c] at this
     |_=>exact hh
   ·rintro (i | i) hh
    ·exact .inl rfl
    ·cases i with
     |stand=>exact nomatch (show false=true from hh)
     |marks =>
      exfalso
      have:(AS.marks { S with chunks:=[],taken:=0,used:=0,ms:=[],hasS:=false }).isSome=true:=hh
      unfold AS.marks at this;simp [c] at this
     |_=>exact .inl rfl
 obtain ⟨s4,hcl,R4⟩:=key
 obtain ⟨s5,hs5,R5,_⟩:=R4.store (by simp [AS.hdr]) (k:=9) (v:=.slice none 0 0) (by omega) rfl
 rw [show ((0:Nat):Int)=0 from rfl] at hr1
 simp -implicitDefEqProofs only[go_sem]
 refine runs_ret hr1 ?_
 simp -implicitDefEqProofs only[go_sem,vcells_int,vcells_slice,List.length_cons,List.length_nil,hs2,hs3,m8',wr_clearM,hcl,hs5]
 refine AH.ar ?_
 have e:AS.hdr (resetA S) (A .heap) B=((((AS.hdr { S with chunks:=[] } (A .heap) B).set 3 (.int .u64 0)).set 4 (.int .u64 0)).set 9 (.slice none 0 0)):=by
  by_cases c:S.hasC=true <;> simp [AS.hdr,resetA,AS.chunksV,AS.marksV,AS.standV,AS.marks,AS.stand,AS.once,c]
 rw [e]
 exact R5
end
noncomputable section
variable {σ σ':St} {A:Slot -> Nat} {H H':Heap} {B:AI -> Nat} {S S':AS}
theorem wr_delete {kk:Kk} {m k:AM.Opd} {tm:T V}:AM.writeOp (.delete kk m k) tm σ=delV kk (m.eval tm) (k.eval tm) σ:=rfl
theorem find_at (pre:List Mk):∀ (m:Mk) (suf:List Mk) (i:Nat),(∀ x∈pre,x.n≠m.n) -> mapFind .int (.int .i64 m.n) ((pre++m :: suf).map Mk.e) i=some (some (i+pre.length,m.e.2)):=by
 induction pre with
 |nil =>
  intro m suf i _
  show mapFind .int (.int .i64 m.n) ((.int .i64 m.n,m.e.2) :: suf.map Mk.e) i=_
  unfold mapFind
  rw [show keyEq .int (.int .i64 (m.n:Int)) (.int .i64 (m.n:Int))=some true by unfold keyEq;simp]
  rfl
 |cons x r ih =>
  intro m suf i h
  have h1:=h x (List.mem_cons_self ..)
  show mapFind .int (.int .i64 m.n) ((.int .i64 x.n,x.e.2) :: (r++m :: suf).map Mk.e) i=_
  unfold mapFind
  rw [show keyEq .int (.int .i64 (m.n:Int)) (.int .i64 (x.n:Int))=some false by unfold keyEq;simp;omega]
  simp only
  rw [ih m suf (i+1) fun y hy=>h y (List.mem_cons_of_mem _ hy)]
  simp;omega
theorem find_no (l:List Mk):∀ (i:Nat) (n:Int),(∀ m∈l,(m.n:Int)≠n) -> mapFind .int (.int .i64 n) (l.map Mk.e) i=some none:=by
 induction l with
 |nil=>intro i n _;rfl
 |cons m r ih =>
  intro i n h
  have h1:=h m (List.mem_cons_self ..)
  show mapFind .int (.int .i64 n) ((.int .i64 m.n,m.e.2) :: r.map Mk.e) i=some none
  unfold mapFind
  rw [show keyEq .int (.int .i64 n) (.int .i64 (m.n:Int))=some false by unfold keyEq;simp;omega]
  exact ih (i+1) n fun x hx=>h x (List.mem_cons_of_mem _ hx)
theorem erase_last {α:Type} (l:List α) (x:α) (k:Nat) (h:l.length=k):(l++[x]).eraseIdx k=l:=by
 subst h
 rw [List.eraseIdx_append_of_length_le (Nat.le_refl _),Nat.sub_self];simp
structure MsOk (S:AS):Prop where
 rise:S.ms.Pairwise fun a b=>a.n<b.n /\ a.chunks <= b.chunks
 lt:∀ m∈S.ms,m.n<S.made
 le:∀ m∈S.ms,m.chunks <= S.chunks.length
 nil:S.init=false -> S.ms=[]
 nums:∀ m∈S.ms,m.taken <= 8388608 /\ m.used<18446744073709551616
def relA (S:AS) (i:Nat) (m:Mk):AS:={ S with chunks:=S.chunks.take m.chunks,taken:=m.taken,used:=m.used,ms:=S.ms.take i }
theorem r_ReleaseE (h:AR σ A H B S) (hm:MsOk S) {n:Int} (hno:∀ m∈S.ms,(m.n:Int)≠n) :
  Runs G0 [] 42 [.ptr (some (B .arena,0)),.int .i64 n] σ fun r s=>r=.int .i64 9 /\ AR s A H B S:=by
 refine runs_body g42 rfl ?_
 have k8:=(AR.h h).c (k:=8) (by omega)
 rw [show lst (S.hdr (A .heap) B) 8=S.marksV B from rfl] at k8
 have hl:∀ z,lookV .int z true (S.marksV B) (.int .i64 n) σ=some (.tuple [z,.bool false]):=by
  intro z
  unfold AS.marksV
  cases hi:S.init with
  |false =>
   have:S.marks=none:=by unfold AS.marks;rw [hi];rfl
   rw [this]
   have hmf:mapFind .int (.int .i64 n) [] 0=some none:=rfl
   unfold lookV
   simp [hmf]
  |true =>
   have hmk:S.marks=some (S.ms.map Mk.e):=by unfold AS.marks;rw [if_pos hi]
   have hhas:S.has .marks:=by show S.marks.isSome=true;rw [hmk];rfl
   have hget:=Wd.map h (i:=(Sum.inr AI.marks:Slot ⊕ AI)) hhas (es:=S.ms.map Mk.e) (by show Cont.map (S.marks.getD [])=_;rw [hmk];rfl)
   have hget':σ.objs.get (B .marks)=some (.map (S.ms.map Mk.e)):=hget
   rw [hmk]
   unfold lookV
   simp only [Option.isSome_some,if_true,hget',find_no _ 0 n hno]
 have hst:=new_store (σ:=σ) (z:=[.int .i64 0,.int .i64 0,.int .u64 0,.int .u64 0]) (vs:=[.int .i64 0,.int .i64 0,.int .u64 0,.int .u64 0]) (n:=4) (by simp) rfl
 have W:AR (σ.lay 4 [.int .i64 0,.int .i64 0,.int .u64 0,.int .u64 0] [.int .i64 0,.int .i64 0,.int .u64 0,.int .u64 0]) A H B S:=Wd.lay h (by simp) rfl
 simp -implicitDefEqProofs only[go_sem,k8,rd_lookup,hl,vcells_agg,List.length_cons,List.length_nil,hst]
 exact W
theorem r_Release (h:AR σ A H B S) (hg:Good H) (hS:S.OK) (hm:MsOk S) {i:Nat} {pre suf:List Mk} {m:Mk} (hms:S.ms=pre++m :: suf) (hfew:S.ms.length <= 10000000000000) :
  Runs G0 [] 42 [.ptr (some (B .arena,0)),.int .i64 m.n] σ fun r s=>r=.int .i64 0 /\ AR s A (freeAll H (cutL S m.chunks)) B (relA S pre.length m):=by
 refine runs_body g42 rfl ?_
 have hmm:m∈S.ms:=by rw [hms];simp
 have k8:=(AR.h h).c (k:=8) (by omega)
 rw [show lst (S.hdr (A .heap) B) 8=S.marksV B from rfl] at k8
 have hi:S.init=true:=by
  cases hh:S.init with
  |true=>rfl
  |false=>rw [hm.nil hh] at hmm;cases hmm
 have hmk:S.marks=some (S.ms.map Mk.e):=by unfold AS.marks;rw [if_pos hi]
 have hhas:S.has .marks:=by show S.marks.isSome=true;rw [hmk];rfl
 have hget:=Wd.map h (i:=(Sum.inr AI.marks:Slot ⊕ AI)) hhas (es:=S.ms.map Mk.e) (by show Cont.map (S.marks.getD [])=_;rw [hmk];rfl)
 have hget':σ.objs.get (B .marks)=some (.map (S.ms.map Mk.e)):=hget
 have hrise:=hm.rise
 rw [hms,List.pairwise_append] at hrise
 have hpre:∀ x∈pre,x.n<m.n:=fun x hx=>(hrise.2.2 x hx m (List.mem_cons_self ..)).1
 have hsuf:∀ x∈suf,m.n<x.n:=fun x hx=>((List.pairwise_cons.1 hrise.2.1).1 x hx).1
 obtain ⟨vs,hvs⟩:∃ vs,vs=[V.int .i64 m.n,V.int .i64 m.chunks,V.int .u64 m.taken,V.int .u64 m.used]:=⟨_,rfl⟩
 have hl:∀ z,lookV .int z true (S.marksV B) (.int .i64 m.n) σ=some (.tuple [.agg vs,.bool true]):=by
  intro z
  unfold AS.marksV
  rw [hmk]
  unfold lookV
  simp only [Option.isSome_some,if_true,hget',hms]
  rw [find_at pre m suf 0 fun x hx=>by have:=hpre x hx;omega]
  rw [hvs];rfl
 have vl:vs.length=4:=by rw [hvs];rfl
 obtain ⟨z0,hz0⟩:∃ z0,z0=[V.int .i64 0,V.int .i64 0,V.int .u64 0,V.int .u64 0]:=⟨_,rfl⟩
 have hst:=new_store (σ:=σ) (z:=z0) (vs:=vs) (n:=4) (by rw [hvs];simp) (by rw [hvs];rfl)
 have W:AR (σ.lay 4 z0 vs) A H B S:=Wd.lay h (by rw [hvs];simp) (by rw [hvs];rfl)
 have L:=Lcl.lay σ 4 z0 vs (by rw [hvs];rfl)
 have W1:ARx (σ.lay 4 z0 vs) A H B S (fun _:Unit=>True) (fun _=>σ.next) (fun _=>.row 4 (lst vs)):=Wd.box W L fun i hi e=>by
  have:=Wd.lt h hi;omega
 have y1:=L.cell (i:=1) (by omega)
 rw [show lst vs 1=.int .i64 m.chunks by rw [hvs];rfl] at y1
 have zl:z0.length=4:=by rw [hz0];rfl
 obtain ⟨v,s2,⟨A2,B2,R2,rfl,rfl⟩,hr2⟩:=ARx.call (P:=fun _ A' B'=>A=A' /\ B=B') W1 fun s R=>(r_arCut R hg hS (hm.le m hmm)).mono fun v s' R'=>⟨A,B,R',rfl,rfl⟩
 obtain ⟨H2,hH2⟩:∃ H2,H2=freeAll H (cutL S m.chunks):=⟨_,rfl⟩
 rw [<- hH2] at R2 ⊢
 have R2b:ARb s2 A H2 B { S with chunks:=S.chunks.take m.chunks } (AS.hdr { S with chunks:=S.chunks.take m.chunks } (A .heap) B) σ.next 4 (lst vs):=by
  unfold ARx at R2;rw [AS.cont_eq] at R2;exact R2
 have y2:=ARb.bx R2b (k:=2) (by omega)
 have y3:=ARb.bx R2b (k:=3) (by omega)
 rw [show lst vs 2=.int .u64 m.taken by rw [hvs];rfl] at y2
 rw [show lst vs 3=.int .u64 m.used by rw [hvs];rfl] at y3
 obtain ⟨s3,hs3,R3,_⟩:=ARb.store R2b (by rfl) (k:=3) (v:=.int .u64 m.taken) (by omega) rfl
 have y33:=ARb.bx R3 (k:=3) (by omega)
 rw [show lst vs 3=.int .u64 m.used by rw [hvs];rfl] at y33
 obtain ⟨s4,hs4,R4,_⟩:=ARb.store R3 (by simp [AS.hdr]) (k:=4) (v:=.int .u64 m.used) (by omega) rfl
 have R5:=Wd.left R4
 have hstl:S.stand.length=S.ms.length:=by unfold AS.stand;simp
 have hhS:S.hasS=true:=by
  cases hh:S.hasS with
  |true=>rfl
  |false =>
   have:=hS.nilS hh
   rw [this] at hstl
   have:0<S.ms.length:=List.length_pos_of_mem hmm
   rw [<- hstl] at this;exact absurd this (by simp)
 have k9:=ARb.c R4 (k:=9) (by omega)
 have k9':s4.cell (B .arena) 9=some (.slice (some (B .stand,0)) S.ms.length 1):=by
  rw [k9]
  show some (S.standV B)=_
  unfold AS.standV;rw [if_pos hhS,hstl]
 simp -implicitDefEqProofs only[go_sem,k8,rd_lookup,hl,vcells_agg,List.length_cons,List.length_nil,<- hz0,vl,zl,hst,y1]
 refine runs_ret hr2 ?_
 simp -implicitDefEqProofs only[go_sem,y2,y3,vcells_int,List.length_cons,List.length_nil,hs3,hs4,y33,k9']
 have hpw:∀ i j (hi:i<S.ms.length) (hj:j<S.ms.length),i<j -> (S.ms[i]).n<(S.ms[j]).n:=fun i j hi hj hij=>(List.pairwise_iff_getElem.1 hm.rise i j hi hj hij).1
 have hpl:pre.length<S.ms.length:=by rw [hms];simp
 have hat:S.ms[pre.length]=m:=by
  have:S.ms[pre.length]?=some m:=by rw [hms];simp
  rw [List.getElem?_eq_getElem hpl] at this
  exact Option.some.inj this
 have hstA:∀ k (hk:k<S.ms.length),S.stand.getD k 0=((S.ms[k]).n:Int):=by
  intro k hk
  unfold AS.stand
  rw [List.getD_eq_getElem?_getD,List.getElem?_map,List.getElem?_eq_getElem hk];rfl
 have he1:(AS.hdr { S with chunks:=S.chunks.take m.chunks } (A .heap) B)=[.ptr (some (A .heap,0)),.int .u64 S.chunk,AS.chunksV { S with chunks:=S.chunks.take m.chunks } B,.int .u64 S.taken,.int .u64 S.used,.int .u32 S.once,.int .i32 0,.int .u32 0,S.marksV B,S.standV B,.int .i64 S.made]:=rfl
 have hmv:S.marksV B=.map (some (B .marks)):=by unfold AS.marksV;rw [hmk];rfl
 have hsv:S.standV B=.slice (some (B .stand,0)) S.ms.length 1:=by unfold AS.standV;rw [if_pos hhS,hstl]
 generalize hl5:(((AS.hdr { S with chunks:=S.chunks.take m.chunks } (A .heap) B).set 3 (V.int .u64 m.taken)).set 4 (V.int .u64 m.used))=l5 at *
 have l8:lst l5 8=.map (some (B .marks)):=by rw [<- hl5,he1,hmv];rfl
 have l9:lst l5 9=.slice (some (B .stand,0)) S.ms.length 1:=by rw [<- hl5,he1,hsv];rfl
 have l5len:l5.length=11:=by rw [<- hl5,he1];rfl
 refine aw_loop (fun (k:Nat) (fr:AM.Fr) (s:St)=>fr.defers=[] /\ fr.tmps.get 0=some (.ptr (some (B .arena,0))) /\ fr.tmps.get 1=some (.int .i64 m.n) /\ fr.tmps.get 7=some (.int .i64 k) /\ pre.length <= k /\ k <= S.ms.length ∧
  Wd s (Sum.elim H2.has S.has) (Sum.elim A B) (updG (Sum.elim (heapC H2 A) (AS.contH { S with chunks:=S.chunks.take m.chunks } l5)) (Sum.inr AI.marks) (.map ((S.ms.take k).map Mk.e)))) ?_ S.ms.length ?_
 ·rintro k ⟨tm,ds⟩ s ⟨hd,t0,t1,t7,hk1,hk2,R⟩
  simp only at hd t0 t1 t7
  subst hd
  have q8:=Wd.cell R (i:=(Sum.inr AI.arena:Slot ⊕ AI)) trivial (n:=11) (f:=lst l5) (by rw [updG_ne (by intro h;cases h)];rfl) (k:=8) (by omega)
  have q9:=Wd.cell R (i:=(Sum.inr AI.arena:Slot ⊕ AI)) trivial (n:=11) (f:=lst l5) (by rw [updG_ne (by intro h;cases h)];rfl) (k:=9) (by omega)
  have q8':s.cell (B .arena) 8=some (.map (some (B .marks))):=by rw [<- l8];exact q8
  have q9':s.cell (B .arena) 9=some (.slice (some (B .stand,0)) S.ms.length 1):=by rw [<- l9];exact q9
  have qst:∀ j (hj:j<S.ms.length),s.cell (B .stand) j=some (.int .i64 (S.ms[j]).n):=by
   intro j hj
   have:=Wd.cell R (i:=(Sum.inr AI.stand:Slot ⊕ AI)) hhS (n:=S.stand.length) (f:=fun i=>.int .i64 (S.stand.getD i 0)) (by rw [updG_ne (by intro h;cases h)];rfl) (k:=j) (by omega)
   simp only [hstA j hj] at this
   exact this
  by_cases c:pre.length<k
  ·obtain ⟨k,rfl⟩:∃ j,k=j+1:=⟨k-1,by omega⟩
   have hkl:k<S.ms.length:=by omega
   have d1:(0:Int)<((k+1:Nat):Int):=by omega
   have e1:IntKind.i64.wrap (((k+1:Nat):Int)-1)=(k:Int):=i64_sub (a:=k+1) (b:=1) (by omega) (by omega)
   have d2:(0:Int) <= (k:Int) /\ (k:Int)<(S.ms.length:Int):=by omega
   have d3:(m.n:Int) <= ((S.ms[k]).n:Int):=by
    rcases Nat.lt_or_ge pre.length k with c2 | c2
    ·have:=hpw _ _ hpl hkl c2;rw [hat] at this;omega
    ·have e:k=pre.length:=by omega
     subst e;rw [hat];omega
   have hmget:=Wd.map R (i:=(Sum.inr AI.marks:Slot ⊕ AI)) hhas (es:=(S.ms.take (k+1)).map Mk.e) updG_same
   have hmget':s.objs.get (B .marks)=some (.map ((S.ms.take (k+1)).map Mk.e)):=hmget
   have W:=Wd.setMap R (i:=(Sum.inr AI.marks:Slot ⊕ AI)) hhas (es:=(S.ms.take (k+1)).map Mk.e) (es':=(S.ms.take k).map Mk.e) updG_same
   have hdel:delV .int (.map (some (B .marks))) (.int .i64 (S.ms[k]).n) s=some (.tuple [], { s with objs:=s.objs.set (B .marks) (.map ((S.ms.take k).map Mk.e)) }):=by
    unfold delV
    simp only [hmget']
    have htk:S.ms.take (k+1)=S.ms.take k++S.ms[k] :: []:=by rw [List.take_add_one,List.getElem?_eq_getElem hkl];rfl
    rw [htk,find_at (S.ms.take k) (S.ms[k]) [] 0 (by
     intro x hx
     obtain ⟨j,hj,rfl⟩:=List.getElem_of_mem hx
     rw [List.length_take] at hj
     rw [List.getElem_take]
     have:=hpw j k (by omega) hkl (by omega)
     omega)]
    have htl:(S.ms.take k).length=k:=by rw [List.length_take];omega
    simp only [Nat.zero_add,htl]
    congr 4
    rw [List.map_append]
    exact congrArg AM.Obj.map (erase_last ((S.ms.take k).map Mk.e) (S.ms[k]).e k ((List.length_map _).trans htl))
   have qk:=qst k hkl
   simp -implicitDefEqProofs only[go_sem,t0,t1,t7,d1,e1,d2,and_self,Int.toNat_natCast,Nat.mul_one,q9',q8',qk,d3,wr_delete,hdel,ge_iff_le]
   refine ⟨k,by omega,rfl,by omega,by omega,W.sub id (fun _ h=>h) (fun _ _ _ _ e=>e) (fun _ _=>rfl) ?_⟩
   intro j hj
   left
   by_cases cj:j=Sum.inr AI.marks
   ·subst cj;rw [updG_same];exact updG_same.symm
   ·rw [updG_ne cj];refine Eq.trans ?_ (updG_ne cj).symm;exact (updG_ne cj).symm
  ·have ek:k=pre.length:=by omega
   subst ek
   obtain ⟨s1,hs1,W,_⟩:=Wd.setL R (i:=(Sum.inr AI.arena:Slot ⊕ AI)) trivial (n:=11) (l:=l5) (by rw [updG_ne (by intro h;cases h)];rfl) l5len (k:=9) (v:=.slice (some (B .stand,0)) pre.length 1) (by omega) rfl
   have hs1':s.store (B .arena) 9 [.slice (some (B .stand,0)) pre.length 1]=some s1:=hs1
   have e2:=sliceV_hi (esz:=1) (id:=B .stand) (off:=0) (len:=S.ms.length) (k:=.i64) (i:=(pre.length:Int)) (by omega) (by omega)
   rw [Int.toNat_natCast] at e2
   have fin:AR s1 A H2 B (relA S pre.length m):=by
    refine AH.ar ?_
    have e:AS.hdr (relA S pre.length m) (A .heap) B=l5.set 9 (.slice (some (B .stand,0)) pre.length 1):=by
     rw [<- hl5]
     have hml:min pre.length S.ms.length=pre.length:=by omega
     simp [AS.hdr,relA,AS.chunksV,AS.marksV,AS.standV,AS.marks,AS.stand,AS.once,hi,hhS,hml]
    rw [e]
    refine W.sub id ?_ (fun _ _ _ _ e=>e) (fun _ _=>rfl) ?_
    ·rintro (j | j) hj
     ·exact hj
     ·cases j with
      |marks=>exact hhas
      |_=>exact hj
    ·rintro (j | j) hj
     ·left;refine Eq.trans ?_ (updG_ne (by intro h;cases h)).symm;exact (updG_ne (by intro h;cases h)).symm
     ·cases j with
      |arena=>left;exact updG_same.symm
      |chunks=>left;refine Eq.trans ?_ (updG_ne (by intro h;cases h)).symm;exact (updG_ne (by intro h;cases h)).symm
      |marks =>
       left
       refine Eq.trans ?_ (updG_ne (by intro h;cases h)).symm
       refine Eq.trans ?_ updG_same.symm
       show Cont.map ((AS.marks (relA S pre.length m)).getD [])=_
       unfold AS.marks relA
       simp [hi]
      |stand =>
       right
       refine ⟨S.stand.length,(fun i=>.int .i64 (S.stand.getD i 0)),(AS.stand (relA S pre.length m)).length,(fun i=>.int .i64 ((AS.stand (relA S pre.length m)).getD i 0)),?_,rfl,?_,?_⟩
       ·refine Eq.trans (updG_ne (by intro h;cases h)) ?_
        exact updG_ne (by intro h;cases h)
       ·unfold AS.stand relA;simp;omega
       ·intro j hj
        have hj2:j<pre.length:=by
         unfold AS.stand relA at hj
         simp only [List.length_map,List.length_take] at hj
         omega
        unfold AS.stand relA
        simp [List.getD_eq_getElem?_getD,List.getElem?_take,hj2]
   rcases Nat.eq_zero_or_pos pre.length with c0 | c0
   ·have d1:¬ ((0:Int)<(pre.length:Int)):=by omega
    simp -implicitDefEqProofs only[go_sem,t0,t1,t7,d1,q9',e2,vcells_slice,List.length_cons,List.length_nil,hs1']
    exact fin
   ·obtain ⟨k,hk⟩:∃ j,pre.length=j+1:=⟨pre.length-1,by omega⟩
    have d1:(0:Int)<(pre.length:Int):=by omega
    have e1:IntKind.i64.wrap ((pre.length:Int)-1)=(k:Int):=by rw [hk];exact i64_sub (a:=k+1) (b:=1) (by omega) (by omega)
    have d2:(0:Int) <= (k:Int) /\ (k:Int)<(S.ms.length:Int):=by omega
    have d3:¬ (m.n:Int) <= ((S.ms[k]'(by omega)).n:Int):=by
     have:=hpw k pre.length (by omega) hpl (by omega)
     rw [hat] at this;omega
    have qk:=qst k (by omega)
    simp -implicitDefEqProofs only[go_sem,t0,t1,t7,d1,e1,d2,and_self,Int.toNat_natCast,Nat.mul_one,q9',q8',qk,d3,ge_iff_le,e2,vcells_slice,List.length_cons,List.length_nil,hs1']
    exact fin
 ·simp -implicitDefEqProofs only[go_sem]
  refine ⟨by omega,R5.sub id (fun _ h=>h) (fun _ _ _ _ e=>e) (fun _ _=>rfl) ?_⟩
  intro j hj
  left
  by_cases cj:j=Sum.inr AI.marks
  ·subst cj
   rw [updG_same,List.take_length]
   show _=Cont.map (S.marks.getD [])
   rw [hmk];rfl
  ·rw [updG_ne cj];rfl
end
noncomputable section
variable {σ σ':St} {A:Slot -> Nat} {H:Heap} {fl pl fc:Nat -> List Nat}
def liveP (H:Heap) (x:Nat):List (Nat × Nat) :=
 if (H.page x).kind=2 then [(H.addr x,4096*2^(H.page x).order.toNat)]
 else if (H.page x).kind=4 then ((List.range (256 / 2^(H.page x).cls.toNat)).filter fun q=>decide ((H.page x).bit q=1)).map fun q=>(H.addr x+q*(16*2^(H.page x).cls.toNat),16*2^(H.page x).cls.toNat)
 else []
def liveTo (H:Heap) (n:Nat):List (Nat × Nat):=(List.range n).flatMap (liveP H)
def liveL (H:Heap):List (Nat × Nat):=liveTo H H.np
theorem liveTo_succ (H:Heap) (n:Nat):liveTo H (n+1)=liveTo H n++liveP H n:=by
 unfold liveTo;rw [List.range_succ,List.flatMap_append];simp
theorem liveP_len (H:Heap) (x:Nat):(liveP H x).length <= 256:=by
 unfold liveP
 split
 ·simp
 ·split
  ·rw [List.length_map]
   refine Nat.le_trans (List.length_filter_le _ _) ?_
   rw [List.length_range]
   exact Nat.div_le_self _ _
  ·simp
theorem liveTo_len (H:Heap) (n:Nat):(liveTo H n).length <= 256*n:=by
 induction n with
 |zero=>exact Nat.le_refl _
 |succ n ih=>rw [liveTo_succ,List.length_append];have:=liveP_len H n;omega
theorem blkV_push (l:List (Nat × Nat)) (b:Nat × Nat) {j:Nat} (hj:j<(l++[b]).length*2):(if j<l.length*2 then blkV l j else lst [.int .u64 b.1,.int .u64 b.2] (j-l.length*2))=blkV (l++[b]) j:=by
 rw [List.length_append,List.length_singleton] at hj
 by_cases cj:j<l.length*2
 ·rw [if_pos cj]
  unfold blkV
  simp [List.getD_eq_getElem?_getD,List.getElem?_append_left (show j / 2<l.length by omega)]
 ·rw [if_neg cj]
  unfold blkV
  simp only [List.getD_eq_getElem?_getD,List.getElem?_append_right (show l.length <= j / 2 by omega),show j / 2-l.length=0 by omega]
  rcases (by omega:j=l.length*2 \/ j=l.length*2+1) with rfl | rfl
  ·rw [if_pos (by omega)];simp [lst]
  ·rw [if_neg (by omega)];simp [lst]
def listV (l:List (Nat × Nat)) (b:Nat):V:=if l=[] then .slice none 0 0 else .slice (some (b,0)) l.length 2
abbrev LH (σ:St) (A:Slot -> Nat) (H:Heap) (l:List (Nat × Nat)) (b:Nat):Prop:=HC σ A H (fun _:Unit=>l≠[]) (fun _=>b) (fun _=>.row (l.length*2) (blkV l))
abbrev LW {κ:Type} (σ:St) (A:Slot -> Nat) (H:Heap) (l:List (Nat × Nat)) (b:Nat) (hasK:κ -> Prop) (BK:κ -> Nat) (cK:κ -> Cont):Prop :=
 Wd σ (Sum.elim (Sum.elim H.has fun _:Unit=>l≠[]) hasK) (Sum.elim (Sum.elim A fun _=>b) BK) (Sum.elim (Sum.elim (heapC H A) fun _=>.row (l.length*2) (blkV l)) cK)
theorem LW.push {κ:Type} [DecidableEq κ] {hasK:κ -> Prop} {BK:κ -> Nat} {cK:κ -> Cont} {l:List (Nat × Nat)} {b:Nat} (h:LW σ A H l b hasK BK cK) (x:Nat × Nat) (hl:l.length <= 1000000000) :
  ∃ b' s,AM.appendV (σ.newCells [.int .u64 x.1,.int .u64 x.2]) 2 16 (listV l b) (.slice (some (σ.next,0)) 1 2)=some (listV (l++[x]) b',s) /\ LW s A H (l++[x]) b' hasK BK cK:=by
 obtain ⟨b',s,ha,W⟩:=Wd.push h (i0:=Sum.inl (Sum.inr ())) (xl:=l.length) (esz:=2) (bytes:=16) (f:=blkV l) (vs:=[.int .u64 x.1,.int .u64 x.2]) (sl:=listV l b) (by
   unfold listV
   by_cases c:l=[]
   ·rw [if_pos c];exact .inr ⟨fun h=>h c,rfl,by rw [c];rfl⟩
   ·rw [if_neg c];exact .inl ⟨c,rfl,rfl⟩) (by omega) rfl (by unfold maxLenBytes;omega) (by unfold maxLenBytes;omega) rfl
 have hne:l++[x]≠[]:=by simp
 refine ⟨b',s,?_,W.sub id ?_ (fun _ _ _ _ e=>e) ?_ ?_⟩
 ·rw [ha];unfold listV;rw [if_neg hne,List.length_append];rfl
 ·rintro ((i | i) | i) hi
  ·exact .inl hi
  ·exact .inr rfl
  ·exact .inl hi
 ·rintro ((i | i) | i) hi
  ·show _=updG _ _ _ _;rw [updG_ne (by intro h;cases h)];rfl
  ·exact updG_same.symm
  ·show _=updG _ _ _ _;rw [updG_ne (by intro h;cases h)];rfl
 ·rintro ((i | i) | i) hi
  ·left;show _=updG _ _ _ _;rw [updG_ne (by intro h;cases h)];rfl
  ·right
   refine ⟨_,_,(l++[x]).length*2,blkV (l++[x]),updG_same ..,rfl,(by rw [List.length_append,List.length_singleton];omega),?_⟩
   intro j hj
   exact blkV_push l x hj
  ·left;show _=updG _ _ _ _;rw [updG_ne (by intro h;cases h)];rfl
theorem r_liveL (h:HRep σ A H) (hI:Inv H fl pl fc (fun _=>False)) :
  Runs G0 [] 77 [.ptr (some (A .heap,0))] σ fun r s=>∃ b,r=listV (liveL H) b /\ LH s A H (liveL H) b:=by
 refine runs_body g77 rfl ?_
 have ok:=hI.ok
 have h5:=h.cell (s:=.heap) trivial (i:=5) (show 5<7 by omega)
 rw [show H.cell A .heap 5=.ptr (some (A .pool,0)) from rfl] at h5
 obtain ⟨v,s1,⟨hv,hs1⟩,hr1⟩:=r_PMap h
 subst hv hs1
 simp -implicitDefEqProofs only[go_sem,h5]
 refine runs_ret hr1 ?_
 simp -implicitDefEqProofs only[go_sem]
 have hnp:=np_few ok
 have hend:=end_np ok
 refine aw_loop (fun (n:Nat) (fr:AM.Fr) (s:St)=>fr.defers=[] /\ fr.tmps.get 0=some (.ptr (some (A .heap,0))) /\ fr.tmps.get 4=some (.ptr (some (A .map,0))) /\ ∃ (i b:Nat),fr.tmps.get 5=some (.int .i64 i) /\ fr.tmps.get 3=some (listV (liveTo H i) b) /\ i+n=H.np /\ LH s A H (liveTo H i) b) ?_ H.np ?_
 ·rintro n ⟨tm,ds⟩ s ⟨hd,t0,t4,i,b,t5,t3,hi,R⟩
  simp only at hd t0 t4 t5 t3
  subst hd
  have hll:=liveTo_len H i
  obtain ⟨v,s2,⟨hv,hs2⟩,hr2⟩:=r_Pages (HC.rep R) ok
  subst hv hs2
  by_cases c:i<H.np
  ·have d1:(i:Int)<(H.np:Int):=by omega
   obtain ⟨v,s3,⟨hv,g3,R3⟩,hr3⟩:=Wd.rgrow R (r_At (HC.rep R) ok c)
   subst hv
   obtain ⟨z,hz⟩:∃ z,z=[V.int .i64 0,V.int .i64 0,V.int .i64 0,V.int .i64 0,V.int .i64 0,V.int .i64 0,V.int .i64 0,V.int .u64 0,V.int .u64 0,V.int .u64 0,V.int .u64 0]:=⟨_,rfl⟩
   obtain ⟨x,hx⟩:∃ x,x=H.page i:=⟨_,rfl⟩
   rw [<- hx] at hr3
   have zl:z.length=11:=by rw [hz];rfl
   have xf:x.cells.all V.flat=true:=rfl
   have hst:=new_store (σ:=s3) (z:=z) (vs:=x.cells) (n:=11) (Nat.le_of_eq (Page.cells_len x)) xf
   have R4:LH (s3.lay 11 z x.cells) A H (liveTo H i) b:=Wd.lay R3 (by rw [Page.cells_len];omega) xf
   have L4:=Lcl.lay s3 11 z x.cells (Page.cells_len x)
   have R5:LW (s3.lay 11 z x.cells) A H (liveTo H i) b (fun _:Unit=>True) (fun _=>s3.next) (fun _=>.row 11 (lst x.cells)):=Wd.box R4 L4 fun j hj e=>by
    have:=Wd.lt R3 hj;omega
   have h2:=(HC.rep R4).cell (s:=.heap) trivial (i:=2) (show 2<7 by omega)
   rw [show H.cell A .heap 2=.int .u64 H.base from rfl] at h2
   have k0:=L4.cell (i:=0) (by omega)
   have k1:=L4.cell (i:=1) (by omega)
   have k2:=L4.cell (i:=2) (by omega)
   rw [show lst x.cells 0=.int .i64 x.kind from rfl] at k0
   rw [show lst x.cells 1=.int .i64 x.order from rfl] at k1
   rw [show lst x.cells 2=.int .i64 x.cls from rfl] at k2
   have e1:IntKind.u64.wrap (i:Int)=(i:Int):=u64_nat (by omega)
   have e2:IntKind.u64.wrap ((i:Int)*4096)=((i*4096:Nat):Int):=u64_mul (b:=4096) (by omega)
   have e3:IntKind.u64.wrap ((H.base:Int)+((i*4096:Nat):Int))=(H.addr i:Int):=by
    rw [u64_add (by omega)];unfold Heap.addr;rw [Nat.mul_comm]
   have e9:IntKind.i64.wrap ((i:Int)+1)=((i+1:Nat):Int):=i64_add (a:=i) (b:=1) (by omega)
   have hadr:H.addr i <= 9223372036854775808:=by unfold Heap.addr;omega
   generalize hs4:s3.lay 11 z x.cells=s4 at *
   obtain ⟨a,ha⟩:∃ a,a=H.addr i:=⟨_,rfl⟩
   rw [<- ha] at e3 hadr
   by_cases q2:x.kind=2
   ·have hP:liveP H i=[(a,4096*2^x.order.toNat)]:=by unfold liveP;rw [<- hx,if_pos q2,ha]
    obtain ⟨k,fam,g⟩:=hI.pg i c (fun h=>h)
    have hord:x.order=(k:Int):=by rw [hx];exact g.order
    have hk8:k <= 8:=Nat.le_trans g.le ok.order_le
    have hpw:2^k <= 256:=by have:=Nat.pow_le_pow_right (n:=2) (by omega) hk8;omega
    rw [hord,Int.toNat_natCast] at hP
    rw [hord] at k1
    have dk:(0:Int) <= (k:Int):=by omega
    have e4:shlI .u64 4096 (k:Int)=((4096*2^k:Nat):Int):=u64_shl (a:=4096) (by omega) (by omega)
    obtain ⟨b',s5,hap,R6⟩:=LW.push R5 (a,4096*2^k) (by omega)
    have f1:fillP [V.int .u64 0,V.int .u64 0] [(0,1,V.int .u64 a),(1,1,V.int .u64 (4096*2^k:Nat))]=some [V.int .u64 a,.int .u64 (4096*2^k:Nat)]:=rfl
    have f2:fillP (repeatZ [V.int .u64 0,.int .u64 0] 1) [(0,2,V.agg [V.int .u64 a,.int .u64 (4096*2^k:Nat)])]=some [V.int .u64 a,.int .u64 (4096*2^k:Nat)]:=rfl
    simp -implicitDefEqProofs only[go_sem,t0,t4,t5,t3]
    refine runs_ret hr2 ?_
    simp -implicitDefEqProofs only[go_sem,t0,t4,t5,t3,d1]
    refine runs_ret hr3 ?_
    simp -implicitDefEqProofs only[go_sem,t0,t4,t5,t3,<- hz,zl,vcells_agg,Page.cells_len,hst,h2,e1,e2,e3,k0,q2,k1,bin_shl,dk,e4,evalParts,f1,f2,hap,e9]
    exact ⟨n-1,by omega,i+1,b',rfl,by rw [liveTo_succ,hP],by omega,by rw [liveTo_succ,hP];exact Wd.left R6⟩
   ·by_cases q4:x.kind=4
    ·obtain ⟨cl,sl⟩:=hI.sl i c (fun h=>h) (by rw [<- hx];exact q4)
     have hc8:=sl.c8
     have hcls:x.cls=(cl:Int):=by rw [hx];exact sl.cls
     rw [hcls] at k2
     have hw:=w8 hc8
     obtain ⟨w,hwd⟩:∃ w,w=16*2^cl:=⟨_,rfl⟩
     obtain ⟨nn,hnn⟩:∃ nn,nn=256 / 2^cl:=⟨_,rfl⟩
     obtain ⟨w1,w2,w3,w4,w5⟩:=hw
     rw [<- hwd, <- hnn] at w1
     rw [<- hwd] at w2 w3
     rw [<- hnn] at w4 w5
     have hP:liveP H i=((List.range nn).filter fun q=>decide (x.bit q=1)).map fun q=>(a+q*w,w):=by
      unfold liveP
      rw [<- hx,if_neg q2,if_pos q4,hcls,Int.toNat_natCast, <- hnn, <- hwd, <- ha]
     have dk:(0:Int) <= (cl:Int):=by omega
     have hpc:2^cl <= 128:=by omega
     have e4:shlI .u64 16 (cl:Int)=(w:Int):=by rw [hwd];exact u64_shl (a:=16) (by omega) (by omega)
     have e5:IntKind.u64.wrap ((4096:Int).tdiv (w:Int))=(nn:Int):=by
      have hdv:4096 / w=nn:=by rw [<- w1];exact Nat.mul_div_cancel_left _ (by omega)
      have:=u64_div (a:=4096) (b:=w) (by omega)
      rw [hdv] at this
      exact this
     have cw:(w:Int)≠0:=by omega
     have d42:¬ ((4:Int)=2):=by decide
     simp -implicitDefEqProofs only[go_sem,t0,t4,t5,t3]
     refine runs_ret hr2 ?_
     simp -implicitDefEqProofs only[go_sem,t0,t4,t5,t3,d1]
     refine runs_ret hr3 ?_
     simp -implicitDefEqProofs only[go_sem,t0,t4,t5,t3,<- hz,zl,vcells_agg,Page.cells_len,hst,h2,e1,e2,e3,k0,q4,d42,k2,bin_shl,dk,e4,bin_quo,cw,ne_eq,not_false_eq_true,e5]
     have hfl:∀ q,(((List.range q).filter fun q=>decide (x.bit q=1)).map fun q=>(a+q*w,w)).length <= q:=fun q=>by
      rw [List.length_map];exact Nat.le_trans (List.length_filter_le _ _) (Nat.le_of_eq List.length_range)
     refine aw_loop (fun (m:Nat) (fr:AM.Fr) (s:St)=>fr.defers=[] /\ fr.tmps.get 0=some (.ptr (some (A .heap,0))) /\ fr.tmps.get 4=some (.ptr (some (A .map,0))) /\ fr.tmps.get 5=some (.int .i64 i) /\ fr.tmps.get 6=some (.ptr (some (s3.next,0))) /\ fr.tmps.get 8=some (.int .u64 a) /\ fr.tmps.get 9=some (.int .u64 w) /\ fr.tmps.get 57=some (.int .u64 nn) ∧
      ∃ q b,fr.tmps.get 58=some (.int .u64 (q:Nat)) /\ q+m=nn /\ fr.tmps.get 3=some (listV (liveTo H i++((List.range q).filter fun q=>decide (x.bit q=1)).map fun q=>(a+q*w,w)) b) ∧
      LW s A H (liveTo H i++((List.range q).filter fun q=>decide (x.bit q=1)).map fun q=>(a+q*w,w)) b (fun _:Unit=>True) (fun _=>s3.next) (fun _=>.row 11 (lst x.cells))) ?_ nn ?_
     ·rintro m ⟨tm,ds⟩ s ⟨hd,t0,t4,t5,t6,t8,t9,t57,q,b,t58,hq,t3,R⟩
      simp only at hd t0 t4 t5 t6 t8 t9 t57 t58 t3
      subst hd
      have hfq:=hfl q
      by_cases cq:q<nn
      ·have dq:(q:Int)<(nn:Int):=by omega
       have c5:(64:Int)≠0:=by decide
       have f2:IntKind.u64.wrap ((q:Int).tdiv 64)=((q / 64:Nat):Int):=u64_div (b:=64) (by omega)
       have f3:((q:Int).tmod 64)=((q%64:Nat):Int):=nat_tmod q 64
       have hj:q / 64<4:=by omega
       have hm64:q%64<64:=Nat.mod_lt _ (by omega)
       obtain ⟨j,hjj⟩:∃ j,j=q / 64:=⟨_,rfl⟩
       obtain ⟨m6,hmm⟩:∃ m,m=q%64:=⟨_,rfl⟩
       rw [<- hjj] at hj f2
       rw [<- hmm] at hm64 f3
       have c6:(0:Int) <= (j:Int) /\ (j:Int)<((4:Nat):Int):=by omega
       have h1:s.cell s3.next (7+j)=some (.int .u64 (x.bw j)):=by
        have:=Wd.cell R (i:=.inr ()) trivial (n:=11) (f:=lst x.cells) rfl (k:=7+j) (by omega)
        refine Eq.trans this ?_
        rw [<- cell_bw x hj]
        rcases (by omega:j=0 \/ j=1 \/ j=2 \/ j=3) with h | h | h | h <;> rw [h] <;> rfl
       have c7:(0:Int) <= (m6:Int):=by omega
       have f4:shrI .u64 ((x.bw j:Nat):Int) (m6:Int)=((x.bw j / 2^m6:Nat):Int):=shr_nat rfl (by omega)
       have f5:=u64_bit (w:=x.bw j) (n:=m6) (by rw [hx];exact sl.words j)
       have hbit:x.bit q=x.bw j / 2^m6%2:=by simp [Page.bit, <- hjj, <- hmm]
       have e9q:IntKind.u64.wrap ((q:Int)+1)=((q+1:Nat):Int):=u64_add (a:=q) (b:=1) (by omega)
       have hrg:((List.range (q+1)).filter fun q=>decide (x.bit q=1))=((List.range q).filter fun q=>decide (x.bit q=1))++(if x.bit q=1 then [q] else []):=by
        rw [List.range_succ,List.filter_append]
        congr 1
        by_cases cb:x.bit q=1 <;> simp [cb]
       by_cases cb:x.bit q=1
       ·have f6:((x.bw j / 2^m6%2:Nat):Int)=1:=by rw [<- hbit,cb];rfl
        have hqw:q*w <= 4096:=by
         have:q*w <= nn*w:=Nat.mul_le_mul_right _ (by omega)
         rw [Nat.mul_comm nn,w1] at this;exact this
        have g2:IntKind.u64.wrap ((q:Int)*(w:Int))=((q*w:Nat):Int):=u64_mul (by omega)
        have g3:IntKind.u64.wrap ((a:Int)+((q*w:Nat):Int))=((a+q*w:Nat):Int):=u64_add (by omega)
        obtain ⟨b',s5,hap,R6⟩:=LW.push R (a+q*w,w) (by rw [List.length_append];omega)
        have g1:fillP [V.int .u64 0,V.int .u64 0] [(0,1,V.int .u64 (a+q*w:Nat)),(1,1,V.int .u64 w)]=some [V.int .u64 (a+q*w:Nat),.int .u64 w]:=rfl
        have g4:fillP (repeatZ [V.int .u64 0,.int .u64 0] 1) [(0,2,V.agg [V.int .u64 (a+q*w:Nat),.int .u64 w])]=some [V.int .u64 (a+q*w:Nat),.int .u64 w]:=rfl
        simp -implicitDefEqProofs only[go_sem,t0,t4,t5,t3,t6,t8,t9,t57,t58,dq,bin_quo,bin_rem,ne_eq,c5,not_false_eq_true,f2,f3,c6,and_self,Int.toNat_natCast,Nat.mul_one,h1,bin_shr,c7,f4,f5,f6,g2,g3,evalParts,g1,g4,hap,e9q]
        refine ⟨m-1,by omega,q+1,b',rfl,by omega,?_,?_⟩
        ·rw [hrg,if_pos cb,List.map_append, <- List.append_assoc];rfl
        ·rw [hrg,if_pos cb,List.map_append, <- List.append_assoc];exact R6
       ·have f6:¬ ((x.bw j / 2^m6%2:Nat):Int)=1:=by rw [<- hbit];omega
        simp -implicitDefEqProofs only[go_sem,t0,t4,t5,t3,t6,t8,t9,t57,t58,dq,bin_quo,bin_rem,ne_eq,c5,not_false_eq_true,f2,f3,c6,and_self,Int.toNat_natCast,Nat.mul_one,h1,bin_shr,c7,f4,f5,f6,e9q]
        refine ⟨m-1,by omega,q+1,b,rfl,by omega,?_,?_⟩
        ·rw [hrg,if_neg cb,List.append_nil]
        ·rw [hrg,if_neg cb,List.append_nil];exact R
      ·have dq:¬ (q:Int)<(nn:Int):=by omega
       have eq:q=nn:=by omega
       subst eq
       rw [<- hP] at t3 R
       simp -implicitDefEqProofs only[go_sem,t0,t4,t5,t3,t6,t8,t9,t57,t58,dq,e9]
       exact ⟨n-1,by omega,i+1,b,rfl,by rw [liveTo_succ],by omega,by rw [liveTo_succ];exact Wd.left R⟩
     ·simp -implicitDefEqProofs only[go_sem]
      have e0:liveTo H i++((List.range 0).filter fun q=>decide (x.bit q=1)).map (fun q=>(a+q*w,w))=liveTo H i:=by simp
      exact ⟨t0,t4,t5,0,b,rfl,by omega,by rw [e0];exact t3,by rw [e0];exact R5⟩
    ·have hP:liveP H i=[]:=by unfold liveP;rw [<- hx,if_neg q2,if_neg q4]
     simp -implicitDefEqProofs only[go_sem,t0,t4,t5,t3]
     refine runs_ret hr2 ?_
     simp -implicitDefEqProofs only[go_sem,t0,t4,t5,t3,d1]
     refine runs_ret hr3 ?_
     simp -implicitDefEqProofs only[go_sem,t0,t4,t5,t3,<- hz,zl,vcells_agg,Page.cells_len,hst,h2,e1,e2,e3,k0,q2,q4,e9]
     exact ⟨n-1,by omega,i+1,b,rfl,by rw [liveTo_succ,hP,List.append_nil],by omega,by rw [liveTo_succ,hP,List.append_nil];exact R4⟩
  ·have d1:¬ (i:Int)<(H.np:Int):=by omega
   have ei:i=H.np:=by omega
   subst ei
   simp -implicitDefEqProofs only[go_sem,t0,t4,t5,t3]
   refine runs_ret hr2 ?_
   simp -implicitDefEqProofs only[go_sem,t0,t4,t5,t3,d1]
   exact ⟨b,rfl,R⟩
 ·simp -implicitDefEqProofs only[go_sem]
  refine ⟨0,0,rfl,rfl,by omega,?_⟩
  refine Wd.sub (HC.of (κ:=Unit) h (fun _=>0) (fun _=>.map [])) id ?_ (fun _ _ _ _ e=>e) ?_ ?_
  ·rintro (j | j) hj
   ·exact hj
   ·exact (hj rfl).elim
  ·rintro (j | j) hj
   ·rfl
   ·exact (hj rfl).elim
  ·rintro (j | j) hj
   ·exact .inl rfl
   ·exact (hj rfl).elim
end
noncomputable section
variable {σ σ':St} {A:Slot -> Nat} {H:Heap} {fl pl fc:Nat -> List Nat}
theorem r_LiveL (h:HRep σ A H) (hg:Good H) :
  Runs G0 [] 41 [.ptr (some (A .heap,0))] σ fun r s=>∃ b,r=listV (liveL H) b /\ LH s A H (liveL H) b:=by
 refine runs_body g41 rfl ?_
 obtain ⟨fl,pl,fc,hI⟩:=hg.fine
 obtain ⟨v,s1,⟨R1,hv⟩,hr1⟩:=r_lock h hg.lock
 subst hv
 obtain ⟨v,s2,⟨b,hv,R2⟩,hr2⟩:=r_liveL R1 (hI.setLock 1)
 have e1:liveL (H.setLock 1)=liveL H:=rfl
 rw [e1] at hv R2
 subst hv
 obtain ⟨v,s3,⟨A3,R3,hA3,hv⟩,hr3⟩:=HC.call (Γ:=G0) (Γ':=G0) (M:=[]) (H':=H) (P:=fun v A'=>A=A' /\ v=.tuple []) (fun _ _ h=>h) (fun _ h=>nomatch h) R2 fun s hs=>(r_unlock hs rfl).mono fun v s' ⟨h1,h2⟩=>⟨A,by rw [setLock_id hg.lock] at h1;exact h1,rfl,h2⟩
 subst hA3 hv
 simp -implicitDefEqProofs only[go_sem]
 refine runs_ret hr1 ?_
 simp -implicitDefEqProofs only[go_sem]
 refine runs_ret hr2 ?_
 simp -implicitDefEqProofs only[go_sem,wpDefers_cons]
 refine ⟨.inr gUnlock,runs_ret hr3 ?_⟩
 simp -implicitDefEqProofs only[go_sem]
 exact ⟨b,rfl,R3⟩
end
end Go.Proofs.YtlgmpheammbacaaGreatDoor
