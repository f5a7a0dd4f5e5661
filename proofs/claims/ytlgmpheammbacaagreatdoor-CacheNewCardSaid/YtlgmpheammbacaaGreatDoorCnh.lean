import Derived.Test.YtlgmpheammbacaaGreatDoorCng
set_option maxRecDepth 1000000
namespace Go.Proofs.YtlgmpheammbacaaGreatDoor
open AM Go
noncomputable section
set_option linter.unusedVariables false
set_option linter.unusedSimpArgs false
attribute [local irreducible] T.get T.set
variable {σ σ':St}
def heapC (H:Heap) (A:Slot -> Nat):Slot -> Cont:=fun s=>.row (H.size s) (H.cell A s)
abbrev HC {κ:Type} (σ:St) (A:Slot -> Nat) (H:Heap) (hasK:κ -> Prop) (B:κ -> Nat) (cK:κ -> Cont):Prop:=Wd σ (Sum.elim H.has hasK) (Sum.elim A B) (Sum.elim (heapC H A) cK)
section
variable {κ:Type} {A:Slot -> Nat} {H H':Heap} {hasK:κ -> Prop} {B:κ -> Nat} {cK:κ -> Cont}
theorem HC.rep (h:HC σ A H hasK B cK):HRep σ A H:=wd_hrep h.left
theorem HC.call {Γ Γ':T AF} {M:List Memo} {g:FuncId} {xs:List V} {P:V -> (Slot -> Nat) -> Prop} (hΓ:∀ g x,Γ.get g=some x -> Γ'.get g=some x) (hM:∀ m∈M,Γ.get m.g=none) (h:HC σ A H hasK B cK)
  (spec:∀ σ,HRep σ A H -> Runs Γ [] g xs σ fun v σ'=>∃ A',HRep σ' A' H' /\ P v A') :
  Runs Γ' M g xs σ fun v σ'=>∃ A',HC σ' A' H' hasK B cK /\ P v A':=by
 refine (Wd.call (P:=fun v has' A' c'=>has'=H'.has /\ c'=heapC H' A' /\ P v A') hΓ hM h fun s w=>(spec s (wd_hrep w)).mono ?_).mono ?_
 ·rintro v s' ⟨A',R,hp⟩
  exact ⟨_,A',_,hrep_wd R,rfl,rfl,hp⟩
 ·rintro v s' ⟨has',A',c',w,rfl,rfl,hp⟩
  exact ⟨A',w,hp⟩
end
inductive AI where
 |arena | chunks | stand | marks
 deriving DecidableEq
structure Mk where
 n:Nat
 chunks:Nat
 taken:Nat
 used:Nat
def Mk.e (m:Mk):V × V:=(.int .i64 m.n,.agg [.int .i64 m.n,.int .i64 m.chunks,.int .u64 m.taken,.int .u64 m.used])
structure AS where
 chunk:Nat
 hasC:Bool
 chunks:List (Nat × Nat)
 taken:Nat
 used:Nat
 init:Bool
 ms:List Mk
 hasS:Bool
 made:Nat
def AS.marks (S:AS):Option (List (V × V)):=if S.init=true then some (S.ms.map Mk.e) else none
def AS.stand (S:AS):List Int:=S.ms.map fun m=>(m.n:Int)
namespace AS
def has (S:AS):AI -> Prop
 | .arena=>True
 | .chunks=>S.hasC=true
 | .stand=>S.hasS=true
 | .marks=>S.marks.isSome=true
end AS
def blkV (l:List (Nat × Nat)) (i:Nat):V:=.int .u64 ((if i%2=0 then (l.getD (i / 2) (0,0)).1 else (l.getD (i / 2) (0,0)).2:Nat):Int)
structure AS.OK (S:AS):Prop where
 chunks:∀ b,b∈S.chunks -> b.1+b.2 <= 9223372036854775808 /\ b.2 <= 8388608
 taken:S.taken <= 8388608
 used:S.used<18446744073709551616
 chunk:S.chunk <= 1048576
 nil:S.hasC=false -> S.chunks=[]
 nilS:S.hasS=false -> S.stand=[]
 few:S.chunks.length <= 5000000000000
structure Good (H:Heap):Prop where
 fine:Fine H
 full:Full H
 lock:H.lock=0
section
variable {A:Slot -> Nat} {H:Heap} {B:AI -> Nat} {S:AS}
end
end
end Go.Proofs.YtlgmpheammbacaaGreatDoor
set_option maxRecDepth 1000000
namespace Go.Proofs.YtlgmpheammbacaaGreatDoor
open AM Go
noncomputable section
set_option linter.unusedVariables false
set_option linter.unusedSimpArgs false
attribute [local irreducible] T.get T.set
variable {σ σ':St} {A:Slot -> Nat} {H:Heap} {B:AI -> Nat} {S:AS}
theorem Wd.rgrow {ι:Type} {has:ι -> Prop} {A:ι -> Nat} {c:ι -> Cont} {Γ:T AF} {g:FuncId} {xs:List V} {P:V -> Prop} (h:Wd σ has A c) (r:Runs Γ [] g xs σ fun v σ'=>P v /\ Grow σ σ'):Runs Γ [] g xs σ fun v σ'=>P v /\ Grow σ σ' /\ Wd σ' has A c:=by
 refine (r.gw h.gw).mono ?_
 rintro v σ' ⟨⟨h1,h2⟩,h3⟩
 exact ⟨h1,h2,h.grow h2 h3⟩
theorem newCells_load (σ:St) (vs:List V):(σ.newCells vs).load σ.next 0 vs.length=some vs:=by
 have L:=Lcl.of_cells σ vs
 rw [L.load (off:=0) (k:=vs.length) (by omega)]
 congr 1
 apply List.ext_getElem (by simp)
 intro i h1 h2
 simp [lst,List.getD_eq_getElem?_getD,List.getElem?_eq_getElem h2]
theorem Wd.push {ι:Type} [DecidableEq ι] {has:ι -> Prop} {A:ι -> Nat} {c:ι -> Cont} (h:Wd σ has A c) {i0:ι} {xl esz bytes:Nat} {f:Nat -> V} {vs:List V} {sl:V}
  (hs:(has i0 /\ sl=.slice (some (A i0,0)) xl esz /\ c i0=.row (xl*esz) f) \/ (¬ has i0 /\ sl=.slice none 0 0 /\ xl=0)) (hz:0<esz) (hv:vs.length=esz) (m1:(xl+1)*bytes <= maxLenBytes) (m2:xl+1 <= maxLenBytes) (hf:vs.all V.flat=true) :
  ∃ b s,AM.appendV (σ.newCells vs) esz bytes sl (.slice (some (σ.next,0)) 1 esz)=some (.slice (some (b,0)) (xl+1) esz,s) /\ Wd s (fun i=>has i \/ i=i0) (updG A i0 b) (updG c i0 (.row (xl*esz+esz) fun j=>if j<xl*esz then f j else lst vs (j-xl*esz))):=by
 have h1:Wd (σ.newCells vs) has A c:=h.new _ rfl
 have hld:=newCells_load σ vs
 rw [hv] at hld
 rcases hs with ⟨hi,rfl,e⟩ | ⟨hi,rfl,rfl⟩
 ·obtain ⟨s,ha,hn,W⟩:=h1.append hi e (esz:=esz) (bytes:=bytes) (k:=1) (xl:=xl) (vs:=vs) rfl m1 m2 hf
  refine ⟨(σ.newCells vs).next,s,?_,?_⟩
  ·unfold AM.appendV
   simp only [Nat.one_mul,hld]
   rw [if_neg (by rintro (h | ⟨h,_⟩);omega;exact h rfl),if_neg (by omega)]
   exact ha
  ·rw [hv] at W
   refine W.sub id ?_ (fun _ _ _ _ e=>e) (fun _ _=>rfl) fun _ _=>.inl rfl
   rintro k (hk | rfl)
   ·exact hk
   ·exact hi
 ·refine ⟨(σ.newCells vs).next,(σ.newCells vs).newCells vs,?_,?_⟩
  ·unfold AM.appendV
   simp only [Nat.one_mul,hld]
   rw [if_neg (by rintro (h | ⟨_,h⟩);omega;cases h),if_neg (by omega)]
   unfold AM.appendL
   rw [if_pos ⟨m1,m2,hf⟩]
   simp only [if_true]
  ·have W:=h1.cells hi vs
   refine W.sub id (fun _ h=>h) (fun _ _ _ _ e=>e) (fun _ _=>rfl) ?_
   rintro k hk
   by_cases ck:k=i0
   ·subst ck
    right
    refine ⟨_,_,_,_,updG_same ..,updG_same ..,by omega,?_⟩
    intro j hj
    rw [if_neg (by omega),Nat.zero_mul,Nat.sub_zero]
   ·left;rw [updG_ne ck];exact (updG_ne ck).symm
variable {l:List V}
end
end Go.Proofs.YtlgmpheammbacaaGreatDoor
set_option maxRecDepth 1000000
namespace Go.Proofs.YtlgmpheammbacaaGreatDoor
open AM Go
noncomputable section
set_option linter.unusedVariables false
set_option linter.unusedSimpArgs false
attribute [local irreducible] T.get T.set
variable {σ σ':St} {A:Slot -> Nat} {H:Heap} {B:AI -> Nat} {S:AS}
end
end Go.Proofs.YtlgmpheammbacaaGreatDoor
set_option maxRecDepth 1000000
namespace Go.Proofs.YtlgmpheammbacaaGreatDoor
open AM Go
noncomputable section
set_option linter.unusedVariables false
set_option linter.unusedSimpArgs false
attribute [local irreducible] T.get T.set
variable {σ σ':St} {A:Slot -> Nat} {H:Heap} {B:AI -> Nat} {S:AS}
end
end Go.Proofs.YtlgmpheammbacaaGreatDoor
set_option maxRecDepth 1000000
namespace Go.Proofs.YtlgmpheammbacaaGreatDoor
open AM Go
noncomputable section
set_option linter.unusedVariables false
variable {H H':Heap} {fl pl fc:Nat -> List Nat}
end
end Go.Proofs.YtlgmpheammbacaaGreatDoor
set_option maxRecDepth 1000000
namespace Go.Proofs.YtlgmpheammbacaaGreatDoor
open AM Go
noncomputable section
set_option linter.unusedVariables false
variable {H H':Heap} {S:AS} {fl pl fc:Nat -> List Nat}
theorem np_few (ok:H.OK):H.np <= 1024:=by
 have h1:=ok.pages_le
 have h2:H.regs*2^H.order <= H.limit*2^H.order:=Nat.mul_le_mul_right _ ok.regs_le
 unfold Heap.np
 omega
theorem end_np (ok:H.OK):H.base+4096*H.np <= 9223372036854775808:=by
 have h1:=ok.end_le
 have h2:H.rsz*H.regs <= H.rsz*H.limit:=Nat.mul_le_mul_left _ ok.regs_le
 rw [rsz_np] at h2
 omega
end
end Go.Proofs.YtlgmpheammbacaaGreatDoor
set_option maxRecDepth 1000000
namespace Go.Proofs.YtlgmpheammbacaaGreatDoor
open AM Go
noncomputable section
set_option linter.unusedVariables false
set_option linter.unusedSimpArgs false
attribute [local irreducible] T.get T.set
variable {σ σ':St} {A:Slot -> Nat} {H:Heap} {B:AI -> Nat} {S:AS}
theorem HC.of {κ:Type} (R:HRep σ A H) (B:κ -> Nat) (c:κ -> Cont):HC σ A H (fun _:κ=>False) B c:=by
 refine (hrep_wd R).sub (fun k=>match k with | .inl s=>s | .inr _=>.heap) ?_ ?_ ?_ ?_
 ·rintro (k | k) hk
  ·exact hk
  ·exact hk.elim
 ·rintro (k | k) (l | l) hk hl e
  ·exact congrArg _ e
  ·exact hl.elim
  ·exact hk.elim
  ·exact hk.elim
 ·rintro (k | k) hk
  ·rfl
  ·exact hk.elim
 ·rintro (k | k) hk
  ·exact .inl rfl
  ·exact hk.elim
end
end Go.Proofs.YtlgmpheammbacaaGreatDoor
set_option maxRecDepth 1000000
namespace Go.Proofs.YtlgmpheammbacaaGreatDoor
open AM Go
noncomputable section
set_option linter.unusedVariables false
set_option linter.unusedSimpArgs false
attribute [local irreducible] T.get T.set
variable {σ σ':St} {A:Slot -> Nat} {H:Heap} {B:AI -> Nat} {S:AS}
end
end Go.Proofs.YtlgmpheammbacaaGreatDoor
set_option maxRecDepth 1000000
namespace Go.Proofs.YtlgmpheammbacaaGreatDoor
open AM Go
noncomputable section
set_option linter.unusedVariables false
set_option linter.unusedSimpArgs false
attribute [local irreducible] T.get T.set
variable {σ σ':St} {A:Slot -> Nat} {H:Heap} {B:AI -> Nat} {S:AS}
end
end Go.Proofs.YtlgmpheammbacaaGreatDoor
set_option maxRecDepth 1000000
namespace Go.Proofs.YtlgmpheammbacaaGreatDoor
open AM Go
noncomputable section
set_option linter.unusedVariables false
set_option linter.unusedSimpArgs false
attribute [local irreducible] T.get T.set
variable {σ σ':St} {A:Slot -> Nat} {H:Heap} {B:AI -> Nat} {S:AS}
end
end Go.Proofs.YtlgmpheammbacaaGreatDoor
set_option maxRecDepth 1000000
namespace Go.Proofs.YtlgmpheammbacaaGreatDoor
open AM Go
noncomputable section
set_option linter.unusedVariables false
set_option linter.unusedSimpArgs false
attribute [local irreducible] T.get T.set
variable {σ σ':St} {A:Slot -> Nat} {H:Heap} {B:AI -> Nat} {S:AS}
theorem Wd.setL {ι:Type} [DecidableEq ι] {has:ι -> Prop} {A:ι -> Nat} {c:ι -> Cont} (h:Wd σ has A c) {i:ι} (hi:has i) {n:Nat} {l:List V} (e:c i=.row n (lst l)) (hl:l.length=n) {k:Nat} {v:V} (hk:k<n) (hf:v.flat=true) :
  ∃ s,σ.store (A i) k [v]=some s /\ Wd s has A (updG c i (.row n (lst (l.set k v)))) /\ s.next=σ.next:=by
 obtain ⟨s,e,W,hn⟩:=Wd.store h hi e (off:=k) (vs:=[v]) (by show k+1 <= n;omega) (by simp [hf])
 refine ⟨s,e,W.sub id (fun _ h=>h) (fun _ _ _ _ e=>e) (fun _ _=>rfl) ?_,hn⟩
 intro j hj
 by_cases c:j=i
 ·subst c
  right
  refine ⟨_,_,n,lst (l.set k v),updG_same ..,updG_same ..,Nat.le_refl _,?_⟩
  intro j hj
  unfold over lst
  by_cases c:k=j
  ·subst c
   rw [if_pos (by simp)]
   simp [List.getD_eq_getElem?_getD,hl,hk]
  ·rw [if_neg (by simp;omega)]
   simp [List.getD_eq_getElem?_getD,List.getElem?_set_ne c]
 ·left;rw [updG_ne c];exact (updG_ne c).symm
theorem Wd.box {ι:Type} [DecidableEq ι] {has:ι -> Prop} {A:ι -> Nat} {c:ι -> Cont} (h:Wd σ has A c) {b n:Nat} {f:Nat -> V} (L:Lcl σ b n f) (hne:∀ i,has i -> A i≠b) :
  Wd σ (Sum.elim has fun _:Unit=>True) (Sum.elim A fun _=>b) (Sum.elim c fun _=>.row n f):=by
 have h0:Wd σ (Sum.elim has fun _:Unit=>False) (Sum.elim A fun _=>0) (Sum.elim c fun _=>.map []):=by
  refine ⟨h.gw,h.wid,?_,?_,?_,?_⟩
  ·rintro (i | i) hi
   ·exact h.not_wid hi
   ·exact hi.elim
  ·rintro (i | i) (j | j) hi hj e
   ·exact congrArg _ (h.inj i j hi hj e)
   ·exact hj.elim
   ·exact hi.elim
   ·exact hi.elim
  ·rintro (i | i) hi
   ·exact h.hold i hi
   ·exact hi.elim
  ·rintro (i | i) (j | j) o hi hj hne ho hg
   ·exact h.cut i j o hi hj (fun e=>hne (congrArg _ e)) ho hg
   ·exact hj.elim
   ·exact hi.elim
   ·exact hi.elim
 have W:=h0.addLcl (i0:=Sum.inr ()) (fun h=>h) L (fun i hi=>by
  rcases i with i | i
  ·exact hne i hi
  ·exact hi.elim)
 refine W.sub id ?_ (fun _ _ _ _ e=>e) ?_ ?_
 ·rintro (i | i) hi
  ·exact .inl hi
  ·exact .inr rfl
 ·rintro (i | i) hi
  ·show _=updG _ _ _ _;rw [updG_ne (by intro h;cases h)];rfl
  ·exact updG_same.symm
 ·rintro (i | i) hi
  ·left;show _=updG _ _ _ _;rw [updG_ne (by intro h;cases h)];rfl
  ·left;exact updG_same.symm
variable {l:List V} {b n:Nat} {f:Nat -> V}
end
end Go.Proofs.YtlgmpheammbacaaGreatDoor
set_option maxRecDepth 1000000
namespace Go.Proofs.YtlgmpheammbacaaGreatDoor
open AM Go
noncomputable section
set_option linter.unusedVariables false
set_option linter.unusedSimpArgs false
attribute [local irreducible] T.get T.set
variable {σ σ':St} {A:Slot -> Nat} {H:Heap} {B:AI -> Nat} {S:AS}
section
variable {l:List V} {b n b' n':Nat} {f f':Nat -> V}
end
end
end Go.Proofs.YtlgmpheammbacaaGreatDoor
set_option maxRecDepth 1000000
namespace Go.Proofs.YtlgmpheammbacaaGreatDoor
open AM Go
noncomputable section
set_option linter.unusedVariables false
set_option linter.unusedSimpArgs false
attribute [local irreducible] T.get T.set
variable {σ σ':St} {A:Slot -> Nat} {H H':Heap} {B:AI -> Nat} {S S':AS}
section
variable {κ:Type} {hasK:κ -> Prop} {AK:κ -> Nat} {cK:κ -> Cont}
end
end
end Go.Proofs.YtlgmpheammbacaaGreatDoor
set_option maxRecDepth 1000000
namespace Go.Proofs.YtlgmpheammbacaaGreatDoor
open AM Go
noncomputable section
set_option linter.unusedVariables false
set_option linter.unusedSimpArgs false
attribute [local irreducible] T.get T.set
variable {σ σ':St} {A:Slot -> Nat} {H H':Heap} {B:AI -> Nat} {S S':AS}
end
end Go.Proofs.YtlgmpheammbacaaGreatDoor
set_option maxRecDepth 1000000
namespace Go.Proofs.YtlgmpheammbacaaGreatDoor
open AM Go
noncomputable section
set_option linter.unusedVariables false
set_option linter.unusedSimpArgs false
attribute [local irreducible] T.get T.set
variable {σ σ':St} {A:Slot -> Nat} {H:Heap} {fl pl fc:Nat -> List Nat}
def liveP (H:Heap) (x:Nat):List (Nat × Nat) :=
 if (H.page x).kind=2 then [(H.addr x,4096*2^(H.page x).order.toNat)]
 else if (H.page x).kind=4 then ((List.range (256 / 2^(H.page x).cls.toNat)).filter fun q=>decide ((H.page x).bit q=1)).map fun q=>(H.addr x+q*(16*2^(H.page x).cls.toNat),16*2^(H.page x).cls.toNat)
 else []
def liveTo (H:Heap) (n:Nat):List (Nat × Nat):=(List.range n).flatMap (liveP H)
def liveL (H:Heap):List (Nat × Nat):=liveTo H H.np
theorem liveTo_succ (H:Heap) (n:Nat):liveTo H (n+1)=liveTo H n++liveP H n:=by
 unfold liveTo;rw [List.range_succ,List.flatMap_append];simp
theorem liveP_len (H:Heap) (x:Nat):(liveP H x).length <= 256:=by
 unfold liveP
 split
 ·simp
 ·split
  ·rw [List.length_map]
   refine Nat.le_trans (List.length_filter_le _ _) ?_
   rw [List.length_range]
   exact Nat.div_le_self _ _
  ·simp
theorem liveTo_len (H:Heap) (n:Nat):(liveTo H n).length <= 256*n:=by
 induction n with
 |zero=>exact Nat.le_refl _
 |succ n ih=>rw [liveTo_succ,List.length_append];have:=liveP_len H n;omega
theorem blkV_push (l:List (Nat × Nat)) (b:Nat × Nat) {j:Nat} (hj:j<(l++[b]).length*2):(if j<l.length*2 then blkV l j else lst [.int .u64 b.1,.int .u64 b.2] (j-l.length*2))=blkV (l++[b]) j:=by
 rw [List.length_append,List.length_singleton] at hj
 by_cases cj:j<l.length*2
 ·rw [if_pos cj]
  unfold blkV
  simp [List.getD_eq_getElem?_getD,List.getElem?_append_left (show j / 2<l.length by omega)]
 ·rw [if_neg cj]
  unfold blkV
  simp only [List.getD_eq_getElem?_getD,List.getElem?_append_right (show l.length <= j / 2 by omega),show j / 2-l.length=0 by omega]
  rcases (by omega:j=l.length*2 \/ j=l.length*2+1) with rfl | rfl
  ·rw [if_pos (by omega)];simp [lst]
  ·rw [if_neg (by omega)];simp [lst]
def listV (l:List (Nat × Nat)) (b:Nat):V:=if l=[] then .slice none 0 0 else .slice (some (b,0)) l.length 2
abbrev LH (σ:St) (A:Slot -> Nat) (H:Heap) (l:List (Nat × Nat)) (b:Nat):Prop:=HC σ A H (fun _:Unit=>l≠[]) (fun _=>b) (fun _=>.row (l.length*2) (blkV l))
abbrev LW {κ:Type} (σ:St) (A:Slot -> Nat) (H:Heap) (l:List (Nat × Nat)) (b:Nat) (hasK:κ -> Prop) (BK:κ -> Nat) (cK:κ -> Cont):Prop :=
 Wd σ (Sum.elim (Sum.elim H.has fun _:Unit=>l≠[]) hasK) (Sum.elim (Sum.elim A fun _=>b) BK) (Sum.elim (Sum.elim (heapC H A) fun _=>.row (l.length*2) (blkV l)) cK)
theorem LW.push {κ:Type} [DecidableEq κ] {hasK:κ -> Prop} {BK:κ -> Nat} {cK:κ -> Cont} {l:List (Nat × Nat)} {b:Nat} (h:LW σ A H l b hasK BK cK) (x:Nat × Nat) (hl:l.length <= 1000000000) :
  ∃ b' s,AM.appendV (σ.newCells [.int .u64 x.1,.int .u64 x.2]) 2 16 (listV l b) (.slice (some (σ.next,0)) 1 2)=some (listV (l++[x]) b',s) /\ LW s A H (l++[x]) b' hasK BK cK:=by
 obtain ⟨b',s,ha,W⟩:=Wd.push h (i0:=Sum.inl (Sum.inr ())) (xl:=l.length) (esz:=2) (bytes:=16) (f:=blkV l) (vs:=[.int .u64 x.1,.int .u64 x.2]) (sl:=listV l b) (by
   unfold listV
   by_cases c:l=[]
   ·rw [if_pos c];exact .inr ⟨fun h=>h c,rfl,by rw [c];rfl⟩
   ·rw [if_neg c];exact .inl ⟨c,rfl,rfl⟩) (by omega) rfl (by unfold maxLenBytes;omega) (by unfold maxLenBytes;omega) rfl
 have hne:l++[x]≠[]:=by simp
 refine ⟨b',s,?_,W.sub id ?_ (fun _ _ _ _ e=>e) ?_ ?_⟩
 ·rw [ha];unfold listV;rw [if_neg hne,List.length_append];rfl
 ·rintro ((i | i) | i) hi
  ·exact .inl hi
  ·exact .inr rfl
  ·exact .inl hi
 ·rintro ((i | i) | i) hi
  ·show _=updG _ _ _ _;rw [updG_ne (by intro h;cases h)];rfl
  ·exact updG_same.symm
  ·show _=updG _ _ _ _;rw [updG_ne (by intro h;cases h)];rfl
 ·rintro ((i | i) | i) hi
  ·left;show _=updG _ _ _ _;rw [updG_ne (by intro h;cases h)];rfl
  ·right
   refine ⟨_,_,(l++[x]).length*2,blkV (l++[x]),updG_same ..,rfl,(by rw [List.length_append,List.length_singleton];omega),?_⟩
   intro j hj
   exact blkV_push l x hj
  ·left;show _=updG _ _ _ _;rw [updG_ne (by intro h;cases h)];rfl
theorem r_liveL (h:HRep σ A H) (hI:Inv H fl pl fc (fun _=>False)) :
  Runs G0 [] 77 [.ptr (some (A .heap,0))] σ fun r s=>∃ b,r=listV (liveL H) b /\ LH s A H (liveL H) b:=by
 refine runs_body g77 rfl ?_
 have ok:=hI.ok
 have h5:=h.cell (s:=.heap) trivial (i:=5) (show 5<7 by omega)
 rw [show H.cell A .heap 5=.ptr (some (A .pool,0)) from rfl] at h5
 obtain ⟨v,s1,⟨hv,hs1⟩,hr1⟩:=r_PMap h
 subst hv hs1
 simp -implicitDefEqProofs only [go_sem,Nat.reduceEqDiff,Nat.reduceAdd,h5]
 refine runs_ret hr1 ?_
 simp -implicitDefEqProofs only [go_sem,Nat.reduceEqDiff,Nat.reduceAdd]
 have hnp:=np_few ok
 have hend:=end_np ok
 refine aw_loop (fun (n:Nat) (fr:AM.Fr) (s:St)=>fr.defers=[] /\ fr.tmps.get 0=some (.ptr (some (A .heap,0))) /\ fr.tmps.get 4=some (.ptr (some (A .map,0))) /\ ∃ (i b:Nat),fr.tmps.get 5=some (.int .i64 i) /\ fr.tmps.get 3=some (listV (liveTo H i) b) /\ i+n=H.np /\ LH s A H (liveTo H i) b) ?_ H.np ?_
 ·rintro n ⟨tm,ds⟩ s ⟨hd,t0,t4,i,b,t5,t3,hi,R⟩
  simp only at hd t0 t4 t5 t3
  subst hd
  have hll:=liveTo_len H i
  obtain ⟨v,s2,⟨hv,hs2⟩,hr2⟩:=r_Pages (HC.rep R) ok
  subst hv hs2
  by_cases c:i<H.np
  ·have d1:(i:Int)<(H.np:Int):=by omega
   obtain ⟨v,s3,⟨hv,g3,R3⟩,hr3⟩:=Wd.rgrow R (r_At (HC.rep R) ok c)
   subst hv
   obtain ⟨z,hz⟩:∃ z,z=[V.int .i64 0,V.int .i64 0,V.int .i64 0,V.int .i64 0,V.int .i64 0,V.int .i64 0,V.int .i64 0,V.int .u64 0,V.int .u64 0,V.int .u64 0,V.int .u64 0]:=⟨_,rfl⟩
   obtain ⟨x,hx⟩:∃ x,x=H.page i:=⟨_,rfl⟩
   rw [<- hx] at hr3
   have zl:z.length=11:=by rw [hz];rfl
   have xf:x.cells.all V.flat=true:=rfl
   have hst:=new_store (σ:=s3) (z:=z) (vs:=x.cells) (n:=11) (Nat.le_of_eq (Page.cells_len x)) xf
   have R4:LH (s3.lay 11 z x.cells) A H (liveTo H i) b:=Wd.lay R3 (by rw [Page.cells_len];omega) xf
   have L4:=Lcl.lay s3 11 z x.cells (Page.cells_len x)
   have R5:LW (s3.lay 11 z x.cells) A H (liveTo H i) b (fun _:Unit=>True) (fun _=>s3.next) (fun _=>.row 11 (lst x.cells)):=Wd.box R4 L4 fun j hj e=>by
    have:=Wd.lt R3 hj;omega
   have h2:=(HC.rep R4).cell (s:=.heap) trivial (i:=2) (show 2<7 by omega)
   rw [show H.cell A .heap 2=.int .u64 H.base from rfl] at h2
   have k0:=L4.cell (i:=0) (by omega)
   have k1:=L4.cell (i:=1) (by omega)
   have k2:=L4.cell (i:=2) (by omega)
   rw [show lst x.cells 0=.int .i64 x.kind from rfl] at k0
   rw [show lst x.cells 1=.int .i64 x.order from rfl] at k1
   rw [show lst x.cells 2=.int .i64 x.cls from rfl] at k2
   have e1:IntKind.u64.wrap (i:Int)=(i:Int):=u64_nat (by omega)
   have e2:IntKind.u64.wrap ((i:Int)*4096)=((i*4096:Nat):Int):=u64_mul (b:=4096) (by omega)
   have e3:IntKind.u64.wrap ((H.base:Int)+((i*4096:Nat):Int))=(H.addr i:Int):=by
    rw [u64_add (by omega)];unfold Heap.addr;rw [Nat.mul_comm]
   have e9:IntKind.i64.wrap ((i:Int)+1)=((i+1:Nat):Int):=i64_add (a:=i) (b:=1) (by omega)
   have hadr:H.addr i <= 9223372036854775808:=by unfold Heap.addr;omega
   generalize hs4:s3.lay 11 z x.cells=s4 at *
   obtain ⟨a,ha⟩:∃ a,a=H.addr i:=⟨_,rfl⟩
   rw [<- ha] at e3 hadr
   by_cases q2:x.kind=2
   ·have hP:liveP H i=[(a,4096*2^x.order.toNat)]:=by unfold liveP;rw [<- hx,if_pos q2,ha]
    obtain ⟨k,fam,g⟩:=hI.pg i c (fun h=>h)
    have hord:x.order=(k:Int):=by rw [hx];exact g.order
    have hk8:k <= 8:=Nat.le_trans g.le ok.order_le
    have hpw:2^k <= 256:=by have:=Nat.pow_le_pow_right (n:=2) (by omega) hk8;omega
    rw [hord,Int.toNat_natCast] at hP
    rw [hord] at k1
    have dk:(0:Int) <= (k:Int):=by omega
    have e4:shlI .u64 4096 (k:Int)=((4096*2^k:Nat):Int):=u64_shl (a:=4096) (by omega) (by omega)
    obtain ⟨b',s5,hap,R6⟩:=LW.push R5 (a,4096*2^k) (by omega)
    have f1:fillP [V.int .u64 0,V.int .u64 0] [(0,1,V.int .u64 a),(1,1,V.int .u64 (4096*2^k:Nat))]=some [V.int .u64 a,.int .u64 (4096*2^k:Nat)]:=rfl
    have f2:fillP (repeatZ [V.int .u64 0,.int .u64 0] 1) [(0,2,V.agg [V.int .u64 a,.int .u64 (4096*2^k:Nat)])]=some [V.int .u64 a,.int .u64 (4096*2^k:Nat)]:=rfl
    simp -implicitDefEqProofs only [go_sem,Nat.reduceEqDiff,Nat.reduceAdd,t0,t4,t5,t3]
    refine runs_ret hr2 ?_
    simp -implicitDefEqProofs only [go_sem,Nat.reduceEqDiff,Nat.reduceAdd,t0,t4,t5,t3,d1]
    refine runs_ret hr3 ?_
    simp -implicitDefEqProofs only [go_sem,Nat.reduceEqDiff,Nat.reduceLeDiff,Nat.reduceAdd,t0,t4,t5,t3, <- hz,zl,vcells_agg,Page.cells_len,hst,h2,e1,e2,e3,k0,q2,k1,bin_shl,dk,e4,evalParts,f1,f2,hap,e9]
    exact ⟨n-1,by omega,i+1,b',rfl,by rw [liveTo_succ,hP],by omega,by rw [liveTo_succ,hP];exact Wd.left R6⟩
   ·by_cases q4:x.kind=4
    ·obtain ⟨cl,sl⟩:=hI.sl i c (fun h=>h) (by rw [<- hx];exact q4)
     have hc8:=sl.c8
     have hcls:x.cls=(cl:Int):=by rw [hx];exact sl.cls
     rw [hcls] at k2
     have hw:=w8 hc8
     obtain ⟨w,hwd⟩:∃ w,w=16*2^cl:=⟨_,rfl⟩
     obtain ⟨nn,hnn⟩:∃ nn,nn=256 / 2^cl:=⟨_,rfl⟩
     obtain ⟨w1,w2,w3,w4,w5⟩:=hw
     rw [<- hwd, <- hnn] at w1
     rw [<- hwd] at w2 w3
     rw [<- hnn] at w4 w5
     have hP:liveP H i=((List.range nn).filter fun q=>decide (x.bit q=1)).map fun q=>(a+q*w,w):=by
      unfold liveP
      rw [<- hx,if_neg q2,if_pos q4,hcls,Int.toNat_natCast, <- hnn, <- hwd, <- ha]
     have dk:(0:Int) <= (cl:Int):=by omega
     have hpc:2^cl <= 128:=by omega
     have e4:shlI .u64 16 (cl:Int)=(w:Int):=by rw [hwd];exact u64_shl (a:=16) (by omega) (by omega)
     have e5:IntKind.u64.wrap ((4096:Int).tdiv (w:Int))=(nn:Int):=by
      have hdv:4096 / w=nn:=by rw [<- w1];exact Nat.mul_div_cancel_left _ (by omega)
      have:=u64_div (a:=4096) (b:=w) (by omega)
      rw [hdv] at this
      exact this
     have cw:(w:Int)≠0:=by omega
     have d42:¬ ((4:Int)=2):=by decide
     simp -implicitDefEqProofs only [go_sem,Nat.reduceEqDiff,Nat.reduceAdd,t0,t4,t5,t3]
     refine runs_ret hr2 ?_
     simp -implicitDefEqProofs only [go_sem,Nat.reduceEqDiff,Nat.reduceAdd,t0,t4,t5,t3,d1]
     refine runs_ret hr3 ?_
     simp -implicitDefEqProofs only [go_sem,Nat.reduceEqDiff,Nat.reduceLeDiff,Nat.reduceAdd,t0,t4,t5,t3, <- hz,zl,vcells_agg,Page.cells_len,hst,h2,e1,e2,e3,k0,q4,d42,k2,bin_shl,dk,e4,bin_quo,cw,ne_eq,not_false_eq_true,e5]
     have hfl:∀ q,(((List.range q).filter fun q=>decide (x.bit q=1)).map fun q=>(a+q*w,w)).length <= q:=fun q=>by
      rw [List.length_map];exact Nat.le_trans (List.length_filter_le _ _) (Nat.le_of_eq List.length_range)
     refine aw_loop (fun (m:Nat) (fr:AM.Fr) (s:St)=>fr.defers=[] /\ fr.tmps.get 0=some (.ptr (some (A .heap,0))) /\ fr.tmps.get 4=some (.ptr (some (A .map,0))) /\ fr.tmps.get 5=some (.int .i64 i) /\ fr.tmps.get 6=some (.ptr (some (s3.next,0))) /\ fr.tmps.get 8=some (.int .u64 a) /\ fr.tmps.get 9=some (.int .u64 w) /\ fr.tmps.get 57=some (.int .u64 nn) ∧
      ∃ q b,fr.tmps.get 58=some (.int .u64 (q:Nat)) /\ q+m=nn /\ fr.tmps.get 3=some (listV (liveTo H i++((List.range q).filter fun q=>decide (x.bit q=1)).map fun q=>(a+q*w,w)) b) ∧
      LW s A H (liveTo H i++((List.range q).filter fun q=>decide (x.bit q=1)).map fun q=>(a+q*w,w)) b (fun _:Unit=>True) (fun _=>s3.next) (fun _=>.row 11 (lst x.cells))) ?_ nn ?_
     ·rintro m ⟨tm,ds⟩ s ⟨hd,t0,t4,t5,t6,t8,t9,t57,q,b,t58,hq,t3,R⟩
      simp only at hd t0 t4 t5 t6 t8 t9 t57 t58 t3
      subst hd
      have hfq:=hfl q
      by_cases cq:q<nn
      ·have dq:(q:Int)<(nn:Int):=by omega
       have c5:(64:Int)≠0:=by decide
       have f2:IntKind.u64.wrap ((q:Int).tdiv 64)=((q / 64:Nat):Int):=u64_div (b:=64) (by omega)
       have f3:((q:Int).tmod 64)=((q%64:Nat):Int):=nat_tmod q 64
       have hj:q / 64<4:=by omega
       have hm64:q%64<64:=Nat.mod_lt _ (by omega)
       obtain ⟨j,hjj⟩:∃ j,j=q / 64:=⟨_,rfl⟩
       obtain ⟨m6,hmm⟩:∃ m,m=q%64:=⟨_,rfl⟩
       rw [<- hjj] at hj f2
       rw [<- hmm] at hm64 f3
       have c6:(0:Int) <= (j:Int) /\ (j:Int)<((4:Nat):Int):=by omega
       have h1:s.cell s3.next (7+j)=some (.int .u64 (x.bw j)):=by
        have:=Wd.cell R (i:=.inr ()) trivial (n:=11) (f:=lst x.cells) rfl (k:=7+j) (by omega)
        refine Eq.trans this ?_
        rw [<- cell_bw x hj]
        rcases (by omega:j=0 \/ j=1 \/ j=2 \/ j=3) with h | h | h | h <;> rw [h] <;> rfl
       have c7:(0:Int) <= (m6:Int):=by omega
       have f4:shrI .u64 ((x.bw j:Nat):Int) (m6:Int)=((x.bw j / 2^m6:Nat):Int):=shr_nat rfl (by omega)
       have f5:=u64_bit (w:=x.bw j) (n:=m6) (by rw [hx];exact sl.words j)
       have hbit:x.bit q=x.bw j / 2^m6%2:=by simp [Page.bit, <- hjj, <- hmm]
       have e9q:IntKind.u64.wrap ((q:Int)+1)=((q+1:Nat):Int):=u64_add (a:=q) (b:=1) (by omega)
       have hrg:((List.range (q+1)).filter fun q=>decide (x.bit q=1))=((List.range q).filter fun q=>decide (x.bit q=1))++(if x.bit q=1 then [q] else []):=by
        rw [List.range_succ,List.filter_append]
        congr 1
        by_cases cb:x.bit q=1 <;> simp [cb]
       by_cases cb:x.bit q=1
       ·have f6:((x.bw j / 2^m6%2:Nat):Int)=1:=by rw [<- hbit,cb];rfl
        have hqw:q*w <= 4096:=by
         have:q*w <= nn*w:=Nat.mul_le_mul_right _ (by omega)
         rw [Nat.mul_comm nn,w1] at this;exact this
        have g2:IntKind.u64.wrap ((q:Int)*(w:Int))=((q*w:Nat):Int):=u64_mul (by omega)
        have g3:IntKind.u64.wrap ((a:Int)+((q*w:Nat):Int))=((a+q*w:Nat):Int):=u64_add (by omega)
        obtain ⟨b',s5,hap,R6⟩:=LW.push R (a+q*w,w) (by rw [List.length_append];omega)
        have g1:fillP [V.int .u64 0,V.int .u64 0] [(0,1,V.int .u64 (a+q*w:Nat)),(1,1,V.int .u64 w)]=some [V.int .u64 (a+q*w:Nat),.int .u64 w]:=rfl
        have g4:fillP (repeatZ [V.int .u64 0,.int .u64 0] 1) [(0,2,V.agg [V.int .u64 (a+q*w:Nat),.int .u64 w])]=some [V.int .u64 (a+q*w:Nat),.int .u64 w]:=rfl
        simp -implicitDefEqProofs only [go_sem,Nat.reduceEqDiff,Nat.reduceLeDiff,Nat.reduceAdd,t0,t4,t5,t3,t6,t8,t9,t57,t58,dq,bin_quo,bin_rem,ne_eq,c5,not_false_eq_true,f2,f3,c6,and_self,Int.toNat_natCast,Nat.mul_one,h1,bin_shr,c7,f4,f5,f6,g2,g3,evalParts,g1,g4,hap,e9q]
        refine ⟨m-1,by omega,q+1,b',rfl,by omega,?_,?_⟩
        ·rw [hrg,if_pos cb,List.map_append, <- List.append_assoc];rfl
        ·rw [hrg,if_pos cb,List.map_append, <- List.append_assoc];exact R6
       ·have f6:¬ ((x.bw j / 2^m6%2:Nat):Int)=1:=by rw [<- hbit];omega
        simp -implicitDefEqProofs only [go_sem,Nat.reduceEqDiff,Nat.reduceLeDiff,Nat.reduceAdd,t0,t4,t5,t3,t6,t8,t9,t57,t58,dq,bin_quo,bin_rem,ne_eq,c5,not_false_eq_true,f2,f3,c6,and_self,Int.toNat_natCast,Nat.mul_one,h1,bin_shr,c7,f4,f5,f6,e9q]
        refine ⟨m-1,by omega,q+1,b,rfl,by omega,?_,?_⟩
        ·rw [hrg,if_neg cb,List.append_nil]
        ·rw [hrg,if_neg cb,List.append_nil];exact R
      ·have dq:¬ (q:Int)<(nn:Int):=by omega
       have eq:q=nn:=by omega
       subst eq
       rw [<- hP] at t3 R
       simp -implicitDefEqProofs only [go_sem,Nat.reduceEqDiff,Nat.reduceLeDiff,Nat.reduceAdd,t0,t4,t5,t3,t6,t8,t9,t57,t58,dq,e9]
       exact ⟨n-1,by omega,i+1,b,rfl,by rw [liveTo_succ],by omega,by rw [liveTo_succ];exact Wd.left R⟩
     ·simp -implicitDefEqProofs only [go_sem,Nat.reduceEqDiff]
      have e0:liveTo H i++((List.range 0).filter fun q=>decide (x.bit q=1)).map (fun q=>(a+q*w,w))=liveTo H i:=by simp
      exact ⟨t0,t4,t5,0,b,rfl,by omega,by rw [e0];exact t3,by rw [e0];exact R5⟩
    ·have hP:liveP H i=[]:=by unfold liveP;rw [<- hx,if_neg q2,if_neg q4]
     simp -implicitDefEqProofs only [go_sem,Nat.reduceEqDiff,Nat.reduceAdd,t0,t4,t5,t3]
     refine runs_ret hr2 ?_
     simp -implicitDefEqProofs only [go_sem,Nat.reduceEqDiff,Nat.reduceAdd,t0,t4,t5,t3,d1]
     refine runs_ret hr3 ?_
     simp -implicitDefEqProofs only [go_sem,Nat.reduceEqDiff,Nat.reduceLeDiff,Nat.reduceAdd,t0,t4,t5,t3, <- hz,zl,vcells_agg,Page.cells_len,hst,h2,e1,e2,e3,k0,q2,q4,e9]
     exact ⟨n-1,by omega,i+1,b,rfl,by rw [liveTo_succ,hP,List.append_nil],by omega,by rw [liveTo_succ,hP,List.append_nil];exact R4⟩
  ·have d1:¬ (i:Int)<(H.np:Int):=by omega
   have ei:i=H.np:=by omega
   subst ei
   simp -implicitDefEqProofs only [go_sem,Nat.reduceEqDiff,Nat.reduceAdd,t0,t4,t5,t3]
   refine runs_ret hr2 ?_
   simp -implicitDefEqProofs only [go_sem,Nat.reduceEqDiff,Nat.reduceAdd,t0,t4,t5,t3,d1]
   exact ⟨b,rfl,R⟩
 ·simp -implicitDefEqProofs only [go_sem,Nat.reduceEqDiff]
  refine ⟨0,0,rfl,rfl,by omega,?_⟩
  refine Wd.sub (HC.of (κ:=Unit) h (fun _=>0) (fun _=>.map [])) id ?_ (fun _ _ _ _ e=>e) ?_ ?_
  ·rintro (j | j) hj
   ·exact hj
   ·exact (hj rfl).elim
  ·rintro (j | j) hj
   ·rfl
   ·exact (hj rfl).elim
  ·rintro (j | j) hj
   ·exact .inl rfl
   ·exact (hj rfl).elim
end
end Go.Proofs.YtlgmpheammbacaaGreatDoor
set_option maxRecDepth 1000000
namespace Go.Proofs.YtlgmpheammbacaaGreatDoor
open AM Go
noncomputable section
set_option linter.unusedVariables false
set_option linter.unusedSimpArgs false
attribute [local irreducible] T.get T.set
variable {σ σ':St} {A:Slot -> Nat} {H:Heap} {fl pl fc:Nat -> List Nat}
theorem r_LiveL (h:HRep σ A H) (hg:Good H) :
  Runs G0 [] 41 [.ptr (some (A .heap,0))] σ fun r s=>∃ b,r=listV (liveL H) b /\ LH s A H (liveL H) b:=by
 refine runs_body g41 rfl ?_
 obtain ⟨fl,pl,fc,hI⟩:=hg.fine
 obtain ⟨v,s1,⟨R1,hv⟩,hr1⟩:=r_lock h hg.lock
 subst hv
 obtain ⟨v,s2,⟨b,hv,R2⟩,hr2⟩:=r_liveL R1 (hI.setLock 1)
 have e1:liveL (H.setLock 1)=liveL H:=rfl
 rw [e1] at hv R2
 subst hv
 obtain ⟨v,s3,⟨A3,R3,hA3,hv⟩,hr3⟩:=HC.call (Γ:=G0) (Γ':=G0) (M:=[]) (H':=H) (P:=fun v A'=>A=A' /\ v=.tuple []) (fun _ _ h=>h) (fun _ h=>nomatch h) R2 fun s hs=>(r_unlock hs rfl).mono fun v s' ⟨h1,h2⟩=>⟨A,by rw [setLock_id hg.lock] at h1;exact h1,rfl,h2⟩
 subst hA3 hv
 simp -implicitDefEqProofs only [go_sem,Nat.reduceEqDiff,Nat.reduceAdd]
 refine runs_ret hr1 ?_
 simp -implicitDefEqProofs only [go_sem,Nat.reduceEqDiff,Nat.reduceAdd]
 refine runs_ret hr2 ?_
 simp -implicitDefEqProofs only [go_sem,Nat.reduceEqDiff,Nat.reduceAdd,wpDefers_cons]
 refine ⟨.inr gUnlock,runs_ret hr3 ?_⟩
 simp -implicitDefEqProofs only [go_sem,Nat.reduceEqDiff,Nat.reduceAdd]
 exact ⟨b,rfl,R3⟩
end
end Go.Proofs.YtlgmpheammbacaaGreatDoor
set_option maxRecDepth 1000000
namespace Go.Proofs.YtlgmpheammbacaaGreatDoor
open AM Go
noncomputable section
set_option linter.unusedVariables false
set_option linter.unusedSimpArgs false
attribute [local irreducible] T.get T.set
variable {σ σ':St} {A:Slot -> Nat} {H H':Heap} {fl pl fc:Nat -> List Nat}
section
variable {κ:Type} {hasK:κ -> Prop} {BK:κ -> Nat} {cK:κ -> Cont} {l:List (Nat × Nat)} {b:Nat}
theorem LW.call {g:FuncId} {xs:List V} {P:V -> Prop} (h:LW σ A H l b hasK BK cK)
  (spec:∀ σ,HRep σ A H -> Runs G0 [] g xs σ fun v σ'=>HRep σ' A H' /\ P v) :
  Runs G0 [] g xs σ fun v σ'=>LW σ' A H' l b hasK BK cK /\ P v:=by
 have h1:Wd σ (Sum.elim H.has (Sum.elim (fun _:Unit=>l≠[]) hasK)) (Sum.elim A (Sum.elim (fun _=>b) BK)) (Sum.elim (heapC H A) (Sum.elim (fun _=>.row (l.length*2) (blkV l)) cK)):=by
  refine Wd.sub h (fun k=>match k with | .inl s=>.inl (.inl s) | .inr (.inl u)=>.inl (.inr u) | .inr (.inr k)=>.inr k) ?_ ?_ ?_ ?_
  ·rintro (k | k | k) hk <;> exact hk
  ·rintro (k | k | k) (j | j | j) hk hj e <;> simp_all
  ·rintro (k | k | k) hk <;> rfl
  ·rintro (k | k | k) hk <;> exact .inl rfl
 refine (HC.call (Γ:=G0) (Γ':=G0) (M:=[]) (H':=H') (P:=fun v A'=>A=A' /\ P v) (fun _ _ h=>h) (fun _ h=>nomatch h) h1 fun s hs=>(spec s hs).mono fun v s' ⟨h1,h2⟩=>⟨A,h1,rfl,h2⟩).mono ?_
 rintro v s ⟨A',W,rfl,hp⟩
 refine ⟨Wd.sub W (fun k=>match k with | .inl (.inl s)=>.inl s | .inl (.inr u)=>.inr (.inl u) | .inr k=>.inr (.inr k)) ?_ ?_ ?_ ?_,hp⟩
 ·rintro ((k | k) | k) hk <;> exact hk
 ·rintro ((k | k) | k) ((j | j) | j) hk hj e <;> simp_all
 ·rintro ((k | k) | k) hk <;> rfl
 ·rintro ((k | k) | k) hk <;> exact .inl rfl
theorem LW.live {g:FuncId} {xs:List V} (h:HC σ A H hasK BK cK)
  (spec:∀ σ,HRep σ A H -> Runs G0 [] g xs σ fun r s=>∃ b,r=listV (liveL H) b /\ LH s A H (liveL H) b) :
  Runs G0 [] g xs σ fun r s=>∃ b,r=listV (liveL H) b /\ LW s A H (liveL H) b hasK BK cK:=by
 have h1:Wd σ (Sum.elim (Sum.elim H.has fun _:Unit=>False) hasK) (Sum.elim (Sum.elim A fun _=>0) BK) (Sum.elim (Sum.elim (heapC H A) fun _=>.map []) cK):=by
  refine Wd.sub h (fun k=>match k with | .inl (.inl s)=>.inl s | .inl (.inr u)=>.inl .heap | .inr k=>.inr k) ?_ ?_ ?_ ?_
  ·rintro ((k | k) | k) hk
   ·exact hk
   ·exact hk.elim
   ·exact hk
  ·rintro ((k | k) | k) ((j | j) | j) hk hj e <;> simp_all
  ·rintro ((k | k) | k) hk
   ·rfl
   ·exact hk.elim
   ·rfl
  ·rintro ((k | k) | k) hk
   ·exact .inl rfl
   ·exact hk.elim
   ·exact .inl rfl
 refine (Wd.call (Γ:=G0) (Γ':=G0) (M:=[]) (P:=fun v has' A' c'=>∃ b,v=listV (liveL H) b /\ has'=(Sum.elim H.has fun _:Unit=>liveL H≠[]) /\ A'=(Sum.elim A fun _=>b) /\ c'=(Sum.elim (heapC H A) fun _=>.row ((liveL H).length*2) (blkV (liveL H)))) (fun _ _ h=>h) (fun _ h=>nomatch h) h1 fun s w=>(spec s (wd_hrep w.left)).mono ?_).mono ?_
 ·rintro v s' ⟨b,hv,W⟩
  exact ⟨_,_,_,W,b,hv,rfl,rfl,rfl⟩
 ·rintro v s' ⟨has',A',c',w,b,hv,rfl,rfl,rfl⟩
  exact ⟨b,hv,w⟩
end
section
variable {l:List (Nat × Nat)} {bl r0 bs:Nat} {zf:Nat -> V} {lv:List V}
end
end
end Go.Proofs.YtlgmpheammbacaaGreatDoor
set_option maxRecDepth 1000000
namespace Go.Proofs.YtlgmpheammbacaaGreatDoor
open AM Go
noncomputable section
set_option linter.unusedVariables false
variable {H H':Heap} {fl pl fc:Nat -> List Nat}
end
end Go.Proofs.YtlgmpheammbacaaGreatDoor
set_option maxRecDepth 1000000
namespace Go.Proofs.YtlgmpheammbacaaGreatDoor
open AM Go
noncomputable section
set_option linter.unusedVariables false
variable {H H':Heap} {fl pl fc:Nat -> List Nat}
end
end Go.Proofs.YtlgmpheammbacaaGreatDoor
set_option maxRecDepth 1000000
namespace Go.Proofs.YtlgmpheammbacaaGreatDoor
open AM Go
noncomputable section
set_option linter.unusedVariables false
variable {H H':Heap} {fl pl fc:Nat -> List Nat}
end
end Go.Proofs.YtlgmpheammbacaaGreatDoor
set_option maxRecDepth 1000000
namespace Go.Proofs.YtlgmpheammbacaaGreatDoor
open AM Go
noncomputable section
set_option linter.unusedVariables false
variable {H H':Heap} {S:AS} {fl pl fc:Nat -> List Nat}
end
end Go.Proofs.YtlgmpheammbacaaGreatDoor
set_option maxRecDepth 1000000
namespace Go.Proofs.YtlgmpheammbacaaGreatDoor
open AM Go
noncomputable section
set_option linter.unusedVariables false
set_option linter.unusedSimpArgs false
attribute [local irreducible] T.get T.set
variable {σ:St} {A:Slot -> Nat} {H H':Heap} {fl pl fc:Nat -> List Nat}
end
end Go.Proofs.YtlgmpheammbacaaGreatDoor
set_option maxRecDepth 1000000
namespace Go.Proofs.YtlgmpheammbacaaGreatDoor
open AM Go
noncomputable section
set_option linter.unusedVariables false
set_option linter.unusedSimpArgs false
attribute [local irreducible] T.get T.set
variable {σ:St} {A:Slot -> Nat} {H H':Heap} {fl pl fc:Nat -> List Nat}
end
end Go.Proofs.YtlgmpheammbacaaGreatDoor
set_option maxRecDepth 1000000
namespace Go.Proofs.YtlgmpheammbacaaGreatDoor
open AM Go
noncomputable section
set_option linter.unusedVariables false
set_option linter.unusedSimpArgs false
attribute [local irreducible] T.get T.set
variable {σ:St} {A:Slot -> Nat} {H H':Heap} {fl pl fc:Nat -> List Nat}
end
end Go.Proofs.YtlgmpheammbacaaGreatDoor
set_option maxRecDepth 1000000
namespace Go.Proofs.YtlgmpheammbacaaGreatDoor
open AM Go
noncomputable section
set_option linter.unusedVariables false
variable {H H':Heap} {S:AS}
end
end Go.Proofs.YtlgmpheammbacaaGreatDoor
set_option maxRecDepth 1000000
namespace Go.Proofs.YtlgmpheammbacaaGreatDoor
open AM Go
noncomputable section
set_option linter.unusedVariables false
variable {H H':Heap} {S:AS}
end
end Go.Proofs.YtlgmpheammbacaaGreatDoor
set_option maxRecDepth 1000000
namespace Go.Proofs.YtlgmpheammbacaaGreatDoor
open AM Go
noncomputable section
set_option linter.unusedVariables false
set_option linter.unusedSimpArgs false
attribute [local irreducible] T.get T.set
variable {σ:St}
inductive CI where
 |shared | hands | kept
 deriving DecidableEq
def newC (hp:Nat) (w:Nat) (d:Int) (B:CI -> Nat):CI -> Cont
 | .shared=>.row 6 (lst [.int .i32 0,.int .u32 0,.ptr (some (hp,0)),.int .i64 d,.slice (some (B .hands,0)) w 8,.map (some (B .kept))])
 | .hands=>.row (w*8) fun _=>.slice none 0 0
 | .kept=>.map []
def MayW (w d:Int):Prop:=1 <= w /\ w <= 16 /\ 0 <= d /\ d <= 64
theorem r_cacheNew {b l o w d:Int} (hb0:0 <= b) (hb:b<18446744073709551616) (hg:GW σ) (hw:Wid σ) :
  Runs G0 [] 20 [cfg b l o,.int .i64 w,.int .i64 d] σ fun v s=>(¬ (MayW w d /\ MayC b l o) -> v=.tuple [.ptr none,.int .i64 1] /\ Grow σ s) ∧
   (MayW w d /\ MayC b l o -> ∃ A B,v=.tuple [.ptr (some (B .shared,0)),.int .i64 0] /\ HC s A (heap0 b.toNat l.toNat o.toNat) (fun _:CI=>True) B (newC (A .heap) w.toNat d B)):=by
 refine runs_body g20 rfl ?_
 have hc:(cfg b l o).cells=[.int .u64 b,.int .i64 l,.int .i64 o]:=rfl
 have e3:[V.int .u64 b,.int .i64 l,.int .i64 o].length=3:=rfl
 by_cases c1:w<1
 ·simp -implicitDefEqProofs only [go_sem,Nat.reduceEqDiff,hc,e3,c1]
  exact ⟨fun _=>Grow.new σ _,fun h=>absurd h.1.1 (by omega)⟩
 ·by_cases c2:16<w
  ·simp -implicitDefEqProofs only [go_sem,Nat.reduceEqDiff,hc,e3,c1,c2]
   exact ⟨fun _=>Grow.new σ _,fun h=>absurd h.1.2.1 (by omega)⟩
  ·by_cases c3:d<0
   ·simp -implicitDefEqProofs only [go_sem,Nat.reduceEqDiff,hc,e3,c1,c2,c3]
    exact ⟨fun _=>Grow.new σ _,fun h=>absurd h.1.2.2.1 (by omega)⟩
   ·by_cases c4:64<d
    ·simp -implicitDefEqProofs only [go_sem,Nat.reduceEqDiff,hc,e3,c1,c2,c3,c4]
     exact ⟨fun _=>Grow.new σ _,fun h=>absurd h.1.2.2.2 (by omega)⟩
    ·have hmw:MayW w d:=⟨by omega,by omega,by omega,by omega⟩
     have L:=cfg_lcl σ b l o
     have hl:=L.load (off:=0) (k:=3) (by omega)
     rw [show ((List.range 3).map fun j=>lst [V.int .u64 b,.int .i64 l,.int .i64 o] (0+j))=[V.int .u64 b,.int .i64 l,.int .i64 o] from rfl] at hl
     have w1:GW (σ.newCells [.int .u64 b,.int .i64 l,.int .i64 o]):=hg.new _ rfl
     have h1:Wid (σ.newCells [.int .u64 b,.int .i64 l,.int .i64 o]):=hw.of_get ((Grow.new σ _).old _ (hw.lt hg))
     obtain ⟨v,s2,⟨hv0,hv1⟩,hr2⟩:=r_mallocNew0 (l:=l) (o:=o) hb0 hb w1 h1
     simp -implicitDefEqProofs only [go_sem,Nat.reduceEqDiff,hc,e3,c1,c2,c3,c4,hl]
     refine runs_ret hr2 ?_
     by_cases cm:MayC b l o
     ·obtain ⟨A,hv,R⟩:=hv1 cm
      subst hv
      obtain ⟨n,hn⟩:∃ n:Nat,w=(n:Int):=⟨w.toNat,by omega⟩
      subst hn
      have k1:(0:Int) <= (n:Int):=by omega
      have k2:n*192 <= maxLenBytes:=by unfold maxLenBytes;omega
      have k3:(n:Int)<9223372036854775808:=by omega
      have hn16:n <= 16:=by omega
      obtain ⟨z,hz⟩:∃ z,z=[V.slice none 0 0,.slice none 0 0,.slice none 0 0,.slice none 0 0,.slice none 0 0,.slice none 0 0,.slice none 0 0,.slice none 0 0]:=⟨_,rfl⟩
      obtain ⟨t,ht⟩:∃ t:St,t=s2.new (.cells false 0 (n*8) z .nil):=⟨_,rfl⟩
      have f1:fillP [V.int .i32 0,.int .u32 0,.ptr none,.int .i64 0,.slice none 0 0,.map none] [(2,1,V.ptr (some (A .heap,0))),(3,1,V.int .i64 d),(4,1,V.slice (some (s2.next,0)) n 8),(5,1,V.map (some t.next))]=some [V.int .i32 0,.int .u32 0,.ptr (some (A .heap,0)),.int .i64 d,.slice (some (s2.next,0)) n 8,.map (some t.next)]:=rfl
      have W0:=HC.of (κ:=CI) R (fun _=>0) (fun _=>.map [])
      have W1:=Wd.alloc W0 (i0:=(Sum.inr CI.hands:Slot ⊕ CI)) (fun h=>h) (z:=z) (n:=n*8) (.inl (by rw [hz];simp))
      rw [<- ht] at W1
      have W2:=Wd.newMap W1 (i0:=(Sum.inr CI.kept:Slot ⊕ CI)) (by rintro (h | h);exact h;cases h)
      have W3:=Wd.cells W2 (i0:=(Sum.inr CI.shared:Slot ⊕ CI)) (by rintro ((h | h) | h);exact h;cases h;cases h) [V.int .i32 0,.int .u32 0,.ptr (some (A .heap,0)),.int .i64 d,.slice (some (s2.next,0)) n 8,.map (some t.next)]
      simp -implicitDefEqProofs only [go_sem,Nat.reduceEqDiff,ne_eq,not_true_eq_false,decide_false,k1,k2,k3,Int.le_refl,and_self,Int.toNat_natCast, <- hz, <- ht,evalParts,f1,vcells_agg,List.length_cons,List.length_nil,Nat.reduceAdd]
      refine ⟨fun h=>absurd ⟨hmw,cm⟩ h,fun _=>⟨A,fun i=>match i with | .shared=>(t.new (.map [])).next | .hands=>s2.next | .kept=>t.next,rfl,?_⟩⟩
      refine W3.sub id ?_ (fun _ _ _ _ e=>e) ?_ ?_
      ·rintro (i | i) hi
       ·exact .inl (.inl (.inl hi))
       ·cases i with
        |shared=>exact .inr rfl
        |hands=>exact .inl (.inl (.inr rfl))
        |kept=>exact .inl (.inr rfl)
      ·rintro (i | i) hi
       ·rfl
       ·cases i <;> rfl
      ·rintro (i | i) hi
       ·exact .inl rfl
       ·cases i with
        |shared=>exact .inl rfl
        |kept=>exact .inl rfl
        |hands =>
         refine .inr ⟨n*8,(fun i=>z.getD (i%z.length) .undef),n*8,(fun _=>.slice none 0 0),rfl,rfl,Nat.le_refl _,?_⟩
         intro j _
         have hj:=Nat.mod_lt j (show 0<8 by omega)
         rw [hz]
         show [V.slice none 0 0,.slice none 0 0,.slice none 0 0,.slice none 0 0,.slice none 0 0,.slice none 0 0,.slice none 0 0,.slice none 0 0].getD (j%8) V.undef=_
         rcases (by omega:j%8=0 \/ j%8=1 \/ j%8=2 \/ j%8=3 \/ j%8=4 \/ j%8=5 \/ j%8=6 \/ j%8=7) with e | e | e | e | e | e | e | e <;> rw [e] <;> rfl
     ·obtain ⟨hv,g⟩:=hv0 cm
      subst hv
      have k1:(1:Int)≠0:=by decide
      simp -implicitDefEqProofs only [go_sem,Nat.reduceEqDiff,k1,ne_eq,not_false_eq_true,decide_true]
      exact ⟨fun _=>(Grow.new σ _).trans g,fun h=>absurd h.2 cm⟩
end
end Go.Proofs.YtlgmpheammbacaaGreatDoor
set_option maxRecDepth 1000000
namespace Go.Proofs.YtlgmpheammbacaaGreatDoor
open AM Go
noncomputable section
set_option linter.unusedVariables false
set_option linter.unusedSimpArgs false
attribute [local irreducible] T.get T.set
variable {σ σ':St}
theorem eqP_none (p:Nat × Nat):eqV .ptr (.ptr (some p)) (.ptr none)=some false:=rfl
theorem eqP_nil:eqV .ptr (.ptr none) (.ptr none)=some true:=rfl
theorem Wd.nought {ι:Type} (w:GW σ) (hw:Wid σ) (A:ι -> Nat) (c:ι -> Cont):Wd σ (fun _:ι=>False) A c where
 gw:=w
 wid:=hw
 not_wid h:=h.elim
 inj _ _ h:=h.elim
 hold _ h:=h.elim
 cut _ _ _ h:=h.elim
section
variable {ι κ:Type} {hasK:κ -> Prop} {AK:κ -> Nat} {cK:κ -> Cont}
theorem Wd.pad (h:Wd σ hasK AK cK) (A:ι -> Nat) (c:ι -> Cont):Wd σ (Sum.elim (fun _:ι=>False) hasK) (Sum.elim A AK) (Sum.elim c cK) where
 gw:=h.gw
 wid:=h.wid
 not_wid {i} hi:=by
  rcases i with i | i
  ·exact hi.elim
  ·exact h.not_wid hi
 inj i j hi hj e:=by
  rcases i with i | i
  ·exact hi.elim
  ·rcases j with j | j
   ·exact hj.elim
   ·exact congrArg _ (h.inj i j hi hj e)
 hold i hi:=by
  rcases i with i | i
  ·exact hi.elim
  ·exact h.hold i hi
 cut i j o hi hj hne ho hg:=by
  rcases i with i | i
  ·exact hi.elim
  ·rcases j with j | j
   ·exact hj.elim
   ·exact h.cut i j o hi hj (fun e=>hne (congrArg _ e)) ho hg
theorem Wd.callE {g:FuncId} {xs:List V} {P:V -> (ι -> Prop) -> (ι -> Nat) -> (ι -> Cont) -> Prop} (h:Wd σ hasK AK cK)
  (spec:∀ σ,GW σ -> Wid σ -> Runs G0 [] g xs σ fun v σ'=>∃ has' A' c',Wd σ' has' A' c' /\ P v has' A' c') :
  Runs G0 [] g xs σ fun v σ'=>∃ has' A' c',Wd σ' (Sum.elim has' hasK) (Sum.elim A' AK) (Sum.elim c' cK) /\ P v has' A' c' :=
 Wd.call (Γ:=G0) (Γ':=G0) (M:=[]) (fun _ _ h=>h) (fun _ h=>nomatch h) (h.pad (fun _=>0) fun _=>.map []) fun s w=>spec s w.gw w.wid
theorem Wd.call0 {g:FuncId} {xs:List V} {P:V -> Prop} (h:Wd σ hasK AK cK) (spec:∀ σ,GW σ -> Wid σ -> Runs G0 [] g xs σ fun v σ'=>P v /\ Wid σ') :
  Runs G0 [] g xs σ fun v σ'=>P v /\ Wd σ' hasK AK cK:=by
 refine (Wd.callE (ι:=Empty) (P:=fun v _ _ _=>P v) h fun s w hw=>((spec s w hw).gw w).mono ?_).mono ?_
 ·rintro v s' ⟨⟨hp,hw'⟩,w'⟩
  exact ⟨_,(fun _=>0),(fun _=>.map []),Wd.nought w' hw' _ _,hp⟩
 ·rintro v s' ⟨has',A',c',W,hp⟩
  exact ⟨hp,W.right⟩
end
section
variable {κ:Type} {hasK:κ -> Prop} {AK:κ -> Nat} {cK:κ -> Cont} {A:Slot -> Nat} {H:Heap} {B:AI -> Nat} {S:AS}
end
end
end Go.Proofs.YtlgmpheammbacaaGreatDoor
set_option maxRecDepth 1000000
namespace Go.Proofs.YtlgmpheammbacaaGreatDoor
open AM Go
noncomputable section
set_option linter.unusedVariables false
set_option linter.unusedSimpArgs false
attribute [local irreducible] T.get T.set
variable {σ σ':St}
theorem r_R11 {b l:Int} {k:Nat} (hk:k <= 8):Runs G0 [] 44 [cfg b l k] σ fun v s=>v=.int .u64 ((4096*2^k:Nat):Int) /\ s=σ.newCells [.int .u64 b,.int .i64 l,.int .i64 k]:=by
 refine runs_body g44 rfl ?_
 have hl:=cfg_lcl σ b l k
 generalize hs:σ.newCells [.int .u64 b,.int .i64 l,.int .i64 k]=σ1 at hl
 have h2:σ1.cell σ.next 2=some (.int .i64 k):=hl.cell (i:=2) (by omega)
 have hp:2^k <= 256:=by
  have:(2:Nat)^k <= 2^8:=Nat.pow_le_pow_right (by omega) (by omega)
  simpa using this
 have e2:shlI .u64 (4096:Int) (k:Int)=((4096*2^k:Nat):Int):=u64_shl (a:=4096) (by omega) (by omega)
 have e1:IntKind.u64.wrap (k:Int)=(k:Int):=u64_nat (by omega)
 have hk0:(0:Int) <= (k:Int):=by omega
 simp -implicitDefEqProofs only [go_sem,cfg,vcells_agg,vlen3,hs,h2,Nat.reduceEqDiff,bin_shl,hk0,e1,e2]
theorem r_May11 {b l o:Int} (hb0:0 <= b) (hb:b<18446744073709551616) (hw:GW σ):Runs G0 [] 63 [cfg b l o] σ fun v s=>v=.bool (decide (MayC b l o)) /\ Grow σ s:=by
 refine runs_body g63 rfl ?_
 have hl:=cfg_lcl σ b l o
 have gr:Grow σ (σ.newCells [.int .u64 b,.int .i64 l,.int .i64 o]):=Grow.new σ _
 have hw1:GW (σ.newCells [.int .u64 b,.int .i64 l,.int .i64 o]):=hw.new _ rfl
 generalize hs:σ.newCells [.int .u64 b,.int .i64 l,.int .i64 o]=σ1 at hl gr hw1
 have h0:σ1.cell σ.next 0=some (.int .u64 b):=hl.cell (i:=0) (by omega)
 have h1:σ1.cell σ.next 1=some (.int .i64 l):=hl.cell (i:=1) (by omega)
 have h2:σ1.cell σ.next 2=some (.int .i64 o):=hl.cell (i:=2) (by omega)
 have h3:σ1.load σ.next 0 3=some [.int .u64 b,.int .i64 l,.int .i64 o]:=hl.load (off:=0) (k:=3) (by omega)
 by_cases c0:o<0
 ·have hn:¬ MayC b l o:=fun h=>by have:=h.o0;omega
  simp -implicitDefEqProofs only [go_sem,cfg,vcells_agg,vlen3,hs,h0,h1,h2,Nat.reduceEqDiff,c0,decide_true,decide_false,hn]
  exact gr
 by_cases c1:8<o
 ·have hn:¬ MayC b l o:=fun h=>by have:=h.o8;omega
  simp -implicitDefEqProofs only [go_sem,cfg,vcells_agg,vlen3,hs,h0,h1,h2,Nat.reduceEqDiff,c0,c1,decide_true,decide_false,hn]
  exact gr
 by_cases c2:l<1
 ·have hn:¬ MayC b l o:=fun h=>by have:=h.l1;omega
  simp -implicitDefEqProofs only [go_sem,cfg,vcells_agg,vlen3,hs,h0,h1,h2,Nat.reduceEqDiff,c0,c1,c2,decide_true,decide_false,hn]
  exact gr
 by_cases c3:64<l
 ·have hn:¬ MayC b l o:=fun h=>by have:=h.l64;omega
  simp -implicitDefEqProofs only [go_sem,cfg,vcells_agg,vlen3,hs,h0,h1,h2,Nat.reduceEqDiff,c0,c1,c2,c3,decide_true,decide_false,hn]
  exact gr
 obtain ⟨k,rfl⟩:∃ k:Nat,o=(k:Int):=⟨o.toNat,by omega⟩
 obtain ⟨m,rfl⟩:∃ m:Nat,l=(m:Int):=⟨l.toNat,by omega⟩
 obtain ⟨n,rfl⟩:∃ n:Nat,b=(n:Int):=⟨b.toNat,by omega⟩
 have hp:2^k <= 256:=by
  have:(2:Nat)^k <= 2^8:=Nat.pow_le_pow_right (by omega) (by omega)
  simpa using this
 have hpos:0<2^k:=Nat.pow_pos (by omega)
 have hmp:m*2^k <= 64*256:=Nat.mul_le_mul (by omega) hp
 have e1:shlI .i64 (m:Int) (k:Int)=((m*2^k:Nat):Int):=i64_shl (by omega) (by omega)
 have ek:IntKind.u64.wrap (k:Int)=(k:Int):=u64_nat (by omega)
 have hk0:(0:Int) <= (k:Int):=by omega
 have hc1:((m*2^k:Nat):Int)=(m:Int)*2^k:=by simp
 have hc2:((4096*2^k:Nat):Int)=4096*2^k:=by simp
 have hc3:((4096*2^k*m:Nat):Int)=4096*2^k*(m:Int):=by simp
 have spec:MayC n m k↔m*2^k <= 1024 /\ n≠0 /\ n%(4096*2^k)=0 /\ 4096*2^k*m+n <= 9223372036854775808:=by
  constructor
  ·intro h
   have h1:=h.pages;have h2:=h.al;have h3:=h.top;have h4:=h.b0
   simp only [Int.toNat_natCast] at h1 h2 h3
   rw [<- hc1] at h1;rw [<- hc2] at h2;rw [<- hc3] at h3
   exact ⟨by omega,by omega,by omega,by omega⟩
  ·rintro ⟨h1,h2,h3,h4⟩
   refine ⟨by omega,by omega,by omega,by omega,?_,by omega,?_,?_⟩ <;> simp only [Int.toNat_natCast]
   ·rw [<- hc1];omega
   ·rw [<- hc2];omega
   ·rw [<- hc3];omega
 by_cases c4:(1024:Int)<((m*2^k:Nat):Int)
 ·have hn:¬ MayC n m k:=fun h=>by have:=(spec.1 h).1;omega
  simp -implicitDefEqProofs only [go_sem,cfg,vcells_agg,vlen3,hs,h0,h1,h2,Nat.reduceEqDiff,c0,c1,c2,c3,bin_shl,hk0,ek,e1,c4,decide_true,decide_false,hn]
  exact gr
 have hr:((4096*2^k:Nat):Int)≠0:=by omega
 obtain ⟨v,s2,⟨hv,hs2⟩,hrR⟩:=r_R11 (σ:=σ1) (b:=(n:Int)) (l:=(m:Int)) (k:=k) (by omega)
 subst hv
 have gr2:Grow σ1 s2:=by rw [hs2];exact Grow.new _ _
 have hl2:=hl.grow hw1 gr2
 have g0:s2.cell σ.next 0=some (.int .u64 n):=hl2.cell (i:=0) (by omega)
 have g1:s2.cell σ.next 1=some (.int .i64 m):=hl2.cell (i:=1) (by omega)
 have gr':=gr.trans gr2
 have hrR':Ret G0 [] 44 [.agg [.int .u64 n,.int .i64 m,.int .i64 k]] σ1 (.int .u64 ((4096*2^k:Nat):Int)) s2:=hrR
 simp -implicitDefEqProofs only [go_sem,cfg,vcells_agg,vlen3,hs,h0,h1,h2,h3,Nat.reduceEqDiff,c0,c1,c2,c3,bin_shl,hk0,ek,e1,c4,decide_true,decide_false]
 refine runs_ret hrR' ?_
 by_cases c5:(n:Int)=0
 ·have hn:¬ MayC n m k:=fun h=>by have:=(spec.1 h).2.1;omega
  simp -implicitDefEqProofs only [go_sem,Nat.reduceEqDiff,g0,g1,c5,decide_true,decide_false,hn]
  rw [c5] at hn
  simp only [hn,decide_false]
  exact ⟨trivial,gr'⟩
 have e3:(n:Int).tmod ((4096*2^k:Nat):Int)=((n%(4096*2^k):Nat):Int):=nat_tmod _ _
 by_cases c6:((n%(4096*2^k):Nat):Int)=0
 ·by_cases c7:(9223372036854775808:Int)<(n:Int)
  ·have hn:¬ MayC n m k:=fun h=>by have:=(spec.1 h).2.2.2;omega
   simp -implicitDefEqProofs only [go_sem,Nat.reduceEqDiff,g0,g1,c5,bin_rem,hr,e3,c6,c7,ne_eq,not_false_eq_true,not_true_eq_false,decide_true,decide_false,hn]
   exact gr'
  ·have e4:IntKind.u64.wrap (m:Int)=(m:Int):=u64_nat (by omega)
   have hrm:4096*2^k*m <= 4096*256*64:=Nat.mul_le_mul (Nat.mul_le_mul_left _ hp) (by omega)
   have hmc:m*(4096*2^k)=4096*2^k*m:=Nat.mul_comm _ _
   have e5:IntKind.u64.wrap ((m:Int)*((4096*2^k:Nat):Int))=((4096*2^k*m:Nat):Int):=by rw [<- hmc];exact u64_mul (by omega)
   have e6:IntKind.u64.wrap ((n:Int)+((4096*2^k*m:Nat):Int))=((n+4096*2^k*m:Nat):Int):=u64_add (by omega)
   have e7:decide (((n+4096*2^k*m:Nat):Int) <= 9223372036854775808)=decide (MayC n m k):=by
    rw [decide_eq_decide,spec]
    constructor
    ·intro h;exact ⟨by omega,by omega,by omega,by omega⟩
    ·rintro ⟨_,_,_,h⟩;omega
   simp -implicitDefEqProofs only [go_sem,Nat.reduceEqDiff,g0,g1,c5,bin_rem,hr,e3,c6,c7,e4,e5,e6,e7,ne_eq,not_false_eq_true,not_true_eq_false,decide_true,decide_false]
   exact gr'
 ·have hn:¬ MayC n m k:=fun h=>by have:=(spec.1 h).2.2.1;omega
  simp -implicitDefEqProofs only [go_sem,Nat.reduceEqDiff,g0,g1,c5,bin_rem,hr,e3,c6,ne_eq,not_false_eq_true,not_true_eq_false,decide_true,decide_false,hn]
  exact gr'
def shop (b l o w d:Int) (x:V):V:=.agg [.int .u64 b,.int .i64 l,.int .i64 o,.int .i64 w,.int .i64 d,x]
theorem vlen6 {a b c d e f:V}:[a,b,c,d,e,f].length=6:=rfl
def ShopMay (b l o w d:Int):Prop:=MayW w d /\ MayC b l o
instance (w d:Int):Decidable (MayW w d):=by unfold MayW;exact inferInstance
instance (b l o w d:Int):Decidable (ShopMay b l o w d):=by unfold ShopMay;exact inferInstance
theorem r_may13 {b l o w d:Int} {x:V} (hx:x.flat=true) (hb0:0 <= b) (hb:b<18446744073709551616) (hw:GW σ):Runs G0 [] 22 [shop b l o w d x] σ fun v s=>v=.bool (decide (ShopMay b l o w d)) /\ Grow σ s:=by
 refine runs_body g22 rfl ?_
 have L:=Lcl.of_cells σ [.int .u64 b,.int .i64 l,.int .i64 o,.int .i64 w,.int .i64 d,x]
 have gr:Grow σ (σ.newCells [.int .u64 b,.int .i64 l,.int .i64 o,.int .i64 w,.int .i64 d,x]):=Grow.new σ _
 have hw1:GW (σ.newCells [.int .u64 b,.int .i64 l,.int .i64 o,.int .i64 w,.int .i64 d,x]):=hw.new _ rfl
 rw [vlen6] at L
 generalize hs:σ.newCells [.int .u64 b,.int .i64 l,.int .i64 o,.int .i64 w,.int .i64 d,x]=σ1 at L gr hw1
 have h3:σ1.load σ.next 0 3=some [.int .u64 b,.int .i64 l,.int .i64 o]:=L.load (off:=0) (k:=3) (by omega)
 obtain ⟨v,s2,⟨rfl,gr2⟩,hr⟩:=r_May11 (σ:=σ1) (l:=l) (o:=o) hb0 hb hw1
 have hr':Ret G0 [] 63 [.agg [.int .u64 b,.int .i64 l,.int .i64 o]] σ1 (.bool (decide (MayC b l o))) s2:=hr
 have L2:=L.grow hw1 gr2
 have k3:s2.cell σ.next 3=some (.int .i64 w):=L2.cell (i:=3) (by omega)
 have k4:s2.cell σ.next 4=some (.int .i64 d):=L2.cell (i:=4) (by omega)
 simp -implicitDefEqProofs only [go_sem,shop,vcells_agg,vlen6,hs,h3,Nat.reduceEqDiff]
 refine runs_ret hr' ?_
 have gg:=gr.trans gr2
 unfold ShopMay MayW
 by_cases cm:MayC b l o
 ·by_cases c1:(1:Int) <= w
  ·by_cases c2:w <= 16
   ·by_cases c3:(0:Int) <= d
    ·by_cases c4:d <= 64
     ·simp -implicitDefEqProofs only [go_sem,Nat.reduceEqDiff,k3,k4,cm,c1,c2,c3,c4,decide_true,decide_false,and_self,and_true,true_and]
      exact gg
     ·simp -implicitDefEqProofs only [go_sem,Nat.reduceEqDiff,k3,k4,cm,c1,c2,c3,c4,decide_true,decide_false,and_self,and_false,false_and,and_true,true_and]
      exact gg
    ·simp -implicitDefEqProofs only [go_sem,Nat.reduceEqDiff,k3,k4,cm,c1,c2,c3,decide_true,decide_false,and_self,and_false,false_and,and_true,true_and]
     exact gg
   ·simp -implicitDefEqProofs only [go_sem,Nat.reduceEqDiff,k3,k4,cm,c1,c2,decide_true,decide_false,and_self,and_false,false_and,and_true,true_and]
    exact gg
  ·simp -implicitDefEqProofs only [go_sem,Nat.reduceEqDiff,k3,k4,cm,c1,decide_true,decide_false,and_self,and_false,false_and,and_true,true_and]
   exact gg
 ·simp -implicitDefEqProofs only [go_sem,Nat.reduceEqDiff,k3,k4,cm,decide_true,decide_false,and_self,and_false,false_and,and_true,true_and]
  exact gg
theorem r_config13 {b l o:Int} (hw:GW σ):Runs G0 [] 21 [cfg b l o] σ fun v s=>v=cfg b l o /\ Grow σ s:=by
 refine runs_body g21 rfl ?_
 have L:=cfg_lcl σ b l o
 have gr:Grow σ (σ.newCells [.int .u64 b,.int .i64 l,.int .i64 o]):=Grow.new σ _
 have hw1:GW (σ.newCells [.int .u64 b,.int .i64 l,.int .i64 o]):=hw.new _ rfl
 generalize hs:σ.newCells [.int .u64 b,.int .i64 l,.int .i64 o]=σ1 at L gr hw1
 have L2:=L.grow hw1 (Grow.new σ1 (.cells false 0 3 [.int .u64 0,.int .i64 0,.int .i64 0] .nil))
 have h0:=L2.cell (i:=0) (by omega)
 have h1:=L2.cell (i:=1) (by omega)
 have h2:=L2.cell (i:=2) (by omega)
 rw [show lst [V.int .u64 b,.int .i64 l,.int .i64 o] 0=.int .u64 b from rfl] at h0
 rw [show lst [V.int .u64 b,.int .i64 l,.int .i64 o] 1=.int .i64 l from rfl] at h1
 rw [show lst [V.int .u64 b,.int .i64 l,.int .i64 o] 2=.int .i64 o from rfl] at h2
 have hst:=new_store (σ:=σ1) (z:=[.int .u64 0,.int .i64 0,.int .i64 0]) (vs:=[V.int .u64 b,.int .i64 l,.int .i64 o]) (n:=3) (by simp) rfl
 have LL:=Lcl.lay σ1 3 [.int .u64 0,.int .i64 0,.int .i64 0] [V.int .u64 b,.int .i64 l,.int .i64 o] rfl
 have hl2:=LL.load (off:=0) (k:=3) (by omega)
 rw [show ((List.range 3).map fun j=>lst [V.int .u64 b,.int .i64 l,.int .i64 o] (0+j))=[V.int .u64 b,.int .i64 l,.int .i64 o] from rfl] at hl2
 have f3:fillP [V.int .u64 0,.int .i64 0,.int .i64 0] [(0,1,V.int .u64 b),(1,1,V.int .i64 l),(2,1,V.int .i64 o)]=some [V.int .u64 b,.int .i64 l,.int .i64 o]:=rfl
 simp -implicitDefEqProofs only [go_sem,cfg,vcells_agg,vlen3,hs,Nat.reduceEqDiff,Nat.reduceAdd,h0,h1,h2,evalParts,f3,List.length_cons,List.length_nil,hst,hl2]
 exact gr.trans (Grow.lay _ _ _ _)
end
end Go.Proofs.YtlgmpheammbacaaGreatDoor
set_option maxRecDepth 1000000
namespace Go.Proofs.YtlgmpheammbacaaGreatDoor
open AM Go
noncomputable section
set_option linter.unusedVariables false
set_option linter.unusedSimpArgs false
attribute [local irreducible] T.get T.set
variable {σ σ':St} {A:Slot -> Nat} {H:Heap} {B:CI -> Nat}
def idxV (len esz:Nat) (agg:Bool) (x i:V):Option V:=match x,i with
 | .agg cs,.int _ n=>if 0 <= n /\ n<len then
   (if agg then (if n.toNat*esz+esz <= cs.length then some (.agg ((cs.drop (n.toNat*esz)).take esz)) else none) else cs[n.toNat*esz]?) else none
 |_,_=>none
theorem pure_idx {len esz:Nat} {agg:Bool} {x i:AM.Opd} {tm:T V}:AM.pureOp (.indexA len esz agg x i) tm=idxV len esz agg (x.eval tm) (i.eval tm):=rfl
def newLl (lk:Int) (hp w:Nat) (d:Int) (B:CI -> Nat):List V:=[.int .i32 lk,.int .u32 0,.ptr (some (hp,0)),.int .i64 d,.slice (some (B .hands,0)) w 8,.map (some (B .kept))]
def newL (lk:Int) (hp w:Nat) (d:Int) (B:CI -> Nat):CI -> Cont
 | .shared=>.row 6 (lst (newLl lk hp w d B))
 | .hands=>.row (w*8) fun _=>.slice none 0 0
 | .kept=>.map []
theorem newL_zero (hp w:Nat) (d:Int) (B:CI -> Nat):newC hp w d B=newL 0 hp w d B:=by funext i;cases i <;> rfl
abbrev NS (σ:St) (A:Slot -> Nat) (H:Heap) (B:CI -> Nat) (lk:Int) (w:Nat) (d:Int):Prop:=HC σ A H (fun _:CI=>True) B (newL lk (A .heap) w d B)
theorem NS.setLock {lk:Int} {w:Nat} {d:Int} (h:NS σ A H B lk w d) (n:Int):∃ s,σ.store (B .shared) 0 [.int .i32 n]=some s /\ NS s A H B n w d:=by
 obtain ⟨s,e,W,_⟩:=Wd.setL h (i:=(Sum.inr CI.shared:Slot ⊕ CI)) trivial (n:=6) (l:=newLl lk (A .heap) w d B) rfl rfl (k:=0) (v:=.int .i32 n) (by omega) rfl
 refine ⟨s,e,W.sub id (fun _ h=>h) (fun _ _ _ _ e=>e) (fun _ _=>rfl) ?_⟩
 rintro (i | i) hi
 ·left;show _=updG _ _ _ _;rw [updG_ne (by intro h;cases h)];rfl
 ·cases i with
  |shared=>left;exact updG_same.symm
  |hands=>left;show _=updG _ _ _ _;rw [updG_ne (by intro h;cases h)];rfl
  |kept=>left;show _=updG _ _ _ _;rw [updG_ne (by intro h;cases h)];rfl
theorem NS.c {lk:Int} {w:Nat} {d:Int} (h:NS σ A H B lk w d) {k:Nat} (hk:k<6):σ.cell (B .shared) k=some (lst (newLl lk (A .heap) w d B) k):=Wd.cell h (i:=(Sum.inr CI.shared:Slot ⊕ CI)) trivial rfl hk
theorem r_lockS {w:Nat} {d:Int} (h:NS σ A H B 0 w d):Runs G0 [] 68 [.ptr (some (B .shared,0))] σ fun r s=>NS s A H B 1 w d:=by
 obtain ⟨s,e,W⟩:=h.setLock 1
 have c0:=h.c (k:=0) (by omega)
 rw [show lst (newLl 0 (A .heap) w d B) 0=.int .i32 0 from rfl] at c0
 exact runs_ext gLock rfl (show AM.extCall .lock [.ptr (some (B .shared,0))] σ=some (.tuple [],s) by simp only [AM.extCall,c0,e,Option.map_some]) W
theorem r_unlockS {w:Nat} {d:Int} (h:NS σ A H B 1 w d):Runs G0 [] 69 [.ptr (some (B .shared,0))] σ fun r s=>NS s A H B 0 w d:=by
 obtain ⟨s,e,W⟩:=h.setLock 0
 have c0:=h.c (k:=0) (by omega)
 rw [show lst (newLl 1 (A .heap) w d B) 0=.int .i32 1 from rfl] at c0
 exact runs_ext gUnlock rfl (show AM.extCall .unlock [.ptr (some (B .shared,0))] σ=some (.tuple [],s) by simp only [AM.extCall,c0,e,Option.map_some]) W
theorem r_is {lk:Int} {w:Nat} {d:Int} (h:NS σ A H B lk w d) (k:Int):Runs G0 [] 70 [.ptr (some (B .shared,0)),.int .i64 k] σ fun r s=>r=.bool (decide (0 <= k /\ k<(w:Int))) /\ s=σ:=by
 refine runs_body g70 rfl ?_
 have c4:=h.c (k:=4) (by omega)
 rw [show lst (newLl lk (A .heap) w d B) 4=.slice (some (B .hands,0)) w 8 from rfl] at c4
 by_cases c:(0:Int) <= k
 ·simp -implicitDefEqProofs only [go_sem,Nat.reduceEqDiff,c,c4,decide_true,true_and]
 ·simp -implicitDefEqProofs only [go_sem,Nat.reduceEqDiff,c,c4,decide_false,false_and]
theorem r_KeptN {w:Nat} {d:Int} (h:NS σ A H B 0 w d) (hw:w <= 16) (k:Int):Runs G0 [] 24 [.ptr (some (B .shared,0)),.int .i64 k] σ fun r s=>NS s A H B 0 w d /\ ∃ q e,r=.slice q (if 0 <= k /\ k<(w:Int) then 8 else 0) e:=by
 refine runs_body g24 rfl ?_
 obtain ⟨v1,s1,R1,hr1⟩:=r_lockS h
 obtain ⟨v2,s2,⟨hv2,rfl⟩,hr2⟩:=r_is R1 k
 subst hv2
 simp -implicitDefEqProofs only [go_sem,Nat.reduceEqDiff]
 refine runs_ret hr1 ?_
 simp -implicitDefEqProofs only [go_sem,Nat.reduceEqDiff]
 refine runs_ret hr2 ?_
 by_cases c:0 <= k /\ k<(w:Int)
 ·obtain ⟨n,rfl⟩:∃ n:Nat,k=(n:Int):=⟨k.toNat,by omega⟩
  have hn:n<w:=by omega
  have c4:=R1.c (k:=4) (by omega)
  rw [show lst (newLl 1 (A .heap) w d B) 4=.slice (some (B .hands,0)) w 8 from rfl] at c4
  have hl:=Wd.load R1 (i:=(Sum.inr CI.hands:Slot ⊕ CI)) trivial (n:=w*8) (f:=fun _=>.slice none 0 0) rfl (off:=n*8) (k:=8) (by omega)
  have hl':s2.load (B .hands) (n*8) 8=some [V.slice none 0 0,.slice none 0 0,.slice none 0 0,.slice none 0 0,.slice none 0 0,.slice none 0 0,.slice none 0 0,.slice none 0 0]:=hl
  have d2:(0:Int) <= (n:Int) /\ (n:Int)<(w:Int):=by omega
  simp -implicitDefEqProofs only [go_sem,Nat.reduceEqDiff,c,and_self,decide_true,if_true,c4,d2,Int.toNat_natCast,hl']
  have hrs:(repeatZ [V.int .i64 0] 1)=[V.int .i64 0]:=rfl
  have f1:fillP [V.int .i64 0] [(0,1,V.int .i64 ((0:Nat):Int))]=some [V.int .i64 0]:=rfl
  refine aw_loop (fun (m:Nat) (fr:AM.Fr) (s:St)=>fr.defers=[(69,[V.ptr (some (B .shared,0))])] /\ fr.tmps.get 25=some (.agg [V.slice none 0 0,.slice none 0 0,.slice none 0 0,.slice none 0 0,.slice none 0 0,.slice none 0 0,.slice none 0 0,.slice none 0 0]) ∧
   ∃ i:Nat,fr.tmps.get 26=some (.int .i64 i) /\ i+m=8 /\ ∃ q z has A' c',fr.tmps.get 5=some (.slice q i z) /\ Wd s has A' c' /\ (∀ x,(Sum.elim H.has fun _:CI=>True) x -> has (.inr x) /\ A' (.inr x)=Sum.elim A B x /\ c' (.inr x)=Sum.elim (heapC H A) (newL 1 (A .heap) w d B) x) ∧
    (0<i -> has (.inl ()) /\ q=some (A' (.inl ()),0) /\ z=1 /\ ∃ f,c' (.inl ():Unit ⊕ (Slot ⊕ CI))=.row (i*1) f) /\ (i=0 -> q=none /\ z=0 /\ ¬ has (.inl ()))) ?_ 8 ?_
  ·rintro m ⟨tm,ds⟩ s ⟨hd,t25,i,t26,hi,q,z,has,A',c',t5,W,hx,hpos,hzero⟩
   simp only at hd t5 t25 t26
   subst hd
   by_cases ci:i<8
   ·have d1:(i:Int)<8:=by omega
    have e1:IntKind.i64.wrap ((i:Int)+1)=((i+1:Nat):Int):=i64_add (a:=i) (b:=1) (by omega)
    have hix:idxV 8 1 false (.agg [V.slice none 0 0,.slice none 0 0,.slice none 0 0,.slice none 0 0,.slice none 0 0,.slice none 0 0,.slice none 0 0,.slice none 0 0]) (.int .i64 i)=some (.slice none 0 0):=by
     unfold idxV
     simp only [Bool.false_eq_true,if_false]
     rw [if_pos (by omega),Int.toNat_natCast,Nat.mul_one]
     rcases (by omega:i=0 \/ i=1 \/ i=2 \/ i=3 \/ i=4 \/ i=5 \/ i=6 \/ i=7) with h | h | h | h | h | h | h | h <;> rw [h] <;> rfl
    obtain ⟨vs,hvs⟩:∃ vs,vs=[V.int .i64 0]:=⟨_,rfl⟩
    have f1v:fillP [V.int .i64 0] [(0,1,V.int .i64 ((0:Nat):Int))]=some vs:=by rw [hvs];rfl
    have f1w:fillP [V.int .i64 0] [(0,1,V.int .i64 0)]=some vs:=by rw [hvs];rfl
    have hvl:vs.length=1:=by rw [hvs];rfl
    obtain ⟨f,hcase⟩:∃ f,(has (.inl ()) /\ V.slice q i z=.slice (some (A' (.inl ()),0)) i 1 /\ c' (.inl ())=.row (i*1) f) \/ (¬ has (.inl ()) /\ V.slice q i z=.slice none 0 0 /\ i=0):=by
     rcases Nat.eq_zero_or_pos i with h0 | h0
     ·obtain ⟨rfl,rfl,h3⟩:=hzero h0
      exact ⟨fun _=>.undef,.inr ⟨h3,by rw [h0],h0⟩⟩
     ·obtain ⟨h1,rfl,rfl,f,h4⟩:=hpos h0
      exact ⟨f,.inl ⟨h1,rfl,h4⟩⟩
    obtain ⟨b',s',hap,W'⟩:=W.push (i0:=.inl ()) (xl:=i) (esz:=1) (bytes:=8) (vs:=vs) hcase (by omega) hvl (by unfold maxLenBytes;omega) (by unfold maxLenBytes;omega) (by rw [hvs];rfl)
    simp -implicitDefEqProofs only [go_sem,Nat.reduceEqDiff,t5,t25,t26,d1,e1,pure_idx,hix,evalParts,hrs,f1v,f1w,hap]
    refine ⟨m-1,by omega,i+1,rfl,by omega,_,_,_,_,_,rfl,W',?_,?_,?_⟩
    ·intro x hx'
     obtain ⟨y1,y2,y3⟩:=hx x hx'
     exact ⟨.inl y1,by rw [updG_ne (by intro h;cases h)];exact y2,by rw [updG_ne (by intro h;cases h)];exact y3⟩
    ·intro _
     exact ⟨.inr rfl,by rw [updG_same],rfl,_,by rw [updG_same,show i*1+1=(i+1)*1 by omega]⟩
    ·intro h;omega
   ·have d1:¬ ((i:Int)<8):=by omega
    have hi8:i=8:=by omega
    subst hi8
    have WN:NS s A H B 1 w d:=by
     refine W.sub Sum.inr (fun x hx'=>(hx x hx').1) (fun _ _ _ _ e=>Sum.inr.inj e) (fun x hx'=>(hx x hx').2.1.symm) fun x hx'=>.inl (hx x hx').2.2.symm
    obtain ⟨v3,s3,R3,hr3⟩:=r_unlockS WN
    simp -implicitDefEqProofs only [go_sem,Nat.reduceEqDiff,t5,t25,t26,d1,decide_false,wpDefers_cons]
    refine ⟨.inr gUnlock,?_⟩
    refine runs_ret hr3 ?_
    simp -implicitDefEqProofs only [go_sem,Nat.reduceEqDiff]
    exact ⟨R3,q,z,by rw [if_pos c]⟩
  ·simp -implicitDefEqProofs only [go_sem,Nat.reduceEqDiff]
   refine ⟨0,rfl,rfl,none,0,_,_,_,rfl,Wd.pad (ι:=Unit) R1 (fun _=>0) (fun _=>.map []),fun x hx=>⟨hx,rfl,rfl⟩,fun h=>absurd h (by omega),fun _=>⟨rfl,rfl,fun h=>h⟩⟩
 ·obtain ⟨v3,s3,R3,hr3⟩:=r_unlockS R1
  simp -implicitDefEqProofs only [go_sem,Nat.reduceEqDiff,c,decide_false,if_false,wpDefers_cons]
  refine ⟨.inr gUnlock,?_⟩
  refine runs_ret hr3 ?_
  simp -implicitDefEqProofs only [go_sem,Nat.reduceEqDiff]
  exact ⟨R3,none,0,rfl⟩
theorem r_LiveN {w:Nat} {d:Int} (h:NS σ A H B 0 w d) (hg:Good H) (hn:liveL H=[]):Runs G0 [] 25 [.ptr (some (B .shared,0))] σ fun r s=>NS s A H B 0 w d /\ r=.slice none 0 0:=by
 refine runs_body g25 rfl ?_
 obtain ⟨v1,s1,R1,hr1⟩:=r_lockS h
 have c2:=R1.c (k:=2) (by omega)
 rw [show lst (newLl 1 (A .heap) w d B) 2=.ptr (some (A .heap,0)) from rfl] at c2
 obtain ⟨v2,s2,⟨b,hv2,W2⟩,hr2⟩:=LW.live (g:=41) (xs:=[.ptr (some (A .heap,0))]) R1 fun s R=>r_LiveL R hg
 have R2:NS s2 A H B 1 w d:=by
  refine Wd.sub W2 (fun k=>match k with | .inl s=>.inl (.inl s) | .inr k=>.inr k) ?_ ?_ ?_ ?_
  ·rintro (k | k) hk <;> exact hk
  ·rintro (k | k) (j | j) _ _ e <;> simp_all
  ·rintro (k | k) _ <;> rfl
  ·rintro (k | k) _ <;> exact .inl rfl
 have hv2':v2=.slice none 0 0:=by rw [hv2,hn];rfl
 subst hv2'
 obtain ⟨v3,s3,R3,hr3⟩:=r_unlockS R2
 simp -implicitDefEqProofs only [go_sem,Nat.reduceEqDiff]
 refine runs_ret hr1 ?_
 simp -implicitDefEqProofs only [go_sem,Nat.reduceEqDiff,c2]
 refine runs_ret hr2 ?_
 have d0:¬ ((0:Int)<((0:Nat):Int)):=by omega
 simp -implicitDefEqProofs only [go_sem,Nat.reduceEqDiff]
 refine aw_unroll ?_
 simp -implicitDefEqProofs only [go_sem,Nat.reduceEqDiff,d0,decide_false,wpDefers_cons]
 refine ⟨.inr gUnlock,?_⟩
 refine runs_ret hr3 ?_
 simp -implicitDefEqProofs only [go_sem,Nat.reduceEqDiff]
 exact R3
end
end Go.Proofs.YtlgmpheammbacaaGreatDoor
set_option maxRecDepth 1000000
namespace Go.Proofs.YtlgmpheammbacaaGreatDoor
open AM Go
noncomputable section
set_option linter.unusedVariables false
set_option linter.unusedSimpArgs false
attribute [local irreducible] T.get T.set
variable {σ σ':St}
theorem good_heap0 {b l o:Nat} (h:MayC b l o):Good (heap0 b l o):=⟨⟨_,_,_,inv_heap0 h⟩,(fun x hx=>absurd hx (by rw [show (heap0 b l o).np=0*2^o from rfl,Nat.zero_mul];exact Nat.not_lt_zero x)),rfl⟩
end
end Go.Proofs.YtlgmpheammbacaaGreatDoor
set_option maxRecDepth 1000000
namespace Go.Proofs.YtlgmpheammbacaaGreatDoor
open AM Go
noncomputable section
set_option linter.unusedVariables false
set_option linter.unusedSimpArgs false
attribute [local irreducible] T.get T.set
variable {σ σ':St}
def widL:List (Nat × List Int):=[(0,[16,32,64,128,256,512,1024,2048])]
theorem gAw13:G0.get 23=some (.ext (.still widL true)):=by kernel_rfl
theorem rows_wid (hw:Wid σ):rowsAt σ widL=true:=by
 have c0:=hw.cell (c:=0) (by omega)
 have c1:=hw.cell (c:=1) (by omega)
 have c2:=hw.cell (c:=2) (by omega)
 have c3:=hw.cell (c:=3) (by omega)
 have c4:=hw.cell (c:=4) (by omega)
 have c5:=hw.cell (c:=5) (by omega)
 have c6:=hw.cell (c:=6) (by omega)
 have c7:=hw.cell (c:=7) (by omega)
 simp only [rowsAt,widL,List.all_cons,List.all_nil,Bool.and_true,numsAt,Nat.zero_add,Nat.reduceAdd,c0,c1,c2,c3,c4,c5,c6,c7]
 rfl
theorem r_awake13 (hw:Wid σ):Runs G0 [] 23 [] σ fun v s=>v=.bool true /\ s=σ :=
 runs_ext gAw13 rfl (show AM.extCall (.still widL true) [] σ=some (.bool true,σ) by simp only [AM.extCall,rows_wid hw,if_true]) ⟨rfl,rfl⟩
theorem live_heap0 (b l o:Nat):liveL (heap0 b l o)=[]:=by
 unfold liveL liveTo
 rw [show (heap0 b l o).np=0 from Nat.zero_mul _]
 rfl
section
variable {κ:Type} {hasK:κ -> Prop} {AK:κ -> Nat} {cK:κ -> Cont} {A:Slot -> Nat} {H:Heap} {B:CI -> Nat} {w:Nat} {d:Int}
abbrev NSx (σ:St) (A:Slot -> Nat) (H:Heap) (B:CI -> Nat) (w:Nat) (d:Int) (hasK:κ -> Prop) (AK:κ -> Nat) (cK:κ -> Cont):Prop :=
 Wd σ (Sum.elim (Sum.elim H.has fun _:CI=>True) hasK) (Sum.elim (Sum.elim A B) AK) (Sum.elim (Sum.elim (heapC H A) (newL 0 (A .heap) w d B)) cK)
theorem NSx.call {g:FuncId} {xs:List V} {P:V -> Prop} (h:NSx σ A H B w d hasK AK cK) (spec:∀ σ,NS σ A H B 0 w d -> Runs G0 [] g xs σ fun v s=>NS s A H B 0 w d /\ P v) :
  Runs G0 [] g xs σ fun v s=>P v /\ NSx s A H B w d hasK AK cK:=by
 refine (Wd.call (Γ:=G0) (Γ':=G0) (M:=[]) (P:=fun v has' A' c'=>has'=Sum.elim H.has (fun _:CI=>True) /\ A'=Sum.elim A B /\ c'=Sum.elim (heapC H A) (newL 0 (A .heap) w d B) /\ P v) (fun _ _ h=>h) (fun _ h=>nomatch h) h fun s W=>(spec s W).mono ?_).mono ?_
 ·rintro v s' ⟨R,hp⟩
  exact ⟨_,_,_,R,rfl,rfl,rfl,hp⟩
 ·rintro v s' ⟨has',A',c',W,rfl,rfl,rfl,hp⟩
  exact ⟨hp,W⟩
end
theorem r_CacheNew {b l o w d:Int} {x:V} (hx:x.flat=true) (hb0:0 <= b) (hb:b<18446744073709551616) (hg:GW σ) (hw:Wid σ):Runs G0 [] 4 [shop b l o w d x] σ fun v _=>v=.bool true:=by
 refine runs_body g4 rfl ?_
 have L:=Lcl.of_cells σ [.int .u64 b,.int .i64 l,.int .i64 o,.int .i64 w,.int .i64 d,x]
 rw [vlen6] at L
 have gr:Grow σ (σ.newCells [.int .u64 b,.int .i64 l,.int .i64 o,.int .i64 w,.int .i64 d,x]):=Grow.new σ _
 have w1:GW (σ.newCells [.int .u64 b,.int .i64 l,.int .i64 o,.int .i64 w,.int .i64 d,x]):=hg.new _ rfl
 have h1:Wid (σ.newCells [.int .u64 b,.int .i64 l,.int .i64 o,.int .i64 w,.int .i64 d,x]):=hw.of_get (gr.old _ (hw.lt hg))
 have hbw:σ.next≠widthsId:=by have:=hw.lt hg;omega
 generalize hs:σ.newCells [.int .u64 b,.int .i64 l,.int .i64 o,.int .i64 w,.int .i64 d,x]=s1 at L gr w1 h1
 obtain ⟨q,hq⟩:∃ q,q=σ.next:=⟨_,rfl⟩
 rw [<- hq] at L hbw
 obtain ⟨v,s2,⟨rfl,g2⟩,hr2⟩:=r_config13 (b:=b) (l:=l) (o:=o) w1
 have w2:GW s2:=by
  obtain ⟨v',s',⟨_,hh⟩,hr'⟩:=(r_config13 (b:=b) (l:=l) (o:=o) w1).gw w1
  obtain ⟨f0,hf0⟩:=hr2
  obtain ⟨f1,hf1⟩:=hr'
  have e:=(hf0 (max f0 f1) (by omega)).symm.trans (hf1 (max f0 f1) (by omega))
  simp only [Option.some.injEq,Prod.mk.injEq] at e
  rw [e.2];exact hh
 have h2:Wid s2:=h1.of_get (g2.old _ (h1.lt w1))
 have L2:=L.grow w1 g2
 have W2:Wd s2 (fun _:Unit=>True) (fun _=>q) (fun _=>.row 6 (lst [.int .u64 b,.int .i64 l,.int .i64 o,.int .i64 w,.int .i64 d,x])):=by
  refine ⟨w2,h2,fun _=>Ne.symm (Ne.symm hbw),fun _ _ _ _ _=>rfl,fun _ _=>L2.row,?_⟩
  rintro ⟨⟩ ⟨⟩ _ _ _ hne
  exact (hne rfl).elim
 have k0:s1.load q 0 3=some [.int .u64 b,.int .i64 l,.int .i64 o]:=L.load (off:=0) (k:=3) (by omega)
 have k3a:s1.cell q 3=some (.int .i64 w):=L.cell (i:=3) (by omega)
 have k4a:s1.cell q 4=some (.int .i64 d):=L.cell (i:=4) (by omega)
 have k3:s2.cell q 3=some (.int .i64 w):=L2.cell (i:=3) (by omega)
 have k4:s2.cell q 4=some (.int .i64 d):=L2.cell (i:=4) (by omega)
 have k0b:s2.load q 0 3=some [.int .u64 b,.int .i64 l,.int .i64 o]:=L2.load (off:=0) (k:=3) (by omega)
 have hr2':Ret G0 [] 21 [.agg [.int .u64 b,.int .i64 l,.int .i64 o]] s1 (.agg [.int .u64 b,.int .i64 l,.int .i64 o]) s2:=hr2
 simp -implicitDefEqProofs only [go_sem,shop,vcells_agg,vlen6,hs, <- hq,Nat.reduceEqDiff,k0]
 refine runs_ret hr2' ?_
 by_cases hm:MayW w d /\ MayC b l o
 ·obtain ⟨v3,s3,⟨has',A',c',W3,A,B,hv3,rfl,rfl,rfl⟩,hr3⟩:=Wd.callE (ι:=Slot ⊕ CI) (g:=20) (xs:=[cfg b l o,.int .i64 w,.int .i64 d])
   (P:=fun v has' A' c'=>∃ A B,v=.tuple [.ptr (some (B .shared,0)),.int .i64 0] /\ has'=Sum.elim (heap0 b.toNat l.toNat o.toNat).has (fun _:CI=>True) /\ A'=Sum.elim A B /\ c'=Sum.elim (heapC (heap0 b.toNat l.toNat o.toNat) A) (newC (A .heap) w.toNat d B)) W2
   fun s ws hws=>(r_cacheNew (l:=l) (o:=o) (w:=w) (d:=d) hb0 hb ws hws).mono fun v s' ⟨_,hh⟩=>by
    obtain ⟨A,B,hv,R⟩:=hh hm
    exact ⟨_,_,_,R,A,B,hv,rfl,rfl,rfl⟩
  subst hv3
  have hmm:=hm
  obtain ⟨⟨hw1,hw16,_,_⟩,hmc⟩:=hm
  obtain ⟨n,rfl⟩:∃ n:Nat,w=(n:Int):=⟨w.toNat,by omega⟩
  have hr3':Ret G0 [] 20 [.agg [.int .u64 b,.int .i64 l,.int .i64 o],.int .i64 n,.int .i64 d] s2 _ s3:=hr3
  have k6:s3.load q 0 6=some [.int .u64 b,.int .i64 l,.int .i64 o,.int .i64 n,.int .i64 d,x]:=Wd.load W3 (i:=Sum.inr ()) trivial rfl (off:=0) (k:=6) (by omega)
  have k3c:s3.cell q 3=some (.int .i64 n):=Wd.cell W3 (i:=Sum.inr ()) trivial rfl (k:=3) (by omega)
  have k4c:s3.cell q 4=some (.int .i64 d):=Wd.cell W3 (i:=Sum.inr ()) trivial rfl (k:=4) (by omega)
  have k0c:s3.load q 0 3=some [.int .u64 b,.int .i64 l,.int .i64 o]:=Wd.load W3 (i:=Sum.inr ()) trivial rfl (off:=0) (k:=3) (by omega)
  obtain ⟨v4,s4,⟨⟨rfl,g4⟩,w4⟩,hr4⟩:=(r_may13 (x:=x) (w:=(n:Int)) (d:=d) (l:=l) (o:=o) hx hb0 hb W3.gw).gw W3.gw
  have hr4':Ret G0 [] 22 [.agg [.int .u64 b,.int .i64 l,.int .i64 o,.int .i64 n,.int .i64 d,x]] s3 (.bool (decide (ShopMay b l o n d))) s4:=hr4
  have hym:ShopMay b l o n d:=hmm
  have hc2:MayC ((b.toNat:Nat):Int) ((l.toNat:Nat):Int) ((o.toNat:Nat):Int):=by
   have a1:=hmc.l1
   have a2:=hmc.o0
   rw [show ((b.toNat:Nat):Int)=b by omega,show ((l.toNat:Nat):Int)=l by omega,show ((o.toNat:Nat):Int)=o by omega];exact hmc
  have gh:=good_heap0 hc2
  have W4:NSx s4 A (heap0 b.toNat l.toNat o.toNat) B n d (fun _:Unit=>True) (fun _=>q) (fun _=>.row 6 (lst [.int .u64 b,.int .i64 l,.int .i64 o,.int .i64 n,.int .i64 d,x])):=by
   have:=Wd.grow W3 g4 w4
   rw [Int.toNat_natCast,newL_zero] at this
   exact this
  have cw:∀ {s:St},NSx s A (heap0 b.toNat l.toNat o.toNat) B n d (fun _:Unit=>True) (fun _=>q) (fun _=>.row 6 (lst [.int .u64 b,.int .i64 l,.int .i64 o,.int .i64 n,.int .i64 d,x])) -> s.cell q 3=some (.int .i64 n) :=
   fun W=>Wd.cell W (i:=Sum.inr ()) trivial rfl (k:=3) (by omega)
  have kept:=fun (s:St) (W:NSx s A (heap0 b.toNat l.toNat o.toNat) B n d (fun _:Unit=>True) (fun _=>q) (fun _=>.row 6 (lst [.int .u64 b,.int .i64 l,.int .i64 o,.int .i64 n,.int .i64 d,x]))) (k:Int) =>
   NSx.call (g:=24) (xs:=[.ptr (some (B .shared,0)),.int .i64 k]) (P:=fun r=>∃ q e,r=.slice q (if 0 <= k /\ k<(n:Int) then 8 else 0) e) W fun σ h=>r_KeptN h (by omega) k
  obtain ⟨v5,s5,⟨⟨q5,e5,hv5⟩,W5⟩,hr5⟩:=kept s4 W4 n
  rw [if_neg (by omega)] at hv5
  obtain ⟨v6,s6,⟨⟨q6,e6,hv6⟩,W6⟩,hr6⟩:=kept s5 W5 (-1)
  rw [if_neg (by omega)] at hv6
  obtain ⟨v7,s7,⟨⟨q7,e7,hv7⟩,W7⟩,hr7⟩:=kept s6 W6 ((n:Int)-1)
  rw [if_pos (by omega)] at hv7
  obtain ⟨v8,s8,⟨hv8,W8⟩,hr8⟩:=NSx.call (g:=25) (xs:=[.ptr (some (B .shared,0))]) (P:=fun r=>r=.slice none 0 0) W7 fun σ h=>r_LiveN h gh (live_heap0 _ _ _)
  obtain ⟨v9,s9,⟨rfl,hs9⟩,hr9⟩:=r_awake13 W8.wid
  subst hv5 hv6 hv7 hv8
  have c4:=cw W4
  have c5:=cw W5
  have c6:=cw W6
  have em:IntKind.i64.wrap ((n:Int)-1)=(n:Int)-1:=wi64_id (by omega) (by omega)
  have z0:((0:Nat):Int)=0:=rfl
  have z8:((8:Nat):Int)=8:=rfl
  simp -implicitDefEqProofs only [go_sem,Nat.reduceEqDiff,Nat.reduceLeDiff,Nat.reduceAdd,k0b,k3,k4,k3a,k4a]
  refine runs_ret hr3' ?_
  simp -implicitDefEqProofs only [go_sem,Nat.reduceEqDiff,Nat.reduceLeDiff,Nat.reduceAdd,k0b,k3,k4,k3a,k4a,k3c,k4c,k0,k0c,k6]
  refine runs_ret hr4' ?_
  simp -implicitDefEqProofs only [go_sem,Nat.reduceEqDiff,hym,decide_true,eqP_none,c4]
  refine runs_ret hr5 ?_
  simp -implicitDefEqProofs only [go_sem,Nat.reduceEqDiff,decide_true,z0]
  refine runs_ret hr6 ?_
  simp -implicitDefEqProofs only [go_sem,Nat.reduceEqDiff,decide_true,z0,c6,em]
  refine runs_ret hr7 ?_
  simp -implicitDefEqProofs only [go_sem,Nat.reduceEqDiff,decide_true,z8]
  refine runs_ret hr8 ?_
  simp -implicitDefEqProofs only [go_sem,Nat.reduceEqDiff,decide_true,z0]
  refine runs_ret hr9 ?_
  simp -implicitDefEqProofs only [go_sem,Nat.reduceEqDiff]
 ·obtain ⟨v3,s3,⟨hv3,W3⟩,hr3⟩:=Wd.call0 (g:=20) (xs:=[cfg b l o,.int .i64 w,.int .i64 d]) (P:=fun v=>v=.tuple [.ptr none,.int .i64 1]) W2
   fun s ws hws=>(r_cacheNew (l:=l) (o:=o) (w:=w) (d:=d) hb0 hb ws hws).mono fun v s' ⟨hh,_⟩=>⟨(hh hm).1,hws.of_get ((hh hm).2.old _ (hws.lt ws))⟩
  subst hv3
  have hr3':Ret G0 [] 20 [.agg [.int .u64 b,.int .i64 l,.int .i64 o],.int .i64 w,.int .i64 d] s2 _ s3:=hr3
  have k6:s3.load q 0 6=some [.int .u64 b,.int .i64 l,.int .i64 o,.int .i64 w,.int .i64 d,x]:=Wd.load W3 (i:=()) trivial rfl (off:=0) (k:=6) (by omega)
  have k3c:s3.cell q 3=some (.int .i64 w):=Wd.cell W3 (i:=()) trivial rfl (k:=3) (by omega)
  have k4c:s3.cell q 4=some (.int .i64 d):=Wd.cell W3 (i:=()) trivial rfl (k:=4) (by omega)
  have k0c:s3.load q 0 3=some [.int .u64 b,.int .i64 l,.int .i64 o]:=Wd.load W3 (i:=()) trivial rfl (off:=0) (k:=3) (by omega)
  obtain ⟨v4,s4,⟨rfl,g4⟩,hr4⟩:=r_may13 (x:=x) (w:=w) (d:=d) (l:=l) (o:=o) hx hb0 hb W3.gw
  have hr4':Ret G0 [] 22 [.agg [.int .u64 b,.int .i64 l,.int .i64 o,.int .i64 w,.int .i64 d,x]] s3 (.bool (decide (ShopMay b l o w d))) s4:=hr4
  have hnm:¬ ShopMay b l o w d:=hm
  have h4:Wid s4:=W3.wid.of_get (g4.old _ (W3.wid.lt W3.gw))
  obtain ⟨v5,s5,⟨rfl,hs5⟩,hr5⟩:=r_awake13 h4
  simp -implicitDefEqProofs only [go_sem,Nat.reduceEqDiff,Nat.reduceLeDiff,Nat.reduceAdd,k0b,k3,k4,k3a,k4a]
  refine runs_ret hr3' ?_
  simp -implicitDefEqProofs only [go_sem,Nat.reduceEqDiff,Nat.reduceLeDiff,Nat.reduceAdd,k0b,k3,k4,k3a,k4a,k3c,k4c,k0,k0c,k6]
  refine runs_ret hr4' ?_
  simp -implicitDefEqProofs only [go_sem,Nat.reduceEqDiff,hnm,decide_false,eqP_nil]
  refine runs_ret hr5 ?_
  simp -implicitDefEqProofs only [go_sem,Nat.reduceEqDiff]
end
end Go.Proofs.YtlgmpheammbacaaGreatDoor
