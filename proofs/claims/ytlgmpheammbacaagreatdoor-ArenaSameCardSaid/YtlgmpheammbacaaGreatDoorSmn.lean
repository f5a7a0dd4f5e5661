import Derived.Test.YtlgmpheammbacaaGreatDoorSmm
import Derived.Test.YtlgmpheammbacaaGreatDoorKtStart
set_option maxRecDepth 1000000
set_option linter.unusedVariables false
set_option linter.unusedSimpArgs false
set_option maxHeartbeats 4000000
attribute [local irreducible] AM.T.get AM.T.set
namespace Go.Proofs.YtlgmpheammbacaaGreatDoor
open AM Go
noncomputable section
variable {σ σ':St} {A:Slot -> Nat} {B:AI -> Nat} {H H':Heap} {S S':AS}
section
variable {κ:Type} {hasK:κ -> Prop} {AK:κ -> Nat} {cK:κ -> Cont}
theorem Wd.begun (h:Wd σ hasK AK cK) {b l o:Int} {c:Nat} (hb0:0 <= b) (hb:b<18446744073709551616) (hc:c<18446744073709551616) :
  Runs G0 [] 26 [cfg b l o,.int .u64 c] σ fun v s=>(Opens b l o c -> ∃ A B,v=.tuple [.agg (stV (st0 c b l o) (A .heap) (B .arena)),.bool true,.bool false] /\ ARx s A (heap0 b.toNat l.toNat o.toNat) B (newA c) hasK AK cK) /\ (¬ Opens b l o c -> v=.tuple [.agg zs16,.bool false,.bool false] /\ Wd s hasK AK cK):=by
 by_cases ho:Opens b l o c
 ·refine (Wd.callE (ι:=Slot ⊕ AI) (P:=fun v has' A' c'=>∃ A B,v=.tuple [.agg (stV (st0 c b l o) (A .heap) (B .arena)),.bool true,.bool false] /\ has'=Sum.elim (heap0 b.toNat l.toNat o.toNat).has (newA c).has /\ A'=Sum.elim A B /\ c'=Sum.elim (heapC (heap0 b.toNat l.toNat o.toNat) A) ((newA c).cont (A .heap) B)) h fun s w hw=>(r_begunS w hw hb0 hb hc).mono ?_).mono ?_
  ·rintro v s' ⟨h1,_⟩
   obtain ⟨A,B,hv,R⟩:=h1 ho
   exact ⟨_,_,_,R,A,B,hv,rfl,rfl,rfl⟩
  ·rintro v s' ⟨has',A',c',W,A,B,hv,rfl,rfl,rfl⟩
   exact ⟨fun _=>⟨A,B,hv,W⟩,fun h=>(h ho).elim⟩
 ·refine (Wd.call0 (P:=fun v=>v=.tuple [.agg zs16,.bool false,.bool false]) h fun s w hw=>(r_begunS w hw hb0 hb hc).mono ?_).mono ?_
  ·rintro v s' ⟨_,h2⟩
   exact h2 ho
  ·rintro v s' hv
   exact ⟨fun h=>(ho h).elim,fun _=>hv⟩
end
theorem does_used:Does 28 (fun _ ar=>[.ptr (some (ar,0))]) H S H S (fun r=>r=.int .u64 S.used) :=
 Does.of fun {σ A B} h=>(r_Used h).mono fun r s ⟨hr,hs⟩=>by subst hs;exact ⟨hr,A,B,h,rfl,rfl⟩
theorem does_held (hS:S.OK):Does 29 (fun _ ar=>[.ptr (some (ar,0))]) H S H S (fun r=>r=.int .u64 (sumB S.chunks%18446744073709551616:Nat)) :=
 Does.of fun {σ A B} h=>(Wd.rgrow h (r_Held h hS)).mono fun r s ⟨hr,_,W⟩=>⟨hr,A,B,W,rfl,rfl⟩
theorem does_stats (g:Good H):Does 30 (fun hp _=>[.ptr (some (hp,0))]) H S H S (fun r=>r=statsV H) :=
 Does.of fun {σ A B} h=>AR.heapCall h fun s R=>(r_StatsL R g).mono fun r s' ⟨hr,R'⟩=>⟨hr,A,R',rfl⟩
section
variable {ρ:Type} {hasR:ρ -> Prop} {AR':ρ -> Nat} {cR:ρ -> Cont} {A1 A2:Slot -> Nat} {B1 B2:AI -> Nat} {H1 H2:Heap} {S1 S2:AS}
structure TW (s:St) (A1:Slot -> Nat) (H1:Heap) (B1:AI -> Nat) (S1:AS) (A2:Slot -> Nat) (H2:Heap) (B2:AI -> Nat) (S2:AS) (hasR:ρ -> Prop) (R:ρ -> Nat) (cR:ρ -> Cont):Prop where
 w:ARx s A1 H1 B1 S1 (Sum.elim (Sum.elim H2.has S2.has) hasR) (Sum.elim (Sum.elim A2 B2) R) (Sum.elim (Sum.elim (heapC H2 A2) (S2.cont (A2 .heap) B2)) cR)
theorem TW.swap {s:St} {R:ρ -> Nat} (h:TW s A1 H1 B1 S1 A2 H2 B2 S2 hasR R cR):TW s A2 H2 B2 S2 A1 H1 B1 S1 hasR R cR:=by
 refine ⟨Wd.sub h.w (fun k=>match k with | .inl x=>.inr (.inl x) | .inr (.inl x)=>.inl x | .inr (.inr r)=>.inr (.inr r)) ?_ ?_ ?_ ?_⟩
 ·rintro (x | x | r) hk <;> exact hk
 ·rintro (x | x | r) (y | y | t) _ _ e <;> simp_all
 ·rintro (x | x | r) hk <;> rfl
 ·rintro (x | x | r) hk <;> exact .inl rfl
theorem TW.call {s:St} {R:ρ -> Nat} {g:FuncId} {xs:Nat -> Nat -> List V} {P:V -> Prop} (h:TW s A1 H1 B1 S1 A2 H2 B2 S2 hasR R cR) (d:Does g xs H1 S1 H' S' P) :
  Runs G0 [] g (xs (A1 .heap) (B1 .arena)) s fun r s'=>P r /\ ∃ A' B',TW s' A' H' B' S' A2 H2 B2 S2 hasR R cR /\ A' .heap=A1 .heap /\ B' .arena=B1 .arena :=
 (d.run h.w).mono fun r s' ⟨hr,A',B',W,hA,hB⟩=>⟨hr,A',B',⟨W⟩,hA,hB⟩
theorem TW.rest {s:St} {R:ρ -> Nat} (h:TW s A1 H1 B1 S1 A2 H2 B2 S2 hasR R cR):Wd s hasR R cR:=Wd.right (Wd.right h.w)
end
structure SOp where
 k:Int
 w:Int
 m:Int
 n:Nat
 a:Nat
 d:Bool
 x:V
 hn:n<18446744073709551616
 ha:a<18446744073709551616
 hx:x.flat=true
def SOp.v (p:SOp):List V:=opV p.k p.w p.m p.n p.a p.d p.x
theorem lenOp (p:SOp):p.v.length=7:=rfl
abbrev RI:=Option Bool
structure Rows (hasR:RI -> Prop) (R:RI -> Nat) (cR:RI -> Cont) (x y hp1 ar1 hp2 ar2 ob oo N:Nat) (ops:Nat -> SOp) (st:List V):Prop where
 hx:hasR (some false)
 hy:hasR (some true)
 ax:R (some false)=x
 ay:R (some true)=y
 cx:cR (some false)=.row 16 (lst (stV st hp1 ar1))
 cy:cR (some true)=.row 16 (lst (stV st hp2 ar2))
 op:0<N -> hasR none /\ R none=ob /\ cR none=.ro oo (N*7) fun j=>lst (ops (j / 7)).v (j%7)
variable {hasR:RI -> Prop} {R:RI -> Nat} {cR:RI -> Cont} {x y hp1 ar1 hp2 ar2 ob oo N:Nat} {ops:Nat -> SOp} {st:List V} {s:St}
theorem Rows.lx (h:Rows hasR R cR x y hp1 ar1 hp2 ar2 ob oo N ops st) (hst:st.length=14) (W:Wd s hasR R cR):s.load x 0 16=some (stV st hp1 ar1):=by
 rw [<- h.ax];exact Wd.loadL W h.hx (by simp only [stV,List.length_cons,hst]) h.cx
theorem Rows.ly (h:Rows hasR R cR x y hp1 ar1 hp2 ar2 ob oo N ops st) (hst:st.length=14) (W:Wd s hasR R cR):s.load y 0 16=some (stV st hp2 ar2):=by
 rw [<- h.ay];exact Wd.loadL W h.hy (by simp only [stV,List.length_cons,hst]) h.cy
theorem Rows.x0 (h:Rows hasR R cR x y hp1 ar1 hp2 ar2 ob oo N ops st) (W:Wd s hasR R cR):s.cell x 0=some (.ptr (some (hp1,0))):=by
 rw [<- h.ax];exact W.cell h.hx h.cx (k:=0) (by omega)
theorem Rows.x1 (h:Rows hasR R cR x y hp1 ar1 hp2 ar2 ob oo N ops st) (W:Wd s hasR R cR):s.cell x 1=some (.ptr (some (ar1,0))):=by
 rw [<- h.ax];exact W.cell h.hx h.cx (k:=1) (by omega)
theorem Rows.y0 (h:Rows hasR R cR x y hp1 ar1 hp2 ar2 ob oo N ops st) (W:Wd s hasR R cR):s.cell y 0=some (.ptr (some (hp2,0))):=by
 rw [<- h.ay];exact W.cell h.hy h.cy (k:=0) (by omega)
theorem Rows.y1 (h:Rows hasR R cR x y hp1 ar1 hp2 ar2 ob oo N ops st) (W:Wd s hasR R cR):s.cell y 1=some (.ptr (some (ar2,0))):=by
 rw [<- h.ay];exact W.cell h.hy h.cy (k:=1) (by omega)
theorem Rows.lop (h:Rows hasR R cR x y hp1 ar1 hp2 ar2 ob oo N ops st) (W:Wd s hasR R cR) {i:Nat} (hi:i<N):s.load ob (oo+i*7) 7=some (ops i).v:=by
 obtain ⟨h1,h2,h3⟩:=h.op (by omega)
 have hr:=(W.roRow h1 h3).load (off:=i*7) (k:=7) (by omega)
 rw [h2] at hr
 rw [hr,show (some (ops i).v:Option (List V))=some ((List.range 7).map fun j=>lst (ops i).v (0+j)) from congrArg some (lst_map (ops i).v).symm]
 congr 1
 refine List.map_congr_left fun j hj=>?_
 have hj':j<7:=List.mem_range.1 hj
 rw [show (i*7+j) / 7=i by omega,show (i*7+j)%7=0+j by omega]
theorem stats_eq (H:Heap):∃ a b c d,statsV H=.agg [.int .u64 a,.int .u64 b,.int .i64 c,.int .i64 d] /\ eqCells [true,true,true,true] [V.int .u64 a,.int .u64 b,.int .i64 c,.int .i64 d] [V.int .u64 a,.int .u64 b,.int .i64 c,.int .i64 d]=some true:=by
 refine ⟨_,_,_,_,rfl,?_⟩
 simp [eqCells,eqPlain]
end
noncomputable section
variable {σ σ':St}
abbrev JI:=Option (Bool ⊕ Unit)
abbrev hasJ (hasK:Unit -> Prop):JI -> Prop:=fun o=>o.elim True (Sum.elim (fun _=>False) hasK)
abbrev adrJ (q:Nat) (AK:Unit -> Nat):JI -> Nat:=fun o=>o.elim q (Sum.elim (fun _=>0) AK)
abbrev conJ (cf:List V) (cK:Unit -> Cont):JI -> Cont:=fun o=>o.elim (.row 3 (lst cf)) (Sum.elim (fun _=>.map []) cK)
theorem start_J {hasK:Unit -> Prop} {AK:Unit -> Nat} {cK:Unit -> Cont} (W:Wd σ hasK AK cK) (cf:List V) (h3:cf.length=3):Wd (σ.newCells cf) (hasJ hasK) (adrJ σ.next AK) (conJ cf cK):=by
 have W0:Wd σ (fun o:JI=>o.elim False (Sum.elim (fun _=>False) hasK)) (adrJ 0 AK) (conJ [] cK):=by
  refine W.sub (fun _=>()) ?_ ?_ ?_ ?_
  ·rintro (_ | _ | _) hk
   ·exact hk.elim
   ·exact hk.elim
   ·exact hk
  ·rintro (_ | _ | _) (_ | _ | _) hk hl _
   ·rfl
   ·exact hk.elim
   ·exact hk.elim
   ·exact hl.elim
   ·exact hk.elim
   ·exact hk.elim
   ·exact hl.elim
   ·exact hl.elim
   ·rfl
  ·rintro (_ | _ | _) hk
   ·exact hk.elim
   ·exact hk.elim
   ·rfl
  ·rintro (_ | _ | _) hk
   ·exact hk.elim
   ·exact hk.elim
   ·exact .inl rfl
 have W1:=W0.cells (i0:=none) (fun h=>h) cf
 refine W1.sub id ?_ (fun _ _ _ _ e=>e) ?_ ?_
 ·rintro (_ | _ | _) hk
  ·exact .inr rfl
  ·exact hk.elim
  ·exact .inl hk
 ·rintro (_ | _ | _) hk
  ·exact updG_same.symm
  ·exact hk.elim
  ·exact (updG_ne (by intro h;cases h)).symm
 ·rintro (_ | _ | _) hk
  ·left;rw [show id (none:JI)=none from rfl,updG_same,h3];rfl
  ·exact hk.elim
  ·left;exact (updG_ne (by intro h;cases h)).symm
theorem newA_in {b l o:Int} {c:Nat} (h:Opens b l o c):ArIn (heap0 b.toNat l.toNat o.toNat) (newA c) :=
 ⟨⟨(fun b hb=>nomatch (show b∈[] from hb)),Nat.zero_le _,Nat.zero_lt_succ _,by
  have h1:=h.2.2;have h2:=h.1.o8;have h3:=h.1.o0
  have hp:2^o.toNat <= 256:=by
   have:(2:Nat)^o.toNat <= 2^8:=Nat.pow_le_pow_right (by omega) (by omega)
   simpa using this
  have e:(heap0 b.toNat l.toNat o.toNat).rsz=4096*2^o.toNat:=rfl
  show c <= _
  omega,(fun _=>rfl),(fun _=>rfl),Nat.zero_le _⟩,⟨List.Pairwise.nil,(fun m hm=>nomatch (show m∈[] from hm)),(fun m hm=>nomatch (show m∈[] from hm)),fun _=>rfl,(fun m hm=>nomatch (show m∈[] from hm))⟩,h.2.2⟩
theorem r_ArenaSame {hasK:Unit -> Prop} {AK:Unit -> Nat} {cK:Unit -> Cont} {b l o:Int} {c N oo e:Nat} {q:Option (Nat × Nat)} {ops:Nat -> SOp} (W0:Wd σ hasK AK cK) (hb0:0 <= b) (hb:b<18446744073709551616) (hc:c<18446744073709551616)
  (hN:N <= 4000000000000) (hq:0<N -> q=some (AK (),oo) /\ e=7) (hh:0<N -> hasK () /\ cK ()=.ro oo (N*7) fun j=>lst (ops (j / 7)).v (j%7)) :
  Runs G0 [] 5 [cfg b l o,.int .u64 c,.slice q N e] σ fun v _=>v=.bool true:=by
 refine runs_body g5 rfl ?_
 have W1:=start_J W0 [.int .u64 b,.int .i64 l,.int .i64 o] rfl
 generalize hs1:σ.newCells [.int .u64 b,.int .i64 l,.int .i64 o]=s1 at W1
 obtain ⟨v,s2,⟨rfl,W2⟩,hr2⟩:=W1.call0 (g:=15) (P:=fun v=>v=.bool true) fun s w hw=>r_awakeA w hw
 have l2:s2.load σ.next 0 3=some [.int .u64 b,.int .i64 l,.int .i64 o]:=Wd.loadL W2 (i:=none) trivial rfl rfl
 obtain ⟨v,s3,⟨m1,m2⟩,hr3⟩:=W2.begun (b:=b) (l:=l) (o:=o) hb0 hb hc
 have hr3':Ret G0 [] 26 [.agg [.int .u64 b,.int .i64 l,.int .i64 o],.int .u64 c] s2 v s3:=hr3
 simp -implicitDefEqProofs only[go_sem,cfg,vcells_agg,vlen3,hs1,ne_eq,not_true_eq_false,not_false_eq_true]
 refine runs_ret hr2 ?_
 simp -implicitDefEqProofs only[go_sem,l2]
 refine runs_ret hr3' ?_
 by_cases ho:Opens b l o c
 ·obtain ⟨A1,B1,rfl,W3⟩:=m1 ho
  have hst3:=new_store (σ:=s3) (z:=zs16) (vs:=stV (st0 c b l o) (A1 .heap) (B1 .arena)) (n:=16) (Nat.le_of_eq lenSt) rfl
  have L4:=Lcl.lay s3 16 zs16 (stV (st0 c b l o) (A1 .heap) (B1 .arena)) rfl
  have W4:=Wd.lay W3 (n:=16) (z:=zs16) (vs:=stV (st0 c b l o) (A1 .heap) (B1 .arena)) (Nat.le_of_eq lenSt) rfl
  have hne4:=fun i hi=>Nat.ne_of_lt (Wd.lt W3 (i:=i) hi)
  have W4':=W4.addLcl (i0:=.inr (some (.inl false))) (fun h=>h) L4 hne4
  generalize hs4:s3.lay 16 zs16 (stV (st0 c b l o) (A1 .heap) (B1 .arena))=s4 at W4 W4' hst3 L4
  have l4:s4.load σ.next 0 3=some [.int .u64 b,.int .i64 l,.int .i64 o]:=Wd.loadL W4 (i:=.inr none) trivial rfl rfl
  obtain ⟨v,s5,⟨n1,_⟩,hr5⟩:=W4'.begun (b:=b) (l:=l) (o:=o) hb0 hb hc
  obtain ⟨A2,B2,rfl,W5⟩:=n1 ho
  have hr5':Ret G0 [] 26 [.agg [.int .u64 b,.int .i64 l,.int .i64 o],.int .u64 c] s4 _ s5:=hr5
  have hst5:=new_store (σ:=s5) (z:=zs16) (vs:=stV (st0 c b l o) (A2 .heap) (B2 .arena)) (n:=16) (Nat.le_of_eq lenSt) rfl
  have L6:=Lcl.lay s5 16 zs16 (stV (st0 c b l o) (A2 .heap) (B2 .arena)) rfl
  have W6:=Wd.lay W5 (n:=16) (z:=zs16) (vs:=stV (st0 c b l o) (A2 .heap) (B2 .arena)) (Nat.le_of_eq lenSt) rfl
  have hne6:=fun i hi=>Nat.ne_of_lt (Wd.lt W5 (i:=i) hi)
  have W6':=W6.addLcl (i0:=.inr (.inr (some (.inl true)))) (by rintro (h | h);exact h;cases h) L6 hne6
  generalize hs6:s5.lay 16 zs16 (stV (st0 c b l o) (A2 .heap) (B2 .arena))=s6 at W6 W6' hst5 L6
  have hT:TW s6 A1 (heap0 b.toNat l.toNat o.toNat) B1 (newA c) A2 (heap0 b.toNat l.toNat o.toNat) B2 (newA c) (fun r:RI=>r.elim (hasK ()) fun _=>True) (fun r=>r.elim (AK ()) fun z=>cond z s5.next s3.next)
    (fun r=>r.elim (cK ()) fun z=>cond z (.row 16 (lst (stV (st0 c b l o) (A2 .heap) (B2 .arena)))) (.row 16 (lst (stV (st0 c b l o) (A1 .heap) (B1 .arena))))):=by
   refine ⟨W6'.sub (fun k=>match k with | .inl x=>.inr (.inl x) | .inr (.inl x)=>.inl x | .inr (.inr none)=>.inr (.inr (some (.inr ()))) | .inr (.inr (some z))=>.inr (.inr (some (.inl z)))) ?_ ?_ ?_ ?_⟩
   ·rintro (x | x | _ | _ | _) hk
    ·exact .inl (.inl hk)
    ·exact .inl hk
    ·exact .inl (.inl hk)
    ·exact .inl (.inr rfl)
    ·exact .inr rfl
   ·rintro (x | x | _ | _ | _) (y | y | _ | _ | _) _ _ e <;> simp_all
   ·rintro (x | x | _ | _ | _) hk
    ·show _=updG _ _ _ _;rw [updG_ne (by intro h;cases h)];show _=updG _ _ _ _;rw [updG_ne (by intro h;cases h)];rfl
    ·show _=updG _ _ _ _;rw [updG_ne (by intro h;cases h)];rfl
    ·show _=updG _ _ _ _;rw [updG_ne (by intro h;cases h)];show _=updG _ _ _ _;rw [updG_ne (by intro h;cases h)];rfl
    ·show _=updG _ _ _ _;rw [updG_ne (by intro h;cases h)];show _=updG _ _ _ _;rw [updG_same];rfl
    ·show _=updG _ _ _ _;rw [updG_same];rfl
   ·rintro (x | x | _ | _ | _) hk
    ·left;show _=updG _ _ _ _;rw [updG_ne (by intro h;cases h)];show _=updG _ _ _ _;rw [updG_ne (by intro h;cases h)];rfl
    ·left;show _=updG _ _ _ _;rw [updG_ne (by intro h;cases h)];rfl
    ·left;show _=updG _ _ _ _;rw [updG_ne (by intro h;cases h)];show _=updG _ _ _ _;rw [updG_ne (by intro h;cases h)];rfl
    ·left;show _=updG _ _ _ _;rw [updG_ne (by intro h;cases h)];show _=updG _ _ _ _;rw [updG_same];rfl
    ·left;show _=updG _ _ _ _;rw [updG_same];rfl
  have hR:Rows (fun r:RI=>r.elim (hasK ()) fun _=>True) (fun r=>r.elim (AK ()) fun z=>cond z s5.next s3.next)
    (fun r=>r.elim (cK ()) fun z=>cond z (.row 16 (lst (stV (st0 c b l o) (A2 .heap) (B2 .arena)))) (.row 16 (lst (stV (st0 c b l o) (A1 .heap) (B1 .arena))))) s3.next s5.next (A1 .heap) (B1 .arena) (A2 .heap) (B2 .arena) (AK ()) oo N ops (st0 c b l o) :=
   ⟨trivial,trivial,rfl,rfl,rfl,rfl,fun h=>⟨(hh h).1,rfl,(hh h).2⟩⟩
  have hg0:Good (heap0 b.toNat l.toNat o.toNat):=good_heap0 (by rw [toNat_cast3 hb0 ho.1];exact ho.1)
  have hai:=newA_in ho
  simp -implicitDefEqProofs only[go_sem,List.length_cons,List.length_nil,agg_cells,len16,lenSt,hst3,l4]
  refine runs_ret hr5' ?_
  simp -implicitDefEqProofs only[go_sem,List.length_cons,List.length_nil,agg_cells,len16,lenSt,hst5]
  generalize (fun r:RI=>r.elim (hasK ()) fun _=>True)=hasR at hT hR
  generalize (fun r:RI=>r.elim (AK ()) fun z=>cond z s5.next s3.next)=R at hT hR
  generalize (fun r:RI=>r.elim (cK ()) fun z=>cond z (Cont.row 16 (lst (stV (st0 c b l o) (A2 .heap) (B2 .arena)))) (.row 16 (lst (stV (st0 c b l o) (A1 .heap) (B1 .arena)))))=cR at hT hR
  have hlst:(st0 c b l o).length=14:=rfl
  generalize st0 c b l o=st at hR hlst
  generalize s3.next=x at hR ⊢
  generalize s5.next=y at hR ⊢
  generalize hhp1:A1 .heap=hp1 at hR
  generalize har1:B1 .arena=ar1 at hR
  generalize hhp2:A2 .heap=hp2 at hR
  generalize har2:B2 .arena=ar2 at hR
  clear hr5' hr5 hr3 hr3' m1 m2 n1
  refine aw_loop (fun (k:Nat) (fr:AM.Fr) (s:St)=>fr.defers=[] /\ fr.tmps.get 2=some (.slice q N e) /\ fr.tmps.get 7=some (.ptr (some (x,0))) /\ fr.tmps.get 10=some (.ptr (some (y,0))) ∧
   ∃ i:Nat,fr.tmps.get 13=some (.int .i64 i) /\ i+k=N /\ ∃ A1 B1 A2 B2 H S,TW s A1 H B1 S A2 H B2 S hasR R cR /\ Good H /\ ArIn H S /\ S.chunks.length <= i /\ S.made <= i /\ S.ms.length <= i /\ A1 .heap=hp1 /\ B1 .arena=ar1 /\ A2 .heap=hp2 /\ B2 .arena=ar2) ?_ N ?_
  ·rintro k ⟨tm,ds⟩ s ⟨hd,t2,t7,t10,i,t13,hi,A1,B1,A2,B2,H,S,T1,g,ai,q1,q2,q3,e1,e2,e3,e4⟩
   simp only at hd t2 t7 t10 t13
   subst hd
   by_cases cN:i<N
   ·obtain ⟨rfl,rfl⟩:=hq (by omega)
    have d1:(i:Int)<(N:Int):=by omega
    have d2:(0:Int) <= (i:Int) /\ (i:Int)<(N:Int):=by omega
    have ei:IntKind.i64.wrap ((i:Int)+1)=((i+1:Nat):Int):=i64_add (a:=i) (b:=1) (by omega)
    obtain ⟨H',S',v,er,sp⟩:=spoil_ex g ai (by omega) (by omega) (by omega) (ops i).k (ops i).w (ops i).m (ops i).hn (ops i).ha (ops i).d
    obtain ⟨r1,u1,⟨hr1,A3,B3,T2,f1,f2⟩,hc1⟩:=T1.call (sp.does st (ops i).x hlst (ops i).hx)
    subst hr1
    obtain ⟨r2,u2,⟨hr2',A4,B4,T3,f3,f4⟩,hc2⟩:=T2.swap.call (sp.does st (ops i).x hlst (ops i).hx)
    subst hr2'
    obtain ⟨r3,u3,⟨hr3',A5,B5,T4,f5,f6⟩,hc3⟩:=T3.swap.call does_used
    subst hr3'
    obtain ⟨r4,u4,⟨hr4',A6,B6,T5,f7,f8⟩,hc4⟩:=T4.swap.call does_used
    subst hr4'
    obtain ⟨r5,u5,⟨hr5',A7,B7,T6,f9,f10⟩,hc5⟩:=T5.swap.call (does_held sp.ain.ok)
    subst hr5'
    obtain ⟨r6,u6,⟨hr6',A8,B8,T7,f11,f12⟩,hc6⟩:=T6.swap.call (does_held sp.ain.ok)
    subst hr6'
    have hx0:=hR.lx hlst T1.rest
    have hx1:=hR.lop T1.rest cN
    have hx2:=hR.ly hlst T2.rest
    have hx3:=hR.lop T2.rest cN
    have hx4:=hR.x1 T3.rest
    have hx5:=hR.y1 T3.rest
    have hx6:=hR.y1 T4.rest
    have hx7:=hR.x1 T5.rest
    have hx8:=hR.y1 T5.rest
    have hx9:=hR.y1 T6.rest
    have hy1:=hR.x1 T4.rest
    have hy2:=hR.x1 T6.rest
    have k1:Ret G0 [] 27 [.agg (stV st hp1 ar1),.agg (ops i).v] s (.tuple [.int .u64 v,.int .i64 er]) u1:=by rw [<- e1, <- e2];exact hc1
    have k2:Ret G0 [] 27 [.agg (stV st hp2 ar2),.agg (ops i).v] u1 (.tuple [.int .u64 v,.int .i64 er]) u2:=by rw [<- e3, <- e4];exact hc2
    have k3:Ret G0 [] 28 [.ptr (some (ar1,0))] u2 (.int .u64 S'.used) u3:=by rw [<- e2, <- f2];exact hc3
    have k4:Ret G0 [] 28 [.ptr (some (ar2,0))] u3 (.int .u64 S'.used) u4:=by rw [<- e4, <- f4];exact hc4
    have k5:Ret G0 [] 29 [.ptr (some (ar1,0))] u4 (.int .u64 (sumB S'.chunks%18446744073709551616:Nat)) u5:=by rw [<- e2, <- f2, <- f6];exact hc5
    have k6:Ret G0 [] 29 [.ptr (some (ar2,0))] u5 (.int .u64 (sumB S'.chunks%18446744073709551616:Nat)) u6:=by rw [<- e4, <- f4, <- f8];exact hc6
    have z1:=sp.lc;have z2:=sp.lm;have z3:=sp.ls
    simp -implicitDefEqProofs only[go_sem,ne_eq,not_true_eq_false,not_false_eq_true,t2,t7,t10,t13,d1,d2,and_self,Int.toNat_natCast,hx0,hx1]
    refine runs_ret k1 ?_
    simp -implicitDefEqProofs only[go_sem,ne_eq,not_true_eq_false,not_false_eq_true,t2,t7,t10,t13,d1,d2,and_self,Int.toNat_natCast,sameV_refl,hx0,hx1,hx2,hx3]
    refine runs_ret k2 ?_
    simp -implicitDefEqProofs only[go_sem,ne_eq,not_true_eq_false,not_false_eq_true,t2,t7,t10,t13,d1,d2,and_self,Int.toNat_natCast,sameV_refl,hx2,hx3,hx4,hx5]
    refine runs_ret k3 ?_
    simp -implicitDefEqProofs only[go_sem,ne_eq,not_true_eq_false,not_false_eq_true,t2,t7,t10,t13,sameV_refl,hx6,hx4,hx5,hy1]
    refine runs_ret k4 ?_
    simp -implicitDefEqProofs only[go_sem,ne_eq,not_true_eq_false,not_false_eq_true,t2,t7,t10,t13,sameV_refl,hx4,hx5,hx6,hy1,hx7,hx8]
    refine runs_ret k5 ?_
    simp -implicitDefEqProofs only[go_sem,ne_eq,not_true_eq_false,not_false_eq_true,t2,t7,t10,t13,sameV_refl,hx4,hx5,hx6,hy1,hx7,hx9,hx8,hy2]
    refine runs_ret k6 ?_
    simp -implicitDefEqProofs only[go_sem,ne_eq,not_true_eq_false,not_false_eq_true,t2,t7,t10,t13,sameV_refl,hx4,hx5,hx6,hx7,hx8,hx9,hy1,hy2,ei]
    refine ⟨k-1,by omega,i+1,rfl,by omega,A7,B7,A8,B8,H',S',T7.swap,sp.good,sp.ain,by omega,by omega,by omega,?_,?_,?_,?_⟩
    ·rw [f9,f5,f1,e1]
    ·rw [f10,f6,f2,e2]
    ·rw [f11,f7,f3,e3]
    ·rw [f12,f8,f4,e4]
   ·have d1:¬ ((i:Int)<(N:Int)):=by omega
    obtain ⟨r1,u1,⟨hr1,A3,B3,T2,f1,f2⟩,hc1⟩:=T1.call (does_stats g)
    subst hr1
    obtain ⟨r2,u2,⟨hr2',A4,B4,T3,f3,f4⟩,hc2⟩:=T2.swap.call (does_stats g)
    subst hr2'
    have k1:Ret G0 [] 30 [.ptr (some (hp1,0))] s (statsV H) u1:=by rw [<- e1];exact hc1
    have k2:Ret G0 [] 30 [.ptr (some (hp2,0))] u1 (statsV H) u2:=by rw [<- e3];exact hc2
    have hx0:=hR.x0 T1.rest
    have hx1:=hR.y0 T1.rest
    have hx2:=hR.y0 T2.rest
    have hx3:=hR.x0 T2.rest
    obtain ⟨a,b',c',d,hs,he⟩:=stats_eq H
    rw [hs] at k1 k2
    simp -implicitDefEqProofs only[go_sem,ne_eq,not_true_eq_false,not_false_eq_true,t2,t7,t10,t13,d1,hx0,hx1]
    refine runs_ret k1 ?_
    simp -implicitDefEqProofs only[go_sem,ne_eq,not_true_eq_false,not_false_eq_true,t2,t7,t10,t13,sameV_refl,hx0,hx2,hx1,hx3]
    refine runs_ret k2 ?_
    simp -implicitDefEqProofs only[go_sem,ne_eq,not_true_eq_false,not_false_eq_true,t2,t7,t10,t13,sameV_refl,hx0,hx1,hx2,hx3,he]
  ·refine ⟨rfl,?_,?_,?_,0,?_,by omega,A1,B1,A2,B2,_,_,hT,hg0,hai,Nat.zero_le _,Nat.zero_le _,Nat.zero_le _,hhp1,har1,hhp2,har2⟩
   all_goals simp -implicitDefEqProofs only[go_sem]
   rfl
 ·obtain ⟨rfl,W3⟩:=m2 ho
  have hst3:=new_store (σ:=s3) (z:=zs16) (vs:=zs16) (n:=16) (by simp) rfl
  have W4:=W3.lay (n:=16) (z:=zs16) (vs:=zs16) (by simp) rfl
  generalize hs4:s3.lay 16 zs16 zs16=s4 at W4 hst3
  have l4:s4.load σ.next 0 3=some [.int .u64 b,.int .i64 l,.int .i64 o]:=Wd.loadL W4 (i:=none) trivial rfl rfl
  obtain ⟨v,s5,⟨_,n2⟩,hr5⟩:=W4.begun (b:=b) (l:=l) (o:=o) hb0 hb hc
  obtain ⟨rfl,W5⟩:=n2 ho
  have hr5':Ret G0 [] 26 [.agg [.int .u64 b,.int .i64 l,.int .i64 o],.int .u64 c] s4 _ s5:=hr5
  have hst5:=new_store (σ:=s5) (z:=zs16) (vs:=zs16) (n:=16) (by simp) rfl
  simp -implicitDefEqProofs only[go_sem,List.length_cons,List.length_nil,agg_cells,len16,hst3,l4]
  refine runs_ret hr5' ?_
  simp -implicitDefEqProofs only[go_sem,List.length_cons,List.length_nil,agg_cells,len16,hst5]
end
end Go.Proofs.YtlgmpheammbacaaGreatDoor
namespace Go.Proofs.YtlgmpheammbacaaGreatDoor
open Go.ChangeShapes Go.WideShapes Go.ChangeAt Go.WideMaps Go.WideElems Go.RowKit
open AM
theorem smInt {W:World} {base:Nat} {t:TypeId} {k:IntKind} {v:Value} (ht:Tryz.prog.underlying t=some (.int k)) (h:Cell.okWide Tryz.prog W .any base t v):∃ n,v=.int k n /\ k.min <= n /\ n <= k.max:=by
 unfold Cell.okWide at h
 rw [ht] at h
 unfold Cell.ok at h
 simp only [ht] at h
 cases v <;> first | exact ⟨_,by obtain ⟨e,_⟩:=h;rw [e],h.2.1,h.2.2⟩ | exact h.elim
theorem sm3:Tryz.prog.underlying 3=some (.int .i64):=by kernel_rfl
theorem sm28:Tryz.prog.underlying 28=some (.int .u64):=by kernel_rfl
theorem sm4:Tryz.prog.underlying 4=some .bool:=by kernel_rfl
theorem sm30:Tryz.prog.cellTypes Tryz.prog.depth 30=some [28,3,3]:=by kernel_rfl
theorem smC3:Tryz.prog.cellsOf 3=1:=by kernel_rfl
theorem smC28:Tryz.prog.cellsOf 28=1:=by kernel_rfl
theorem smC4:Tryz.prog.cellsOf 4=1:=by kernel_rfl
theorem smC67:Tryz.prog.cellsOf 67=1:=by kernel_rfl
theorem smC69:Tryz.prog.cellsOf 69=7:=by kernel_rfl
theorem smB69:Tryz.prog.bytesOf 69=72:=by kernel_rfl
theorem smMin:IntKind.u64.min=0:=by decide
theorem smMax:IntKind.u64.max=18446744073709551615:=by decide
theorem sm67:∃ e,Tryz.prog.underlying 67=some (.slice e) /\ 0<Tryz.prog.cellsOf e:=⟨_,Tryz.underlying67,of_decide_eq_true (by kernel_rfl)⟩
def DataOk (W:World) (x:Value):Prop:=x=.slice none 0 0 \/ ∃ ad len cap,x=.slice (some ad) len cap /\ len <= cap /\ (0<cap -> ad.spot=none /\ ad.block<W.heap.size)
theorem trod_op {W:World} {H:Type} {enc:TypeId × Value -> H} {n:Nat} {cs:List Value} {y:DataW H × List MemPlace} (hlen:cs.length=7) (h:DataW.trod enc Tryz.prog W 0 (fun _=>true) true n 69 cs=some y) :
  ∃ k w m nn a d x,cs=[.int .i64 k,.int .i64 w,.int .i64 m,.int .u64 nn,.int .u64 a,.bool d,x] /\ 0 <= nn /\ nn<18446744073709551616 /\ 0 <= a /\ a<18446744073709551616 /\ DataOk W x:=by
 obtain ⟨xs,m,_,_,hl,hxl,hf⟩:=DataW.trod_struct Tryz.underlying69 h
 have f0:DataW.trod enc Tryz.prog W 0 (fun _=>true) true m 3 ((cs.drop 0).take (Tryz.prog.cellsOf 3))=xs[0]?:=by have:=hf 0 _ rfl;exact this
 have f1:DataW.trod enc Tryz.prog W 0 (fun _=>true) true m 3 ((cs.drop 1).take (Tryz.prog.cellsOf 3))=xs[1]?:=by have:=hf 1 _ rfl;exact this
 have f2:DataW.trod enc Tryz.prog W 0 (fun _=>true) true m 3 ((cs.drop 2).take (Tryz.prog.cellsOf 3))=xs[2]?:=by have:=hf 2 _ rfl;exact this
 have f3:DataW.trod enc Tryz.prog W 0 (fun _=>true) true m 28 ((cs.drop 3).take (Tryz.prog.cellsOf 28))=xs[3]?:=by have:=hf 3 _ rfl;exact this
 have f4:DataW.trod enc Tryz.prog W 0 (fun _=>true) true m 28 ((cs.drop 4).take (Tryz.prog.cellsOf 28))=xs[4]?:=by have:=hf 4 _ rfl;exact this
 have f5:DataW.trod enc Tryz.prog W 0 (fun _=>true) true m 4 ((cs.drop 5).take (Tryz.prog.cellsOf 4))=xs[5]?:=by have:=hf 5 _ rfl;exact this
 have f6:DataW.trod enc Tryz.prog W 0 (fun _=>true) true m 67 ((cs.drop 6).take (Tryz.prog.cellsOf 67))=xs[6]?:=by have:=hf 6 _ rfl;exact this
 have hxl:xs.length=7:=hxl
 match cs,hlen with
 | [c0,c1,c2,c3,c4,c5,c6],_ =>
  match xs,hxl with
  | [x0,x1,x2,x3,x4,x5,x6],_ =>
   simp only [smC3,smC28,smC4,smC67,List.drop_zero,List.drop_succ_cons,List.take_succ_cons,List.take_zero,List.getElem?_cons_zero,List.getElem?_cons_succ] at f0 f1 f2 f3 f4 f5 f6
   obtain ⟨k,e0,_⟩:=DataW.trod_int sm3 f0
   obtain ⟨w,e1,_⟩:=DataW.trod_int sm3 f1
   obtain ⟨m',e2,_⟩:=DataW.trod_int sm3 f2
   obtain ⟨nn,e3,_,b3⟩:=DataW.trod_int sm28 f3
   obtain ⟨a,e4,_,b4⟩:=DataW.trod_int sm28 f4
   obtain ⟨d,e5,_⟩:=DataW.trod_bool sm4 f5
   have g3:0 <= nn /\ nn<18446744073709551616:=by
    simp [Lit.wf] at b3
    have a1:=smMin;have a2:=smMax
    omega
   have g4:0 <= a /\ a<18446744073709551616:=by
    simp [Lit.wf] at b4
    have a1:=smMin;have a2:=smMax
    omega
   simp only [List.cons.injEq,and_true] at e0 e1 e2 e3 e4 e5
   subst e0 e1 e2 e3 e4 e5
   refine ⟨k,w,m',nn,a,d,c6,rfl,g3.1,g3.2,g4.1,g4.2,?_⟩
   obtain ⟨e,he,hpos⟩:=sm67
   rcases DataW.trod_slice he f6 with ⟨h6,_⟩ | ⟨ad,len,cap,elems,rest,n6,_,h6,_,_,hlc,hcm,hel,hev,hr,_⟩
   ·left;simpa using h6
   ·right
    refine ⟨ad,len,cap,by simpa using h6,hlc,fun hc=>?_⟩
    have key:∃ y,(W.cells? 0 (ad.add (0*Tryz.prog.cellsOf e)) (Tryz.prog.cellsOf e)).bind (DataW.trod enc Tryz.prog W 0 (fun _=>true) true n6 e)=some y:=by
     rcases Nat.eq_zero_or_pos len with c | c
     ·obtain ⟨h1,h2⟩:=hr rfl
      have:=h2 0 (by omega)
      rw [show len+0=0 by omega] at this
      rw [this];exact ⟨_,List.getElem?_eq_getElem (by omega)⟩
     ·rw [hev 0 c];exact ⟨_,List.getElem?_eq_getElem (by omega)⟩
    obtain ⟨y,hy⟩:=key
    obtain ⟨cs',hcs,_⟩:=Option.bind_eq_some_iff.1 hy
    obtain ⟨_,hl',hat⟩:=World.cells?_some hcs
    have:=hat 0 hpos
    rw [Nat.zero_mul] at this
    have e0:((ad.add 0).add 0)=ad:=rfl
    rw [e0,List.getElem?_eq_getElem (by omega)] at this
    unfold World.cell? at this
    split at this
    ·rename_i C E fz hb
     refine ⟨?_,(Array.getElem?_eq_some_iff.1 hb).1⟩
     split at this
     ·cases this
     ·rename_i hs;simpa using hs
    ·cases this
theorem op_of {W:World} {H:Type} {enc:TypeId × Value -> H} {n b id:Nat} {cs:List Value} {y:DataW H × List MemPlace} (hb:b<W.heap.size) (hlen:cs.length=7) (h:DataW.trod enc Tryz.prog W 0 (fun _=>true) true n 69 cs=some y) :
  ∃ (p:SOp) (xb xn:Nat),xb<W.heap.size /\ ∀ φ:Phi,φ id=some (xb,xn) -> LR φ p.v cs:=by
 obtain ⟨k,w,m,nn,a,d,x,rfl,n0,n1,a0,a1,hx⟩:=trod_op hlen h
 obtain ⟨nn,rfl⟩:∃ z:Nat,nn=(z:Int):=⟨nn.toNat,by omega⟩
 obtain ⟨a,rfl⟩:∃ z:Nat,a=(z:Int):=⟨a.toNat,by omega⟩
 have mk:∀ (v:V) (hv:v.flat=true) (xb xn:Nat),xb<W.heap.size -> (∀ φ:Phi,φ id=some (xb,xn) -> VR φ v x) -> ∃ (p:SOp) (xb xn:Nat),xb<W.heap.size /\ ∀ φ:Phi,φ id=some (xb,xn) -> LR φ p.v [.int .i64 k,.int .i64 w,.int .i64 m,.int .u64 nn,.int .u64 a,.bool d,x]:=by
  intro v hv xb xn hxb hφ
  refine ⟨⟨k,w,m,nn,a,d,v,by omega,by omega,hv⟩,xb,xn,hxb,fun φ hp=>?_⟩
  exact ⟨_,_,rfl,rfl,_,_,rfl,rfl,_,_,rfl,rfl,_,_,rfl,rfl,_,_,rfl,rfl,_,_,rfl,rfl,_,_,rfl,hφ φ hp,rfl⟩
 rcases hx with rfl | ⟨ad,len,cap,rfl,hlc,hc⟩
 ·exact mk (.slice none 0 0) rfl b 0 hb fun φ _=>⟨rfl,rfl⟩
 ·rcases Nat.eq_zero_or_pos cap with c | c
  ·obtain rfl:len=0:=by omega
   subst c
   exact mk (.slice (some (id,1)) 0 0) rfl b 0 hb fun φ _=>.inr ⟨rfl,by omega,ad,rfl⟩
  ·obtain ⟨hs,hlt⟩:=hc c
   obtain ⟨bk,off,spot⟩:=ad
   simp only at hs hlt
   subst hs
   exact mk (.slice (some (id,off)) len 0) rfl bk off hlt fun φ hp=>.inl ⟨bk,off,off,cap,hp,rfl,hlc,by omega,.inl rfl⟩
end Go.Proofs.YtlgmpheammbacaaGreatDoor
namespace Go.Proofs.YtlgmpheammbacaaGreatDoor
open Go.ChangeShapes Go.WideShapes Go.ChangeAt Go.WideMaps Go.WideElems Go.RowKit
open AM
def SOp.zero:SOp:=⟨0,0,0,0,0,false,.slice none 0 0,by omega,by omega,rfl⟩
theorem few_ops {W:World} {H:Type} {enc:TypeId × Value -> H} {d1 d2 d3:DataW H} {v:Value} {p:List MemPlace} (hz:(DataW.weightsEach Tryz.prog [30,28,52] [d1,d2,d3]).all (· <= reachBytes)=true)
  (hd:DataW.Trod enc Tryz.prog W 0 (fun _=>true) true 52 v d3 p) (a:Addr) (len cap:Nat) (hv:v=.slice (some a) len cap):len <= 4000000000000:=by
 subst hv
 obtain ⟨fuel,hf⟩:=hd
 rcases DataW.trod_slice Tryz.underlying52 hf with ⟨h,_⟩ | ⟨a',len',cap',elems,rest,n,_,h,hx,_,_,_,hel,_⟩
 ·simp [Value.cells] at h
 ·have h':Value.slice (some a) len cap=.slice (some a') len' cap':=by simpa [Value.cells] using h
  cases h'
  have hd3:d3=.slice (elems.map (·.1)) (rest.map (·.1)):=congrArg Prod.fst hx
  subst hd3
  have hr:reachBytes=140737488351232:=rfl
  simp only [DataW.weightsEach,DataW.weights,Tryz.underlying52,List.all_append,List.all_cons,Bool.and_eq_true,decide_eq_true_eq,List.length_map,smB69,hr,hel] at hz
  have:=hz.2.2.1.1
  omega
theorem same_calls {W:World} {H:Type} {enc:TypeId × Value -> H} {base:Nat} {v1 v2 v3:Value} {d:DataW H} {p:List MemPlace} (hΓ:EnvOk Tryz.prog Tryz.prog.globals.size G0) (h:laidMetH Tryz.prog laidW W)
  (h1:Value.okWide Tryz.prog W .any base 30 v1) (h2:Value.okWide Tryz.prog W .any base 28 v2) (h3:Value.okWide Tryz.prog W .any base 52 v3)
  (hd:DataW.Trod enc Tryz.prog W 0 (fun _=>true) true 52 v3 d p) (hN:∀ a len cap,v3=.slice (some a) len cap -> len <= 4000000000000) :
  Calls Tryz.prog 5 #[v1,v2,v3] W fun e W'=>e=.returned (.bool true) /\ Below W.heap.size W W':=by
 have m1:=smMin
 have m2:=smMax
 unfold Value.okWide at h1
 rw [Tryz.underlying30] at h1
 obtain ⟨cs,rfl,hsz,ts,hts,_,hcell⟩:=h1
 rw [show Tryz.prog.cellsOf 30=3 by kernel_rfl] at hsz
 rw [sm30] at hts
 cases hts
 obtain ⟨ls⟩:=cs
 have hl:ls.length=3:=hsz
 match ls,hl with
 | [a0,a1,a2],_ =>
  have g:∀ i v,(#[a0,a1,a2]:Array Value)[i]?=some v -> ∃ u,([28,3,3]:List TypeId)[i%3]?=some u /\ Cell.okWide Tryz.prog W .any base u v:=hcell
  obtain ⟨u,e,k0⟩:=g 0 a0 rfl;cases e
  obtain ⟨u,e,k1⟩:=g 1 a1 rfl;cases e
  obtain ⟨u,e,k2⟩:=g 2 a2 rfl;cases e
  obtain ⟨bb,rfl,b1,b2⟩:=smInt sm28 k0
  obtain ⟨ll,rfl,_⟩:=smInt sm3 k1
  obtain ⟨oo,rfl,_⟩:=smInt sm3 k2
  unfold Value.okWide at h2
  rw [sm28] at h2
  obtain ⟨c,rfl,c1,c2⟩:=smInt sm28 h2
  rw [m1] at b1 c1
  rw [m2] at b2 c2
  obtain ⟨c,rfl⟩:∃ z:Nat,c=(z:Int):=⟨c.toNat,by omega⟩
  have nil:∀ (l:List XR) (v:V) (q:Option (Nat × Nat)) (e:Nat),v=.slice q 0 e -> (∀ x∈l,XRok W (xPhi W l) x) -> VR (xPhi W l) v v3 -> Calls Tryz.prog 5 #[.agg #[.int .u64 bb,.int .i64 ll,.int .i64 oo],.int .u64 c,v3] W fun e W'=>e=.returned (.bool true) /\ Below W.heap.size W W':=by
   rintro l v q e rfl hl hv
   refine calls_of_runs (l:=l) (xs:=[cfg bb ll oo,.int .u64 c,.slice q 0 e]) hΓ h hl ?_ g5 ?_
   ·exact ⟨_,_,rfl,⟨_,rfl,⟨_,_,rfl,rfl,_,_,rfl,rfl,_,_,rfl,rfl,rfl⟩⟩,_,_,rfl,rfl,_,_,rfl,hv,rfl⟩
   ·exact r_ArenaSame (hasK:=fun _=>False) (AK:=fun _=>0) (cK:=fun _=>.map []) (oo:=0) (ops:=fun _=>SOp.zero) (Wd.nought (xGW _) (xWid _) _ _) b1 (by omega) (by omega) (by omega) (fun h=>absurd h (by omega)) (fun h=>absurd h (by omega))
  rcases arg_slice Tryz.underlying52 h3 hd (by rw [smC69];omega) with rfl | ⟨b,off,len,cap,C,E,fz,rfl,hC,hlc,hcm,hfit,hel⟩
  ·exact nil [] _ none 0 rfl (fun x hx=>nomatch hx) ⟨rfl,rfl⟩
  rw [smC69] at hfit hel
  have hbs:b<W.heap.size:=(Array.getElem?_eq_some_iff.1 hC).1
  have hfew:=hN _ _ _ rfl
  rcases Nat.eq_zero_or_pos len with h0 | h0
  ·subst h0
   refine nil [⟨b,off+cap*7,none⟩] (.slice (some (1,off)) 0 7) _ _ rfl ?_ (.inl ⟨b,off+cap*7,off,cap,rfl,rfl,hlc,by omega,.inl rfl⟩)
   intro x hx
   rw [List.mem_singleton] at hx;subst hx
   exact ⟨hbs,fun p hp=>nomatch hp⟩
  have hop:∀ i,i<len -> ∃ (p:SOp) (xb xn:Nat),xb<W.heap.size /\ ∀ φ:Phi,φ (1+1+i)=some (xb,xn) -> ∀ j,j<7 -> ∃ y,C[off+i*7+j]?=some y /\ VR φ (lst p.v j) y:=by
   intro i hi
   obtain ⟨cs,n,y,hcl,hcc,htr⟩:=hel i hi
   obtain ⟨p,xb,xn,hx,hφ⟩:=op_of (id:=1+1+i) hbs hcl htr
   refine ⟨p,xb,xn,hx,fun φ hp j hj=>?_⟩
   have hj':p.v[j]?=some (lst p.v j):=by
    unfold lst
    rw [List.getD_eq_getElem?_getD,List.getElem?_eq_getElem (by rw [lenOp];exact hj)];rfl
   obtain ⟨y,hy,hv⟩:=(hφ φ hp).get j _ hj'
   exact ⟨y,by rw [hcc j hj];exact hy,hv⟩
  obtain ⟨f,hf⟩:∃ f:Nat -> SOp × Nat × Nat, ∀ i,i<len -> (f i).2.1<W.heap.size /\ ∀ φ:Phi,φ (1+1+i)=some ((f i).2.1,(f i).2.2) -> ∀ j,j<7 -> ∃ y,C[off+i*7+j]?=some y /\ VR φ (lst (f i).1.v j) y:=by
   refine ⟨fun i=>if h:i<len then ((hop i h).choose,(hop i h).choose_spec.choose,(hop i h).choose_spec.choose_spec.choose) else (SOp.zero,0,0),fun i hi=>?_⟩
   simp only [hi,dite_true]
   exact (hop i hi).choose_spec.choose_spec.choose_spec
  have hfit':=hfit (by omega)
  have h7:len*7 <= cap*7:=Nat.mul_le_mul_right _ hlc
  obtain ⟨vs,hvs⟩:∃ vs,vs=(List.range (len*7)).map fun j=>lst (f (j / 7)).1.v (j%7):=⟨_,rfl⟩
  have hvl:vs.length=len*7:=by rw [hvs];simp
  have hvg:∀ j,j<len*7 -> vs[j]?=some (lst (f (j / 7)).1.v (j%7)):=by
   intro j hj
   rw [hvs,List.getElem?_map,List.getElem?_range hj];rfl
  obtain ⟨l,hl⟩:∃ l:List XR,l=⟨b,C.size,some (off,vs)⟩ :: (List.range len).map fun i=>⟨(f i).2.1,(f i).2.2,none⟩:=⟨_,rfl⟩
  have hl0:l[0]?=some ⟨b,C.size,some (off,vs)⟩:=by rw [hl];rfl
  have hli:∀ i,i<len -> l[1+i]?=some ⟨(f i).2.1,(f i).2.2,none⟩:=by
   intro i hi
   rw [hl,Nat.add_comm,List.getElem?_cons_succ,List.getElem?_map,List.getElem?_range hi];rfl
  have hφ0:xPhi W l 1=some (b,C.size):=by
   unfold xPhi
   rw [if_neg (Nat.lt_irrefl _),Nat.sub_self,hl0];rfl
  have hφ:∀ i,i<len -> xPhi W l (1+1+i)=some ((f i).2.1,(f i).2.2):=by
   intro i hi
   unfold xPhi
   rw [if_neg (by omega),show 1+1+i-1=1+i by omega,hli i hi];rfl
  refine calls_of_runs (l:=l) (xs:=[cfg bb ll oo,.int .u64 c,.slice (some (1,off)) len 7]) hΓ h ?_ ?_ g5 ?_
  ·intro x hx
   rw [hl,List.mem_cons] at hx
   rcases hx with rfl | hx
   ·refine ⟨hbs,fun p hp=>?_⟩
    simp only [Option.some.injEq] at hp
    subst hp
    refine ⟨C,E,fz,hC,rfl,by show off+vs.length <= _;rw [hvl];omega,fun i v hi=>?_⟩
    have hil:i<len*7:=by
     have:=(List.getElem?_eq_some_iff.1 hi).1;rw [<- hvl];exact this
    have hi:vs[i]?=some v:=hi
    rw [hvg i hil] at hi
    cases hi
    obtain ⟨y,hy,hv⟩:=(hf (i / 7) (by omega)).2 _ (hφ (i / 7) (by omega)) (i%7) (by omega)
    rw [show off+i / 7*7+i%7=off+i by omega] at hy
    exact ⟨y,hy,hv⟩
   ·obtain ⟨i,hi,rfl⟩:=List.mem_map.1 hx
    exact ⟨(hf i (List.mem_range.1 hi)).1,fun p hp=>nomatch hp⟩
  ·exact ⟨_,_,rfl,⟨_,rfl,⟨_,_,rfl,rfl,_,_,rfl,rfl,_,_,rfl,rfl,rfl⟩⟩,_,_,rfl,rfl,_,_,rfl,.inl ⟨b,C.size,off,cap,hφ0,rfl,hlc,by omega,.inl rfl⟩,rfl⟩
  ·refine r_ArenaSame (hasK:=fun _=>True) (AK:=fun _=>1) (cK:=fun _=>.ro off (len*7) fun j=>lst (f (j / 7)).1.v (j%7)) (oo:=off) (ops:=fun i=>(f i).1) ⟨xGW _,xWid _,?_,?_,?_,?_⟩ b1 (by omega) (by omega) hfew (fun _=>⟨rfl,rfl⟩) (fun _=>⟨trivial,rfl⟩)
   ·intro i _;decide
   ·rintro ⟨⟩ ⟨⟩ _ _ _;rfl
   ·intro i _
    have hr:=xRow l (i:=0) hl0 rfl
    rw [hvl] at hr
    refine hr.congr (Nat.le_refl _) fun j hj=>?_
    show vs.getD j .undef=_
    rw [List.getD_eq_getElem?_getD,hvg j hj];rfl
   ·rintro ⟨⟩ ⟨⟩ o _ _ hne;exact (hne rfl).elim
end Go.Proofs.YtlgmpheammbacaaGreatDoor
