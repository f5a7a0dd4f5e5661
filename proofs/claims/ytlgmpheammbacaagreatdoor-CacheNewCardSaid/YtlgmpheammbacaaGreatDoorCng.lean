import Derived.Test.YtlgmpheammbacaaGreatDoorCnf
set_option maxRecDepth 1000000
namespace Go.Proofs.YtlgmpheammbacaaGreatDoor
open AM Go
noncomputable section
set_option linter.unusedVariables false
set_option linter.unusedSimpArgs false
attribute [local irreducible] T.get T.set
variable {σ σ':St}
inductive Cont where
 |row (n:Nat) (f:Nat -> V)
 |ro (o n:Nat) (f:Nat -> V)
 |map (es:List (V × V))
def RoRow (σ:St) (id o n:Nat) (f:Nat -> V):Prop:=∃ m z t,o+n <= m /\ σ.objs.get id=some (.cells true 0 m z t) /\ ∀ i,i<n -> cellOf m z t (o+i)=some (f i)
def Holds (σ:St) (id:Nat):Cont -> Prop
 | .row n f=>Row σ id n f
 | .ro o n f=>RoRow σ id o n f
 | .map es=>σ.objs.get id=some (.map es)
theorem Holds.obj {id:Nat} {c:Cont} (h:Holds σ id c):∃ o,σ.objs.get id=some o /\ o.live=true:=by
 cases c with
 |row n f =>
  obtain ⟨g,m,z,t,hm,ho,hc⟩:=h
  exact ⟨_,ho,rfl⟩
 |ro k n f =>
  obtain ⟨m,z,t,hm,ho,hc⟩:=h
  exact ⟨_,ho,rfl⟩
 |map es=>exact ⟨_,h,rfl⟩
theorem Holds.keep {id:Nat} {c:Cont} (h:Holds σ id c) (e:σ'.objs.get id=σ.objs.get id):Holds σ' id c:=by
 cases c with
 |row n f =>
  obtain ⟨g,m,z,t,hm,ho,hc⟩:=h
  exact ⟨g,m,z,t,hm,e.trans ho,hc⟩
 |ro k n f =>
  obtain ⟨m,z,t,hm,ho,hc⟩:=h
  exact ⟨m,z,t,hm,e.trans ho,hc⟩
 |map es=>exact e.trans h
structure Wd {ι:Type} (σ:St) (has:ι -> Prop) (A:ι -> Nat) (c:ι -> Cont):Prop where
 gw:GW σ
 wid:Wid σ
 not_wid:∀ {i},has i -> A i≠widthsId
 inj:∀ i j,has i -> has j -> A i=A j -> i=j
 hold:∀ i,has i -> Holds σ (A i) (c i)
 cut:∀ i j o,has i -> has j -> i≠j -> σ.objs.get (A i)=some o -> o.grp≠0 -> A j∉σ.row o.grp
section
variable {ι κ:Type} {has:ι -> Prop} {A:ι -> Nat} {c:ι -> Cont}
theorem Wd.lt (h:Wd σ has A c) {i:ι} (hi:has i):A i<σ.next:=by
 obtain ⟨o,ho,_⟩:=(h.hold i hi).obj
 exact h.gw.is_lt ho
theorem Wd.grow (h:Wd σ has A c) (g:Grow σ σ') (w:GW σ'):Wd σ' has A c where
 gw:=w
 wid:=h.wid.of_get (g.old _ (h.wid.lt h.gw))
 not_wid:=h.not_wid
 inj:=h.inj
 hold i hi:=(h.hold i hi).keep (g.old _ (h.lt hi))
 cut i j o hi hj hne ho hg:=by
  rw [g.old _ (h.lt hi)] at ho
  have:=h.cut i j o hi hj hne ho hg
  simpa only [St.row,g.grps] using this
theorem Wd.new (h:Wd σ has A c) (o:AM.Obj) (ho:o.grp=0):Wd (σ.new o) has A c:=h.grow (Grow.new σ o) (h.gw.new o ho)
theorem Wd.lay (h:Wd σ has A c) {n:Nat} {z vs:List V} (hl:vs.length <= n) (hf:vs.all V.flat=true):Wd (σ.lay n z vs) has A c:=h.grow (Grow.lay σ n z vs) (h.gw.lay hl hf)
theorem Wd.sub {has':κ -> Prop} {A':κ -> Nat} {c':κ -> Cont} (h:Wd σ has A c) (e:κ -> ι) (hh:∀ k,has' k -> has (e k)) (hi:∀ k l,has' k -> has' l -> e k=e l -> k=l) (hA:∀ k,has' k -> A' k=A (e k))
  (hc:∀ k,has' k -> c' k=c (e k) \/ ∃ n f n' f',c (e k)=.row n f /\ c' k=.row n' f' /\ n' <= n /\ ∀ i,i<n' -> f i=f' i):Wd σ has' A' c' where
 gw:=h.gw
 wid:=h.wid
 not_wid hk:=by rw [hA _ hk];exact h.not_wid (hh _ hk)
 inj k l hk hl e1:=hi k l hk hl (h.inj _ _ (hh k hk) (hh l hl) (by rw [<- hA k hk, <- hA l hl];exact e1))
 hold k hk:=by
  have:=h.hold _ (hh k hk)
  rw [hA k hk]
  rcases hc k hk with e1 | ⟨n,f,n',f',e1,e2,h1,h2⟩
  ·rw [e1];exact this
  ·rw [e1] at this
   rw [e2]
   exact Row.congr this h1 h2
 cut k l o hk hl hne ho hg:=by
  rw [hA k hk] at ho
  rw [hA l hl]
  exact h.cut _ _ o (hh k hk) (hh l hl) (fun e1=>hne (hi k l hk hl e1)) ho hg
theorem Wd.row (h:Wd σ has A c) {i:ι} (hi:has i) {n:Nat} {f:Nat -> V} (e:c i=.row n f):Row σ (A i) n f:=by
 have:=h.hold i hi
 rw [e] at this;exact this
theorem Wd.cell (h:Wd σ has A c) {i:ι} (hi:has i) {n:Nat} {f:Nat -> V} (e:c i=.row n f) {k:Nat} (hk:k<n):σ.cell (A i) k=some (f k):=(h.row hi e).cell hk
theorem Wd.load (h:Wd σ has A c) {i:ι} (hi:has i) {n:Nat} {f:Nat -> V} (e:c i=.row n f) {off k:Nat} (hk:off+k <= n):σ.load (A i) off k=some ((List.range k).map fun j=>f (off+j)):=(h.row hi e).load hk
variable [DecidableEq ι]
def updG {α:Type} (f:ι -> α) (i:ι) (x:α):ι -> α:=fun j=>if j=i then x else f j
theorem updG_same {α:Type} {f:ι -> α} {i:ι} {x:α}:updG f i x i=x:=if_pos rfl
theorem updG_ne {α:Type} {f:ι -> α} {i j:ι} {x:α} (h:j≠i):updG f i x j=f j:=if_neg h
theorem Wd.store (h:Wd σ has A c) {i:ι} (hi:has i) {n:Nat} {f:Nat -> V} (e:c i=.row n f) {off:Nat} {vs:List V} (hk:off+vs.length <= n) (hf:vs.all V.flat=true) :
  ∃ σ',σ.store (A i) off vs=some σ' /\ Wd σ' has A (updG c i (.row n (over f off vs))) /\ σ'.next=σ.next:=by
 obtain ⟨σ',e1,hr,hn,hg,hst,hgrp⟩:=(h.row hi e).store hk hf
 have hwid:Wid σ':=by
  obtain ⟨m,z,t,hm,ho,hc⟩:=h.wid
  exact h.wid.of_get (hst.keep h.gw (Ne.symm (h.not_wid hi)) ho rfl rfl)
 refine ⟨σ',e1,⟨h.gw.store e1,hwid,h.not_wid,h.inj,?_,?_⟩,hn⟩
 ·intro j hj
  by_cases d:j=i
  ·subst d
   rw [updG_same];exact hr
  ·have hne:A j≠A i:=fun e=>d (h.inj j i hj hi e)
   rw [updG_ne d]
   refine (h.hold j hj).keep ?_
   exact hst (A j) hne fun o hoo hg0=>h.cut i j o hi hj (Ne.symm d) hoo hg0
 ·intro a b o ha hb hne ho hg0
  simp only [St.row,hg]
  by_cases d:a=i
  ·subst d
   obtain ⟨q,hq,_⟩:=(h.hold a hi).obj
   obtain ⟨o',ho',hgo⟩:=hgrp _ hq
   rw [ho] at ho';simp only [Option.some.injEq] at ho';subst ho'
   have:=h.cut a b q hi hb hne hq (by omega)
   rwa [<- hgo] at this
  ·have hne':A a≠A i:=fun e=>d (h.inj a i ha hi e)
   rw [hst (A a) hne' fun o hoo hg0=>h.cut i a o hi ha (Ne.symm d) hoo hg0] at ho
   exact h.cut a b o ha hb hne ho hg0
theorem Wd.add (h:Wd σ has A c) {i0:ι} (hs:¬ has i0) {b:Nat} {x:Cont} (L:Holds σ b x) (h0:∀ o,σ.objs.get b=some o -> o.grp=0) (hne:∀ i,has i -> A i≠b) (hbw:b≠widthsId):Wd σ (fun i=>has i \/ i=i0) (updG A i0 b) (updG c i0 x):=by
 have hn:∀ i,has i -> i≠i0:=fun i a e=>hs (e▸a)
 refine ⟨h.gw,h.wid,?_,?_,?_,?_⟩
 ·rintro i (ha | rfl)
  ·rw [updG_ne (hn i ha)];exact h.not_wid ha
  ·rw [updG_same];exact hbw
 ·rintro i j (ha | rfl) (hb | rfl) e
  ·rw [updG_ne (hn i ha),updG_ne (hn j hb)] at e;exact h.inj i j ha hb e
  ·rw [updG_ne (hn i ha),updG_same] at e;exact (hne i ha e).elim
  ·rw [updG_ne (hn j hb),updG_same] at e;exact (hne j hb e.symm).elim
  ·rfl
 ·rintro i (ha | rfl)
  ·rw [updG_ne (hn i ha),updG_ne (hn i ha)];exact h.hold i ha
  ·rw [updG_same,updG_same];exact L
 ·rintro i j o (ha | rfl) hb hab hoo hg
  ·rw [updG_ne (hn i ha)] at hoo
   rcases hb with hb | rfl
   ·rw [updG_ne (hn j hb)];exact h.cut i j o ha hb hab hoo hg
   ·rw [updG_same]
    intro k
    obtain ⟨q,hq,hl⟩:=L.obj
    have:=h.gw.grp _ _ _ k hq hl
    rw [h0 q hq] at this
    exact hg this.symm
  ·rw [updG_same] at hoo
   exact absurd (h0 o hoo) hg
theorem Wd.addLcl (h:Wd σ has A c) {i0:ι} (hs:¬ has i0) {b n:Nat} {f:Nat -> V} (L:Lcl σ b n f) (hne:∀ i,has i -> A i≠b):Wd σ (fun i=>has i \/ i=i0) (updG A i0 b) (updG c i0 (.row n f)):=by
 refine h.add hs (x:=.row n f) L.row (fun o ho=>?_) hne (Ne.symm (h.wid.not_lcl L))
 obtain ⟨m,z,t,hm,ho',hc⟩:=L
 rw [ho',Option.some.injEq] at ho
 subst ho;rfl
theorem Wd.cells (h:Wd σ has A c) {i0:ι} (hs:¬ has i0) (vs:List V):Wd (σ.newCells vs) (fun i=>has i \/ i=i0) (updG A i0 σ.next) (updG c i0 (.row vs.length (lst vs))) :=
 (h.new _ rfl).addLcl hs (Lcl.of_cells σ vs) fun i hi=>Nat.ne_of_lt (h.lt hi)
theorem Wd.alloc (h:Wd σ has A c) {i0:ι} (hs:¬ has i0) {z:List V} {n:Nat} (hz:z≠[] \/ n=0):Wd (σ.new (.cells false 0 n z .nil)) (fun i=>has i \/ i=i0) (updG A i0 σ.next) (updG c i0 (.row n fun i=>z.getD (i%z.length) .undef)) :=
 (h.new _ rfl).addLcl hs (Lcl.of_new σ z n hz) fun i hi=>Nat.ne_of_lt (h.lt hi)
theorem Wd.newMap (h:Wd σ has A c) {i0:ι} (hs:¬ has i0):Wd (σ.new (.map [])) (fun i=>has i \/ i=i0) (updG A i0 σ.next) (updG c i0 (.map [])):=by
 have hget:(σ.new (.map [])).objs.get σ.next=some (.map []):=by simp only [St.new,T.get_set,if_true]
 refine (h.new _ rfl).add hs (x:=.map []) hget (fun o ho=>?_) (fun i hi=>Nat.ne_of_lt (h.lt hi)) (Ne.symm (Nat.ne_of_lt (h.wid.lt h.gw)))
 rw [hget,Option.some.injEq] at ho
 subst ho;rfl
theorem Wd.append (h:Wd σ has A c) {i:ι} (hi:has i) {n:Nat} {f:Nat -> V} (e:c i=.row n f) {esz bytes k xl:Nat} {vs:List V} (hsz:n=xl*esz) (h1:(xl+k)*bytes <= maxLenBytes) (h2:xl+k <= maxLenBytes) (hf:vs.all V.flat=true) :
  ∃ σ',appendL σ esz bytes k vs (some (A i,0)) xl=some (.slice (some (σ.next,0)) (xl+k) esz,σ') /\ σ'.next=σ.next+1 ∧
   Wd σ' has (updG A i σ.next) (updG c i (.row (n+vs.length) fun j=>if j<n then f j else lst vs (j-n))):=by
 obtain ⟨v0,σ',ha⟩:=append_ok (h.row hi e) (esz:=esz) (bytes:=bytes) (k:=k) (xl:=xl) (vs:=vs) (by omega) h1 h2 hf
 have hw:=h.gw.appendL ha
 obtain ⟨g,m,z,t,old,hg,hold,hv,hn,hgr,hat⟩:=appendL_at ha
 have hrow0:=h.row hi e
 have hload:=hrow0.load (off:=0) (k:=xl*esz) (by omega)
 have hold':σ.load (A i) 0 (xl*esz)=some old:=by simp only [St.load,hg,hold]
 rw [hold',Option.some.injEq] at hload
 have hol:old.length=xl*esz:=by rw [hload];simp
 have hnext:∀ j,has j -> A j≠σ.next:=fun j a=>by have:=h.lt a;omega
 have hst:∀ j,has j -> j≠i -> σ'.objs.get (A j)=σ.objs.get (A j):=by
  intro j hj hne
  have h1:A j≠A i:=fun e=>hne (h.inj j i hj hi e)
  have h3:¬ (g≠0 /\ A j∈σ.row g):=fun ⟨k1,k2⟩=>h.cut i j _ hi hj (Ne.symm hne) hg k1 k2
  rw [hat,if_neg (hnext j hj),if_neg (fun k=>h3 ⟨k.1,List.mem_of_mem_drop k.2⟩),if_neg h1,if_neg h3]
 have hstw:σ'.objs.get widthsId=σ.objs.get widthsId:=by
  obtain ⟨mw,zw,tw,hmw,hw0,hcw⟩:=h.wid
  have h1:widthsId≠A i:=Ne.symm (h.not_wid hi)
  have hlw:=h.wid.lt h.gw
  have h3:¬ (g≠0 /\ widthsId∈σ.row g):=fun ⟨k1,k2⟩=>k1 (h.gw.grp g _ _ k2 hw0 rfl).symm
  rw [hat,if_neg (by omega),if_neg (fun k=>h3 ⟨k.1,List.mem_of_mem_drop k.2⟩),if_neg h1,if_neg h3]
 subst hv
 have hnewget:σ'.objs.get σ.next=some (.cells false (if g=0 then σ.next else g) (old++vs).length [] (ofList (old++vs))):=by rw [hat,if_pos rfl]
 obtain ⟨G,hG⟩:∃ G,G=(if g=0 then σ.next else g):=⟨_,rfl⟩
 rw [<- hG] at hgr hnewget
 have hrowO:∀ g',g'≠G -> σ'.row g'=σ.row g':=by
  intro g' hne
  simp only [St.row,hgr,T.get_set]
  rw [if_neg hne]
 have hrowG:σ'.row G=σ.next :: (if g=0 then [A i] else (σ.row g).take 8):=by
  simp only [St.row,hgr,T.get_set,if_true,Option.getD_some]
 have hmemG:∀ j,has j -> j≠i -> A j∉σ'.row G:=by
  intro j hj hne hm
  rw [hrowG] at hm
  rcases List.mem_cons.1 hm with e1 | hm
  ·exact hnext j hj e1
  ·by_cases c0:g=0
   ·rw [if_pos c0] at hm
    have:A j=A i:=by simpa using hm
    exact hne (h.inj j i hj hi this)
   ·rw [if_neg c0] at hm
    exact h.cut i j _ hi hj (Ne.symm hne) hg c0 (List.mem_of_mem_take hm)
 refine ⟨σ',ha,hn,⟨hw,h.wid.of_get hstw,?_,?_,?_,?_⟩⟩
 ·intro a hha
  by_cases da:a=i
  ·rw [da,updG_same];have:=h.wid.lt h.gw;omega
  ·rw [updG_ne da];exact h.not_wid hha
 ·intro a b hha hhb e1
  by_cases da:a=i
  ·by_cases db:b=i
   ·rw [da,db]
   ·rw [da,updG_same,updG_ne db] at e1;exact (hnext b hhb e1.symm).elim
  ·by_cases db:b=i
   ·rw [db,updG_same,updG_ne da] at e1;exact (hnext a hha e1).elim
   ·rw [updG_ne da,updG_ne db] at e1;exact h.inj a b hha hhb e1
 ·intro j hj
  by_cases d:j=i
  ·subst d
   rw [updG_same,updG_same]
   refine ⟨_,_,_,_,?_,hnewget,fun q hq=>?_⟩
   ·rw [List.length_append];omega
   ·rw [cellOf_ofList]
    have hq2:q<(old++vs).length:=by rw [List.length_append];omega
    rw [List.getElem?_eq_getElem hq2,Option.some.injEq]
    show _=if q<n then f q else lst vs (q-n)
    by_cases cq:q<n
    ·rw [if_pos cq,List.getElem_append_left (by omega)]
     have hx:old[q]?=some (f q):=by
      rw [hload,List.getElem?_map,List.getElem?_range (by omega)];simp
     rw [List.getElem?_eq_getElem (by omega),Option.some.injEq] at hx
     exact hx
    ·rw [if_neg cq,List.getElem_append_right (by omega)]
     unfold lst
     rw [List.getD_eq_getElem?_getD,List.getElem?_eq_getElem (by omega),Option.getD_some]
     congr 1;omega
  ·rw [updG_ne d,updG_ne d]
   exact (h.hold j hj).keep (hst j hj d)
 ·intro a b o hha hhb hne ho hg0
  by_cases da:a=i
  ·subst da
   rw [updG_same,hnewget,Option.some.injEq] at ho
   subst ho
   rw [updG_ne (Ne.symm hne)]
   exact hmemG b hhb (Ne.symm hne)
  ·rw [updG_ne da,hst a hha da] at ho
   have hoG:o.grp≠G:=by
    intro e1
    have hin:=(h.gw.mem _ _ ho hg0).1
    by_cases c0:g=0
    ·rw [if_pos c0] at hG
     have:=(h.gw.mem _ _ ho hg0).2
     omega
    ·rw [if_neg c0] at hG
     rw [e1,hG] at hin
     exact h.cut i a _ hi hha (Ne.symm da) hg c0 hin
   rw [hrowO _ hoG]
   by_cases db:b=i
   ·subst db
    rw [updG_same]
    intro hm
    have:=h.gw.lt _ _ hm;omega
   ·rw [updG_ne db]
    exact h.cut a b o hha hhb hne ho hg0
end
section
variable {ι κ:Type} {has0:ι -> Prop} {A0:ι -> Nat} {c0:ι -> Cont} {hasK:κ -> Prop} {AK:κ -> Nat} {cK:κ -> Cont}
def WOwn {ι:Type} (σ:St) (has:ι -> Prop) (A:ι -> Nat) (a:Nat):Prop:=a=widthsId \/ ∃ i,has i /\ (a=A i \/ ∃ o q,σ.objs.get (A i)=some o /\ o.grp≠0 /\ a∈σ.row o.grp /\ σ.objs.get a=some q /\ q.live=true)
theorem Wd.left (h:Wd σ (Sum.elim has0 hasK) (Sum.elim A0 AK) (Sum.elim c0 cK)):Wd σ has0 A0 c0 :=
 h.sub Sum.inl (fun _ h=>h) (fun _ _ _ _ e=>Sum.inl.inj e) (fun _ _=>rfl) fun _ _=>.inl rfl
theorem Wd.right (h:Wd σ (Sum.elim has0 hasK) (Sum.elim A0 AK) (Sum.elim c0 cK)):Wd σ hasK AK cK :=
 h.sub Sum.inr (fun _ h=>h) (fun _ _ _ _ e=>Sum.inr.inj e) (fun _ _=>rfl) fun _ _=>.inl rfl
theorem Wd.own_lt (h:Wd σ has0 A0 c0) {a:Nat} (ha:WOwn σ has0 A0 a):a<σ.next:=by
 obtain rfl | ⟨i,hi,rfl | ⟨o,q,h1,h2,h3,h4,h5⟩⟩:=ha
 ·exact h.wid.lt h.gw
 ·exact h.lt hi
 ·exact h.gw.is_lt h4
theorem Wd.apart (h:Wd σ has0 A0 c0):Apart (WOwn σ has0 A0) σ:=by
 intro a g o hna ha hl hg hmem b o' hb hob hgb
 rcases hb with rfl | ⟨i,hi,hb⟩
 ·obtain ⟨m,z,t,hm,ho,hc⟩:=h.wid
  rw [ho] at hob;simp only [Option.some.injEq] at hob;subst hob
  exact hg hgb.symm
 rcases hb with rfl | ⟨p,q,h1,h2,h3,h4,h5⟩
 ·exact hna <| .inr ⟨i,hi,.inr ⟨o',o,hob,by omega,by rw [hgb];exact hmem,ha,hl⟩⟩
 ·rw [hob] at h4;simp only [Option.some.injEq] at h4;subst h4
  have:=h.gw.grp _ _ _ h3 hob h5
  exact hna <| .inr ⟨i,hi,.inr ⟨p,o,h1,h2,by rw [<- this,hgb];exact hmem,ha,hl⟩⟩
theorem Wd.keep (h:Wd σ has0 A0 c0):Wd (σ.keep (WOwn σ has0 A0)) has0 A0 c0 where
 gw:=gw_keep h.gw _
 wid:=h.wid.of_get ((σ.keep_get _ _).1 (.inl rfl))
 not_wid:=h.not_wid
 inj:=h.inj
 hold i hi:=(h.hold i hi).keep ((σ.keep_get _ _).1 (.inr ⟨i,hi,.inl rfl⟩))
 cut i j o hi hj hne ho hg:=by
  rw [((σ.keep_get _ _).1 (.inr ⟨i,hi,.inl rfl⟩))] at ho
  exact h.cut i j o hi hj hne ho hg
theorem Wd.others (h:Wd σ (Sum.elim has0 hasK) (Sum.elim A0 AK) (Sum.elim c0 cK)) {k:κ} (hk:hasK k):¬ WOwn σ has0 A0 (AK k):=by
 rintro (e | ⟨i,hi,e | ⟨o,q,h1,h2,h3,h4,h5⟩⟩)
 ·exact h.not_wid (i:=.inr k) hk e
 ·have:=h.inj (.inr k) (.inl i) hk hi e
  cases this
 ·exact h.cut (.inl i) (.inr k) o hi hk (by simp) h1 h2 h3
theorem Wd.call {Γ Γ':T AF} {M:List Memo} {g:FuncId} {xs:List V} {P:V -> (ι -> Prop) -> (ι -> Nat) -> (ι -> Cont) -> Prop} (hΓ:∀ g x,Γ.get g=some x -> Γ'.get g=some x) (hM:∀ m∈M,Γ.get m.g=none)
  (h:Wd σ (Sum.elim has0 hasK) (Sum.elim A0 AK) (Sum.elim c0 cK))
  (spec:∀ σ,Wd σ has0 A0 c0 -> Runs Γ [] g xs σ fun v σ'=>∃ has' A' c',Wd σ' has' A' c' /\ P v has' A' c') :
  Runs Γ' M g xs σ fun v σ'=>∃ has' A' c',Wd σ' (Sum.elim has' hasK) (Sum.elim A' AK) (Sum.elim c' cK) /\ P v has' A' c':=by
 have h0:=h.left
 have hrun:=Runs.frame hΓ hM (fun a=>h0.own_lt) h.gw.fresh h0.apart ((spec _ h0.keep).gw h0.keep.gw)
 obtain ⟨v,σ',⟨s',⟨⟨has',A',c',hW,hP⟩,hgw⟩,hpart⟩,hret⟩:=hrun
 have hgw':GW σ':=by
  obtain ⟨f0,hf⟩:=hret
  have hb:=spec σ h0
  obtain ⟨v3,σ3,⟨_,h3⟩,hr3⟩:=hb.gw h.gw
  obtain ⟨f3,hf3⟩:=hr3.lift (Γ':=Γ') (M:=M) hΓ hM
  have e:=(hf (max f0 f3) (by omega)).symm.trans (hf3 (max f0 f3) (by omega))
  simp only [Option.some.injEq,Prod.mk.injEq] at e
  rw [e.2];exact h3
 have hget:∀ a o,s'.objs.get a=some o -> σ'.objs.get a=some o:=fun a o=>hpart.get
 have hholds:∀ i,has' i -> Holds σ' (A' i) (c' i):=by
  intro i hi
  have:=hW.hold i hi
  cases hc:c' i with
  |row n f =>
   rw [hc] at this
   obtain ⟨g,m,z,t,hm,ho,hc⟩:=this
   exact ⟨g,m,z,t,hm,hget _ _ ho,hc⟩
  |ro k n f =>
   rw [hc] at this
   obtain ⟨m,z,t,hm,ho,hc⟩:=this
   exact ⟨m,z,t,hm,hget _ _ ho,hc⟩
  |map es=>rw [hc] at this;exact hget _ _ this
 have hwid:Wid σ':=by obtain ⟨m,z,t,hm,ho,hc⟩:=hW.wid;exact ⟨m,z,t,hm,hget _ _ ho,hc⟩
 have hle:σ.next <= σ'.next:=by rw [<- hpart.next];exact hpart.le
 have hold:∀ a,a<σ.next -> ¬ WOwn σ has0 A0 a -> σ'.objs.get a=σ.objs.get a:=fun a ha hn=>(hpart.theirs a ha hn).2
 have hown:∀ a,WOwn σ' has' A' a -> WOwn σ has0 A0 a \/ σ.next <= a:=by
  rintro a (rfl | ⟨i,hi,hor⟩)
  ·exact .inl (.inl rfl)
  obtain ⟨oi,hoi,hli⟩:=(hW.hold i hi).obj
  rcases hor with rfl | ⟨o,q,h1,h2,h3,h4,h5⟩
  ·exact hpart.is hoi
  ·rw [hget _ _ hoi] at h1;simp only [Option.some.injEq] at h1;subst h1
   rcases Nat.lt_or_ge a σ.next with d | d
   ·by_cases d2:WOwn σ has0 A0 a
    ·exact .inl d2
    ·obtain ⟨k1,k2⟩:=hpart.theirs a d d2
     rw [h4] at k2
     exact (hpart.sep a _ q d d2 k2.symm h5 h2 (by simpa only [St.row,hpart.grps] using h3) _ _ hoi rfl).elim
   ·exact .inr d
 have hk:∀ k,hasK k -> σ'.objs.get (AK k)=σ.objs.get (AK k):=fun k hk=>hold _ (h.lt (i:=.inr k) hk) (h.others hk)
 have hkn:∀ k,hasK k -> ¬ WOwn σ' has' A' (AK k):=by
  intro k hk ho
  rcases hown _ ho with e | e
  ·exact h.others hk e
  ·have:=h.lt (i:=.inr k) hk
   have e':σ.next <= AK k:=e
   have t':AK k<σ.next:=this
   omega
 have hkeep:∀ k,hasK k -> Holds σ' (AK k) (cK k):=fun k hk'=>(h.hold (.inr k) hk').keep (hk k hk')
 refine ⟨v,σ',⟨has',A',c',⟨hgw',hwid,?_,?_,?_,?_⟩,hP⟩,hret⟩
 ·rintro (i | k) hi
  ·exact hW.not_wid hi
  ·exact h.not_wid (i:=.inr k) hi
 ·rintro (i | k) (j | l) hi hj e
  ·exact congrArg _ (hW.inj i j hi hj e)
  ·exact (hkn l hj (.inr ⟨i,hi,.inl e.symm⟩)).elim
  ·exact (hkn k hi (.inr ⟨j,hj,.inl e⟩)).elim
  ·exact h.inj (.inr k) (.inr l) hi hj e
 ·rintro (i | k) hi
  ·exact hholds i hi
  ·exact hkeep k hi
 ·rintro (i | k) (j | l) o hi hj hne ho hg
  ·obtain ⟨oi,hoi,hli⟩:=(hW.hold i hi).obj
   have ho':σ'.objs.get (A' i)=some o:=ho
   rw [hget _ _ hoi,Option.some.injEq] at ho';subst ho'
   have:=hW.cut i j _ hi hj (fun e=>hne (congrArg _ e)) hoi hg
   show A' j∉σ'.row oi.grp
   simpa only [St.row,hpart.grps] using this
  ·intro hm
   obtain ⟨q,hq,hl⟩:=(hkeep l hj).obj
   exact hkn l hj (.inr ⟨i,hi,.inr ⟨o,q,ho,hg,hm,hq,hl⟩⟩)
  ·
   intro hm
   obtain ⟨q,hq,hl⟩:=(hholds j hj).obj
   have hqg:=hgw'.grp _ _ _ hm hq hl
   have ho':σ'.objs.get (AK k)=some o:=ho
   obtain ⟨q2,hq2,hl2⟩:=(hkeep k hi).obj
   rw [ho',Option.some.injEq] at hq2;subst hq2
   have hin:=(hgw'.mem _ _ ho' hg).1
   exact hkn k hi (.inr ⟨j,hj,.inr ⟨q,o,hq,by omega,by rw [hqg];exact hin,ho',hl2⟩⟩)
  ·have ho':σ'.objs.get (AK k)=some o:=ho
   have ho2:=ho'
   rw [hk k hi] at ho2
   have hcut:=h.cut (.inr k) (.inr l) o hi hj hne ho2 hg
   intro hm
   obtain ⟨q,hq,hl⟩:=(hkeep l hj).obj
   have hm':AK l∈σ'.row o.grp:=hm
   have hqg:=hgw'.grp _ _ _ hm' hq hl
   rw [hk l hj] at hq
   have:=(h.gw.mem _ _ hq (by omega)).1
   rw [hqg] at this
   exact hcut this
end
theorem wd_hrep {A:Slot -> Nat} {H:Heap} (h:Wd σ H.has A fun s=>.row (H.size s) (H.cell A s)):HRep σ A H:=⟨h.gw,h.wid,h.inj,h.hold,h.cut⟩
theorem hrep_wd {A:Slot -> Nat} {H:Heap} (h:HRep σ A H):Wd σ H.has A fun s=>.row (H.size s) (H.cell A s):=⟨h.gw,h.wid,fun hi=>Ne.symm (h.wid.not_row (h.row _ hi)),h.inj,h.row,h.cut⟩
end
end Go.Proofs.YtlgmpheammbacaaGreatDoor
