import Derived.Test.YtlgmpheammbacaaGreatDoorSme
set_option linter.unusedVariables false
set_option linter.unusedSimpArgs false
namespace AM
open Go
noncomputable section
def St.row (σ:St) (g:Nat):List Nat:=(σ.grps.get g).getD []
structure GW (σ:St):Prop where
 pos:0<σ.next
 fresh:∀ a,σ.next <= a -> σ.objs.get a=none
 zero:σ.row 0=[]
 lt:∀ g a,a∈σ.row g -> a<σ.next
 grp:∀ g a o,a∈σ.row g -> σ.objs.get a=some o -> o.live=true -> o.grp=g
 mem:∀ a o,σ.objs.get a=some o -> o.grp≠0 -> a∈σ.row o.grp /\ o.grp<σ.next
variable {σ σ':St}
theorem GW.is_lt (h:GW σ) {a:Nat} {o:Obj} (ha:σ.objs.get a=some o):a<σ.next:=by
 rcases Nat.lt_or_ge a σ.next with k | k
 ·exact k
 ·rw [h.fresh a k] at ha;cases ha
theorem Obj.grp_live {o:Obj} (h:o.grp≠0):o.live=true:=by cases o <;> simp_all [Obj.grp,Obj.live]
theorem GW.new (h:GW σ) (o:Obj) (ho:o.grp=0):GW (σ.new o) where
 pos:=by simp [St.new]
 fresh a ha:=by
  simp only [St.new] at ha ⊢
  rw [T.get_set,if_neg (by omega)];exact h.fresh a (by omega)
 zero:=h.zero
 lt g a ha:=by have:=h.lt g a ha;simp only [St.new];omega
 grp g a o1 ha h1 h2:=by
  have hlt:=h.lt g a ha
  simp only [St.new] at h1
  rw [T.get_set,if_neg (by omega)] at h1
  exact h.grp g a o1 ha h1 h2
 mem a o1 h1 h2:=by
  simp only [St.new] at h1
  rw [T.get_set] at h1
  by_cases c:a=σ.next
  ·rw [if_pos c] at h1;simp at h1;subst h1;exact (h2 ho).elim
  ·rw [if_neg c] at h1
   obtain ⟨k1,k2⟩:=h.mem a o1 h1 h2
   exact ⟨k1,by simp only [St.new];omega⟩
theorem GW.set (h:GW σ) {id:Nat} {o o':Obj} (hg:σ.objs.get id=some o) (he:o'.grp=o.grp) (hl:o.live=true):GW { σ with objs:=σ.objs.set id o' } where
 pos:=h.pos
 fresh a ha:=by
  have:=h.is_lt hg
  simp only [T.get_set]
  rw [if_neg (by simp only at ha;omega)];exact h.fresh a ha
 zero:=h.zero
 lt:=h.lt
 grp g a o1 ha h1 h2:=by
  simp only [T.get_set] at h1
  by_cases c:a=id
  ·rw [if_pos c] at h1;simp at h1;subst h1;rw [he];exact h.grp g id o (c▸ha) hg hl
  ·rw [if_neg c] at h1;exact h.grp g a o1 ha h1 h2
 mem a o1 h1 h2:=by
  simp only [T.get_set] at h1
  by_cases c:a=id
  ·rw [if_pos c] at h1;simp at h1;subst h1
   subst c
   obtain ⟨k1,k2⟩:=h.mem a o hg (he▸h2)
   exact ⟨by rw [he];exact k1,by rw [he];exact k2⟩
  ·rw [if_neg c] at h1;exact h.mem a o1 h1 h2
theorem GW.less (h:GW σ) {σ':St} (hn:σ'.next=σ.next) (hr:σ'.grps=σ.grps) (ho:∀ a o,σ'.objs.get a=some o -> ∃ q,σ.objs.get a=some q /\ (o.live=true -> q.live=true /\ q.grp=o.grp)):GW σ' where
 pos:=by rw [hn];exact h.pos
 fresh a ha:=by
  cases hc:σ'.objs.get a with
  |none=>rfl
  |some o=>obtain ⟨q,hq,_⟩:=ho a o hc;rw [h.fresh a (by omega)] at hq;cases hq
 zero:=by simp only [St.row,hr];exact h.zero
 lt g a ha:=by simp only [St.row,hr] at ha;rw [hn];exact h.lt g a ha
 grp g a o ha h1 h2:=by
  simp only [St.row,hr] at ha
  obtain ⟨q,hq,k⟩:=ho a o h1
  obtain ⟨k1,k2⟩:=k h2
  rw [<- k2];exact h.grp g a q ha hq k1
 mem a o h1 h2:=by
  obtain ⟨q,hq,k⟩:=ho a o h1
  obtain ⟨k1,k2⟩:=k (Obj.grp_live h2)
  obtain ⟨m1,m2⟩:=h.mem a q hq (k2▸h2)
  simp only [St.row,hr,hn]
  exact ⟨k2▸m1,k2▸m2⟩
theorem cutObj_live {i:Nat} {o:Option Obj} {p:Obj} (h:cutObj i o=some p):∃ q,o=some q /\ q.live=p.live /\ q.grp=p.grp:=by
 cases o with
 |none=>cases h
 |some q=>cases q with
  |cells ro g n z t=>simp only [cutObj,Option.some.injEq] at h;subst h;exact ⟨_,rfl,rfl,rfl⟩
  |_=>simp only [cutObj,Option.some.injEq] at h;subst h;exact ⟨_,rfl,rfl,rfl⟩
theorem store_at {id off:Nat} {vs:List V} (hs:σ.store id off vs=some σ'):∃ g n z t,σ.objs.get id=some (.cells false g n z t) /\ off+vs.length <= n /\ vs.all V.flat=true /\ σ'.next=σ.next /\ σ'.grps=σ.grps ∧
  ∀ a,σ'.objs.get a=if a=id then some (.cells false g n z (putN t off vs)) else if g≠0 /\ a∈σ.row g then cutObj off (σ.objs.get a) else σ.objs.get a:=by
 unfold St.store at hs
 split at hs
 ·rename_i g n z t hg
  split at hs
  ·rename_i hc
   simp only [Option.some.injEq] at hs
   refine ⟨g,n,z,t,hg,hc.1,hc.2,by rw [<- hs],by rw [<- hs],fun a=>?_⟩
   rw [<- hs]
   simp only
   by_cases g0:g=0
   ·rw [if_pos g0,T.get_set]
    by_cases c:a=id
    ·rw [if_pos c,if_pos c]
    ·rw [if_neg c,if_neg c,if_neg (fun k=>k.1 g0)]
   ·rw [if_neg g0,cutOthers_at,T.get_set]
    by_cases c:a=id
    ·rw [if_pos c,if_neg (fun k=>k.2 c)]
     rw [if_pos c]
    ·simp only [c,if_false,ne_eq,not_false_eq_true,and_true,g0,true_and]
     rfl
  ·cases hs
 ·cases hs
theorem GW.store (h:GW σ) {id off:Nat} {vs:List V} (hs:σ.store id off vs=some σ'):GW σ':=by
 obtain ⟨g,n,z,t,hg,_,_,hn,hr,hat⟩:=store_at hs
 refine h.less hn hr fun a o ho=>?_
 rw [hat] at ho
 by_cases c:a=id
 ·rw [if_pos c] at ho;simp only [Option.some.injEq] at ho;subst ho;subst c;exact ⟨_,hg,fun _=>⟨rfl,rfl⟩⟩
 ·rw [if_neg c] at ho
  split at ho
  ·obtain ⟨q,hq,k1,k2⟩:=cutObj_live ho;exact ⟨q,hq,fun k=>⟨k1.trans k,k2⟩⟩
  ·exact ⟨o,ho,fun k=>⟨k,rfl⟩⟩
theorem appendL_at {esz bytes k xl id:Nat} {vs:List V} {v:V} (hs:appendL σ esz bytes k vs (some (id,0)) xl=some (v,σ')):∃ g n z t old,σ.objs.get id=some (.cells false g n z t) /\ loadN n z t 0 (xl*esz)=some old ∧
  v=.slice (some (σ.next,0)) (xl+k) esz /\ σ'.next=σ.next+1 /\ σ'.grps=σ.grps.set (if g=0 then σ.next else g) (σ.next :: (if g=0 then [id] else (σ.row g).take 8)) ∧
  ∀ a,σ'.objs.get a=if a=σ.next then some (.cells false (if g=0 then σ.next else g) (old++vs).length [] (ofList (old++vs)))
   else if g≠0 /\ a∈(σ.row g).drop 8 then (if a=id then some (.cells false g (min n (xl*esz)) z t) else if a∈σ.row g then cutObj (xl*esz) (σ.objs.get a) else σ.objs.get a).map (fun _=>.dead)
   else if a=id then some (.cells false (if g=0 then σ.next else g) (min n (xl*esz)) z t)
   else if g≠0 /\ a∈σ.row g then cutObj (xl*esz) (σ.objs.get a) else σ.objs.get a:=by
 unfold appendL at hs
 split at hs
 ·simp only [if_true] at hs
  split at hs
  ·rename_i g n z t hg
   split at hs
   ·cases hs
   ·rename_i old hold
    simp only [Option.some.injEq,Prod.mk.injEq] at hs
    obtain ⟨rfl,rfl⟩:=hs
    refine ⟨g,n,z,t,old,hg,hold,rfl,rfl,rfl,fun a=>?_⟩
    simp only
    rw [T.get_set]
    by_cases c:a=σ.next
    ·rw [if_pos c,if_pos c]
    ·rw [if_neg c,if_neg c,killAll_at]
     by_cases g0:g=0
     ·simp only [g0,if_true,List.not_mem_nil,if_false,ne_eq,not_true_eq_false,false_and,cutOthers]
      rw [T.get_set]
     ·simp only [g0,if_false,ne_eq,not_false_eq_true,true_and,cutOthers_at,T.get_set,St.row]
      by_cases c2:a=id
      ·simp only [c2,not_true_eq_false,and_false,if_false,if_true]
      ·simp only [c2,not_false_eq_true,and_true,if_false]
       rfl
  ·cases hs
 ·cases hs
theorem GW.appendL (h:GW σ) {esz bytes k xl:Nat} {vs:List V} {xa:Option (Nat × Nat)} {v:V} (hs:appendL σ esz bytes k vs xa xl=some (v,σ')):GW σ':=by
 cases xa with
 |none =>
  unfold AM.appendL at hs
  split at hs
  ·simp only at hs
   split at hs
   ·simp only [Option.some.injEq,Prod.mk.injEq] at hs;obtain ⟨_,rfl⟩:=hs;exact h.new _ rfl
   ·cases hs
  ·cases hs
 |some q =>
  obtain ⟨id,off⟩:=q
  by_cases ho:off=0
  ·subst ho
   obtain ⟨g,n,z,t,old,hg,hold,_,hn,hr,hat⟩:=appendL_at hs
   have hid:=h.is_lt hg
   have hpos:=h.pos
   obtain ⟨G,hG⟩:∃ G,G=(if g=0 then σ.next else g):=⟨_,rfl⟩
   obtain ⟨L,hL⟩:∃ L,L=(if g=0 then [id] else (σ.row g).take 8):=⟨_,rfl⟩
   rw [<- hG, <- hL] at hr
   simp only [<- hG] at hat
   have f3:g=0 -> G=σ.next /\ L=[id]:=fun e=>⟨by rw [hG,if_pos e],by rw [hL,if_pos e]⟩
   have f4:g≠0 -> G=g /\ L=(σ.row g).take 8:=fun e=>⟨by rw [hG,if_neg e],by rw [hL,if_neg e]⟩
   have hgmem:g≠0 -> id∈σ.row g /\ g<σ.next:=fun e=>h.mem id _ hg e
   clear hG hL
   have f1:G≠0:=by by_cases e:g=0;rw [(f3 e).1];omega;rw [(f4 e).1];exact e
   have f2:G <= σ.next:=by by_cases e:g=0;rw [(f3 e).1];omega;rw [(f4 e).1];have:=(hgmem e).2;omega
   have hrow:∀ g',σ'.row g'=if g'=G then σ.next :: L else σ.row g':=by
    intro g'
    simp only [St.row,hr,T.get_set]
    by_cases c:g'=G
    ·rw [if_pos c,if_pos c];rfl
    ·rw [if_neg c,if_neg c]
   have rowG:σ'.row G=σ.next :: L:=by rw [hrow,if_pos rfl]
   have rowN:∀ g',g'≠G -> σ'.row g'=σ.row g':=fun g' c=>by rw [hrow,if_neg c]
   have hLlt:∀ a,a∈L -> a<σ.next:=by
    intro a ha
    by_cases e:g=0
    ·rw [(f3 e).2] at ha;simp only [List.mem_cons,List.not_mem_nil,or_false] at ha;omega
    ·rw [(f4 e).2] at ha;exact h.lt g a (List.mem_of_mem_take ha)
   have hold':∀ a o,a≠σ.next -> σ'.objs.get a=some o -> o.live=true -> ¬ (g≠0 /\ a∈(σ.row g).drop 8) /\ ((a=id /\ o.grp=G) \/ (a≠id /\ ∃ q,σ.objs.get a=some q /\ q.live=true /\ q.grp=o.grp)):=by
    intro a o ha ho hl
    rw [hat,if_neg ha] at ho
    by_cases c:g≠0 /\ a∈(σ.row g).drop 8
    ·rw [if_pos c] at ho
     simp only [Option.map_eq_some_iff] at ho
     obtain ⟨_,_,rfl⟩:=ho;cases hl
    ·rw [if_neg c] at ho
     refine ⟨c,?_⟩
     by_cases c2:a=id
     ·rw [if_pos c2] at ho;simp only [Option.some.injEq] at ho;subst ho;exact .inl ⟨c2,rfl⟩
     ·rw [if_neg c2] at ho
      right
      refine ⟨c2,?_⟩
      by_cases c3:g≠0 /\ a∈σ.row g
      ·rw [if_pos c3] at ho
       obtain ⟨q,hq,k1,k2⟩:=cutObj_live ho;exact ⟨q,hq,k1.trans hl,k2⟩
      ·rw [if_neg c3] at ho
       exact ⟨o,ho,hl,rfl⟩
   refine ⟨by omega,?_,?_,?_,?_,?_⟩
   ·intro a ha
    rw [hn] at ha
    have hf:=h.fresh a (by omega)
    have n1:¬ (g≠0 /\ a∈(σ.row g).drop 8):=fun k=>by have:=h.lt g a (List.mem_of_mem_drop k.2);omega
    have n2:¬ (g≠0 /\ a∈σ.row g):=fun k=>by have:=h.lt g a k.2;omega
    rw [hat,if_neg (by omega),if_neg n1,if_neg (by omega),if_neg n2]
    exact hf
   ·rw [rowN 0 (Ne.symm f1)];exact h.zero
   ·intro g' a ha
    rw [hn]
    by_cases c:g'=G
    ·rw [c,rowG] at ha
     rcases List.mem_cons.1 ha with rfl | ha
     ·omega
     ·have:=hLlt a ha;omega
    ·rw [rowN g' c] at ha
     have:=h.lt g' a ha;omega
   ·intro g' a o ha ho hl
    by_cases c:a=σ.next
    ·rw [hat,if_pos c] at ho
     simp only [Option.some.injEq] at ho;subst ho
     simp only [Obj.grp]
     by_cases c2:g'=G
     ·exact c2.symm
     ·rw [rowN g' c2] at ha;have:=h.lt g' a ha;omega
    ·obtain ⟨_,k⟩:=hold' a o c ho hl
     rcases k with ⟨rfl,k2⟩ | ⟨hne,q,hq,k1,k2⟩
     ·rw [k2]
      by_cases c2:g'=G
      ·exact c2.symm
      ·rw [rowN g' c2] at ha
       have:=h.grp g' a _ ha hg rfl
       simp only [Obj.grp] at this
       subst this
       by_cases e:g=0
       ·rw [e,h.zero] at ha;exact (List.not_mem_nil ha).elim
       ·exact (c2 (f4 e).1.symm).elim
     ·rw [<- k2]
      by_cases c2:g'=G
      ·rw [c2,rowG] at ha
       rcases List.mem_cons.1 ha with rfl | ha
       ·exact (c rfl).elim
       ·by_cases e:g=0
        ·rw [(f3 e).2] at ha;simp only [List.mem_cons,List.not_mem_nil,or_false] at ha;exact (hne ha).elim
        ·rw [(f4 e).2] at ha;rw [c2,(f4 e).1];exact h.grp g a q (List.mem_of_mem_take ha) hq k1
      ·rw [rowN g' c2] at ha;exact h.grp g' a q ha hq k1
   ·intro a o ho hg0
    by_cases c:a=σ.next
    ·rw [hat,if_pos c] at ho
     simp only [Option.some.injEq] at ho;subst ho
     simp only [Obj.grp]
     rw [rowG,hn]
     exact ⟨by simp [c],by omega⟩
    ·obtain ⟨k3,k⟩:=hold' a o c ho (Obj.grp_live hg0)
     rcases k with ⟨rfl,k2⟩ | ⟨hne,q,hq,k1,k2⟩
     ·rw [k2,rowG,hn]
      refine ⟨?_,by omega⟩
      by_cases e:g=0
      ·rw [(f3 e).2];simp
      ·rw [(f4 e).2]
       have hm:=(hgmem e).1
       rw [<- List.take_append_drop 8 (σ.row g)] at hm
       rcases List.mem_append.1 hm with hm | hm
       ·exact List.mem_cons_of_mem _ hm
       ·exact (k3 ⟨e,hm⟩).elim
     ·obtain ⟨m1,m2⟩:=h.mem a q hq (k2▸hg0)
      rw [k2] at m1 m2
      rw [hn]
      refine ⟨?_,by omega⟩
      by_cases c2:o.grp=G
      ·rw [c2,rowG]
       by_cases e:g=0
       ·have:=(f3 e).1;omega
       ·rw [(f4 e).2]
        rw [c2,(f4 e).1, <- List.take_append_drop 8 (σ.row g)] at m1
        rcases List.mem_append.1 m1 with hm | hm
        ·exact List.mem_cons_of_mem _ hm
        ·exact (k3 ⟨e,hm⟩).elim
      ·rw [rowN _ c2];exact m1
  ·unfold AM.appendL at hs
   split at hs
   ·simp only [ho,if_false] at hs;cases hs
   ·cases hs
theorem GW.append (h:GW σ) {esz bytes:Nat} {x y v:V} (hs:appendV σ esz bytes x y=some (v,σ')):GW σ':=by
 unfold appendV at hs
 split at hs
 ·split at hs
  ·cases hs
  ·split at hs
   ·simp only [Option.some.injEq,Prod.mk.injEq] at hs;obtain ⟨_,rfl⟩:=hs;exact h
   ·split at hs
    ·cases hs
    ·split at hs
     ·cases hs
     ·exact h.appendL hs
 ·cases hs
theorem GW.appendZ (h:GW σ) {esz bytes:Nat} {z:List V} {x y v:V} (hs:appendZV σ esz bytes z x y=some (v,σ')):GW σ':=by
 unfold appendZV at hs
 split at hs
 ·split at hs
  ·cases hs
  ·split at hs
   ·exact h.appendL hs
   ·cases hs
 ·cases hs
theorem GW.write (h:GW σ) {op:AOp} {tm:T V} {v:V} (hs:writeOp op tm σ=some (v,σ')):GW σ':=by
 cases op with
 |alloc z=>simp only [writeOp,Option.some.injEq,Prod.mk.injEq] at hs;obtain ⟨_,rfl⟩:=hs;exact h.new _ rfl
 |box n x =>
  simp only [writeOp] at hs
  split at hs
  ·simp only [Option.some.injEq,Prod.mk.injEq] at hs;obtain ⟨_,rfl⟩:=hs;exact h.new _ rfl
  ·cases hs
 |mkSlice len esz z ps =>
  simp only [writeOp] at hs
  split at hs
  ·simp only [Option.some.injEq,Prod.mk.injEq] at hs;obtain ⟨_,rfl⟩:=hs;exact h.new _ rfl
  ·cases hs
 |store n a x =>
  simp only [writeOp] at hs
  split at hs
  ·split at hs
   ·split at hs
    ·rename_i hk;simp only [Option.some.injEq,Prod.mk.injEq] at hs;obtain ⟨_,rfl⟩:=hs;exact h.store hk
    ·cases hs
   ·cases hs
  ·cases hs
 |makeSlice esz bytes z l c =>
  simp only [writeOp] at hs
  split at hs
  ·split at hs
   ·simp only [Option.some.injEq,Prod.mk.injEq] at hs;obtain ⟨_,rfl⟩:=hs;exact h.new _ rfl
   ·cases hs
  ·cases hs
 |append esz bytes x y=>exact h.append hs
 |appendZ esz bytes z x y=>exact h.appendZ hs
 |copy esz x y =>
  rw [copy_eq] at hs
  split at hs
  ·split at hs
   ·simp only [Option.some.injEq,Prod.mk.injEq] at hs;obtain ⟨_,rfl⟩:=hs;exact h
   ·split at hs
    ·rename_i hk;simp only [Option.some.injEq,Prod.mk.injEq] at hs;obtain ⟨_,rfl⟩:=hs;exact h.store hk
    ·cases hs
   ·cases hs
  ·cases hs
 |clearS z x =>
  simp only [writeOp] at hs
  split at hs
  ·simp only [Option.some.injEq,Prod.mk.injEq] at hs;obtain ⟨_,rfl⟩:=hs;exact h
  ·split at hs
   ·simp only [Option.some.injEq,Prod.mk.injEq] at hs;obtain ⟨_,rfl⟩:=hs;exact h
   ·split at hs
    ·rename_i hk;simp only [Option.some.injEq,Prod.mk.injEq] at hs;obtain ⟨_,rfl⟩:=hs;exact h.store hk
    ·cases hs
  ·cases hs
 |clearM x =>
  simp only [writeOp] at hs
  split at hs
  ·simp only [Option.some.injEq,Prod.mk.injEq] at hs;obtain ⟨_,rfl⟩:=hs;exact h
  ·split at hs
   ·rename_i hg;simp only [Option.some.injEq,Prod.mk.injEq] at hs;obtain ⟨_,rfl⟩:=hs;exact h.set hg rfl rfl
   ·cases hs
  ·cases hs
 |makeMap=>simp only [writeOp,Option.some.injEq,Prod.mk.injEq] at hs;obtain ⟨_,rfl⟩:=hs;exact h.new _ rfl
 |mapUpdate kk m k v =>
  simp only [writeOp] at hs
  split at hs
  ·split at hs
   ·rename_i hg
    split at hs
    ·cases hs
    ·simp only [Option.some.injEq,Prod.mk.injEq] at hs;obtain ⟨_,rfl⟩:=hs;exact h.set hg rfl rfl
    ·simp only [Option.some.injEq,Prod.mk.injEq] at hs;obtain ⟨_,rfl⟩:=hs;exact h.set hg rfl rfl
   ·cases hs
  ·cases hs
 |delete kk m k =>
  simp only [writeOp] at hs
  split at hs
  ·split at hs
   ·rename_i hg
    split at hs
    ·cases hs
    ·simp only [Option.some.injEq,Prod.mk.injEq] at hs;obtain ⟨_,rfl⟩:=hs;exact h.set hg rfl rfl
    ·simp only [Option.some.injEq,Prod.mk.injEq] at hs;obtain ⟨_,rfl⟩:=hs;exact h.set hg rfl rfl
   ·cases hs
  ·cases hs
 |_=>simp only [writeOp] at hs;cases hs
theorem gwSim:OpSim (fun s σ:St=>s=σ /\ GW s) where
 read h e:=by obtain ⟨rfl,_⟩:=h;exact e
 write h e:=by obtain ⟨rfl,h⟩:=h;exact ⟨_,e,rfl,h.write e⟩
 new ho h:=by obtain ⟨rfl,h⟩:=h;exact ⟨rfl,h.new _ ho⟩
 next h:=by obtain ⟨rfl,_⟩:=h;rfl
 get h e:=by obtain ⟨rfl,_⟩:=h;exact e
 res h e:=by obtain ⟨rfl,_⟩:=h;exact e
theorem GW.ext (h:GW σ) {e:Ext} {xs:List V} {v:V} (he:extCall e xs σ=some (v,σ')):GW σ':=by
 unfold extCall at he
 split at he
 ·split at he
  ·simp only [Option.map_eq_some_iff] at he
   obtain ⟨s1,h1,h2⟩:=he
   simp only [Prod.mk.injEq] at h2;obtain ⟨_,rfl⟩:=h2;exact h.store h1
  ·cases he
 ·split at he
  ·simp only [Option.map_eq_some_iff] at he
   obtain ⟨s1,h1,h2⟩:=he
   simp only [Prod.mk.injEq] at h2;obtain ⟨_,rfl⟩:=h2;exact h.store h1
  ·cases he
 ·split at he
  ·simp only [Option.some.injEq,Prod.mk.injEq] at he;obtain ⟨_,rfl⟩:=he;exact h
  ·cases he
 ·split at he
  ·simp only [Option.map_eq_some_iff] at he
   obtain ⟨s1,h1,h2⟩:=he
   simp only [Prod.mk.injEq] at h2;obtain ⟨_,rfl⟩:=h2;exact h.store h1
  ·cases he
 ·split at he
  ·simp only [Option.some.injEq,Prod.mk.injEq] at he;obtain ⟨_,rfl⟩:=he;exact h
  ·cases he
 ·cases he
theorem Ret.gw {Γ:T AF} {g:FuncId} {xs:List V} {v:V} (h:Ret Γ [] g xs σ v σ') (hw:GW σ):GW σ':=by
 obtain ⟨f0,hf⟩:=h
 obtain ⟨σ2,e1,e2,e3⟩:=callF_sim gwSim (fun _ _ _ _ _ _ h e=>by obtain ⟨rfl,h⟩:=h;exact ⟨_,e,rfl,h.ext e⟩) (Γ':=Γ) (M:=[]) (fun _ _ h=>h) (fun _ h=>(List.not_mem_nil h).elim) f0 f0 (Nat.le_refl _) _ _ _ _ _ _ ⟨rfl,hw⟩ (hf f0 (Nat.le_refl _))
 exact e3
theorem Runs.gw {Γ:T AF} {g:FuncId} {xs:List V} {Q:V -> St -> Prop} (hw:GW σ) (h:Runs Γ [] g xs σ Q):Runs Γ [] g xs σ fun v σ'=>Q v σ' /\ GW σ' :=
 let ⟨v,σ',hq,hr⟩:=h;⟨v,σ',⟨hq,hr.gw hw⟩,hr⟩
def Row (σ:St) (id n:Nat) (f:Nat -> V):Prop:=∃ g m z t,n <= m /\ σ.objs.get id=some (.cells false g m z t) /\ ∀ i,i<n -> cellOf m z t i=some (f i)
def lst (l:List V):Nat -> V:=fun i=>l.getD i .undef
variable {id n:Nat} {f:Nat -> V}
theorem Row.cell (h:Row σ id n f) {i:Nat} (hi:i<n):σ.cell id i=some (f i):=by
 obtain ⟨g,m,z,t,hm,ho,hc⟩:=h
 simp only [St.cell,ho];exact hc i hi
theorem loadN_of {m:Nat} {z:List V} {t:T V} {f:Nat -> V}:∀ (k off:Nat),(∀ i,off <= i -> i<off+k -> cellOf m z t i=some (f i)) -> loadN m z t off k=some ((List.range k).map fun j=>f (off+j))
 | 0,off,h=>rfl
 |k+1,off,h=>by
  simp only [loadN,h off (Nat.le_refl _) (by omega),loadN_of k (off+1) (fun i h1 h2=>h i (by omega) (by omega))]
  rw [List.range_succ_eq_map]
  simp only [List.map_cons,List.map_map,Nat.add_zero]
  congr 2
  apply List.map_congr_left
  intro j _
  simp only [Function.comp,Nat.succ_eq_add_one];congr 1;omega
theorem Row.load (h:Row σ id n f) {off k:Nat} (hk:off+k <= n):σ.load id off k=some ((List.range k).map fun j=>f (off+j)):=by
 obtain ⟨g,m,z,t,hm,ho,hc⟩:=h
 simp only [St.load,ho]
 exact loadN_of k off fun i _ h2=>hc i (by omega)
theorem Row.congr (h:Row σ id n f) {f':Nat -> V} {n':Nat} (hn:n' <= n) (hf:∀ i,i<n' -> f i=f' i):Row σ id n' f':=by
 obtain ⟨g,m,z,t,hm,ho,hc⟩:=h
 exact ⟨g,m,z,t,by omega,ho,fun i hi=>by rw [<- hf i hi];exact hc i (by omega)⟩
def over (f:Nat -> V) (off:Nat) (vs:List V):Nat -> V:=fun i=>if off <= i /\ i<off+vs.length then vs.getD (i-off) .undef else f i
def Still (σ σ':St) (id:Nat):Prop:=∀ a,a≠id -> (∀ o,σ.objs.get id=some o -> o.grp≠0 -> a∉σ.row o.grp) -> σ'.objs.get a=σ.objs.get a
theorem Row.store (h:Row σ id n f) {off:Nat} {vs:List V} (hk:off+vs.length <= n) (hf:vs.all V.flat=true) :
  ∃ σ',σ.store id off vs=some σ' /\ Row σ' id n (over f off vs) /\ σ'.next=σ.next /\ σ'.grps=σ.grps /\ Still σ σ' id /\ (∀ o,σ.objs.get id=some o -> ∃ o',σ'.objs.get id=some o' /\ o'.grp=o.grp):=by
 obtain ⟨g,m,z,t,hm,ho,hc⟩:=h
 have hs:σ.store id off vs=some { σ with objs:=if g=0 then σ.objs.set id (.cells false g m z (putN t off vs)) else cutOthers id off ((σ.grps.get g).getD []) (σ.objs.set id (.cells false g m z (putN t off vs))) }:=by
  unfold St.store
  simp only [ho]
  rw [if_pos ⟨by omega,hf⟩]
 obtain ⟨g',m',z',t',ho',_,_,hn,hr,hat⟩:=store_at hs
 rw [ho] at ho';simp only [Option.some.injEq,Obj.cells.injEq] at ho';obtain ⟨_,rfl,rfl,rfl,rfl⟩:=ho'
 refine ⟨_,hs,⟨g,m,z,putN t off vs,hm,by rw [hat,if_pos rfl],fun i hi=>?_⟩,hn,hr,fun a ha hna=>?_,fun o hoo=>?_⟩
 ·unfold cellOf
  rw [if_pos (by omega),putN_get]
  unfold over
  by_cases c:off <= i /\ i<off+vs.length
  ·have e:vs[i-off]?=some (vs.getD (i-off) .undef):=by
    rw [List.getD_eq_getElem?_getD,List.getElem?_eq_getElem (show i-off<vs.length by omega)];rfl
   rw [if_pos c,if_pos c,e]
  ·rw [if_neg c,if_neg c]
   have:=hc i hi
   unfold cellOf at this
   rw [if_pos (by omega)] at this
   exact this
 ·rw [hat,if_neg ha]
  by_cases c:g≠0 /\ a∈σ.row g
  ·exact (hna _ ho c.1 c.2).elim
  ·rw [if_neg c]
 ·rw [ho] at hoo;simp only [Option.some.injEq] at hoo;subst hoo
  exact ⟨.cells false g m z (putN t off vs),by rw [hat,if_pos rfl],rfl⟩
structure Grow (σ σ':St):Prop where
 next:σ.next <= σ'.next
 grps:σ'.grps=σ.grps
 old:∀ a,a<σ.next -> σ'.objs.get a=σ.objs.get a
theorem Grow.refl (σ:St):Grow σ σ:=⟨Nat.le_refl _,rfl,fun _ _=>rfl⟩
theorem Grow.trans {σ2:St} (h:Grow σ σ') (k:Grow σ' σ2):Grow σ σ2 :=
 ⟨Nat.le_trans h.next k.next,k.grps.trans h.grps,fun a ha=>(k.old a (Nat.lt_of_lt_of_le ha h.next)).trans (h.old a ha)⟩
theorem Grow.new (σ:St) (o:Obj):Grow σ (σ.new o) :=
 ⟨by simp [St.new],rfl,fun a ha=>by simp only [St.new];rw [T.get_set,if_neg (by omega)]⟩
theorem Grow.row (h:Grow σ σ') (hw:GW σ) (k:Row σ id n f):Row σ' id n f:=by
 obtain ⟨g,m,z,t,hm,ho,hc⟩:=k
 exact ⟨g,m,z,t,hm,by rw [h.old id (hw.is_lt ho)];exact ho,hc⟩
theorem newCellsRow (σ:St) (vs:List V):Row (σ.newCells vs) σ.next vs.length (lst vs):=by
 refine ⟨0,vs.length,[],ofList vs,Nat.le_refl _,by simp only [St.newCells,St.new,T.get_set,if_true],fun i hi=>?_⟩
 rw [cellOf_ofList]
 simp [lst,hi]
end
end AM
