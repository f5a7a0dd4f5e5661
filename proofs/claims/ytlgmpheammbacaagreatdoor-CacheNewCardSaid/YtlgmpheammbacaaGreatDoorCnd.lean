import Derived.Test.YtlgmpheammbacaaGreatDoorCnc
namespace AM
noncomputable section
open Go Go.RowKit
set_option linter.unusedVariables false
variable {P:Program} {φ:Phi} {w:World} {w0:Base} {σ σ':St} {G B:Nat}
def tl (l:List (Nat × V)):T V:=l.foldr (fun p t=>t.set p.1 p.2) .nil
def updT {α:Type} (t:T α):List (Nat × α) -> T α
 | []=>t
 |p :: r=>updT (t.set p.1 p.2) r
def vu (n:Int):V:=.int .u64 n
def vi (n:Int):V:=.int .i64 n
def vb (n:Int):V:=.int .u8 n
def updC (o:T Obj):List (Nat × List (Nat × V)) -> T Obj
 | []=>o
 |p :: r=>updC (match o.get p.1 with
  |some (.cells a g n z t)=>o.set p.1 (.cells a g n z (updT t p.2))
  |_=>o) r
def upd (σ:St) (next:Nat) (os:List (Nat × Obj)) (cs:List (Nat × List (Nat × V))) (gs:List (Nat × List Nat)):St:=⟨next,updC (updT σ.objs os) cs,updT σ.grps gs⟩
def checkM (Γ:T AF) (M:List Memo) (L:List LMemo) (f:Nat) (m:Memo):Bool :=
 match callF Γ M L f m.g m.xs m.at with
 |some (v,σ')=>sameV v m.v && sameSt σ' m.σ'
 |none=>false
def MemosOk (P:Program) (G:Nat) (M:List Memo):Prop:=∀ m∈M,MemoOk P G m
theorem MemosOk.nil:MemosOk P G []:=fun m h=>by simp at h
theorem MemosOk.cons {m:Memo} {M:List Memo} (h:MemoOk P G m) (k:MemosOk P G M):MemosOk P G (m :: M):=by
 intro x hx
 rcases List.mem_cons.1 hx with rfl | hx
 ·exact h
 ·exact k x hx
theorem memo_of_check {Γ:T AF} {M:List Memo} {L:List LMemo} (hmix:P.follows .mixedOrders=true) (hΓ:EnvOk P P.globals.size Γ) (hM:MemosOk P P.globals.size M) (hL:LoopsOk P P.globals.size L) {f:Nat} {m:Memo} {fn:AFunc} (hg:Γ.get m.g=some (.code fn))
  (h:checkM Γ M L f m=true):MemoOk P P.globals.size m:=by
 unfold checkM at h
 split at h
 ·rename_i v σ' hc
  simp only [Bool.and_eq_true] at h
  have h1:=sameV_eq _ _ h.1
  have h2:=sameSt_eq _ _ h.2
  rw [h1,h2] at hc
  exact memo_ok Γ M L hL hΓ hM rfl (fun call hcall=>draw_sound hmix rfl hcall) hg hc
 ·cases h
theorem LoopsOk.nil:LoopsOk P G []:=fun m h=>by simp at h
theorem LoopsOk.cons {m:LMemo} {L:List LMemo} (h:LoopOk P G m) (k:LoopsOk P G L):LoopsOk P G (m :: L):=by
 intro x hx
 rcases List.mem_cons.1 hx with rfl | hx
 ·exact h
 ·exact k x hx
def checkL (Γ:T AF) (M:List Memo) (L:List LMemo) (f:Nat) (m:LMemo):Bool :=
 match exec (callF Γ M L f) L f (.loop m.b) m.fr m.σ with
 |some (ex,fr',σ')=>decide (ex=m.ex) && (sameFr fr' m.fr' && sameSt σ' m.σ')
 |none=>false
theorem loop_of_check {Γ:T AF} {M:List Memo} {L:List LMemo} (hmix:P.follows .mixedOrders=true) (hΓ:EnvOk P P.globals.size Γ) (hM:MemosOk P P.globals.size M) (hL:LoopsOk P P.globals.size L) {f:Nat} {m:LMemo}
  (h:checkL Γ M L f m=true):LoopOk P P.globals.size m:=by
 unfold checkL at h
 split at h
 ·rename_i ex fr' σ' hc
  simp only [Bool.and_eq_true,decide_eq_true_eq] at h
  obtain ⟨h1,h2,h3⟩:=h
  rw [h1,sameFr_eq _ _ h2,sameSt_eq _ _ h3] at hc
  intro n x hx B w0 φ a w hR hF b k cs hb
  obtain ⟨i1,_⟩:=callF_sound Γ M L hL hΓ hM rfl (fun call hcall=>draw_sound hmix rfl hcall) f
  rw [<- hx] at hc
  exact loop_sound i1 hL (draw_sound hmix rfl i1) rfl hb f hc hR hF
 ·cases h
def loopsOf:AC -> List AC
 | .seq a b=>loopsOf a++loopsOf b
 | .cond _ a b=>loopsOf a++loopsOf b
 | .block _ b=>loopsOf b
 | .loop b=>b :: loopsOf b
 | .scope b=>loopsOf b
 |_=>[]
def loopNo (f:AFunc) (k:Nat):AC:=((loopsOf f.body)[k]?).getD .skip
theorem EnvOk.nil:EnvOk P G .nil:=⟨fun g fn h=>by simp [T.get_nil] at h,fun g e xs σ v σ' h=>by simp [T.get_nil] at h⟩
theorem EnvOk.code' {Γ:T AF} (h:EnvOk P G Γ) {g:FuncId} {f:Func} {fn:AFunc} (hf:P.funcs[g]?=some f) (hc:compFn P f=some fn):EnvOk P G (Γ.set g (.code fn)):=by
 refine ⟨fun x fn' hx=>?_,fun x e xs σ v σ' hx=>?_⟩
 ·rw [T.get_set] at hx
  by_cases c:x=g
  ·subst c;rw [if_pos rfl] at hx;simp at hx;subst hx;exact ⟨f,hf,hc⟩
  ·rw [if_neg c] at hx;exact h.code x fn' hx
 ·rw [T.get_set] at hx
  by_cases c:x=g
  ·subst c;rw [if_pos rfl] at hx;simp at hx
  ·rw [if_neg c] at hx;exact h.ext x e xs σ v σ' hx
theorem EnvOk.ext' {Γ:T AF} (h:EnvOk P G Γ) {g:FuncId} {e:Ext} (hc:∀ xs σ v σ',extCall e xs σ=some (v,σ') -> Plain1 P G g xs σ v σ' /\ (e=.unlock -> Def1 P G g xs σ v σ')):EnvOk P G (Γ.set g (.ext e)):=by
 refine ⟨fun x fn' hx=>?_,fun x e' xs σ v σ' hx=>?_⟩
 ·rw [T.get_set] at hx
  by_cases c:x=g
  ·subst c;rw [if_pos rfl] at hx;simp at hx
  ·rw [if_neg c] at hx;exact h.code x fn' hx
 ·rw [T.get_set] at hx
  by_cases c:x=g
  ·subst c;rw [if_pos rfl] at hx;simp at hx;subst hx;exact hc xs σ v σ'
  ·rw [if_neg c] at hx;exact h.ext x e' xs σ v σ' hx
def stillObjs:List (Nat × List Int) -> T Obj
 | []=>.nil
 |p :: r=>T.set (stillObjs r) p.1 (.cells true 0 p.2.length [] (ofList (p.2.map (.int .u64 ·))))
def stillSt (G:Nat) (l:List (Nat × List Int)):St:=⟨G,stillObjs l,.nil⟩
theorem stillObjs_get:∀ {l:List (Nat × List Int)} {a:Nat} {o:Obj},(stillObjs l).get a=some o -> ∃ p∈l,a=p.1 /\ o=.cells true 0 p.2.length [] (ofList (p.2.map (.int .u64 ·)))
 | [],a,o,h=>by simp [stillObjs,T.get_nil] at h
 |p :: r,a,o,h=>by
  simp only [stillObjs,T.get_set] at h
  by_cases c:a=p.1
  ·rw [if_pos c] at h;exact ⟨p,List.mem_cons_self ..,c,(Option.some.inj h).symm⟩
  ·rw [if_neg c] at h
   obtain ⟨q,hq,k⟩:=stillObjs_get h
   exact ⟨q,List.mem_cons_of_mem _ hq,k⟩
theorem numsAt_get {id:Nat}:∀ {l:List Int} {off:Nat},numsAt σ id off l=true -> ∀ i n,l[i]?=some n -> σ.cell id (off+i)=some (.int .u64 n)
 | [],_,_,i,n,hi=>by simp at hi
 |m :: r,off,h,i,n,hi=>by
  simp only [numsAt,Bool.and_eq_true] at h
  cases i with
  |zero =>
   simp at hi;subst hi
   have:=h.1
   split at this
   ·rename_i v hv;rw [Nat.add_zero,hv,sameV_eq _ _ this]
   ·cases this
  |succ i =>
   have:=numsAt_get h.2 i n (by simpa using hi)
   rwa [show off+(i+1)=off+1+i by omega]
theorem Rel.later {w':World} (h:Rel G B w0 φ σ w) (b:Below w.heap.size w w'):Rel G B w0 φ σ w' where
 below:=h.below.trans (b.mono h.B_le)
 B_le:=Nat.le_trans h.B_le b.size
 dom a c n hac:=⟨(h.dom a c n hac).1,Nat.lt_of_lt_of_le (h.dom a c n hac).2 b.size⟩
 glob:=h.glob
 obj a o c n ho hac:=(h.obj a o c n ho hac).of_block (b.block c (h.dom a c n hac).2)
 fresh:=h.fresh
 sep:=h.sep
 grp:=h.grp
 gfresh:=h.gfresh
 pend:=h.pend
theorem Rel.still (h:Rel G B w0 φ σ w) {l:List (Nat × List Int)} (hl:∀ p∈l,p.1<G /\ 0<p.2.length) (hr:rowsAt σ l=true):Rel G w.heap.size ⟨w,fun _=>False⟩ (fun a=>if a<G then φ a else none) (stillSt G l) w where
 below:=Below.refl _ _
 B_le:=Nat.le_refl _
 dom a b n hab:=by
  split at hab
  ·rename_i c;exact ⟨c,(h.dom a b n hab).2⟩
  ·cases hab
 glob g hg:=⟨hg,by obtain ⟨_,n,hn⟩:=h.glob g hg;exact ⟨n,by rw [if_pos hg];exact hn⟩⟩
 obj a o b n ho hab:=by
  obtain ⟨p,hp,rfl,rfl⟩:=stillObjs_get ho
  obtain ⟨hG,hpos⟩:=hl p hp
  rw [if_pos hG] at hab
  have hn:=(List.all_eq_true.1 hr) p hp
  have hcell:=numsAt_get hn
  have h0:=hcell 0 (p.2[0]) (List.getElem?_eq_getElem hpos)
  unfold St.cell at h0
  split at h0
  ·rename_i ro g k z t hob
   obtain ⟨C,E,fz,h1,h2,h3,h4,h5⟩:=h.obj _ _ b n hob hab
   have hlen:p.2.length <= k:=by
    have hl1:=hcell (p.2.length-1) (p.2[p.2.length-1]) (List.getElem?_eq_getElem (by omega))
    unfold St.cell at hl1
    rw [hob] at hl1
    simp only [cellOf] at hl1
    split at hl1
    ·omega
    ·cases hl1
   refine ⟨C,E,fz,h1,h2,(fun e=>by cases e),by omega,?_⟩
   intro i v hi
   unfold cellOf at hi
   split at hi
   ·rename_i hik
    rw [ofList_get] at hi
    have hq:(p.2.map (V.int .u64 ·))[i]?=some (.int .u64 (p.2[i])):=by rw [List.getElem?_map,List.getElem?_eq_getElem hik];rfl
    rw [hq] at hi
    simp only [Option.some.injEq] at hi
    subst hi
    have:=hcell i (p.2[i]) (List.getElem?_eq_getElem hik)
    unfold St.cell at this
    rw [hob,Nat.zero_add] at this
    obtain ⟨x,hx,hv⟩:=h5 i _ this
    exact ⟨x,hx,hv⟩
   ·cases hi
  ·cases h0
 fresh a ha:=by
  cases hc:(stillSt G l).objs.get a with
  |none=>rfl
  |some o =>
   obtain ⟨p,hp,rfl,_⟩:=stillObjs_get hc
   have:=(hl p hp).1
   have:G <= p.1:=ha
   omega
 sep a a' o o' b n n' _ h1 _ hm:=by
  obtain ⟨p,_,_,rfl⟩:=stillObjs_get h1
  simp [Obj.mut] at hm
 grp a o h1 hg:=by
  obtain ⟨p,_,_,rfl⟩:=stillObjs_get h1
  exact (hg rfl).elim
 gfresh g _:=by simp [stillSt,T.get]
 pend a ha:=ha.elim
theorem still_ok {g:FuncId} {l:List (Nat × List Int)} {b:Bool} {σ1:St} (hm:MemoOk P G ⟨g,[],stillSt G l,.bool b,σ1,none⟩) (hl:∀ p∈l,p.1<G /\ 0<p.2.length) {xs:List V} {v:V} (h:extCall (.still l b) xs σ=some (v,σ')) :
  Plain1 P G g xs σ v σ':=by
 have hx:xs=[] /\ rowsAt σ l=true /\ v=.bool b /\ σ'=σ:=by
  cases xs with
  |nil =>
   simp only [extCall] at h
   split at h
   ·rename_i hc;simp only [Option.some.injEq,Prod.mk.injEq] at h;exact ⟨rfl,hc,h.1.symm,h.2.symm⟩
   ·cases h
  |cons x r=>simp [extCall] at h
 obtain ⟨rfl,hr,rfl,rfl⟩:=hx
 intro B w0 φ w args hR hLR
 obtain ⟨h1,h2,_⟩:=hm
 have ha:args=#[]:=by
  have:args.toList=[]:=hLR
  cases args;simp_all
 subst ha
 rcases h1 _ _ _ _ #[] (hR.still hl hr) (by exact LR.nil) with ⟨e1,hc⟩ | ⟨x,w',φ',hc,_⟩
 ·left
  refine ⟨e1,hc.mono ?_⟩
  rintro e w' ⟨φ',x,rfl,_,hR',hv⟩
  cases hv
  exact ⟨φ,_,rfl,Phi.le.refl φ,hR.later hR'.below,rfl⟩
 ·have:=h2 #[] w
  rw [this] at hc
  cases hc
end
end AM
