import Derived.Test.YtlgmpheammbacaaGreatDoorSma
import Derived.IntWalk
set_option linter.unusedVariables false
set_option linter.unusedSimpArgs false
namespace AM
open Go Go.RowKit
variable {P:Program} {φ:Phi} {tm:T V} {a:Act} {w:World}
theorem max_rel (mx:Bool):∀ {l:List V} {L:List Value} {x v:V} {X:Value},LR φ l L -> VR φ x X -> maxV mx x l=some v →
  ∃ Y,((L.foldlM (if mx then Builtin.max2 else Builtin.min2) X:Sem Value)).run P w=.ok Y w /\ VR φ v Y
 | [],L,x,v,X,hl,hx,h=>by cases hl;simp [maxV] at h;subst h;exact ⟨X,rfl,hx⟩
 |y :: r,L,x,v,X,⟨Y,s,hL,hy,hr⟩,hx,h=>by
  subst hL
  unfold maxV at h
  split at h
  ·rename_i heq;cases heq
  ·rename_i k p k' q r' heq
   simp at heq;obtain ⟨rfl,rfl⟩:=heq
   have hx:X=.int k p:=hx
   have hy:Y=.int k' q:=hy
   subst hx;subst hy
   split at h
   ·rename_i hk;subst hk
    obtain ⟨Z,hZ,hv⟩:=max_rel mx hr (x:=.int k (if mx then (if q > p then q else p) else (if q<p then q else p))) (X:=.int k (if mx then (if q > p then q else p) else (if q<p then q else p))) rfl h
    refine ⟨Z,?_,hv⟩
    cases mx <;> simpa [List.foldlM_cons,Builtin.max2,Builtin.min2] using hZ
   ·cases h
  ·cases h
theorem part_rel {t:TypeId} {g:Bool} {n off:Nat} (hg:aggT P t=some g) (hn:szOf P t=some n) {cs:List V} {C:Array Value} (hC:LR φ cs C.toList) {v:V}
  (h:(if g then (if off+n <= cs.length then some (.agg ((cs.drop off).take n)) else none) else cs[off]?)=some v):∃ X,(part t C off).run P w=.ok X w /\ VR φ v X:=by
 cases g with
 |true =>
  simp only [if_true] at h
  split at h
  ·simp at h;subst h
   refine ⟨.agg (C.extract off (off+n)),by simp [part,run_isAgg' hg,run_sizeOf' hn],VR.agg ?_⟩
   have:=LR.take n (LR.drop off hC)
   simpa [Array.toList_extract,List.extract_eq_take_drop] using this
  ·cases h
 |false =>
  simp only [Bool.false_eq_true,if_false] at h
  obtain ⟨X,hX,hv⟩:=hC.get off v h
  exact ⟨X,part_one hg (by simpa using hX),hv⟩
theorem addr_add (b o n:Nat):(⟨b,o,none⟩:Addr).add n=⟨b,o+n,none⟩:=add_none b o n
theorem mapM_fields (f:Field -> Sem (Nat × Nat)) (g:Field -> Nat × Nat):∀ (fs:List Field),(∀ x∈fs, ∀ w,(f x).run P w=.ok (g x) w) -> ∀ w,(fs.mapM f).run P w=.ok (fs.map g) w
 | [],h,w=>by simp
 |x :: r,h,w=>by
  simp only [List.mapM_cons,Sem.run_bind,h x (by simp) w,Result.andThen_ok,mapM_fields f g r (fun y hy=>h y (by simp [hy])) w,Sem.run_pure,List.map_cons]
theorem mapM_fields' (f:Field -> Sem (Nat × Nat)) (g:Field -> Nat × Nat) (fs:Array Field) (h:∀ x∈fs.toList, ∀ w,(f x).run P w=.ok (g x) w) (w:World):(fs.mapM f).run P w=.ok (fs.map g) w:=by
 rw [Array.mapM_eq_mapM_toList]
 simp only [Sem.run_map,mapM_fields f g fs.toList h w,Result.andThen_ok]
 congr 1
 apply Array.ext';simp
theorem fill_congr {p q:Nat -> Option (Nat × Nat)} (h:∀ i,p i=q i) (C:Array Value) (l:List (Nat × Value)):Instr.fill p C l=Instr.fill q C l:=by
 have:p=q:=funext h
 rw [this]
theorem builtin_pure {dst:Option Tmp} {type:TypeId} {pos:String} {after:Array Edge} {guard:Option (Nat × Bool)} {b:Builtin} {args:Array Operand} {ats:Array TypeId} {op:AOp} {v:V}
  (hc:cBuiltin P b ats args.toList=some op) (hp:isPure op=true) (hv:pureOp op tm=some v) (hG:GR P φ) (hT:TR φ tm a op.tmps) :
  Tells P a ⟨dst,.call ⟨.builtin b,args,ats⟩,type,pos,after,guard⟩ φ v w:=by
 obtain ⟨args⟩:=args
 simp only at hc
 unfold cBuiltin at hc
 split at hc
 ·rename_i t x hat
  split at hc
  ·rename_i n e hu
   cases hc
   simp [pureOp] at hv;subst hv
   exact ⟨.int .i64 n,by simp [execOp,resolve,invoke,builtin,Builtin.len_,hat,run_underlying' hu,goInt],rfl⟩
  ·rename_i e y hu hy
   cases hc
   have r:=opd_rel (tm:=tm) (a:=a) hG hy hT
   simp only [pureOp] at hv
   split at hv
   ·rename_i ad n e' he
    simp at hv;subst hv
    rw [he] at r
    cases ad with
    |none =>
     obtain ⟨h0,hx⟩:=r
     subst h0
     exact ⟨.int .i64 (0:Nat),by simp [execOp,resolve,invoke,builtin,Builtin.len_,hat,run_underlying' hu,goInt,hx],rfl⟩
    |some q =>
     rcases r with ⟨b,m,o',cap,hb,hx,_⟩ | ⟨h0,_,ad,hx⟩
     ·exact ⟨.int .i64 n,by simp [execOp,resolve,invoke,builtin,Builtin.len_,hat,run_underlying' hu,goInt,hx],rfl⟩
     ·subst h0
      exact ⟨.int .i64 (0:Nat),by simp [execOp,resolve,invoke,builtin,Builtin.len_,hat,run_underlying' hu,goInt,hx],rfl⟩
   ·cases hv
  ·cases hc;simp [isPure] at hp
  ·cases hc
 ·split at hc
  ·split at hc
   ·split at hc
    ·split at hc <;> cases hc <;> simp [isPure] at hp
    ·cases hc
   ·cases hc
  ·cases hc
 ·split at hc
  ·split at hc <;> cases hc;simp [isPure] at hp
  ·cases hc
 ·split at hc
  ·split at hc <;> cases hc;simp [isPure] at hp
  ·cases hc;simp [isPure] at hp
  ·cases hc
 ·split at hc
  ·rename_i l hl
   cases hc
   have r:=opds_rel (tm:=tm) (a:=a) hG hl hT
   simp only [pureOp] at hv
   split at hv
   ·cases hv
   ·rename_i y ys hys
    rw [hys] at r
    obtain ⟨Y,s,hs,hy,hr⟩:=r
    obtain ⟨Z,hZ,hvZ⟩:=max_rel (P:=P) (w:=w) true hr hy hv
    refine ⟨Z,?_,hvZ⟩
    simp only [if_true] at hZ
    simp [execOp,resolve,invoke,builtin,Builtin.max_,hs,hZ]
  ·cases hc
 ·split at hc
  ·rename_i l hl
   cases hc
   have r:=opds_rel (tm:=tm) (a:=a) hG hl hT
   simp only [pureOp] at hv
   split at hv
   ·cases hv
   ·rename_i y ys hys
    rw [hys] at r
    obtain ⟨Y,s,hs,hy,hr⟩:=r
    obtain ⟨Z,hZ,hvZ⟩:=max_rel (P:=P) (w:=w) false hr hy hv
    refine ⟨Z,?_,hvZ⟩
    simp only [Bool.false_eq_true,if_false] at hZ
    simp [execOp,resolve,invoke,builtin,Builtin.min_,hs,hZ]
  ·cases hc
 ·split at hc
  ·split at hc <;> cases hc;simp [isPure] at hp
  ·cases hc
 ·cases hc
theorem pure_sound {o:Oper} {op:AOp} {v:V} (hc:compOp P o=some op) (hp:isPure op=true) (hv:pureOp op tm=some v) (hG:GR P φ) (hT:TR φ tm a op.tmps):Tells P a o φ v w:=by
 obtain ⟨dst,op',type,pos,after,guard⟩:=o
 unfold Tells
 cases op' with
 |move x =>
  simp only [compOp] at hc
  split at hc
  ·rename_i y hy;cases hc;simp [pureOp] at hv;subst hv;exact ⟨_,rfl,opd_rel hG hy hT⟩
  ·cases hc
 |assign x =>
  simp only [compOp] at hc
  split at hc
  ·rename_i y hy;cases hc;simp [pureOp] at hv;subst hv;exact ⟨_,rfl,opd_rel hG hy hT⟩
  ·cases hc
 |pick c x y =>
  simp only [compOp] at hc
  split at hc
  ·rename_i c' x' y' h1 h2 h3;cases hc
   have r1:=opd_rel (tm:=tm) (a:=a) hG h1 hT.left.left
   have r2:=opd_rel (tm:=tm) (a:=a) hG h2 hT.left.right
   have r3:=opd_rel (tm:=tm) (a:=a) hG h3 hT.right
   simp only [pureOp] at hv
   split at hv
   ·rename_i t ht
    rw [ht] at r1
    have r1:a.eval c=.bool t:=r1
    simp at hv;subst hv
    cases t
    ·exact ⟨_,by simp [execOp,asBool,r1],r3⟩
    ·exact ⟨_,by simp [execOp,asBool,r1],r2⟩
   ·cases hv
  ·cases hc
 |build t ps =>
  simp only [compOp] at hc
  split at hc
  ·rename_i z fs hz hu
   split at hc
   ·rename_i l hl
    split at hc
    ·rename_i hfs
     cases hc
     have hpr:=parts_rel (tm:=tm) (a:=a) hG hl hT
     simp only [pureOp] at hv
     split at hv
     ·rename_i cs hcs
      simp at hv;subst hv
      obtain ⟨X,hX,hr,hs,hXs⟩:=zeroC_spec hz
      obtain ⟨D,hD,hcD⟩:=fill_rel hpr (hr φ) hcs
      refine ⟨.agg D,?_,VR.agg hcD⟩
      have hall:∀ f∈fs.toList, ∃ n,szOf P f.type=some n:=by
       intro f hf
       have:=Array.all_eq_true_iff_forall_mem.1 hfs f (by simpa using hf)
       exact Option.isSome_iff_exists.1 this
      have hm:=mapM_fields' (P:=P) (fun f:Field=>do pure (f.offset, <- Go.sizeOf f.type)) (fun f:Field=>(f.offset,(szOf P f.type).getD 0)) fs (fun f hf w=>by
       obtain ⟨n,hn⟩:=hall f hf
       simp [run_sizeOf' hn,hn]) w
      have hpl:∀ i:Nat,(fs.map fun f:Field=>(f.offset,(szOf P f.type).getD 0))[i]?=(match fs[i]? with | some f=>(match szOf P (Field.type f) with | some s=>some (Field.offset f,s) | none=>none) | none=>none):=by
       intro i
       rw [Array.getElem?_map]
       cases hfi:fs[i]? with
       |none=>rfl
       |some f =>
        obtain ⟨n,hn⟩:=hall f (by have:=Array.mem_of_getElem? hfi;simpa using this)
        simp [hn]
      have hD':=(fill_congr hpl X.cells (ps.toList.map fun p=>(p.1,a.eval p.2))).trans hD
      simp only [execOp,Instr.build,Sem.run_bind,hX,Result.andThen_ok,run_underlying' hu,hm,Array.toList_map]
      rw [hD'];rfl
     ·cases hv
    ·cases hc
   ·cases hc
  ·rename_i z n e hz hu
   split at hc
   ·rename_i s hs
    split at hc
    ·rename_i l hl
     cases hc
     have hpr:=parts_rel (tm:=tm) (a:=a) hG hl hT
     simp only [pureOp] at hv
     split at hv
     ·rename_i cs hcs
      simp at hv;subst hv
      obtain ⟨X,hX,hr,hs',hXs⟩:=zeroC_spec hz
      obtain ⟨D,hD,hcD⟩:=fill_rel hpr (hr φ) hcs
      refine ⟨.agg D,?_,VR.agg hcD⟩
      simp only [execOp,Instr.build,Sem.run_bind,hX,Result.andThen_ok,run_underlying' hu,run_sizeOf' hs,Array.toList_map]
      rw [hD];rfl
     ·cases hv
    ·cases hc
   ·cases hc
  ·cases hc
 |nilCheck x =>
  simp only [compOp] at hc
  split at hc
  ·rename_i y hy;cases hc
   have r:=opd_rel (tm:=tm) (a:=a) hG hy hT
   simp only [pureOp] at hv
   split at hv
   ·rename_i q hq
    simp at hv;subst hv
    rw [hq] at r
    obtain ⟨b,n,hb,hx⟩:=r
    exact ⟨a.eval x,by simp [execOp,hx],b,n,hb,hx⟩
   ·rename_i f x' c' hq
    simp at hv;subst hv
    rw [hq] at r
    obtain ⟨X,C,hx,hr⟩:=r
    exact ⟨a.eval x,by simp [execOp,hx],X,C,hx,hr⟩
   ·cases hv
  ·cases hc
 |binOp bop t x y yt =>
  simp only [compOp,cBin] at hc
  split at hc
  ·rename_i x' y' h1 h2
   split at hc
   ·rename_i k hu
    cases hc
    have r1:=opd_rel (tm:=tm) (a:=a) hG h1 hT.left
    have r2:=opd_rel (tm:=tm) (a:=a) hG h2 hT.right
    simp only [pureOp] at hv
    obtain ⟨Z,hZ,hr⟩:=run_bin (P:=P) (w:=w) (t:=t) hv r1 r2
    refine ⟨Z,?_,hr⟩
    have hg:(eqGuard bop t x y (a.eval x) (a.eval y)).run P w=.ok () w:=by
     unfold bin at hv
     split at hv
     ·rename_i k1 n1 k2 n2 e1 e2
      rw [e1] at r1;rw [e2] at r2
      have r1:a.eval x=.int k1 n1:=r1
      refine eqGuard_plain bop t x y _ _ (by rw [r1];simp) (by rw [r1];simp)
     ·cases hv
    simp [execOp,hg,hZ]
   ·rename_i fs hu
    split at hc
    ·rename_i hcond
     split at hc
     ·rename_i ks hk
      cases hc
      have r1:=opd_rel (tm:=tm) (a:=a) hG h1 hT.left
      have r2:=opd_rel (tm:=tm) (a:=a) hG h2 hT.right
      simp only [pureOp] at hv
      split at hv
      ·rename_i xs ys e1 e2
       rw [e1] at r1;rw [e2] at r2
       obtain ⟨C,hC,hxC⟩:=r1
       obtain ⟨D,hD,hyD⟩:=r2
       split at hv
       ·rename_i r hr
        simp only [Option.some.injEq] at hv;subst hv
        have he:=eqs_run (w:=w) hk hxC hyD hr
        have hg:(eqGuard bop t x y (a.eval x) (a.eval y)).run P w=.ok () w:=by
         rw [hC,hD];exact run_eqGuard_agg w bop t x y C D hcond.2
        have hb:=run_eql_of (op:=bop) (P:=P) (w:=w) (t:=t) (X:=a.eval x) (Y:=a.eval y) hcond.1 (by rw [hC,hD];exact he) (by rw [hC];simp) (by rw [hC];simp) (by rw [hC];simp) (by rw [hC];simp)
        refine ⟨_,?_,rfl⟩
        simp only [execOp,Sem.run_bind,hg,Result.andThen_ok,hb]
        rfl
       ·cases hv
      ·cases hv
     ·cases hc
    ·cases hc
   ·rename_i n e hu
    split at hc
    ·rename_i hcond
     split at hc
     ·rename_i ks hk
      cases hc
      have r1:=opd_rel (tm:=tm) (a:=a) hG h1 hT.left
      have r2:=opd_rel (tm:=tm) (a:=a) hG h2 hT.right
      simp only [pureOp] at hv
      split at hv
      ·rename_i xs ys e1 e2
       rw [e1] at r1;rw [e2] at r2
       obtain ⟨C,hC,hxC⟩:=r1
       obtain ⟨D,hD,hyD⟩:=r2
       split at hv
       ·rename_i r hr
        simp only [Option.some.injEq] at hv;subst hv
        have he:=eqs_run (w:=w) hk hxC hyD hr
        have hg:(eqGuard bop t x y (a.eval x) (a.eval y)).run P w=.ok () w:=by
         rw [hC,hD];exact run_eqGuard_agg w bop t x y C D hcond.2
        have hb:=run_eql_of (op:=bop) (P:=P) (w:=w) (t:=t) (X:=a.eval x) (Y:=a.eval y) hcond.1 (by rw [hC,hD];exact he) (by rw [hC];simp) (by rw [hC];simp) (by rw [hC];simp) (by rw [hC];simp)
        refine ⟨_,?_,rfl⟩
        simp only [execOp,Sem.run_bind,hg,Result.andThen_ok,hb]
        rfl
       ·cases hv
      ·cases hv
     ·cases hc
    ·cases hc
   ·split at hc
    ·rename_i hop
     split at hc
     ·rename_i k hk
      cases hc
      have r1:=opd_rel (tm:=tm) (a:=a) hG h1 hT.left
      have r2:=opd_rel (tm:=tm) (a:=a) hG h2 hT.right
      simp only [pureOp] at hv
      split at hv
      ·rename_i r hr
       simp only [Option.some.injEq] at hv;subst hv
       have:=ekRun (w:=w) hop hk hr r1 r2
       refine ⟨_,?_,rfl⟩
       simp only [Sem.run_bind] at this
       simp only [execOp,Sem.run_bind,this,Result.andThen_ok]
       rfl
      ·cases hv
     ·cases hc
    ·cases hc
  ·cases hc
 |unOp u t x =>
  simp only [compOp] at hc
  split at hc
  ·rename_i y hy
   cases hc
   have r:=opd_rel (tm:=tm) (a:=a) hG hy hT
   simp only [pureOp] at hv
   split at hv
   ·rename_i k n e;rw [e] at r
    have r:a.eval x=.int k n:=r
    simp at hv;subst hv
    exact ⟨_,by simp [execOp,Op.unary,Op.intArith,r],rfl⟩
   ·cases hv
  ·rename_i y hy
   cases hc
   have r:=opd_rel (tm:=tm) (a:=a) hG hy hT
   simp only [pureOp] at hv
   split at hv
   ·rename_i b e;rw [e] at r
    have r:a.eval x=.bool b:=r
    simp at hv;subst hv
    exact ⟨_,by simp [execOp,Op.unary,r],rfl⟩
   ·cases hv
  ·rename_i y hy
   cases hc
   have r:=opd_rel (tm:=tm) (a:=a) hG hy hT
   simp only [pureOp] at hv
   split at hv
   ·rename_i k n e;rw [e] at r
    have r:a.eval x=.int k n:=r
    simp [binI] at hv;subst hv
    refine ⟨_,?_,rfl⟩
    cases hs:k.signed <;> simp [execOp,Op.unary,Op.intBits,r,hs] <;> rfl
   ·cases hv
  ·cases hc
 |convert s d x =>
  simp only [compOp] at hc
  split at hc
  ·rename_i k1 k2 y hs hd hy
   cases hc
   have r:=opd_rel (tm:=tm) (a:=a) hG hy hT
   simp only [pureOp] at hv
   split at hv
   ·rename_i k n e;rw [e] at r
    have r:a.eval x=.int k n:=r
    simp at hv;subst hv
    exact ⟨_,by simp [execOp,convert,Conv.intToInt,run_underlying' hs,run_underlying' hd,r],rfl⟩
   ·cases hv
  ·cases hc
 |slice t x lo hi mx =>
  simp only [compOp,cSlice] at hc
  split at hc
  ·cases hc
  ·rename_i hmx
   have hmx:mx=none:=by simpa using hmx
   subst hmx
   split at hc
   ·rename_i x' lo' hi' h1 h2 h3
    have o2:∀ {l:List Nat},TR φ tm a (l++oTmps lo'++oTmps hi') -> OR φ (lo'.map (·.eval tm)) (lo.map a.eval):=by
     intro l hl
     rcases oopd_rel (tm:=tm) (a:=a) hG h2 hl.left.right with ⟨rfl,rfl⟩ | ⟨u,v,rfl,rfl,hr⟩
     ·exact .inl ⟨rfl,rfl⟩
     ·exact .inr ⟨_,_,rfl,rfl,hr⟩
    have o3:∀ {l:List Nat},TR φ tm a (l++oTmps lo'++oTmps hi') -> OR φ (hi'.map (·.eval tm)) (hi.map a.eval):=by
     intro l hl
     rcases oopd_rel (tm:=tm) (a:=a) hG h3 hl.right with ⟨rfl,rfl⟩ | ⟨u,v,rfl,rfl,hr⟩
     ·exact .inl ⟨rfl,rfl⟩
     ·exact .inr ⟨_,_,rfl,rfl,hr⟩
    split at hc
    ·rename_i n e hu
     split at hc
     ·rename_i s hs
      cases hc
      simp [isPure] at hp
     ·cases hc
    ·rename_i e hu
     split at hc
     ·rename_i s hs
      cases hc
      have r:=opd_rel (tm:=tm) (a:=a) hG h1 hT.left.left
      simp only [pureOp] at hv
      split at hv
      ·rename_i ad len e' e1
       rw [e1] at r
       split at hv
       ·rename_i l h hsb
        split at hv
        ·simp at hv;subst hv
         obtain ⟨hl0,hx⟩:=r
         subst hl0
         obtain ⟨hrun,hlh,hh⟩:=sliceB_rel (P:=P) (w:=w) (cap':=0) (Nat.le_refl _) hsb (o2 hT) (o3 hT) true
         have h0:h=0:=by omega
         have l0:l=0:=by omega
         subst h0;subst l0
         refine ⟨.slice none 0 0,?_,rfl,rfl⟩
         simp [execOp,Instr.sliceAt,Instr.slice,run_underlying' hu,hx,hrun,run_sizeOf' hs]
        ·rename_i id off
         split at hv
         ·rename_i he;subst he
          simp at hv;subst hv
          rcases r with ⟨b,n,o',cap,hb,hx,hlc,hfit,ho⟩ | ⟨hl0,hof,ad,hx⟩
          ·obtain ⟨hrun,hlh,hh⟩:=sliceB_rel (P:=P) (w:=w) hlc hsb (o2 hT) (o3 hT) true
           have hhl:h <= len:=by omega
           by_cases hcl:cap=l
           ·subst hcl
            refine ⟨.slice (some ⟨b,o',none⟩) (h-cap) (cap-cap),?_,.inl ⟨b,n,o',cap-cap,hb,rfl,by omega,?_,?_⟩⟩
            ·simp [execOp,Instr.sliceAt,Instr.slice,run_underlying' hu,hx,hrun,run_sizeOf' hs]
            ·have:cap-cap=0:=by omega
             rw [this];omega
            ·right;omega
           ·refine ⟨.slice (some ⟨b,o'+l*e',none⟩) (h-l) (cap-l),?_,.inl ⟨b,n,o'+l*e',cap-l,hb,rfl,by omega,?_,?_⟩⟩
            ·simp [execOp,Instr.sliceAt,Instr.slice,run_underlying' hu,hx,hrun,run_sizeOf' hs,hcl,addr_add]
            ·have:l*e'+(cap-l)*e'=cap*e':=by rw [<- Nat.add_mul];congr 1;omega
             omega
            ·left
             rcases ho with rfl | ⟨rfl,rfl⟩
             ·rfl
             ·omega
          ·subst hl0
           obtain ⟨hrun,hlh,hh⟩:=sliceB_rel (P:=P) (w:=w) (cap':=0) (Nat.le_refl _) hsb (o2 hT) (o3 hT) true
           have h0:h=0:=by omega
           have l0:l=0:=by omega
           subst h0;subst l0
           refine ⟨.slice (some ad) 0 0,?_,.inr ⟨rfl,by omega,ad,rfl⟩⟩
           simp [execOp,Instr.sliceAt,Instr.slice,run_underlying' hu,hx,hrun,run_sizeOf' hs]
         ·cases hv
       ·cases hv
      ·cases hv
     ·cases hc
    ·cases hc
   ·cases hc
 |field t x i =>
  simp only [compOp] at hc
  split at hc
  ·rename_i fs y hu hy
   split at hc
   ·rename_i f hf
    split at hc
    ·rename_i g n hg hn
     cases hc
     have r:=opd_rel (tm:=tm) (a:=a) hG hy hT
     simp only [pureOp] at hv
     split at hv
     ·rename_i cs e;rw [e] at r
      obtain ⟨C,hC,hr⟩:=r
      obtain ⟨X,hX,hvX⟩:=part_rel (P:=P) (w:=w) hg hn hr hv
      exact ⟨X,by simp [execOp,Instr.field,run_underlying' hu,hf,hC,asAgg,hX],hvX⟩
     ·cases hv
    ·cases hc
   ·cases hc
  ·cases hc
 |fieldAddr s x i =>
  simp only [compOp] at hc
  split at hc
  ·rename_i fs y hu hy
   split at hc
   ·rename_i f hf
    split at hc
    ·rename_i n hn
     split at hc
     ·cases hc
     ·rename_i hn0
      cases hc
      have r:=opd_rel (tm:=tm) (a:=a) hG hy hT
      simp only [pureOp] at hv
      split at hv
      ·rename_i id off e;rw [e] at r
       obtain ⟨b,m,hb,hx⟩:=r
       simp at hv;subst hv
       refine ⟨.pointer (some ⟨b,off+f.offset,none⟩),?_,b,m,hb,rfl⟩
       simp [execOp,Instr.fieldAt,run_underlying' hu,hf,hx,Instr.sureAddr,fieldPlace,run_sizeOf' hn,hn0,addr_add]
      ·cases hv
    ·cases hc
   ·cases hc
  ·cases hc
 |indexAddr t x i =>
  simp only [compOp] at hc
  split at hc
  ·rename_i e x' i' hu h1 h2
   split at hc
   ·rename_i s hs
    cases hc
    have r1:=opd_rel (tm:=tm) (a:=a) hG h1 hT.left
    have r2:=opd_rel (tm:=tm) (a:=a) hG h2 hT.right
    simp only [pureOp] at hv
    split at hv
    ·rename_i id off len e' k n e1 e2
     rw [e1] at r1;rw [e2] at r2
     have r2:a.eval i=.int k n:=r2
     split at hv
     ·rename_i hr
      rcases r1 with ⟨b,m,o',cap,hb,hx,hlc,hfit,ho⟩ | ⟨hz0,_⟩
      rotate_left
      ·omega
      simp at hv;subst hv
      have ho':o'=off:=by rcases ho with h | h;exact h;omega
      subst ho'
      refine ⟨.pointer (some ⟨b,o'+n.toNat*s,none⟩),?_,b,m,hb,rfl⟩
      simp [execOp,Instr.indexAt,asIntOf,run_underlying' hu,hx,r2,hr.1,hr.2,run_sizeOf' hs,addr_add]
     ·cases hv
    ·cases hv
   ·cases hc
  ·rename_i n e x' i' hu h1 h2
   split at hc
   ·rename_i s hs
    cases hc
    have r1:=opd_rel (tm:=tm) (a:=a) hG h1 hT.left
    have r2:=opd_rel (tm:=tm) (a:=a) hG h2 hT.right
    simp only [pureOp] at hv
    split at hv
    ·rename_i id off k j e1 e2
     rw [e1] at r1;rw [e2] at r2
     obtain ⟨b,m,hb,hx⟩:=r1
     have r2:a.eval i=.int k j:=r2
     split at hv
     ·rename_i hr
      simp at hv;subst hv
      refine ⟨.pointer (some ⟨b,off+j.toNat*s,none⟩),?_,b,m,hb,rfl⟩
      simp [execOp,Instr.indexAt,asIntOf,run_underlying' hu,hx,r2,hr.1,hr.2,run_sizeOf' hs,addr_add,Instr.sureAddr]
     ·cases hv
    ·cases hv
   ·cases hc
  ·cases hc
 |index t x i =>
  simp only [compOp] at hc
  split at hc
  ·rename_i n e x' i' hu h1 h2
   split at hc
   ·rename_i s g hs hg
    cases hc
    have r1:=opd_rel (tm:=tm) (a:=a) hG h1 hT.left
    have r2:=opd_rel (tm:=tm) (a:=a) hG h2 hT.right
    simp only [pureOp] at hv
    split at hv
    ·rename_i cs k j e1 e2
     rw [e1] at r1;rw [e2] at r2
     obtain ⟨C,hC,hr⟩:=r1
     have r2:a.eval i=.int k j:=r2
     split at hv
     ·rename_i hrange
      obtain ⟨X,hX,hvX⟩:=part_rel (P:=P) (w:=w) hg hs hr hv
      exact ⟨X,by simp [execOp,Instr.index,asIntOf,run_underlying' hu,hC,r2,hrange.1,hrange.2,run_sizeOf' hs,hX],hvX⟩
     ·cases hv
    ·cases hv
   ·cases hc
  ·rename_i x' i' hu h1 h2
   cases hc
   have r1:=opd_rel (tm:=tm) (a:=a) hG h1 hT.left
   have r2:=opd_rel (tm:=tm) (a:=a) hG h2 hT.right
   simp only [pureOp] at hv
   split at hv
   ·rename_i s k j e1 e2
    rw [e1] at r1;rw [e2] at r2
    obtain ⟨bs,hbs,hmap⟩:=r1
    have r2:a.eval i=.int k j:=r2
    split at hv
    ·rename_i hj
     split at hv
     ·rename_i u hu'
      simp at hv;subst hv
      rw [<- hmap] at hu'
      simp only [List.getElem?_map,Option.map_eq_some_iff] at hu'
      obtain ⟨c,hc',rfl⟩:=hu'
      have hget:bs[j.toNat]?=some c:=by
       have h1:bs.data[j.toNat]?=some c:=by simpa using hc'
       have h2:j.toNat<bs.data.size:=by
        rcases Nat.lt_or_ge j.toNat bs.data.size with k | k
        ·exact k
        ·rw [Array.getElem?_eq_none k] at h1;cases h1
       rw [Array.getElem?_eq_getElem h2] at h1
       have h3:j.toNat<bs.size:=h2
       rw [getElem?_pos bs j.toNat h3]
       exact h1
      exact ⟨.int .u8 c.toNat,by simp [execOp,Instr.index,asIntOf,run_underlying' hu,hbs,r2,hj,hget],rfl⟩
     ·cases hv
    ·cases hv
   ·cases hv
  ·cases hc
 |extract x i =>
  simp only [compOp] at hc
  split at hc
  ·rename_i y hy
   cases hc
   have r:=opd_rel (tm:=tm) (a:=a) hG hy hT
   simp only [pureOp] at hv
   split at hv
   ·rename_i vs e;rw [e] at r
    obtain ⟨C,hC,hr⟩:=r
    obtain ⟨X,hX,hvX⟩:=hr.get i v hv
    have hX':C[i]?=some X:=by simpa using hX
    exact ⟨X,by simp [execOp,Instr.extract,hC,hX'],hvX⟩
   ·cases hv
  ·cases hc
 |makeFunc fn first cap =>
  cases fn with
  |func f =>
   simp only [compOp] at hc
   split at hc
   ·rename_i x c hx hcc
    cases hc
    simp [pureOp] at hv;subst hv
    have r1:=opds_rel (tm:=tm) (a:=a) hG hx hT.left
    have r2:=opds_rel (tm:=tm) (a:=a) hG hcc hT.right
    exact ⟨.func (.func f) (first.map a.eval) (cap.map a.eval),by simp [execOp,Instr.makeFunc],_,_,rfl,by simpa using r1,by simpa using r2⟩
   ·cases hc
  |_=>simp [compOp] at hc
 |call c =>
  obtain ⟨callee,args,ats⟩:=c
  cases callee with
  |value f =>
   simp only [compOp] at hc
   split at hc
   ·split at hc
    ·cases hc;simp [isPure] at hp
    ·split at hc
     ·cases hc;simp [isPure] at hp
     ·cases hc
   ·cases hc
  |invoke r m=>simp [compOp] at hc
  |builtin b =>
   simp only [compOp] at hc
   exact builtin_pure hc hp hv hG hT
 |alloc t=>simp only [compOp] at hc;split at hc <;> cases hc;simp [isPure] at hp
 |box t x=>simp only [compOp] at hc;split at hc <;> cases hc;simp [isPure] at hp
 |buildSlice t l ps =>
  simp only [compOp] at hc
  split at hc
  ·split at hc
   ·split at hc
    ·split at hc <;> cases hc;simp [isPure] at hp
    ·cases hc
   ·cases hc
  ·cases hc
 |load t x=>simp only [compOp,cLoad] at hc;split at hc <;> cases hc;simp [isPure] at hp
 |store t x y=>simp only [compOp] at hc;split at hc <;> cases hc;simp [isPure] at hp
 |makeSlice t l c =>
  simp only [compOp] at hc
  split at hc
  ·split at hc
   ·split at hc <;> cases hc;simp [isPure] at hp
   ·cases hc
  ·cases hc
 |lookup t m k ok =>
  simp only [compOp] at hc
  split at hc
  ·split at hc
   ·split at hc <;> cases hc;simp [isPure] at hp
   ·cases hc
  ·cases hc
 |mapUpdate t m k x =>
  simp only [compOp] at hc
  split at hc
  ·split at hc <;> cases hc;simp [isPure] at hp
  ·cases hc
 |makeMap t r=>cases r <;> simp only [compOp] at hc <;> cases hc;simp [isPure] at hp
 |defer c =>
  obtain ⟨callee,args,ats⟩:=c
  cases callee with
  |value f =>
   simp only [compOp] at hc
   split at hc
   ·split at hc
    ·cases hc;simp [isPure] at hp
    ·split at hc
     ·cases hc;simp [isPure] at hp
     ·cases hc
   ·cases hc
  |invoke r m=>simp [compOp] at hc
  |builtin b=>simp [compOp] at hc
 |_=>simp [compOp] at hc
end AM
namespace AM
open Go Go.RowKit
variable {P:Program} {φ:Phi} {tm:T V} {a:Act} {w:World} {w0:Base} {σ:St} {G B:Nat}
def KkIs (d:TypeDesc):Kk -> Prop
 | .int=>∃ k,d=.int k
 | .str=>d=.string
 | .bool=>d=.bool
theorem okKey_spec {t:TypeId} {kk:Kk} (h:okKey P t=some kk):∃ d,P.underlying t=some d /\ KkIs d kk:=by
 unfold okKey at h
 split at h
 ·rename_i k hu;cases h;exact ⟨_,hu,k,rfl⟩
 ·rename_i hu;cases h;exact ⟨_,hu,rfl⟩
 ·rename_i hu;cases h;exact ⟨_,hu,rfl⟩
 ·cases h
theorem list_beq_map:∀ (a b:List UInt8),(a == b)=(a.map (·.toNat) == b.map (·.toNat))
 | [],[]=>rfl
 | [],_ :: _=>rfl
 |_ :: _,[]=>rfl
 |x :: a,y :: b=>by
  have h:(x == y)=(x.toNat == y.toNat):=by
   rw [Bool.eq_iff_iff];simp [UInt8.toNat_inj]
  simp only [List.cons_beq_cons,List.map_cons,list_beq_map a b,h]
theorem bytes_beq {a b:ByteArray}:(a == b)=(a.data.toList.map (·.toNat) == b.data.toList.map (·.toNat)):=by
 rw [beq_toListBytes,ByteArray.toList_eq,ByteArray.toList_eq,list_beq_map]
theorem keyEq_rel {kk:Kk} {d:TypeDesc} (hd:KkIs d kk) {x y:V} {X Y:Value} {r:Bool} (h:keyEq kk x y=some r) (hx:VR φ x X) (hy:VR φ y Y):Instr.sameNow d X Y=some r:=by
 unfold keyEq at h
 split at h
 ·rename_i k n k' n'
  obtain ⟨k0,rfl⟩:=hd
  have hx:X=.int k n:=hx
  have hy:Y=.int k' n':=hy
  subst hx;subst hy
  simpa [Instr.sameNow] using h
 ·have hd:d=.string:=hd
  subst hd
  obtain ⟨bx,rfl,rfl⟩:=hx
  obtain ⟨bY,rfl,rfl⟩:=hy
  simp only [Instr.sameNow,Option.some.injEq] at h ⊢
  rw [bytes_beq];exact h
 ·rename_i p q
  have hd:d=.bool:=hd
  subst hd
  have hx:X=.bool p:=hx
  have hy:Y=.bool q:=hy
  subst hx;subst hy
  simpa [Instr.sameNow] using h
 ·cases h
theorem ER.nil:ER φ [] []:=⟨rfl,by simp⟩
theorem ER.cons_inv {k v:V} {r:List (V × V)} {m:List MapEntry} (h:ER φ ((k,v) :: r) m):∃ e s,m=e :: s /\ VR φ k e.key /\ VR φ v e.val /\ ER φ r s:=by
 obtain ⟨hl,hg⟩:=h
 cases m with
 |nil=>simp at hl
 |cons e s =>
  obtain ⟨e',he,h1,h2⟩:=hg 0 k v rfl
  simp at he;subst he
  exact ⟨e,s,rfl,h1,h2,by simpa using hl,fun i a b hi=>by simpa using hg (i+1) a b (by simpa using hi)⟩
theorem mapFind_rel {kk:Kk} {d:TypeDesc} (hd:KkIs d kk) {x:V} {X:Value} (hx:VR φ x X):∀ {es:List (V × V)} {m:List MapEntry} {i:Nat} {r:Option (Nat × V)},ER φ es m -> mapFind kk x es i=some r →
  (r=none /\ Instr.findNow d X m i=some none) \/ ∃ j v Y,r=some (j,v) /\ Instr.findNow d X m i=some (some (j,Y)) /\ VR φ v Y /\ i <= j /\ j<i+es.length /\ ∃ e k,m[j-i]?=some e /\ es[j-i]?=some (k,v) /\ keyEq kk x k=some true
 | [],m,i,r,he,h=>by
  have:m=[]:=by cases m with | nil=>rfl | cons a b=>have:=he.1;simp at this
  subst this
  simp only [mapFind] at h
  split at h
  ·cases h;exact .inl ⟨rfl,rfl⟩
  ·cases h
 |(k,v) :: es,m,i,r,he,h=>by
  obtain ⟨e,s,rfl,hk,hv,hr⟩:=he.cons_inv
  simp only [mapFind] at h
  split at h
  ·rename_i hke
   cases h
   right
   refine ⟨i,v,e.val,rfl,?_,hv,Nat.le_refl _,by simp,e,k,by simp,by simp,hke⟩
   simp [Instr.findNow,keyEq_rel hd hke hx hk]
  ·rename_i hke
   have e1:Instr.findNow d X (e :: s) i=Instr.findNow d X s (i+1):=by simp [Instr.findNow,keyEq_rel hd hke hx hk]
   rw [e1]
   rcases mapFind_rel hd hx hr h with ⟨h1,h2⟩ | ⟨j,v',Y,h1,h2,h3,h4,h5,e',k',h6,h7,h8⟩
   ·exact .inl ⟨h1,h2⟩
   ·right
    refine ⟨j,v',Y,h1,h2,h3,by omega,by simp;omega,e',k',?_,?_,h8⟩
    ·rw [show j-i=(j-(i+1))+1 by omega];simpa using h6
    ·rw [show j-i=(j-(i+1))+1 by omega];simpa using h7
  ·cases h
theorem mapFind_isKey {kk:Kk} {x:V}:∀ {es:List (V × V)} {i:Nat} {r:Option (Nat × V)},mapFind kk x es i=some r -> isKey kk x=true
 | [],i,r,h=>by simp only [mapFind] at h;split at h;assumption;cases h
 |(k,v) :: es,i,r,h=>by
  simp only [mapFind] at h
  split at h
  ·rename_i hk;unfold keyEq at hk;split at hk <;> simp_all [isKey]
  ·rename_i hk;unfold keyEq at hk;split at hk <;> simp_all [isKey]
  ·cases h
theorem checkKey_run {kk:Kk} {t:TypeId} {d:TypeDesc} (hu:P.underlying t=some d) (hd:KkIs d kk) {x:V} {X:Value} (hx:VR φ x X) (hk:isKey kk x=true) (b:Bool) (n:Nat) :
  (Instr.checkKey b (n+1) t X).run P w=.ok () w:=by
 unfold isKey at hk
 split at hk
 ·rename_i k m
  obtain ⟨k0,rfl⟩:=hd
  have hx:X=.int k m:=hx
  subst hx
  simp [Instr.checkKey,run_underlying' hu]
 ·have hd:d=.string:=hd
  subst hd
  obtain ⟨bx,rfl,rfl⟩:=hx
  simp [Instr.checkKey,run_underlying' hu]
 ·rename_i p
  have hd:d=.bool:=hd
  subst hd
  have hx:X=.bool p:=hx
  subst hx
  simp [Instr.checkKey,run_underlying' hu]
 ·cases hk
theorem findKey_run {t:TypeId} {d:TypeDesc} (hu:P.underlying t=some d) {X:Value} {m:List MapEntry} {r:Option (Nat × Value)} (h:Instr.findNow d X m 0=some r) :
  (Instr.findKey t X m).run P w=.ok r w:=by
 simp [Instr.findKey,run_underlying' hu,h]
theorem Rel.mapObj (h:Rel G B w0 φ σ w) {r b n:Nat} {es:List (V × V)} (ho:σ.objs.get r=some (.map es)) (ha:φ r=some (b,n)) :
  B <= b /\ ∃ m clock,w.heap[b]?=some (.map m clock) /\ ER φ es m.toList:=h.obj r _ b n ho ha
theorem run_getObj_map {b:Nat} {m:Array MapEntry} {clock:Nat} (h:w.heap[b]?=some (.map m clock)):(getObj b).run P w=.ok (.map m clock) w:=by
 simp only [getObj,Sem.run,h]
theorem read_sound {o:Oper} {op:AOp} {v:V} (hc:compOp P o=some op) (hp:isRead op=true) (hv:readOp op tm σ=some v) (hG:GR P φ) (hT:TR φ tm a op.tmps) (hR:Rel G B w0 φ σ w):Tells P a o φ v w:=by
 obtain ⟨dst,op',type,pos,after,guard⟩:=o
 unfold Tells
 cases op' with
 |load t x =>
  simp only [compOp,cLoad] at hc
  split at hc
  ·rename_i g n y hg hn hy
   cases hc
   have r:=opd_rel (tm:=tm) (a:=a) hG hy hT
   simp only [readOp] at hv
   split at hv
   ·rename_i id off e
    rw [e] at r
    obtain ⟨b,m,hb,hx⟩:=r
    cases g with
    |true =>
     simp only [if_true] at hv
     split at hv
     ·rename_i vs hvs
      simp at hv;subst hv
      obtain ⟨xs,hr,hlen,hcell⟩:=hR.load hvs hb
      refine ⟨.agg xs.toArray,?_,VR.agg (by simpa using hr)⟩
      have hl:=run_loadCells_list (P:=P) w ⟨b,off,none⟩ xs hcell
      rw [hlen] at hl
      simp [execOp,Instr.loadAt,Instr.sureAddr,hx,loadVar,run_isAgg' hg,run_sizeOf' hn,hl]
     ·cases hv
    |false =>
     simp only [Bool.false_eq_true,if_false] at hv
     obtain ⟨X,hX,hvX⟩:=hR.cell hv hb
     exact ⟨X,by simp [execOp,Instr.loadAt,Instr.sureAddr,hx,loadVar,run_isAgg' hg,hX],hvX⟩
   ·cases hv
  ·cases hc
 |slice t x lo hi mx =>
  simp only [compOp,cSlice] at hc
  split at hc
  ·cases hc
  ·rename_i hmx
   have hmx:mx=none:=by simpa using hmx
   subst hmx
   split at hc
   ·rename_i x' lo' hi' h1 h2 h3
    have o2:∀ {l:List Nat},TR φ tm a (l++oTmps lo'++oTmps hi') -> OR φ (lo'.map (·.eval tm)) (lo.map a.eval):=by
     intro l hl
     rcases oopd_rel (tm:=tm) (a:=a) hG h2 hl.left.right with ⟨rfl,rfl⟩ | ⟨u,v,rfl,rfl,hr⟩
     ·exact .inl ⟨rfl,rfl⟩
     ·exact .inr ⟨_,_,rfl,rfl,hr⟩
    have o3:∀ {l:List Nat},TR φ tm a (l++oTmps lo'++oTmps hi') -> OR φ (hi'.map (·.eval tm)) (hi.map a.eval):=by
     intro l hl
     rcases oopd_rel (tm:=tm) (a:=a) hG h3 hl.right with ⟨rfl,rfl⟩ | ⟨u,v,rfl,rfl,hr⟩
     ·exact .inl ⟨rfl,rfl⟩
     ·exact .inr ⟨_,_,rfl,rfl,hr⟩
    split at hc
    ·rename_i n e hu
     split at hc
     ·rename_i s hs
      cases hc
      have r:=opd_rel (tm:=tm) (a:=a) hG h1 hT.left.left
      simp only [readOp] at hv
      split at hv
      ·rename_i id off e1
       rw [e1] at r
       obtain ⟨b,m,hb,hx⟩:=r
       split at hv
       ·rename_i l h hsb
        split at hv
        ·rename_i hcond
         obtain ⟨h1',h2'⟩:=hcond
         split at hv
         ·rename_i ro g k z t' ho
          split at hv
          ·rename_i hfit
           simp at hv;subst hv
           obtain ⟨hrun,_,_⟩:=sliceB_rel (P:=P) (w:=w) (Nat.le_refl _) hsb (o2 hT) (o3 hT) false
           subst h1';subst h2'
           obtain ⟨C,E,fz,d1,d2,d3,d4,d5⟩:=hR.obj id _ b m ho hb
           refine ⟨.slice (some ⟨b,off,none⟩) h h,?_,.inl ⟨b,m,off,h,hb,rfl,Nat.le_refl _,by omega,.inl rfl⟩⟩
           simp [execOp,Instr.sliceAt,run_underlying' hu,hx,Instr.sureAddr,hrun,run_sizeOf' hs,addr_add]
          ·cases hv
         ·cases hv
        ·cases hv
       ·cases hv
      ·cases hv
     ·cases hc
    ·split at hc
     ·cases hc;simp [isRead] at hp
     ·cases hc
    ·cases hc
   ·cases hc
 |lookup t m k ok =>
  simp only [compOp] at hc
  split at hc
  ·rename_i kt e m' k' hu h1 h2
   split at hc
   ·rename_i z hz
    split at hc
    ·rename_i kk hkk
     cases hc
     have r1:=opd_rel (tm:=tm) (a:=a) hG h1 hT.left
     have r2:=opd_rel (tm:=tm) (a:=a) hG h2 hT.right
     obtain ⟨d,hud,hd⟩:=okKey_spec hkk
     obtain ⟨X,hX,hzX⟩:=run_zeroValue' hz
     have hzr:=toV_rel φ X z hzX
     simp only [readOp] at hv
     have key:∀ es,(match Opd.eval tm m' with
       | .map none=>some []
       | .map (some r)=>match σ.objs.get r with | some (.map es)=>some es | _=>none
       |_=>none:Option (List (V × V)))=some es -> ∃ M:Array MapEntry,ER φ es M.toList ∧
        ((a.eval m=.map none /\ M=#[]) \/ ∃ b clock,a.eval m=.map (some b) /\ (getObj b).run P w=.ok (.map M clock) w):=by
      intro es hes
      split at hes
      ·rename_i e0
       rw [e0] at r1
       have r1:a.eval m=.map none:=r1
       cases hes
       exact ⟨#[],ER.nil,.inl ⟨r1,rfl⟩⟩
      ·rename_i r e0
       rw [e0] at r1
       obtain ⟨b,n,hb,hm⟩:=r1
       split at hes
       ·rename_i es' ho
        cases hes
        obtain ⟨_,M,clock,hM,hER⟩:=hR.mapObj ho hb
        exact ⟨M,hER,.inr ⟨b,clock,hm,run_getObj_map hM⟩⟩
       ·cases hes
      ·cases hes
     split at hv
     ·cases hv
     ·rename_i es hes
      obtain ⟨M,hER,hmap⟩:=key es hes
      split at hv
      ·cases hv
      ·rename_i r hr
       have hik:=mapFind_isKey hr
       have hck:=fun b=>checkKey_run (w:=w) hud hd r2 hik b 9999
       rcases mapFind_rel hd r2 hER hr with ⟨rfl,hf⟩ | ⟨j,v',Y,rfl,hf,hvY,_⟩
       ·simp only [Option.some.injEq] at hv;subst hv
        have hfk:=findKey_run (w:=w) hud hf
        refine ⟨if ok then .tuple #[X,.bool false] else X,?_,?_⟩
        ·rcases hmap with ⟨hm,rfl⟩ | ⟨b,clock,hm,hg⟩ <;>
          simp [execOp,Instr.lookup,run_underlying' hu,hm,hck,hX, *]
        ·cases ok
         ·exact hzr
         ·exact ⟨_,rfl,LR.cons hzr (LR.cons rfl LR.nil)⟩
       ·simp only [Option.some.injEq] at hv;subst hv
        have hfk:=findKey_run (w:=w) hud hf
        refine ⟨if ok then .tuple #[Y,.bool true] else Y,?_,?_⟩
        ·rcases hmap with ⟨hm,rfl⟩ | ⟨b,clock,hm,hg⟩ <;>
          simp [execOp,Instr.lookup,run_underlying' hu,hm,hck,hX, *]
        ·cases ok
         ·exact hvY
         ·exact ⟨_,rfl,LR.cons hvY (LR.cons rfl LR.nil)⟩
    ·cases hc
   ·cases hc
  ·cases hc
 |call c =>
  obtain ⟨callee,args,ats⟩:=c
  cases callee with
  |value f =>
   simp only [compOp] at hc
   split at hc
   ·split at hc
    ·cases hc;simp [isRead] at hp
    ·split at hc
     ·cases hc;simp [isRead] at hp
     ·cases hc
   ·cases hc
  |invoke r m=>simp [compOp] at hc
  |builtin b =>
   simp only [compOp] at hc
   obtain ⟨args⟩:=args
   simp only at hc
   unfold cBuiltin at hc
   split at hc
   ·rename_i t x hat
    split at hc
    ·cases hc;simp [isRead] at hp
    ·cases hc;simp [isRead] at hp
    ·rename_i kt e y hu hy
     cases hc
     have r:=opd_rel (tm:=tm) (a:=a) hG hy hT
     simp only [readOp] at hv
     split at hv
     ·rename_i e0
      rw [e0] at r
      have r:a.eval x=.map none:=r
      simp at hv;subst hv
      exact ⟨.int .i64 (0:Nat),by simp [execOp,resolve,invoke,builtin,Builtin.len_,hat,run_underlying' hu,goInt,r],rfl⟩
     ·rename_i q e0
      rw [e0] at r
      obtain ⟨b,n,hb,hm⟩:=r
      split at hv
      ·rename_i es ho
       simp at hv;subst hv
       obtain ⟨_,M,clock,hM,hER⟩:=hR.mapObj ho hb
       have hl:M.size=es.length:=by have:=hER.1;simpa using this
       exact ⟨.int .i64 M.size,by simp [execOp,resolve,invoke,builtin,Builtin.len_,hat,run_underlying' hu,goInt,hm,run_getObj_map hM],by simp [VR,hl]⟩
      ·cases hv
     ·cases hv
    ·cases hc
   all_goals (first | (cases hc;done) | skip)
   all_goals (repeat' (split at hc))
   all_goals (first | (cases hc;done) | (cases hc;simp [isRead] at hp))
 |move x=>simp only [compOp] at hc;split at hc <;> cases hc;simp [isRead] at hp
 |assign x=>simp only [compOp] at hc;split at hc <;> cases hc;simp [isRead] at hp
 |pick c x y=>simp only [compOp] at hc;split at hc <;> cases hc;simp [isRead] at hp
 |makeMap t r=>cases r <;> simp only [compOp] at hc <;> cases hc;simp [isRead] at hp
 |makeFunc fn x c=>cases fn <;> simp only [compOp] at hc <;> (try (cases hc;done));split at hc <;> cases hc;simp [isRead] at hp
 |defer c =>
  obtain ⟨callee,args,ats⟩:=c
  cases callee with
  |value f =>
   simp only [compOp] at hc
   split at hc
   ·split at hc
    ·cases hc;simp [isRead] at hp
    ·split at hc
     ·cases hc;simp [isRead] at hp
     ·cases hc
   ·cases hc
  |invoke r m=>simp [compOp] at hc
  |builtin b=>simp [compOp] at hc
 |binOp op t x y yt =>
  simp only [compOp,cBin] at hc
  repeat' (split at hc)
  all_goals (first | (cases hc;done) | (cases hc;simp [isRead] at hp))
 |alloc t | box t x | build t ps | buildSlice t l ps | store t x y | nilCheck x | unOp u t x | convert s d x | makeSlice t l c | fieldAddr s x i | field t x i | indexAddr t x i | index t x i | mapUpdate t m k x | extract x i =>
  simp only [compOp] at hc
  repeat' (split at hc)
  all_goals (first | (cases hc;done) | (cases hc;simp [isRead] at hp))
 |_=>simp [compOp] at hc
end AM
namespace AM
open Go Go.RowKit
variable {P:Program} {φ:Phi} {tm:T V} {a:Act} {w:World} {w0:Base} {σ:St} {G B:Nat}
def Does (P:Program) (a:Act) (o:Oper) (G B:Nat) (w0:Base) (φ:Phi) (σ':St) (v:V) (w:World):Prop :=
 ∃ x w' φ',((execOp a.eval o).run P w=.ok (.value x) w' \/ ((execOp a.eval o).run P w=.ok .skip w' /\ x=Go.undef)) /\ φ.le φ' /\ Rel G B w0 φ' σ' w' /\ VR φ' v x
theorem repeatZ_length (z:List V):∀ n,(repeatZ z n).length=n*z.length
 | 0=>by simp [repeatZ]
 |n+1=>by simp [repeatZ,repeatZ_length z n,Nat.add_mul];omega
theorem repeatZ_get (z:List V) (hz:0<z.length):∀ n i,i<n*z.length -> (repeatZ z n)[i]?=z[i%z.length]?
 | 0,i,h=>by simp at h
 |n+1,i,h=>by
  simp only [repeatZ]
  by_cases c:i<z.length
  ·rw [List.getElem?_append_left c,Nat.mod_eq_of_lt c]
  ·rw [List.getElem?_append_right (by omega),repeatZ_get z hz n (i-z.length) (by rw [Nat.add_mul] at h;omega)]
   congr 1
   have:=Nat.add_mod_right (i-z.length) z.length
   rw [Nat.sub_add_cancel (by omega)] at this
   exact this.symm
theorem zrow_get (zs:Array Value) (n:Nat) (i:Nat) (h:i<n) (hz:0<zs.size):((Array.range n).map (fun j=>zs[j%zs.size]!))[i]?=zs.toList[i%zs.toList.length]?:=by
 have hm:i%zs.size<zs.size:=Nat.mod_lt _ hz
 simp [h,hm]
theorem zrow_rel {z:List V} {zs:Array Value} (hr:LR φ z zs.toList) (n:Nat):LR φ (repeatZ z n) ((Array.range (n*zs.size)).map (fun j=>zs[j%zs.size]!)).toList:=by
 have hl:=hr.length
 have hl':zs.size=z.length:=by simpa using hl
 refine LR.of_get (by simp [repeatZ_length,hl']) fun i v hi=>?_
 have hlt:i<n*z.length:=by
  rcases Nat.lt_or_ge i (n*z.length) with k | k
  ·exact k
  ·rw [List.getElem?_eq_none (by rw [repeatZ_length];exact k)] at hi;cases hi
 have hz:0<z.length:=by
  rcases Nat.eq_zero_or_pos z.length with k | k
  ·rw [k] at hlt;omega
  ·exact k
 rw [repeatZ_get z hz n i hlt] at hi
 obtain ⟨x,hx,hv⟩:=hr.get _ v hi
 refine ⟨x,?_,hv⟩
 have:=zrow_get zs (n*zs.size) i (by rw [hl'];exact hlt) (by omega)
 rw [Array.getElem?_toList,this,hl];exact hx
theorem Rel.next_none (h:Rel G B w0 φ σ w):φ σ.next=none:=by
 cases hc:φ σ.next with
 |none=>rfl
 |some x=>obtain ⟨b,m⟩:=x;have:=(h.dom _ _ _ hc).1;omega
theorem Rel.setMap (h:Rel G B w0 φ σ w) {r b n:Nat} {es es':List (V × V)} {m':Array MapEntry} {clock':Nat} (ho:σ.objs.get r=some (.map es)) (ha:φ r=some (b,n)) (hER:ER φ es' m'.toList) :
  Rel G B w0 φ { σ with objs:=σ.objs.set r (.map es') } { w with heap:=w.heap.setIfInBounds b (.map m' clock') }:=by
 obtain ⟨hB,m,clock,hM,_⟩:=h.mapObj ho ha
 have hb:=(h.dom r b n ha).2
 have oth:∀ k,k≠b -> ({ w with heap:=w.heap.setIfInBounds b (.map m' clock') }:World).heap[k]?=w.heap[k]?:=by
  intro k hk;simp only;rw [Array.getElem?_setIfInBounds_ne (Ne.symm hk)]
 have same:({ w with heap:=w.heap.setIfInBounds b (.map m' clock') }:World).heap[b]?=some (.map m' clock'):=by
  simp only;rw [Array.getElem?_setIfInBounds_self];simp [hb]
 have key:∀ x o',(σ.objs.set r (.map es')).get x=some o' -> (x=r /\ o'=.map es') \/ (x≠r /\ σ.objs.get x=some o'):=by
  intro x o' hx
  rw [T.get_set] at hx
  by_cases e:x=r
  ·rw [if_pos e] at hx;simp at hx;exact .inl ⟨e,hx.symm⟩
  ·rw [if_neg e] at hx;exact .inr ⟨e,hx⟩
 refine ⟨h.below.trans ⟨rfl,rfl,rfl,by simp,fun k hk=>oth k (by omega)⟩,by simp;exact h.B_le,by intro a b n hab;simpa using h.dom a b n hab,h.glob,?_,?_,?_,?_,h.gfresh,h.pend⟩
 ·intro x o' b' n' hx hab
  rcases key x o' hx with ⟨rfl,rfl⟩ | ⟨hne,hx'⟩
  ·rw [ha] at hab;simp at hab;obtain ⟨rfl,rfl⟩:=hab
   exact ⟨hB,m',clock',same,hER⟩
  ·cases hl:o'.live with
   |false=>cases o' <;> simp_all [Obj.live,ObjR]
   |true =>
    have hbb:b'≠b:=by
     rintro rfl
     have:=h.sep r x _ o' b' n n' (Ne.symm hne) ho hx' rfl hl ha hab
     exact this.1 rfl
    exact (h.obj x o' b' n' hx' hab).of_block (oth b' hbb)
 ·intro x hx
  simp only at hx ⊢
  rw [T.get_set,if_neg (by have:=h.lt ho;omega)];exact h.fresh x hx
 ·intro x y o1 o2 b1 n1 n2 hne k1 k2 hm hl h1 h2
  have f1:∃ q,σ.objs.get x=some q /\ q.mut=true /\ q.grp=o1.grp:=by
   rcases key x o1 k1 with ⟨rfl,rfl⟩ | ⟨_,k⟩
   ·exact ⟨_,ho,rfl,rfl⟩
   ·exact ⟨_,k,hm,rfl⟩
  have f2:∃ q,σ.objs.get y=some q /\ q.live=true /\ q.grp=o2.grp:=by
   rcases key y o2 k2 with ⟨rfl,rfl⟩ | ⟨_,k⟩
   ·exact ⟨_,ho,rfl,rfl⟩
   ·exact ⟨_,k,hl,rfl⟩
  obtain ⟨q1,a1,a2,a3⟩:=f1
  obtain ⟨q2,c1,c2,c3⟩:=f2
  have:=h.sep x y q1 q2 b1 n1 n2 hne a1 c1 a2 c2 h1 h2
  exact ⟨a3▸this.1,by rw [<- a3, <- c3];exact this.2⟩
 ·intro x o1 k1 hg
  rcases key x o1 k1 with ⟨rfl,rfl⟩ | ⟨_,k⟩
  ·exact (hg rfl).elim
  ·exact h.grp x o1 k hg
theorem run_setObj_map {b:Nat} {m:Array MapEntry} {clock:Nat} {o:Go.Obj} (h:w.heap[b]?=some (.map m clock)):(setObj b o).run P w=.ok () { w with heap:=w.heap.setIfInBounds b o }:=by
 simp only [setObj,Sem.run,h]
theorem ER.push {es:List (V × V)} {m:Array MapEntry} {k v:V} {e:MapEntry} (h:ER φ es m.toList) (hk:VR φ k e.key) (hv:VR φ v e.val):ER φ (es++[(k,v)]) (m.push e).toList:=by
 refine ⟨by have:=h.1;simp at this ⊢;omega,fun i x y hi=>?_⟩
 have hl:=h.1
 by_cases c:i<es.length
 ·rw [List.getElem?_append_left c] at hi
  obtain ⟨e',he,h1,h2⟩:=h.2 i x y hi
  refine ⟨e',?_,h1,h2⟩
  rw [Array.toList_push,List.getElem?_append_left (by omega)];exact he
 ·rw [List.getElem?_append_right (by omega)] at hi
  have:i=es.length:=by
   rcases Nat.lt_or_ge i (es.length+1) with k' | k'
   ·omega
   ·rw [List.getElem?_eq_none (by simp;omega)] at hi;cases hi
  subst this
  simp at hi;obtain ⟨rfl,rfl⟩:=hi
  refine ⟨e,?_,hk,hv⟩
  rw [Array.toList_push,List.getElem?_append_right (by omega),hl];simp
theorem ER.set {es:List (V × V)} {m:Array MapEntry} {k v:V} {i:Nat} {f:MapEntry -> MapEntry} {e:MapEntry} (h:ER φ es m.toList) (he:m[i]?=some e) (hk:VR φ k (f e).key) (hv:VR φ v (f e).val) :
  ER φ (es.set i (k,v)) (m.modify i f).toList:=by
 have hl:=h.1
 refine ⟨by simp at hl ⊢;exact hl,fun j x y hj=>?_⟩
 have hi:i<m.size:=by
  rcases Nat.lt_or_ge i m.size with k' | k'
  ·exact k'
  ·rw [Array.getElem?_eq_none k'] at he;cases he
 by_cases c:j=i
 ·subst c
  rw [List.getElem?_set_self (by simp at hl;omega)] at hj
  simp at hj;obtain ⟨rfl,rfl⟩:=hj
  exact ⟨f e,by simp [Array.getElem?_modify,he],hk,hv⟩
 ·rw [List.getElem?_set_ne (Ne.symm c)] at hj
  obtain ⟨e',he',h1,h2⟩:=h.2 j x y hj
  refine ⟨e',?_,h1,h2⟩
  rw [Array.toList_modify,List.getElem?_modify,he'];simp [Ne.symm c]
theorem ER.erase {es:List (V × V)} {m:Array MapEntry} {i:Nat} (h:ER φ es m.toList) (hi:i<es.length):ER φ (es.eraseIdx i) (m.eraseIdxIfInBounds i).toList:=by
 have hl:=h.1
 have hm:i<m.size:=by simp at hl;omega
 have e:(m.eraseIdxIfInBounds i).toList=m.toList.eraseIdx i:=by
  simp [Array.eraseIdxIfInBounds,hm]
 rw [e]
 refine ⟨by rw [List.length_eraseIdx,List.length_eraseIdx,hl],fun j x y hj=>?_⟩
 rw [List.getElem?_eraseIdx] at hj
 split at hj
 ·rename_i c
  obtain ⟨e',h1,h2⟩:=h.2 j x y hj
  exact ⟨e',by rw [List.getElem?_eraseIdx,if_pos c];exact h1,h2⟩
 ·rename_i c
  obtain ⟨e',h1,h2⟩:=h.2 (j+1) x y hj
  exact ⟨e',by rw [List.getElem?_eraseIdx,if_neg c];exact h1,h2⟩
theorem sameBits_key {kk:Kk} {x y:V} {X Y:Value} (h:keyEq kk x y=some true) (hx:VR φ x X) (hy:VR φ y Y) (n:Nat):Instr.sameBits n Y X=true:=by
 unfold keyEq at h
 split at h
 ·rename_i k p k' q
  have hx:X=.int k p:=hx
  have hy:Y=.int k' q:=hy
  subst hx;subst hy
  split at h
  ·rename_i hk;subst hk;simp at h;subst h;simp [Instr.sameBits]
  ·cases h
 ·obtain ⟨bx,rfl,rfl⟩:=hx
  obtain ⟨bY,rfl,rfl⟩:=hy
  have:(bx == bY)=true:=by rw [bytes_beq];simpa using h
  have h2:(bY == bx)=true:=by rw [bytes_beq] at this ⊢;rw [beq_iff_eq] at this ⊢;exact this.symm
  cases n <;> simpa [Instr.sameBits] using h2
 ·rename_i p q
  have hx:X=.bool p:=hx
  have hy:Y=.bool q:=hy
  subst hx;subst hy
  simp at h;subst h;simp [Instr.sameBits]
 ·cases h
end AM
namespace AM
open Go Go.RowKit
variable {P:Program} {φ:Phi} {tm:T V} {a:Act} {w:World} {w0:Base} {σ:St} {G B:Nat}
def App (P:Program) (ts:Array TypeId) (e:TypeId) (s:Nat) (x:Value) (k:Nat) (xs:List Value) (w:World):Prop :=
 ∀ (ty:TypeId) (t:TypeId),ts[0]?=some t -> P.underlying t=some (.slice e) -> ∀ (base:Option Addr) (sLen sCap:Nat),
  ((Builtin.append_ ts ty #[.slice base sLen sCap,x]).run P w =
   if sLen+k <= sCap then
    ((match base with | some a=>storeCells (a.add (sLen*s)) xs | none=>pure ():Sem Unit).run P w).andThen fun _ w'=>.ok (.slice base (sLen+k) sCap) w'
   else
    ((Builtin.firstCells s sLen (.slice base sLen sCap)).run P w.drew).andThen fun old w' =>
     ((zeroValue e).run P w').andThen fun z w' =>
      .ok (.slice (some ⟨w'.heap.size,0,none⟩) (sLen+k) (grownCap w (sLen+k) sCap e))
       (w'.alloc (.cells (old++xs.toArray++Builtin.zeroCells z.cells (grownCap w (sLen+k) sCap e-(sLen+k))) e)))
theorem bytesOf_info {t:TypeId} {n:Nat} (h:bytesOf P t=some n):∃ i,P.info? t=some i /\ i.bytes=n:=by
 unfold bytesOf at h
 cases hi:P.info? t with
 |none=>simp [hi] at h
 |some i=>simp [hi] at h;exact ⟨i,rfl,h⟩
theorem app_slice {ts:Array TypeId} {u e e2:TypeId} {s bytes k c:Nat} {ad:Addr} {xs:List Value} (hu1:ts[1]?=some u) (hu:P.underlying u=some (.slice e2)) (hs:szOf P e=some s) (hb:bytesOf P e=some bytes)
  (hl:xs.length=k*s) (hcell:∀ j v,xs[j]?=some v -> w.cell? (ad.add j)=some v) {base:Option Addr} {sLen sCap:Nat} (h1:(sLen+k)*bytes <= 140737488355328) (h2:sLen+k <= 140737488355328)
  {ty t:TypeId} (ht0:ts[0]?=some t) (ht:P.underlying t=some (.slice e)) :
  (Builtin.append_ ts ty #[.slice base sLen sCap,.slice (some ad) k c]).run P w =
   if sLen+k <= sCap then
    ((match base with | some a=>storeCells (a.add (sLen*s)) xs | none=>pure ():Sem Unit).run P w).andThen fun _ w'=>.ok (.slice base (sLen+k) sCap) w'
   else
    ((Builtin.firstCells s sLen (.slice base sLen sCap)).run P w.drew).andThen fun old w' =>
     ((Builtin.firstCells s k (.slice (some ad) k c)).run P w').andThen fun new w' =>
      ((zeroValue e).run P w').andThen fun z w' =>
       .ok (.slice (some ⟨w'.heap.size,0,none⟩) (sLen+k) (grownCap w (sLen+k) sCap e))
        (w'.alloc (.cells (old++new++Builtin.zeroCells z.cells (grownCap w (sLen+k) sCap e-(sLen+k))) e)):=by
 obtain ⟨i,hi,rfl⟩:=szOf_info hs
 obtain ⟨i',hi',rfl⟩:=bytesOf_info hb
 rw [hi] at hi';cases hi'
 have hf:=run_firstCells_some (P:=P) w i.size k ad k c xs hl hcell
 by_cases hroom:sLen+k <= sCap
 ·rw [if_pos hroom]
  cases base with
  |none=>simp [Builtin.append_,ht0,hu1,run_underlying' ht,run_underlying' hu,Go.sizeOf,typeInfo,hi,Builtin.lenOf,hroom,hf]
  |some b =>
   simp [Builtin.append_,ht0,hu1,run_underlying' ht,run_underlying' hu,Go.sizeOf,typeInfo,hi,Builtin.lenOf,hroom,hf]
 ·rw [if_neg hroom]
  have h63':¬ (9223372036854775807<((sLen:Int)+(k:Int))):=by omega
  have hg:Builtin.nextslicecap (sLen+k) sCap*i.bytes <= 281474976710656:=growslice_fits (by omega) h1
  have h48':¬ (281474976710656<Builtin.nextslicecap (sLen+k) sCap*i.bytes):=by omega
  simp [Builtin.append_,ht0,hu1,run_underlying' ht,run_underlying' hu,Go.sizeOf,typeInfo,hi,Builtin.lenOf,hroom,h63',h48',Question.forced,newRow,grownCap]
theorem app_zero {ts:Array TypeId} {u e:TypeId} {k0:IntKind} {s bytes k:Nat} {kk:IntKind} {n:Int} {z:List V} (hu1:ts[1]?=some u) (hu:P.underlying u=some (.int k0)) (hs:szOf P e=some s) (hb:bytesOf P e=some bytes)
  (hn:n=k) (hk:0<k) (hk2:k <= 1000000000000) (hspos:0<s) {base:Option Addr} {sLen sCap:Nat} (h1:(sLen+k)*bytes <= 140737488355328) (h2:sLen+k <= 140737488355328)
  {Z:Value} (hz:∀ w,(zeroValue e).run P w=.ok Z w) {ty t:TypeId} (ht0:ts[0]?=some t) (ht:P.underlying t=some (.slice e)) :
  (Builtin.append_ ts ty #[.slice base sLen sCap,.int kk n]).run P w =
   if sLen+k <= sCap then
    ((match base with | some a=>storeCells (a.add (sLen*s)) (Builtin.zeroCells Z.cells k).toList | none=>pure ():Sem Unit).run P w).andThen fun _ w'=>.ok (.slice base (sLen+k) sCap) w'
   else
    ((Builtin.firstCells s sLen (.slice base sLen sCap)).run P w.drew).andThen fun old w' =>
       .ok (.slice (some ⟨w'.heap.size,0,none⟩) (sLen+k) (grownCap w (sLen+k) sCap e))
        (w'.alloc (.cells (old++Builtin.zeroCells Z.cells k++Builtin.zeroCells Z.cells (grownCap w (sLen+k) sCap e-(sLen+k))) e)):=by
 obtain ⟨i,hi,rfl⟩:=szOf_info hs
 obtain ⟨i',hi',rfl⟩:=bytesOf_info hb
 rw [hi] at hi';cases hi'
 subst hn
 have hw:IntKind.i64.wrap (k:Int)=k:=by
  have:=IntWalk.i64_in (n:=(k:Int)) (by omega)
  exact this
 have hneg:¬ ((k:Int)<0):=by omega
 have hbig:¬ (281474976710656<(k:Int)*(i.bytes:Int)):=by
  have:k*i.bytes <= (sLen+k)*i.bytes:=Nat.mul_le_mul_right _ (by omega)
  have:(k:Int)*(i.bytes:Int)=((k*i.bytes:Nat):Int):=by simp
  omega
 have hks:¬ (k*i.size=0):=by have:=Nat.mul_pos hk hspos;omega
 by_cases hroom:sLen+k <= sCap
 ·rw [if_pos hroom]
  cases base with
  |none=>simp [Builtin.append_,ht0,hu1,run_underlying' ht,run_underlying' hu,Go.sizeOf,typeInfo,hi,asInt,asIntOf,hw,hneg,hbig,hroom,hks,hz]
  |some b =>
   simp [Builtin.append_,ht0,hu1,run_underlying' ht,run_underlying' hu,Go.sizeOf,typeInfo,hi,asInt,asIntOf,hw,hneg,hbig,hroom,hks,hz]
 ·rw [if_neg hroom]
  have h63':¬ (9223372036854775807<((sLen:Int)+(k:Int))):=by omega
  have h63'':¬ (IntKind.i64.max<((sLen:Int)+(k:Int))):=by show ¬ ((9223372036854775807:Int)<_);omega
  have hg:Builtin.nextslicecap (sLen+k) sCap*i.bytes <= 281474976710656:=growslice_fits (by omega) h1
  have h48':¬ (281474976710656<Builtin.nextslicecap (sLen+k) sCap*i.bytes):=by omega
  simp [Builtin.append_,ht0,hu1,run_underlying' ht,run_underlying' hu,Go.sizeOf,typeInfo,hi,asInt,asIntOf,hw,hneg,hbig,hroom,hks,hz,h63',h63'',h48',Question.forced,newRow,grownCap]
theorem loadCellsFrom_world (a:Addr):∀ (n i:Nat) (acc:Array Value) (w w':World) (c:Array Value),(loadCellsFrom a i n acc).run P w=.ok c w' -> w'=w
 | 0,i,acc,w,w',c,h=>by simp [loadCellsFrom] at h;exact h.2.symm
 |n+1,i,acc,w,w',c,h=>by
  simp only [loadCellsFrom,Sem.run_bind,run_load] at h
  split at h
  ·exact loadCellsFrom_world a n (i+1) _ w w' c h
  ·split at h
   ·exact loadCellsFrom_world a n (i+1) _ w w' c h
   ·simp [Result.andThen] at h
theorem firstCells_world {s n:Nat} {v:Value} {w w':World} {c:Array Value} (h:(Builtin.firstCells s n v).run P w=.ok c w'):w'=w:=by
 unfold Builtin.firstCells at h
 split at h
 ·exact loadCellsFrom_world _ _ _ _ _ _ _ h
 ·simp at h;exact h.2.symm
 ·simp at h;exact h.2.symm
 ·simp at h
theorem append_rel (P:Program) {esz bytes k xl xe:Nat} {vs:List V} {xs:List Value} {xa:Option (Nat × Nat)} {v:V} {σ':St} {S:Value} {R:Result Value}
  (h:Rel G B w0 φ σ w) (hap:appendL σ esz bytes k vs xa xl=some (v,σ')) (hS:VR φ (.slice xa xl xe) S) (hxe:xa.isSome=true -> xe=esz) (hr:LR φ vs xs) (hlen:xs.length=k*esz) (hk:0<k) (hesz:0<esz)
  (hrun:∀ base sLen sCap,S=.slice base sLen sCap -> ∃ cap' rest E,sLen+k <= cap' /\ Array.size rest=(cap'-(sLen+k))*esz /\ R =
   if sLen+k <= sCap then
    ((match base with | some a=>storeCells (a.add (sLen*esz)) xs | none=>pure ():Sem Unit).run P w).andThen fun _ w'=>.ok (.slice base (sLen+k) sCap) w'
   else
    ((Builtin.firstCells esz sLen (.slice base sLen sCap)).run P w.drew).andThen fun old w' =>
     .ok (.slice (some ⟨w'.heap.size,0,none⟩) (sLen+k) cap') (w'.alloc (.cells (old++xs.toArray++rest) E))) :
  ∃ X w' φ',R=.ok X w' /\ φ.le φ' /\ Rel G B w0 φ' σ' w' /\ VR φ' v X:=by
 unfold appendL at hap
 split at hap
 ·rename_i hcond
  obtain ⟨hb1,hb2,hflat⟩:=hcond
  have hone:∀ x∈xs,x.oneCell'=true:=by
   intro x hx
   obtain ⟨i,hi,rfl⟩:=List.getElem_of_mem hx
   have hil:i<vs.length:=by have:=hr.length;omega
   obtain ⟨y,hy,hv⟩:=hr.get i vs[i] (by simp [hil])
   simp [hi] at hy;subst hy
   exact hv.oneCell (by simpa using List.all_eq_true.1 hflat vs[i] (by simp))
  split at hap
  ·
   split at hap
   ·rename_i hx0
    subst hx0
    simp only [Option.some.injEq,Prod.mk.injEq] at hap
    obtain ⟨rfl,rfl⟩:=hap
    obtain ⟨_,rfl⟩:=hS
    obtain ⟨cap',rest,E,hc1,hc2,hR⟩:=hrun none 0 0 rfl
    rw [if_neg (by omega)] at hR
    simp only [Builtin.firstCells,Sem.run_pure,Result.andThen_ok,Nat.zero_add] at hR hc1 hc2
    have hnew:=h.drew.newCells vs xs rest.toList E hr
    refine ⟨_,_,_,hR,hnew.2,?_,?_⟩
    ·have e:(#[]++xs.toArray++rest)=(xs++rest.toList).toArray:=by apply Array.ext';simp
     rw [e];exact hnew.1
    ·refine .inl ⟨w.drew.heap.size,(xs++rest.toList).length,0,cap',Phi.upd_same _ _ _,rfl,hc1,?_,.inl rfl⟩
     simp only [List.length_append,Array.length_toList,hlen,hc2]
     rw [<- Nat.add_mul];simp;exact Nat.mul_le_mul_right _ (by omega)
   ·cases hap
  ·rename_i id off
   split at hap
   ·rename_i hoff
    subst hoff
    split at hap
    ·rename_i g n z t ho
     split at hap
     ·cases hap
     ·rename_i old hold
      simp only [Option.some.injEq,Prod.mk.injEq] at hap
      obtain ⟨rfl,rfl⟩:=hap
      rcases hS with ⟨b,m,o',cap,hb,rfl,hlc,hfit,ho'⟩ | ⟨_,hbad,_⟩
      rotate_left
      ·exact (Nat.lt_irrefl _ hbad).elim
      have hxe:=hxe rfl
      subst hxe
      obtain ⟨cap',rest,E,hc1,hc2,hR⟩:=hrun _ _ _ rfl
      have hload:σ.load id 0 (xl*xe)=some old:=by unfold St.load;rw [ho];exact hold
      obtain ⟨olds,hor,hol,hocell⟩:=h.load hload hb
      obtain ⟨C,E0,fz,d1,d2,d3,d4,d5⟩:=h.obj id _ b m ho hb
      obtain ⟨rfl,hBb⟩:=d3 rfl
      have hocell':∀ i,i<xl*xe -> C[i]?=olds[i]?:=by
       intro i hi
       have hi':i<olds.length:=by omega
       have:=hocell i olds[i] (by simp [hi'])
       rw [add_none] at this
       simp [World.cell?,d1] at this
       simp [this,hi']
      have holdlen:=hor.length
      by_cases hroom:xl+k <= cap
      ·rw [if_pos hroom] at hR
       have hoo:o'=0:=by rcases ho' with hh | ⟨_,hh⟩;exact hh;omega
       subst hoo
       simp only [add_none,Nat.zero_add] at hR
       have hkm:(xl+k)*xe <= cap*xe:=Nat.mul_le_mul_right _ hroom
       rw [Nat.add_mul] at hkm
       have hst:=run_storeCells_at P b (xl*xe) E0 xs 0 C w d1 (by simp;omega) hone
       simp only [Nat.add_zero] at hst
       rw [hst] at hR
       simp only [Result.andThen_ok] at hR
       generalize hC':(C.toList.take (xl*xe)++xs++C.toList.drop (xl*xe+xs.length)).toArray=C' at hR
       have hCsz:C'.size=C.size:=by rw [<- hC'];simp;omega
       have hget:∀ i,C'[i]?=if xl*xe <= i /\ i<xl*xe+xs.length then xs[i-xl*xe]? else C[i]?:=by
        intro i
        rw [<- hC']
        simp only [List.getElem?_toArray]
        by_cases c1:i<xl*xe
        ·rw [if_neg (by omega),List.append_assoc,List.getElem?_append_left (by simp;omega),List.getElem?_take];simp [c1]
        ·by_cases c2:i<xl*xe+xs.length
         ·rw [if_pos (by omega),List.append_assoc,List.getElem?_append_right (by simp;omega),List.getElem?_append_left (by simp;omega)]
          simp only [List.length_take,Array.length_toList]
          rw [show min (xl*xe) C.size=xl*xe by omega]
         ·rw [if_neg (by omega),List.getElem?_append_right (by simp;omega)]
          simp only [List.length_append,List.length_take,Array.length_toList,List.getElem?_drop,Array.getElem?_toList]
          congr 1;omega
       have happ:=h.appended (w':=w.setRow b C') (C':=C') (E':=E0) (all:=old++vs) (e:=xl*xe) ho hb d1 rfl (below_setRow h.below hBb C') (by simp) (.inl ⟨rfl,rfl⟩)
        (setRow_heap w b C C' E0 _ d1) (by omega) hBb (fun k _ hk=>setRow_other w b k C' hk) (fun _ i hi=>by rw [hget,if_neg (by omega)])
        (fun i v hi=>by
         rw [hget]
         by_cases c:i<old.length
         ·rw [List.getElem?_append_left c] at hi
          rw [if_neg (by omega),hocell' i (by omega)]
          exact hor.get i v hi
         ·rw [List.getElem?_append_right (by omega)] at hi
          obtain ⟨x,hx,hv⟩:=hr.get _ v hi
          have:i-old.length<xs.length:=by
           rcases Nat.lt_or_ge (i-old.length) xs.length with q | q
           ·exact q
           ·rw [List.getElem?_eq_none q] at hx;cases hx
          refine ⟨x,?_,hv⟩
          rw [if_pos (by omega)]
          rw [show i-xl*xe=i-old.length by omega];exact hx)
        (by have:=hr.length;simp;omega)
       refine ⟨_,_,_,hR,happ.2,happ.1,?_⟩
       exact .inl ⟨b,m,0,cap,Phi.upd_same _ _ _,rfl,by omega,by simpa using hfit,.inl rfl⟩
      ·rw [if_neg hroom] at hR
       have hfirst:(Builtin.firstCells xe xl (.slice (some ⟨b,o',none⟩) xl cap)).run P w.drew=.ok olds.toArray w.drew:=by
        refine run_firstCells_some (P:=P) w.drew xe xl ⟨b,o',none⟩ xl cap olds (by omega) ?_
        rcases ho' with rfl | ⟨rfl,_⟩
        ·exact hocell
        ·have:olds=[]:=List.eq_nil_of_length_eq_zero (by omega)
         subst this;simp
       rw [hfirst] at hR
       simp only [Result.andThen_ok] at hR
       have happ:=h.drew.appended (b':=w.heap.size) (n':=(olds.toArray++xs.toArray++rest).size) (w':=w.drew.alloc (.cells (olds.toArray++xs.toArray++rest) E)) (C':=olds.toArray++xs.toArray++rest) (E':=E) (all:=old++vs) (e:=xl*xe) ho hb d1 rfl
        (h.drew.below.alloc h.drew.B_le _) (by simp) (.inr ⟨rfl,by simp⟩) (heap_alloc_new w.drew _) rfl h.B_le (fun k hk _=>heap_alloc_old w.drew _ k hk)
        (fun hbb i hi=>by have:=(h.dom id b m hb).2;omega)
        (fun i v hi=>by
         have hr2:=LR.append hor hr
         obtain ⟨x,hx,hv⟩:=hr2.get i v hi
         refine ⟨x,?_,hv⟩
         have hlt:i<(olds++xs).length:=by
          rcases Nat.lt_or_ge i (olds++xs).length with q | q
          ·exact q
          ·rw [List.getElem?_eq_none q] at hx;cases hx
         have e:(olds.toArray++xs.toArray++rest)=((olds++xs)++rest.toList).toArray:=by apply Array.ext';simp
         rw [e,List.getElem?_toArray,List.getElem?_append_left hlt];exact hx)
        (by have:=hr.length;simp;omega)
       refine ⟨_,_,_,hR,happ.2,happ.1,?_⟩
       refine .inl ⟨w.heap.size,_,0,cap',Phi.upd_same _ _ _,rfl,hc1,?_,.inl rfl⟩
       simp only [Array.size_append,List.size_toArray,hol,hlen,hc2,Nat.zero_add]
       rw [<- Nat.add_mul, <- Nat.add_mul]
       exact Nat.mul_le_mul_right _ (by omega)
    ·cases hap
   ·cases hap
 ·cases hap
end AM
namespace AM
open Go Go.RowKit
variable {P:Program} {φ:Phi} {tm:T V} {a:Act} {w:World} {w0:Base} {σ σ':St} {G B:Nat}
def isWrite (op:AOp):Bool:=match op with
 | .alloc _ | .box .. | .mkSlice .. | .store .. | .makeSlice .. | .append .. | .appendZ .. | .copy .. | .clearS .. | .clearM _ | .makeMap | .mapUpdate .. | .delete ..=>true
 |_=>false
theorem write_alloc {dst:Option Tmp} {type:TypeId} {pos:String} {after:Array Edge} {guard:Option (Nat × Bool)} {t:TypeId} {z:List V} (hz:zeroC P t=some z) (hR:Rel G B w0 φ σ w) :
  ∃ b n,(execOp a.eval ⟨dst,.alloc t,type,pos,after,guard⟩).run P w=.ok (.value (.pointer (some ⟨w.heap.size,0,none⟩))) (w.alloc b) ∧
   Rel G B w0 (φ.upd σ.next (w.heap.size,n)) (σ.new (.cells false 0 z.length z .nil)) (w.alloc b) /\ φ.le (φ.upd σ.next (w.heap.size,n)):=by
 obtain ⟨X,hX,hr,hs,hXs⟩:=zeroC_spec hz
 have:=hR.newZero z.length z X.cells.toList X.cells t (hr φ) hXs (fun i hi=>by rw [Nat.mod_eq_of_lt (by simp;omega)];simp)
 refine ⟨.cells X.cells t,z.length,?_,this.1,this.2⟩
 simp [execOp,Instr.alloc,hX,newVar,newRow]
theorem does_of {dst:Option Tmp} {type:TypeId} {pos:String} {after:Array Edge} {guard:Option (Nat × Bool)} {b:Builtin} {args:Array Operand} {ats:Array TypeId} {v:V} {R:Result Value}
  (hrun:(execOp a.eval ⟨dst,.call ⟨.builtin b,args,ats⟩,type,pos,after,guard⟩).run P w=R.andThen fun x w'=>.ok (.value x) w')
  (h:∃ X w' φ',R=.ok X w' /\ φ.le φ' /\ Rel G B w0 φ' σ' w' /\ VR φ' v X):Does P a ⟨dst,.call ⟨.builtin b,args,ats⟩,type,pos,after,guard⟩ G B w0 φ σ' v w:=by
 obtain ⟨X,w',φ',rfl,h1,h2,h3⟩:=h
 exact ⟨X,w',φ',.inl hrun,h1,h2,h3⟩
theorem builtin_write {dst:Option Tmp} {type:TypeId} {pos:String} {after:Array Edge} {guard:Option (Nat × Bool)} {b:Builtin} {args:Array Operand} {ats:Array TypeId} {op:AOp} {v:V}
  (hc:cBuiltin P b ats args.toList=some op) (hw:isWrite op=true) (hv:writeOp op tm σ=some (v,σ')) (hG:GR P φ) (hT:TR φ tm a op.tmps) (hR:Rel G B w0 φ σ w) :
  Does P a ⟨dst,.call ⟨.builtin b,args,ats⟩,type,pos,after,guard⟩ G B w0 φ σ' v w:=by
 obtain ⟨args⟩:=args
 simp only at hc
 unfold cBuiltin at hc
 split at hc
 ·repeat' (split at hc)
  all_goals (first | (cases hc;done) | (cases hc;simp [isWrite] at hw))
 ·
  rename_i t x y hat
  split at hc
  ·rename_i e hu
   split at hc
   ·rename_i s bs z x' y' hs hb hz h1 h2
    split at hc
    ·rename_i u hu1
     split at hc
     ·rename_i k0 hu2
      cases hc
      have r1:=opd_rel (tm:=tm) (a:=a) hG h1 hT.left
      have r2:=opd_rel (tm:=tm) (a:=a) hG h2 hT.right
      simp only [writeOp] at hv
      unfold appendZV at hv
      split at hv
      ·rename_i xa xl xe kk n e1 e2
       rw [e1] at r1;rw [e2] at r2
       have r2:a.eval y=.int kk n:=r2
       split at hv
       ·cases hv
       ·rename_i hcond
        split at hv
        ·rename_i hn
         obtain ⟨X,hX,hr,hs',hXs⟩:=zeroC_spec hz
         have hzs:X.cells.size=s:=by rw [hs] at hs';cases hs';exact hXs
         have hspos:0<s:=by
          rcases Nat.eq_zero_or_pos s with k | k
          ·exact (hcond (.inl k)).elim
          ·exact k
         have hxe:xa.isSome=true -> xe=s:=by
          intro h;rcases Nat.decEq xe s with k | k
          ·exact (hcond (.inr ⟨k,h⟩)).elim
          ·exact k
         have hbound:(xl+n.toNat)*bs <= maxLenBytes /\ xl+n.toNat <= maxLenBytes:=by
          unfold appendL at hv;split at hv
          ·rename_i hh;exact ⟨hh.1,hh.2.1⟩
          ·cases hv
         simp only [maxLenBytes] at hbound
         refine does_of (R:=(Builtin.append_ ats type #[a.eval x,a.eval y]).run P w) (by simp [execOp,resolve,invoke,builtin]) ?_
         refine append_rel P hR hv r1 hxe (zrow_rel (hr φ) n.toNat) (by simp [hzs]) (by omega) hspos ?_
         intro base sLen sCap hS
         have hsl:sLen=xl:=by
          cases xa with
          |none=>obtain ⟨h0,hh⟩:=r1;rw [hh] at hS;cases hS;omega
          |some q =>
             rcases r1 with ⟨b0,n0,o0,c0,_,hh,_⟩ | ⟨h0,_,_,hh⟩
             ·rw [hh] at hS;cases hS;rfl
             ·rw [hh] at hS;cases hS;omega
         subst hsl
         refine ⟨grownCap w (sLen+n.toNat) sCap e,Builtin.zeroCells X.cells (grownCap w (sLen+n.toNat) sCap e-(sLen+n.toNat)),e,grownCap_ge _ _ _ _,by rw [size_zeroCells,hzs],?_⟩
         rw [hS,r2]
         have:=app_zero (w:=w) (kk:=kk) (n:=n) (k:=n.toNat) (base:=base) (sLen:=sLen) (sCap:=sCap) (ty:=type) (z:=z) hu1 hu2 hs hb (by omega) (by omega) (by omega) hspos hbound.1 hbound.2 hX hat hu
         rw [this]
         rfl
        ·cases hv
      ·cases hv
     ·rename_i e2 hu2
      cases hc
      have r1:=opd_rel (tm:=tm) (a:=a) hG h1 hT.left
      have r2:=opd_rel (tm:=tm) (a:=a) hG h2 hT.right
      simp only [writeOp] at hv
      unfold appendV at hv
      split at hv
      ·rename_i xa xl xe ya yl ye e1 e2'
       rw [e1] at r1;rw [e2'] at r2
       split at hv
       ·cases hv
       ·rename_i hcond
        have hspos:0<s:=by
         rcases Nat.eq_zero_or_pos s with k | k
         ·exact (hcond (.inl k)).elim
         ·exact k
        have hxe:xa.isSome=true -> xe=s:=by
         intro h;rcases Nat.decEq xe s with k | k
         ·exact (hcond (.inr ⟨k,h⟩)).elim
         ·exact k
        split at hv
        ·rename_i hy0
         subst hy0
         simp only [Option.some.injEq,Prod.mk.injEq] at hv
         obtain ⟨rfl,rfl⟩:=hv
         obtain ⟨i,hi,hsi⟩:=szOf_info hs
         have hy:∃ ad c,a.eval y=.slice ad 0 c:=by
          cases ya with
          |none=>exact ⟨_,_,r2.2⟩
          |some q=>(rcases r2 with ⟨b0,n0,o0,c0,_,hh,_⟩ | ⟨_,_,_,hh⟩ <;> exact ⟨_,_,hh⟩)
         obtain ⟨ad,c,hy⟩:=hy
         have hx:∃ base cap,a.eval x=.slice base xl cap /\ xl <= cap:=by
          cases xa with
          |none=>obtain ⟨h0,hh⟩:=r1;subst h0;exact ⟨_,_,hh,Nat.le_refl _⟩
          |some q =>
           rcases r1 with ⟨b0,n0,o0,c0,_,hh,hle,_⟩ | ⟨h0,_,_,hh⟩
           ·exact ⟨_,_,hh,hle⟩
           ·subst h0;exact ⟨_,_,hh,Nat.le_refl _⟩
         obtain ⟨base,cap,hx,hle⟩:=hx
         have hf:∀ w:World,(Builtin.firstCells i.size 0 (.slice ad 0 c)).run P w=.ok #[] w:=by
          intro w;cases ad <;> simp [Builtin.firstCells,loadCells,loadCellsFrom]
         have hrun:(Builtin.append_ ats type #[a.eval x,a.eval y]).run P w=.ok (.slice base xl cap) w:=by
          rw [hx,hy]
          cases base <;> simp [Builtin.append_,hat,hu1,run_underlying' hu,run_underlying' hu2,Go.sizeOf,typeInfo,hi,Builtin.lenOf,hle,hf,storeCells]
         refine ⟨.slice base xl cap,w,φ,.inl ?_,Phi.le.refl _,hR,by rw [<- hx];exact r1⟩
         simp [execOp,resolve,invoke,builtin,hrun]
        ·rename_i hy0
         split at hv
         ·cases hv
         ·rename_i id off
          split at hv
          ·cases hv
          ·rename_i vs hvs
           rcases r2 with ⟨b0,n0,o0,c0,hb0,hy,hlc,hfit,ho0⟩ | ⟨hz0,_⟩
           rotate_left
           ·exact (hy0 hz0).elim
           have ho:o0=off:=by rcases ho0 with h | ⟨h,_⟩;exact h;exact (hy0 h).elim
           subst ho
           obtain ⟨xs,hr,hlen,hcell⟩:=hR.load hvs hb0
           have hbound:(xl+yl)*bs <= maxLenBytes /\ xl+yl <= maxLenBytes:=by
            unfold appendL at hv;split at hv
            ·rename_i hh;exact ⟨hh.1,hh.2.1⟩
            ·cases hv
           simp only [maxLenBytes] at hbound
           obtain ⟨X,hX,hrz,hs',hXs⟩:=zeroC_spec hz
           have hzs:X.cells.size=s:=by rw [hs] at hs';cases hs';exact hXs
           refine does_of (R:=(Builtin.append_ ats type #[a.eval x,a.eval y]).run P w) (by simp [execOp,resolve,invoke,builtin]) ?_
           refine append_rel P hR hv r1 hxe hr hlen (by omega) hspos ?_
           intro base sLen sCap hS
           have hsl:sLen=xl:=by
            cases xa with
            |none=>obtain ⟨h0,hh⟩:=r1;rw [hh] at hS;cases hS;omega
            |some q =>
             rcases r1 with ⟨b0,n0,o0,c0,_,hh,_⟩ | ⟨h0,_,_,hh⟩
             ·rw [hh] at hS;cases hS;rfl
             ·rw [hh] at hS;cases hS;omega
           subst hsl
           refine ⟨grownCap w (sLen+yl) sCap e,Builtin.zeroCells X.cells (grownCap w (sLen+yl) sCap e-(sLen+yl)),e,grownCap_ge _ _ _ _,by rw [size_zeroCells,hzs],?_⟩
           rw [hS,hy]
           rw [app_slice (w:=w) (c:=c0) (base:=base) (sLen:=sLen) (sCap:=sCap) (ty:=type) hu1 hu2 hs hb hlen hcell hbound.1 hbound.2 hat hu]
           split
           ·rfl
           ·cases hfc:(Builtin.firstCells s sLen (.slice base sLen sCap)).run P w.drew with
            |halt hh w'=>rfl
            |ok old w' =>
             have:=firstCells_world hfc
             subst this
             have hf:=run_firstCells_some (P:=P) w.drew s yl ⟨b0,o0,none⟩ yl c0 xs hlen (by simpa using hcell)
             simp only [Result.andThen_ok,hf,hX]
      ·cases hv
     ·cases hc
    ·cases hc
   ·cases hc
  ·cases hc
 ·
  rename_i t x y hat
  split at hc
  ·rename_i e hu
   split at hc
   ·rename_i s x' y' hs h1 h2
    cases hc
    have r1:=opd_rel (tm:=tm) (a:=a) hG h1 hT.left
    have r2:=opd_rel (tm:=tm) (a:=a) hG h2 hT.right
    simp only [writeOp] at hv
    split at hv
    ·rename_i xa xl xe ya yl ye e1 e2
     rw [e1] at r1;rw [e2] at r2
     have hy:∃ ad c,a.eval y=.slice ad yl c:=by
      cases ya with
      |none=>obtain ⟨h0,hh⟩:=r2;subst h0;exact ⟨_,_,hh⟩
      |some q =>
       rcases r2 with ⟨b0,n0,o0,c0,_,hh,_⟩ | ⟨h0,_,_,hh⟩
       ·exact ⟨_,_,hh⟩
       ·subst h0;exact ⟨_,_,hh⟩
     obtain ⟨ad,c,hy⟩:=hy
     have hx:∃ base cap,a.eval x=.slice base xl cap:=by
      cases xa with
      |none=>obtain ⟨h0,hh⟩:=r1;subst h0;exact ⟨_,_,hh⟩
      |some q =>
       rcases r1 with ⟨b0,n0,o0,c0,_,hh,_⟩ | ⟨h0,_,_,hh⟩
       ·exact ⟨_,_,hh⟩
       ·subst h0;exact ⟨_,_,hh⟩
     obtain ⟨base,cap,hx⟩:=hx
     have hsrc:∀ vs,(if min yl xl*s=0 then some [] else match ya with | none=>none | some (id,off)=>σ.load id off (min yl xl*s):Option (List V))=some vs →
       ∃ xs:List Value,LR φ vs xs /\ (Builtin.firstCells s (min yl xl) (.slice ad yl c)).run P w=.ok xs.toArray w /\ xs.length=min yl xl*s:=by
      intro vs hvs
      split at hvs
      ·rename_i h0
       cases hvs
       refine ⟨[],LR.nil,?_,by simp [h0]⟩
       cases ad <;> simp [Builtin.firstCells,loadCells,loadCellsFrom,h0]
      ·rename_i h0
       split at hvs
       ·cases hvs
       ·rename_i id off
        rcases r2 with ⟨b0,n0,o0,c0,hb0,hh,hlc,hfit,ho0⟩ | ⟨hz0,_⟩
        rotate_left
        ·rw [hz0] at h0;simp at h0
        rw [hy] at hh;cases hh
        have hyl:yl≠0:=by intro h;rw [h] at h0;simp at h0
        have ho:o0=off:=by rcases ho0 with h | ⟨h,_⟩;exact h;exact (hyl h).elim
        subst ho
        obtain ⟨xs,hr,hlen,hcell⟩:=hR.load hvs hb0
        exact ⟨xs,hr,run_firstCells_some (P:=P) w s (min yl xl) _ yl _ xs hlen hcell,hlen⟩
     split at hv
     ·rename_i h0
      simp only [Option.some.injEq,Prod.mk.injEq] at hv
      obtain ⟨rfl,rfl⟩:=hv
      obtain ⟨xs,hr,hf,hlen⟩:=hsrc [] h0
      have:xs=[]:=hr
      subst this
      refine ⟨.int .i64 ((min yl xl:Nat):Int),w,φ,.inl ?_,Phi.le.refl _,hR,rfl⟩
      have hf':(Builtin.firstCells s (Nat.min yl xl) (.slice ad yl c)).run P w=.ok #[] w:=hf
      cases base <;> simp [execOp,resolve,invoke,builtin,Builtin.copy_,hat,run_underlying' hu,hx,hy,Builtin.lenOf,run_sizeOf' hs,hf',storeCells,goInt] <;> rfl
     ·rename_i vs id off hne h0
      split at hv
      ·rename_i σ2 hst
       simp only [Option.some.injEq,Prod.mk.injEq] at hv
       obtain ⟨rfl,rfl⟩:=hv
       obtain ⟨xs,hr,hf,hlen⟩:=hsrc vs h0
       have hxl:xl≠0:=by
        intro h;subst h
        rw [if_pos (by simp)] at h0;cases h0
        exact hne rfl
       rcases r1 with ⟨b0,n0,o0,c0,hb0,hh,hlc,hfit,ho0⟩ | ⟨hz0,_⟩
       rotate_left
       ·exact (hxl hz0).elim
       rw [hx] at hh;cases hh
       have ho:o0=off:=by rcases ho0 with h | ⟨h,_⟩;exact h;exact (hxl h).elim
       subst ho
       obtain ⟨w',hrun,hR'⟩:=hR.store (P:=P) hst hb0 hr
       refine ⟨.int .i64 ((min yl xl:Nat):Int),w',φ,.inl ?_,Phi.le.refl _,hR',rfl⟩
       have hf':(Builtin.firstCells s (Nat.min yl xl) (.slice ad yl c)).run P w=.ok xs.toArray w:=hf
       simp [execOp,resolve,invoke,builtin,Builtin.copy_,hat,run_underlying' hu,hx,hy,Builtin.lenOf,run_sizeOf' hs,hf',hrun,goInt]
      ·cases hv
     ·cases hv
    ·cases hv
   ·cases hc
  ·cases hc
 ·
  rename_i t x hat
  split at hc
  ·rename_i e y hu hy
   split at hc
   ·rename_i z hz
    cases hc
    have r:=opd_rel (tm:=tm) (a:=a) hG hy hT
    obtain ⟨X,hX,hr,hs',hXs⟩:=zeroC_spec hz
    simp only [writeOp] at hv
    split at hv
    ·rename_i l0 e0 he
     simp only [Option.some.injEq,Prod.mk.injEq] at hv
     obtain ⟨rfl,rfl⟩:=hv
     rw [he] at r
     obtain ⟨_,hx⟩:=r
     refine ⟨.tuple #[],w,φ,.inl ?_,Phi.le.refl _,hR,VR.undef⟩
     simp [execOp,resolve,invoke,builtin,Builtin.clear_,hat,run_underlying' hu,hx]
    ·rename_i id off n e0 he
     rw [he] at r
     rcases r with ⟨b0,n0,o0,c0,hb0,hx,hlc,hfit,ho0⟩ | ⟨hz0,_,_,hx⟩
     rotate_left
     ·subst hz0
      rw [if_pos rfl] at hv
      simp only [Option.some.injEq,Prod.mk.injEq] at hv
      obtain ⟨rfl,rfl⟩:=hv
      refine ⟨.tuple #[],w,φ,.inl ?_,Phi.le.refl _,hR,VR.undef⟩
      simp [execOp,resolve,invoke,builtin,Builtin.clear_,hat,run_underlying' hu,hx]
     split at hv
     ·rename_i hn0
      simp only [Option.some.injEq,Prod.mk.injEq] at hv
      obtain ⟨rfl,rfl⟩:=hv
      subst hn0
      refine ⟨.tuple #[],w,φ,.inl ?_,Phi.le.refl _,hR,VR.undef⟩
      simp [execOp,resolve,invoke,builtin,Builtin.clear_,hat,run_underlying' hu,hx]
     ·rename_i hn0
      split at hv
      ·rename_i σ2 hst
       simp only [Option.some.injEq,Prod.mk.injEq] at hv
       obtain ⟨rfl,rfl⟩:=hv
       have ho:o0=off:=by rcases ho0 with h | ⟨h,_⟩;exact h;exact (hn0 h).elim
       subst ho
       obtain ⟨w',hrun,hR'⟩:=hR.store (P:=P) hst hb0 (zrow_rel (hr φ) n)
       refine ⟨.tuple #[],w',φ,.inl ?_,Phi.le.refl _,hR',VR.undef⟩
       have hrun':(storeCells ⟨b0,o0,none⟩ (Builtin.zeroCells X.cells n).toList).run P w=.ok () w':=hrun
       cases n with
       |zero=>exact (hn0 rfl).elim
       |succ n=>simp [execOp,resolve,invoke,builtin,Builtin.clear_,hat,run_underlying' hu,hx,hX,hrun']
      ·cases hv
    ·cases hv
   ·cases hc
  ·rename_i kt e y hu hy
   cases hc
   have r:=opd_rel (tm:=tm) (a:=a) hG hy hT
   simp only [writeOp] at hv
   split at hv
   ·rename_i he
    simp only [Option.some.injEq,Prod.mk.injEq] at hv
    obtain ⟨rfl,rfl⟩:=hv
    rw [he] at r
    have hx:a.eval x=.map none:=r
    refine ⟨.tuple #[],w,φ,.inl ?_,Phi.le.refl _,hR,VR.undef⟩
    simp [execOp,resolve,invoke,builtin,Builtin.clear_,hat,run_underlying' hu,hx]
   ·rename_i q he
    rw [he] at r
    obtain ⟨b0,n0,hb0,hx⟩:=r
    split at hv
    ·rename_i es ho
     simp only [Option.some.injEq,Prod.mk.injEq] at hv
     obtain ⟨rfl,rfl⟩:=hv
     obtain ⟨hB,M,clock,hM,hER⟩:=hR.mapObj ho hb0
     have hset:=hR.setMap (m':=#[]) (clock':=clock) ho hb0 (es':=[]) ER.nil
     refine ⟨.tuple #[],_,φ,.inl ?_,Phi.le.refl _,hset,VR.undef⟩
     simp [execOp,resolve,invoke,builtin,Builtin.clear_,hat,run_underlying' hu,hx,run_getObj_map hM,run_setObj_map hM]
    ·cases hv
   ·cases hv
  ·cases hc
 ·split at hc
  ·cases hc;simp [isWrite] at hw
  ·cases hc
 ·split at hc
  ·cases hc;simp [isWrite] at hw
  ·cases hc
 ·
  rename_i t x y hat
  split at hc
  ·rename_i kt e x' y' hu h1 h2
   split at hc
   ·rename_i kk hkk
    cases hc
    have r1:=opd_rel (tm:=tm) (a:=a) hG h1 hT.left
    have r2:=opd_rel (tm:=tm) (a:=a) hG h2 hT.right
    obtain ⟨d,hud,hd⟩:=okKey_spec hkk
    simp only [writeOp] at hv
    split at hv
    ·rename_i q e0
     rw [e0] at r1
     obtain ⟨b,n,hb,hm⟩:=r1
     split at hv
     ·rename_i es ho
      obtain ⟨hB,M,clock,hM,hER⟩:=hR.mapObj ho hb
      split at hv
      ·cases hv
      ·rename_i hf
       simp only [Option.some.injEq,Prod.mk.injEq] at hv
       obtain ⟨rfl,rfl⟩:=hv
       have hik:=mapFind_isKey hf
       have hck:=checkKey_run (w:=w) hud hd r2 hik M.isEmpty 9999
       rcases mapFind_rel hd r2 hER hf with ⟨_,hff⟩ | ⟨j,v',Y,hcon,_⟩
       ·have hfk:=findKey_run (w:=w) hud hff
        have hset:=hR.setMap (m':=M) (clock':=clock) ho hb hER
        refine ⟨.tuple #[],_,φ,.inl ?_,Phi.le.refl _,hset,VR.undef⟩
        simp [execOp,resolve,invoke,builtin,Builtin.delete_,hat,run_underlying' hu,hm,run_getObj_map hM,hck,hfk,run_setObj_map hM]
       ·cases hcon
      ·rename_i i v' hf
       simp only [Option.some.injEq,Prod.mk.injEq] at hv
       obtain ⟨rfl,rfl⟩:=hv
       have hik:=mapFind_isKey hf
       have hck:=checkKey_run (w:=w) hud hd r2 hik M.isEmpty 9999
       rcases mapFind_rel hd r2 hER hf with ⟨hcon,_⟩ | ⟨j,v2,Y,hcon,hff,hvY,_,hj,_⟩
       ·cases hcon
       ·simp only [Option.some.injEq,Prod.mk.injEq] at hcon
        obtain ⟨rfl,rfl⟩:=hcon
        have hfk:=findKey_run (w:=w) hud hff
        have hset:=hR.setMap (m':=M.eraseIdxIfInBounds i) (clock':=clock) ho hb (hER.erase (by omega))
        refine ⟨.tuple #[],_,φ,.inl ?_,Phi.le.refl _,hset,VR.undef⟩
        simp [execOp,resolve,invoke,builtin,Builtin.delete_,hat,run_underlying' hu,hm,run_getObj_map hM,hck,hfk,run_setObj_map hM]
     ·cases hv
    ·cases hv
   ·cases hc
  ·cases hc
 ·cases hc
theorem write_sound {o:Oper} {op:AOp} {v:V} (hc:compOp P o=some op) (hw:isWrite op=true) (hv:writeOp op tm σ=some (v,σ')) (hG:GR P φ) (hT:TR φ tm a op.tmps) (hR:Rel G B w0 φ σ w):Does P a o G B w0 φ σ' v w:=by
 obtain ⟨dst,op',type,pos,after,guard⟩:=o
 unfold Does
 cases op' with
 |alloc t =>
  simp only [compOp] at hc
  split at hc
  ·rename_i z hz
   cases hc
   simp only [writeOp,Option.some.injEq,Prod.mk.injEq] at hv
   obtain ⟨rfl,rfl⟩:=hv
   obtain ⟨b,n,h1,h2,h3⟩:=write_alloc (a:=a) (dst:=dst) (type:=type) (pos:=pos) (after:=after) (guard:=guard) hz hR
   exact ⟨_,_,_,.inl h1,h3,h2,w.heap.size,n,Phi.upd_same _ _ _,rfl⟩
  ·cases hc
 |box t x =>
  simp only [compOp] at hc
  split at hc
  ·rename_i n y hn hy
   cases hc
   have r:=opd_rel (tm:=tm) (a:=a) hG hy hT
   simp only [writeOp] at hv
   split at hv
   ·rename_i hl
    simp only [Option.some.injEq,Prod.mk.injEq] at hv
    obtain ⟨rfl,rfl⟩:=hv
    have:=hR.newCells (y.eval tm).cells (a.eval x).cells.toList [] t r.cells
    refine ⟨_,_,_,.inl ?_,this.2,this.1,w.heap.size,_,Phi.upd_same _ _ _,rfl⟩
    simp [execOp,Instr.box,newVar,newRow]
   ·cases hv
  ·cases hc
 |buildSlice t len ps =>
  simp only [compOp] at hc
  split at hc
  ·rename_i e hu
   split at hc
   ·rename_i s z hs hz
    split at hc
    ·rename_i hcond
     split at hc
     ·rename_i l hl
      cases hc
      have hpr:=parts_rel (tm:=tm) (a:=a) hG hl hT
      simp only [writeOp] at hv
      split at hv
      ·rename_i cs hcs
       simp only [Option.some.injEq,Prod.mk.injEq] at hv
       obtain ⟨rfl,rfl⟩:=hv
       obtain ⟨X,hX,hr,hs',hXs⟩:=zeroC_spec hz
       have hzs:X.cells.size=s:=by rw [hs] at hs';cases hs';exact hXs
       have hrow:=zrow_rel (hr φ) len
       rw [hzs] at hrow
       obtain ⟨D,hD,hcD⟩:=fill_rel hpr hrow hcs
       have hDs:=hcD.length
       have hnew:=hR.newCells cs D.toList [] e hcD
       have hrun:(Instr.buildSlice t len (ps.map fun p=>(p.1,a.eval p.2))).run P w=.ok (.slice (some ⟨w.heap.size,0,none⟩) len len) (w.alloc (.cells D e)):=by
        have hbig:¬ (2^24<len*s):=by omega
        have hzz:((if len*s=0 then pure #[] else do pure (<- zeroValue e).cells:Sem (Array Value)).run P w)=.ok (if len*s=0 then #[] else X.cells) w:=by
         split <;> simp [hX]
        have hgen:∀ zz:Array Value,(len*s≠0 -> zz=X.cells) -> (Array.range (len*s)).map (zz[·%zz.size]!)=(Array.range (len*s)).map (fun j=>X.cells[j%s]!):=by
         intro zz hzz
         by_cases h0:len*s=0
         ·rw [h0];have hr0:Array.range 0=#[]:=rfl
          rw [hr0];simp
         ·rw [hzz h0,hzs]
        have hD':Instr.fill (fun i=>some (i*s,s)) ((Array.range (len*s)).map (fun j=>X.cells[j%s]!)) (ps.map fun p=>(p.1,a.eval p.2)).toList=some D:=by
         simpa [Array.toList_map] using hD
        by_cases h0:len*s=0
        ·have hg:=hgen #[] (fun h=>(h h0).elim)
         simp only [Instr.buildSlice,Sem.run_bind,run_underlying' hu,Result.andThen_ok,run_sizeOf' hs,gt_iff_lt,hbig,if_false,if_pos h0,Sem.run_pure]
         rw [hg,hD']
         simp [newRow]
        ·have hg:=hgen X.cells (fun _=>rfl)
         simp only [Instr.buildSlice,Sem.run_bind,run_underlying' hu,Result.andThen_ok,run_sizeOf' hs,gt_iff_lt,hbig,if_false,h0,Sem.run_pure,hX]
         rw [hg,hD']
         simp [newRow]
       refine ⟨_,_,_,.inl ?_,hnew.2,hnew.1,.inl ⟨w.heap.size,_,0,len,Phi.upd_same _ _ _,rfl,Nat.le_refl _,?_,.inl rfl⟩⟩
       ·simp only [execOp,Sem.run_bind,hrun,Result.andThen_ok,List.append_nil]
        rfl
       ·have hfl:cs.length=(repeatZ z len).length:=by
         have:∀ {c:List V} {ps} {c'},fillP c ps=some c' -> c'.length=c.length:=by
          intro c ps
          induction ps generalizing c with
          |nil=>intro c' h;simp [fillP] at h;rw [h]
          |cons p r ih =>
           intro c' h
           obtain ⟨o,sz,x⟩:=p
           simp only [fillP] at h
           split at h
           ·rename_i hh;rw [ih h];simp;omega
           ·cases h
         exact this hcs
        rw [repeatZ_length] at hfl
        have:z.length=s:=by rw [hs] at hs';cases hs';rfl
        simp only [List.append_nil,hDs,hfl,this];omega
      ·cases hv
     ·cases hc
    ·cases hc
   ·cases hc
  ·cases hc
 |store t x y =>
  simp only [compOp] at hc
  split at hc
  ·rename_i n x' y' hn h1 h2
   cases hc
   have r1:=opd_rel (tm:=tm) (a:=a) hG h1 hT.left
   have r2:=opd_rel (tm:=tm) (a:=a) hG h2 hT.right
   simp only [writeOp] at hv
   split at hv
   ·rename_i id off e
    rw [e] at r1
    obtain ⟨b,m,hb,hx⟩:=r1
    split at hv
    ·rename_i hl
     split at hv
     ·rename_i σ2 hst
      simp only [Option.some.injEq,Prod.mk.injEq] at hv
      obtain ⟨rfl,rfl⟩:=hv
      obtain ⟨w',hrun,hR'⟩:=hR.store (P:=P) hst hb r2.cells
      refine ⟨Go.undef,w',φ,.inr ⟨?_,rfl⟩,Phi.le.refl _,hR',VR.undef⟩
      have hsz:(a.eval y).cells.size=n:=by have:=r2.cells.length;simp at this;omega
      simp [execOp,Instr.storeAt,hx,Instr.sureAddr,storeVar,run_sizeOf' hn,hsz,hrun]
     ·cases hv
    ·cases hv
   ·cases hv
  ·cases hc
 |makeSlice t l c =>
  simp only [compOp] at hc
  split at hc
  ·rename_i e hu
   split at hc
   ·rename_i s bs z l' c' hs hb hz h1 h2
    split at hc
    ·rename_i hspos
     cases hc
     have r1:=opd_rel (tm:=tm) (a:=a) hG h1 hT.left
     have r2:=opd_rel (tm:=tm) (a:=a) hG h2 hT.right
     simp only [writeOp] at hv
     split at hv
     ·rename_i k1 p k2 q e1 e2
      rw [e1] at r1;rw [e2] at r2
      have r1:a.eval l=.int k1 p:=r1
      have r2:a.eval c=.int k2 q:=r2
      split at hv
      ·rename_i hcond
       obtain ⟨c1,c2,c3,c4⟩:=hcond
       simp only [Option.some.injEq,Prod.mk.injEq] at hv
       obtain ⟨rfl,rfl⟩:=hv
       obtain ⟨X,hX,hr,hs',hXs⟩:=zeroC_spec hz
       have hzs:X.cells.size=s:=by rw [hs] at hs';cases hs';exact hXs
       obtain ⟨i,hi,rfl⟩:=bytesOf_info hb
       have hwl:IntKind.i64.wrap p=p:=IntWalk.i64_in _ (by omega)
       have hwc:IntKind.i64.wrap q=q:=IntWalk.i64_in _ (by omega)
       have t1:¬ (q<0):=by omega
       have t2:¬ (281474976710656<(i.bytes:Int)*q):=by
        have e0:(i.bytes:Int)*q=((q.toNat*i.bytes:Nat):Int):=by
         rw [Int.natCast_mul,Int.toNat_of_nonneg (by omega),Int.mul_comm]
        rw [e0];simp only [maxLenBytes] at c3;omega
       have t3:¬ (p<0):=by omega
       have t4:¬ (q<p):=by omega
       have hnew:=hR.newZero (q.toNat*s) z X.cells.toList ((Array.range (q.toNat*s)).map (fun j=>X.cells[j%X.cells.size]!)) e (hr φ) (by simp) (fun i hi=>zrow_get _ _ _ hi (by omega))
       have hrun:(Instr.makeSlice t (.int k1 p) (.int k2 q)).run P w=.ok (.slice (some ⟨w.heap.size,0,none⟩) p.toNat q.toNat) (w.alloc (.cells ((Array.range (q.toNat*s)).map (fun j=>X.cells[j%X.cells.size]!)) e)):=by
        by_cases h0:q.toNat*s=0
        ·simp [Instr.makeSlice,run_underlying' hu,asInt,asIntOf,hwl,hwc,typeInfo,hi,t1,t2,t3,t4,run_sizeOf' hs,h0,newRow]
         have hr0:Array.range 0=#[]:=rfl
         rw [hr0];simp
        ·simp [Instr.makeSlice,run_underlying' hu,asInt,asIntOf,hwl,hwc,typeInfo,hi,t1,t2,t3,t4,run_sizeOf' hs,h0,hX,newRow]
       refine ⟨_,_,_,.inl ?_,hnew.2,hnew.1,.inl ⟨w.heap.size,_,0,q.toNat,Phi.upd_same _ _ _,rfl,by omega,by omega,.inl rfl⟩⟩
       simp only [execOp,r1,r2,Sem.run_bind,hrun,Result.andThen_ok]
       rfl
      ·cases hv
     ·cases hv
    ·cases hc
   ·cases hc
  ·cases hc
 |makeMap t r =>
  cases r with
  |some r=>simp [compOp] at hc
  |none =>
   simp only [compOp] at hc
   cases hc
   simp only [writeOp,Option.some.injEq,Prod.mk.injEq] at hv
   obtain ⟨rfl,rfl⟩:=hv
   have hnew:=hR.new (.map []) (.map #[] 0) 0 rfl (.inr trivial) ⟨hR.B_le, #[],0,heap_alloc_new w _,ER.nil⟩
   refine ⟨_,_,_,.inl ?_,hnew.2,hnew.1,w.heap.size,0,Phi.upd_same _ _ _,rfl⟩
   simp [execOp,Instr.makeMap]
 |mapUpdate t m k x =>
  simp only [compOp] at hc
  split at hc
  ·rename_i kt e m' k' x' hu h1 h2 h3
   split at hc
   ·rename_i kk hkk
    cases hc
    have r1:=opd_rel (tm:=tm) (a:=a) hG h1 hT.left.left
    have r2:=opd_rel (tm:=tm) (a:=a) hG h2 hT.left.right
    have r3:=opd_rel (tm:=tm) (a:=a) hG h3 hT.right
    obtain ⟨d,hud,hd⟩:=okKey_spec hkk
    simp only [writeOp] at hv
    split at hv
    ·rename_i q e0
     rw [e0] at r1
     obtain ⟨b,n,hb,hm⟩:=r1
     split at hv
     ·rename_i es ho
      obtain ⟨hB,M,clock,hM,hER⟩:=hR.mapObj ho hb
      split at hv
      ·cases hv
      ·rename_i hf
       simp only [Option.some.injEq,Prod.mk.injEq] at hv
       obtain ⟨rfl,rfl⟩:=hv
       have hik:=mapFind_isKey hf
       have hck:=checkKey_run (w:=w) hud hd r2 hik false 9999
       rcases mapFind_rel hd r2 hER hf with ⟨_,hff⟩ | ⟨j,v',Y,hcon,_⟩
       ·have hfk:=findKey_run (w:=w) hud hff
        have hset:=hR.setMap (m':=M.push { key:=a.eval k,val:=a.eval x,born:=clock }) (clock':=clock+1) ho hb (hER.push r2 r3)
        refine ⟨Go.undef,_,φ,.inr ⟨?_,rfl⟩,Phi.le.refl _,hset,VR.undef⟩
        simp [execOp,Instr.mapUpdate,run_underlying' hu,hm,run_getObj_map hM,hck,hfk,run_setObj_map hM]
       ·cases hcon
      ·rename_i i v' hf
       simp only [Option.some.injEq,Prod.mk.injEq] at hv
       obtain ⟨rfl,rfl⟩:=hv
       have hik:=mapFind_isKey hf
       have hck:=checkKey_run (w:=w) hud hd r2 hik false 9999
       rcases mapFind_rel hd r2 hER hf with ⟨hcon,_⟩ | ⟨j,v2,Y,hcon,hff,hvY,_,hj,e1,k1,hme,hese,hkeq⟩
       ·cases hcon
       ·simp only [Option.some.injEq,Prod.mk.injEq] at hcon
        obtain ⟨rfl,rfl⟩:=hcon
        have hfk:=findKey_run (w:=w) hud hff
        simp only [Nat.sub_zero] at hme hese
        have hme':M[i]?=some e1:=by simpa using hme
        obtain ⟨e2,he2,hk2,_⟩:=hER.2 i k1 v' hese
        have:e2=e1:=by rw [hme] at he2;cases he2;rfl
        subst this
        have hsb:=sameBits_key hkeq r2 hk2 10000
        have hset:=hR.setMap (m':=M.modify i fun e=>{ e with key:=a.eval k,val:=a.eval x }) (clock':=clock) ho hb (hER.set hme' r2 r3)
        refine ⟨Go.undef,_,φ,.inr ⟨?_,rfl⟩,Phi.le.refl _,hset,VR.undef⟩
        simp [execOp,Instr.mapUpdate,run_underlying' hu,hm,run_getObj_map hM,hck,hfk,run_setObj_map hM,hme',Instr.keyThatStays,hsb]
     ·cases hv
    ·cases hv
   ·cases hc
  ·cases hc
 |call c =>
  obtain ⟨callee,args,ats⟩:=c
  cases callee with
  |value f =>
   simp only [compOp] at hc
   split at hc
   ·split at hc
    ·cases hc;simp [isWrite] at hw
    ·split at hc
     ·cases hc;simp [isWrite] at hw
     ·cases hc
   ·cases hc
  |invoke r m=>simp [compOp] at hc
  |builtin b =>
   simp only [compOp] at hc
   exact builtin_write hc hw hv hG hT hR
 |move x=>simp only [compOp] at hc;split at hc <;> cases hc;simp [isWrite] at hw
 |assign x=>simp only [compOp] at hc;split at hc <;> cases hc;simp [isWrite] at hw
 |pick c x y=>simp only [compOp] at hc;split at hc <;> cases hc;simp [isWrite] at hw
 |makeFunc fn x c=>cases fn <;> simp only [compOp] at hc <;> (try (cases hc;done));split at hc <;> cases hc;simp [isWrite] at hw
 |defer c =>
  obtain ⟨callee,args,ats⟩:=c
  cases callee with
  |value f =>
   simp only [compOp] at hc
   split at hc
   ·split at hc
    ·cases hc;simp [isWrite] at hw
    ·split at hc
     ·cases hc;simp [isWrite] at hw
     ·cases hc
   ·cases hc
  |invoke r m=>simp [compOp] at hc
  |builtin b=>simp [compOp] at hc
 |load t x=>simp only [compOp,cLoad] at hc;split at hc <;> cases hc;simp [isWrite] at hw
 |binOp op t x y yt =>
  simp only [compOp,cBin] at hc
  repeat' (split at hc)
  all_goals (first | (cases hc;done) | (cases hc;simp [isWrite] at hw))
 |slice t x lo hi mx =>
  simp only [compOp,cSlice] at hc
  repeat' (split at hc)
  all_goals (first | (cases hc;done) | (cases hc;simp [isWrite] at hw))
 |build t ps | nilCheck x | unOp u t x | convert s d x | fieldAddr s x i | field t x i | indexAddr t x i | index t x i | lookup t m k ok | extract x i =>
  simp only [compOp] at hc
  repeat' (split at hc)
  all_goals (first | (cases hc;done) | (cases hc;simp [isWrite] at hw))
 |_=>simp [compOp] at hc
end AM
namespace AM
open Go Go.RowKit
variable {P:Program} {φ:Phi} {tm:T V} {a:Act} {w:World} {w0:Base} {σ σ':St} {G B:Nat} {call:CallT}
def DR (φ:Phi):Dfs -> List Deferred -> Prop
 | [],m=>m=[]
 |(g,xs) :: r,m=>∃ (cap A:Array Value) (s:List Deferred),m={ target:=.fn (.func g) cap,args:=A } :: s /\ LR φ xs (A++cap).toList /\ DR φ r s
theorem DR.mono {φ ψ:Phi} (h:φ.le ψ):∀ {l:Dfs} {m:List Deferred},DR φ l m -> DR ψ l m
 | [],m,k=>k
 |(g,xs) :: r,m,⟨cap,A,s,h1,h2,h3⟩=>⟨cap,A,s,h1,LR.mono h _ _ h2,DR.mono h h3⟩
structure FR (n:Nat) (φ:Phi) (fr:Fr) (a:Act):Prop where
 ts:∀ t,VR φ ((fr.tmps.get t).getD .undef) (a.tmps.getD t Go.undef)
 size:n <= a.tmps.size
 ds:DR φ fr.defers a.defers
theorem FR.mono {n:Nat} {φ ψ:Phi} (h:φ.le ψ) {fr:Fr} {a:Act} (k:FR n φ fr a):FR n ψ fr a :=
 ⟨fun t=>VR.mono h _ _ (k.ts t),k.size,k.ds.mono h⟩
theorem FR.tr {n:Nat} {fr:Fr} (k:FR n φ fr a) (l:List Nat):TR φ fr.tmps a l:=fun t _=>k.ts t
def okDst (n:Nat) (d:Option Nat):Prop:=∀ t,d=some t -> t<n
theorem FR.put {n:Nat} {fr:Fr} (k:FR n φ fr a) {d:Option Nat} (hd:okDst n d) {v:V} {x:Value} (hv:VR φ v x) {ds:Dfs} {dfs:List Deferred} (hds:DR φ ds dfs) :
  FR n φ ⟨putD fr.tmps d v,ds⟩ (({ a with defers:=dfs }:Act).put d x):=by
 cases d with
 |none=>exact ⟨k.ts,k.size,hds⟩
 |some d =>
  have hlt:d<a.tmps.size:=Nat.lt_of_lt_of_le (hd d rfl) k.size
  refine ⟨fun t=>?_,by simp [Act.put];exact k.size,hds⟩
  simp only [putD,T.get_set,Act.put]
  by_cases e:t=d
  ·subst e
   rw [if_pos rfl]
   have:(a.tmps.setIfInBounds t x).getD t Go.undef=x:=by simp [Array.getD,hlt]
   rw [this];exact hv
  ·rw [if_neg e]
   have:(a.tmps.setIfInBounds d x).getD t Go.undef=a.tmps.getD t Go.undef:=by
    rw [Array.getD_eq_getD_getElem?,Array.getD_eq_getD_getElem?,Array.getElem?_setIfInBounds_ne (Ne.symm e)]
   rw [this];exact k.ts t
def CPost (G B:Nat) (w0:Base) (φ:Phi) (σ':St) (v:V) (e:Ending) (w':World):Prop :=
 ∃ φ' x,e=.returned x /\ φ.le φ' /\ Rel G B w0 φ' σ' w' /\ VR φ' v x
structure CallSound (P:Program) (G:Nat) (call:CallT):Prop where
 plain:∀ g xs σ v σ',call g xs σ=some (v,σ') -> ∀ B w0 φ w (args:Array Value),Rel G B w0 φ σ w -> LR φ xs args.toList →
  ((callFunc g args).run P w=.ok (.enter g args) w /\ Calls P g args w (CPost G B w0 φ σ' v)) ∨
  ∃ x w' φ',(callFunc g args).run P w=.ok (.value x) w' /\ φ.le φ' /\ Rel G B w0 φ' σ' w' /\ VR φ' v x
structure DefSound (P:Program) (G:Nat) (call:CallT):Prop where
 enter:∀ g xs σ v σ',call g xs σ=some (v,σ') -> ∀ args w,(callFunc g args).run P w=.ok (.enter g args) w
 callsD:∀ g xs σ v σ',call g xs σ=some (v,σ') -> ∀ B w0 φ w (args:Array Value),Rel G B w0 φ σ w -> LR φ xs args.toList →
  CallsD P g args .returning w fun e u w'=>u=.returning /\ CPost G B w0 φ σ' v e w'
theorem Oper.wp_value {o:Oper} {x:Value} {w':World} {next:Act -> World -> Prop} {Q:Exit -> Act -> World -> Prop} (h:(execOp a.eval o).run P w=.ok (.value x) w') (k:next (a.put o.dst x) w'):o.wp P a w next Q:=by
 unfold Oper.wp;rw [h];exact k
theorem Oper.wp_skip {o:Oper} {w':World} {next:Act -> World -> Prop} {Q:Exit -> Act -> World -> Prop} (h:(execOp a.eval o).run P w=.ok .skip w') (k:next (a.put o.dst Go.undef) w'):o.wp P a w next Q:=by
 unfold Oper.wp;rw [h];exact k
theorem Oper.wp_enter {o:Oper} {g:FuncId} {args:Array Value} {w':World} {next:Act -> World -> Prop} {Q:Exit -> Act -> World -> Prop} (h:(execOp a.eval o).run P w=.ok (.enter g args) w')
  {v:V} (hc:Calls P g args w' (CPost G B w0 φ σ' v)) (k:∀ φ' x w'',φ.le φ' -> Rel G B w0 φ' σ' w'' -> VR φ' v x -> next (a.put o.dst x) w''):o.wp P a w next Q:=by
 unfold Oper.wp;rw [h]
 refine Calls.mono hc ?_
 rintro e w'' ⟨φ',x,rfl,h1,h2,h3⟩
 exact k φ' x w'' h1 h2 h3
def Goes (op:AOp):Prop:=(∃ g xs,op=.call g xs) \/ (∃ g xs,op=.callv g xs) \/ (∃ g xs,op=.defer g xs) \/ (∃ g xs,op=.deferv g xs)
def goesB:AOp -> Bool
 | .call .. | .callv .. | .defer .. | .deferv ..=>true
 |_=>false
theorem Goes.b {op:AOp} (h:Goes op):goesB op=true:=by
 rcases h with ⟨g,xs,rfl⟩ | ⟨g,xs,rfl⟩ | ⟨g,xs,rfl⟩ | ⟨g,xs,rfl⟩ <;> rfl
theorem cBuiltin_no {b:Builtin} {ats:Array TypeId} {args:List Operand} {op:AOp} (hg:Goes op) (h:cBuiltin P b ats args=some op):False:=by
 have hg:=hg.b
 unfold cBuiltin at h
 repeat' (split at h)
 all_goals (first | (cases h;done) | (cases h;simp [goesB] at hg))
theorem compOp_no {dst:Option Tmp} {type:TypeId} {pos:String} {after:Array Edge} {guard:Option (Nat × Bool)} {o:Op} {op:AOp} (hg:Goes op) (h1:∀ c,o≠.call c) (h2:∀ c,o≠.defer c)
  (h:compOp P ⟨dst,o,type,pos,after,guard⟩=some op):False:=by
 have hg:=hg.b
 cases o with
 |call c=>exact h1 c rfl
 |defer c=>exact h2 c rfl
 |load t x=>simp only [compOp,cLoad] at h;split at h <;> cases h;simp [goesB] at hg
 |binOp op t x y yt =>
  simp only [compOp,cBin] at h
  repeat' (split at h)
  all_goals (first | (cases h;done) | (cases h;simp [goesB] at hg))
 |slice t x lo hi mx =>
  simp only [compOp,cSlice] at h
  repeat' (split at h)
  all_goals (first | (cases h;done) | (cases h;simp [goesB] at hg))
 |makeMap t r=>cases r <;> simp only [compOp] at h <;> cases h;simp [goesB] at hg
 |makeFunc fn x c=>cases fn <;> simp only [compOp] at h <;> (try (cases h;done));split at h <;> cases h;simp [goesB] at hg
 |move x=>simp only [compOp] at h;split at h <;> cases h;simp [goesB] at hg
 |assign x=>simp only [compOp] at h;split at h <;> cases h;simp [goesB] at hg
 |alloc t | box t x | build t ps | buildSlice t l ps | store t x y | nilCheck x | unOp u t x | convert s d x | makeSlice t l c | fieldAddr s x i | field t x i | indexAddr t x i | index t x i | lookup t m k ok | mapUpdate t m k x | extract x i | pick c x y =>
  simp only [compOp] at h
  repeat' (split at h)
  all_goals (first | (cases h;done) | (cases h;simp [goesB] at hg))
 |_=>simp [compOp] at h
theorem writeOp_isWrite {op:AOp} {r:V × St} (h:writeOp op tm σ=some r):isWrite op=true:=by
 cases op <;> first | rfl | (simp [writeOp] at h)
theorem evalOp_sound (hcall:CallSound P G call) {o:Oper} {op:AOp} {ds ds':Dfs} {v:V} (hc:compOp P o=some op) (hv:evalOp call op tm ds σ=some (v,ds',σ')) (hGP:G=P.globals.size)
  (hT:TR φ tm a op.tmps) (hD:DR φ ds a.defers) (hR:Rel G B w0 φ σ w) {next:Act -> World -> Prop} {Q:Exit -> Act -> World -> Prop}
  (k:∀ φ' x w' dfs,φ.le φ' -> Rel G B w0 φ' σ' w' -> VR φ' v x -> DR φ' ds' dfs -> next (({ a with defers:=dfs }:Act).put o.dst x) w'):o.wp P a w next Q:=by
 have hG:GR P φ:=fun g hg=>(hR.glob g (by omega)).2
 unfold evalOp at hv
 split at hv
 ·rename_i hp
  split at hv
  ·rename_i u hu
   simp only [Option.some.injEq,Prod.mk.injEq] at hv
   obtain ⟨rfl,rfl,rfl⟩:=hv
   obtain ⟨x,hx,hvx⟩:=pure_sound (w:=w) hc hp hu hG hT
   exact Oper.wp_value hx (k φ x w a.defers (Phi.le.refl _) hR hvx hD)
  ·cases hv
 ·split at hv
  ·rename_i hp
   split at hv
   ·rename_i u hu
    simp only [Option.some.injEq,Prod.mk.injEq] at hv
    obtain ⟨rfl,rfl,rfl⟩:=hv
    obtain ⟨x,hx,hvx⟩:=read_sound (w:=w) hc hp hu hG hT hR
    exact Oper.wp_value hx (k φ x w a.defers (Phi.le.refl _) hR hvx hD)
   ·cases hv
  ·have hwrite:isWrite op=true -> ∀ {r},writeOp op tm σ=some r -> some (r.1,ds,r.2)=some (v,ds',σ') -> o.wp P a w next Q:=by
    intro hw r hr he
    simp only [Option.some.injEq,Prod.mk.injEq] at he
    obtain ⟨rfl,rfl,rfl⟩:=he
    obtain ⟨x,w',φ',hrun,hle,hR',hvx⟩:=write_sound (w:=w) hc hw hr hG hT hR
    rcases hrun with hrun | ⟨hrun,rfl⟩
    ·exact Oper.wp_value hrun (k φ' x w' a.defers hle hR' hvx (hD.mono hle))
    ·exact Oper.wp_skip hrun (k φ' Go.undef w' a.defers hle hR' hvx (hD.mono hle))
   obtain ⟨dst,op',type,pos,after,guard⟩:=o
   split at hv
   ·
    rename_i g xs _ _
    split at hv
    ·rename_i u σ2 hcl
     simp only [Option.some.injEq,Prod.mk.injEq] at hv
     obtain ⟨rfl,rfl,rfl⟩:=hv
     have hcomp:∃ args:Array Operand, ∃ ats,op'=.call ⟨.value (.func g),args,ats⟩ /\ opds P args.toList=some xs:=by
      cases op' with
      |call c =>
       obtain ⟨callee,args,ats⟩:=c
       cases callee with
       |value f =>
        simp only [compOp] at hc
        split at hc
        ·rename_i ys hys
         split at hc
         ·cases hc;exact ⟨args,ats,rfl,hys⟩
         ·split at hc <;> cases hc
        ·cases hc
       |invoke r m=>simp [compOp] at hc
       |builtin b=>simp only [compOp] at hc;exact (cBuiltin_no (.inl ⟨g,xs,rfl⟩) hc).elim
      |defer c =>
       obtain ⟨callee,args,ats⟩:=c
       cases callee with
       |value f =>
        simp only [compOp] at hc
        split at hc
        ·split at hc
         ·cases hc
         ·split at hc <;> cases hc
        ·cases hc
       |invoke r m=>simp [compOp] at hc
       |builtin b=>simp [compOp] at hc
      |_=>exact (compOp_no (.inl ⟨g,xs,rfl⟩) (by simp) (by simp) hc).elim
     obtain ⟨args,ats,rfl,hxs⟩:=hcomp
     have hr:=opds_rel (tm:=tm) (a:=a) hG hxs hT
     have hr':LR φ (xs.map (·.eval tm)) (args.map a.eval).toList:=by simpa using hr
     rcases hcall.plain g _ σ _ _ hcl B w0 φ w _ hR hr' with ⟨he,hcs⟩ | ⟨x,w',φ',he,h1,h2,h3⟩
     ·refine Oper.wp_enter (g:=g) (args:=args.map a.eval) (w':=w) ?_ hcs (fun φ' x w'' h1 h2 h3=>k φ' x w'' a.defers h1 h2 h3 (hD.mono h1))
      simp [execOp,resolve,Deferred.ofValue,Act.eval,invoke,he]
     ·refine Oper.wp_value (x:=x) (w':=w') ?_ (k φ' x w' a.defers h1 h2 h3 (hD.mono h1))
      simp [execOp,resolve,Deferred.ofValue,Act.eval,invoke,he]
    ·cases hv
   ·
    rename_i g xs _ _
    split at hv
    ·rename_i f first cap hf
     split at hv
     ·rename_i u σ2 hcl
      simp only [Option.some.injEq,Prod.mk.injEq] at hv
      obtain ⟨rfl,rfl,rfl⟩:=hv
      have hcomp:∃ (y:Operand) (args:Array Operand), ∃ ats,op'=.call ⟨.value y,args,ats⟩ /\ opd P y=some g /\ opds P args.toList=some xs:=by
       cases op' with
       |call c =>
        obtain ⟨callee,args,ats⟩:=c
        cases callee with
        |value y =>
         simp only [compOp] at hc
         split at hc
         ·rename_i ys hys
          split at hc
          ·cases hc
          ·split at hc
           ·rename_i z hz;cases hc;exact ⟨y,args,ats,rfl,hz,hys⟩
           ·cases hc
         ·cases hc
        |invoke r m=>simp [compOp] at hc
        |builtin b=>simp only [compOp] at hc;exact (cBuiltin_no (.inr (.inl ⟨g,xs,rfl⟩)) hc).elim
       |defer c =>
        obtain ⟨callee,args,ats⟩:=c
        cases callee with
        |value f =>
         simp only [compOp] at hc
         split at hc
         ·split at hc
          ·cases hc
          ·split at hc <;> cases hc
         ·cases hc
        |invoke r m=>simp [compOp] at hc
        |builtin b=>simp [compOp] at hc
       |_=>exact (compOp_no (.inr (.inl ⟨g,xs,rfl⟩)) (by simp) (by simp) hc).elim
      obtain ⟨y,args,ats,rfl,hy,hxs⟩:=hcomp
      have hr0:=opd_rel (tm:=tm) (a:=a) hG hy hT.left
      have hr:=opds_rel (tm:=tm) (a:=a) hG hxs hT.right
      rw [hf] at hr0
      obtain ⟨F,C,hF,hrF,hrC⟩:=hr0
      have hr':LR φ (first++xs.map (·.eval tm)++cap) (F++args.map a.eval++C).toList:=by
       simp only [Array.toList_append,Array.toList_map]
       exact LR.append (LR.append hrF hr) hrC
      rcases hcall.plain f _ σ _ _ hcl B w0 φ w _ hR hr' with ⟨he,hcs⟩ | ⟨x,w',φ',he,h1,h2,h3⟩
      ·refine Oper.wp_enter (g:=f) (args:=F++args.map a.eval++C) (w':=w) ?_ hcs (fun φ' x w'' h1 h2 h3=>k φ' x w'' a.defers h1 h2 h3 (hD.mono h1))
       simp only [execOp,resolve,Deferred.ofValue,hF,invoke,Sem.run_bind,Sem.run_pure,Result.andThen_ok]
       exact he
      ·refine Oper.wp_value (x:=x) (w':=w') ?_ (k φ' x w' a.defers h1 h2 h3 (hD.mono h1))
       simp only [execOp,resolve,Deferred.ofValue,hF,invoke,Sem.run_bind,Sem.run_pure,Result.andThen_ok]
       exact he
     ·cases hv
    ·cases hv
   ·
    rename_i g xs _ _
    simp only [Option.some.injEq,Prod.mk.injEq] at hv
    obtain ⟨rfl,rfl,rfl⟩:=hv
    have hcomp:∃ args:Array Operand, ∃ ats,op'=.defer ⟨.value (.func g),args,ats⟩ /\ opds P args.toList=some xs:=by
     cases op' with
     |defer c =>
      obtain ⟨callee,args,ats⟩:=c
      cases callee with
      |value f =>
       simp only [compOp] at hc
       split at hc
       ·rename_i ys hys
        split at hc
        ·cases hc;exact ⟨args,ats,rfl,hys⟩
        ·split at hc <;> cases hc
       ·cases hc
      |invoke r m=>simp [compOp] at hc
      |builtin b=>simp [compOp] at hc
     |call c =>
      obtain ⟨callee,args,ats⟩:=c
      cases callee with
      |value f =>
       simp only [compOp] at hc
       split at hc
       ·split at hc
        ·cases hc
        ·split at hc <;> cases hc
       ·cases hc
      |invoke r m=>simp [compOp] at hc
      |builtin b=>simp only [compOp] at hc;exact (cBuiltin_no (.inr (.inr (.inl ⟨g,xs,rfl⟩))) hc).elim
     |_=>exact (compOp_no (.inr (.inr (.inl ⟨g,xs,rfl⟩))) (by simp) (by simp) hc).elim
    obtain ⟨args,ats,rfl,hxs⟩:=hcomp
    have hr:=opds_rel (tm:=tm) (a:=a) hG hxs hT
    have hd:DR φ ((g,xs.map (·.eval tm)) :: ds) ({ target:=.fn (.func g) #[],args:=args.map a.eval } :: a.defers) :=
     ⟨#[],args.map a.eval,a.defers,rfl,by simpa using hr,hD⟩
    unfold Oper.wp
    have:(execOp a.eval ⟨dst,.defer ⟨.value (.func g),args,ats⟩,type,pos,after,guard⟩).run P w=.ok (.defer { target:=.fn (.func g) #[],args:=args.map a.eval }) w:=by
     simp [execOp,resolve,Deferred.ofValue,Act.eval]
    rw [this]
    exact k φ Go.undef w _ (Phi.le.refl _) hR VR.undef hd
   ·
    rename_i g xs _ _
    split at hv
    ·rename_i f first cap hf
     simp only [Option.some.injEq,Prod.mk.injEq] at hv
     obtain ⟨rfl,rfl,rfl⟩:=hv
     have hcomp:∃ (y:Operand) (args:Array Operand), ∃ ats,op'=.defer ⟨.value y,args,ats⟩ /\ opd P y=some g /\ opds P args.toList=some xs:=by
      cases op' with
      |defer c =>
       obtain ⟨callee,args,ats⟩:=c
       cases callee with
       |value y =>
        simp only [compOp] at hc
        split at hc
        ·rename_i ys hys
         split at hc
         ·cases hc
         ·split at hc
          ·rename_i z hz;cases hc;exact ⟨y,args,ats,rfl,hz,hys⟩
          ·cases hc
        ·cases hc
       |invoke r m=>simp [compOp] at hc
       |builtin b=>simp [compOp] at hc
      |call c =>
       obtain ⟨callee,args,ats⟩:=c
       cases callee with
       |value y =>
        simp only [compOp] at hc
        split at hc
        ·split at hc
         ·cases hc
         ·split at hc <;> cases hc
        ·cases hc
       |invoke r m=>simp [compOp] at hc
       |builtin b=>simp only [compOp] at hc;exact (cBuiltin_no (.inr (.inr (.inr ⟨g,xs,rfl⟩))) hc).elim
      |_=>exact (compOp_no (.inr (.inr (.inr ⟨g,xs,rfl⟩))) (by simp) (by simp) hc).elim
     obtain ⟨y,args,ats,rfl,hy,hxs⟩:=hcomp
     have hr0:=opd_rel (tm:=tm) (a:=a) hG hy hT.left
     have hr:=opds_rel (tm:=tm) (a:=a) hG hxs hT.right
     rw [hf] at hr0
     obtain ⟨F,C,hF,hrF,hrC⟩:=hr0
     have hd:DR φ ((f,first++xs.map (·.eval tm)++cap) :: ds) ({ target:=.fn (.func f) C,args:=F++args.map a.eval } :: a.defers) :=
      ⟨C,F++args.map a.eval,a.defers,rfl,by simp only [Array.toList_append,Array.toList_map];exact LR.append (LR.append hrF hr) hrC,hD⟩
     unfold Oper.wp
     have:(execOp a.eval ⟨dst,.defer ⟨.value y,args,ats⟩,type,pos,after,guard⟩).run P w=.ok (.defer { target:=.fn (.func f) C,args:=F++args.map a.eval }) w:=by
      simp [execOp,resolve,Deferred.ofValue,hF]
     rw [this]
     exact k φ Go.undef w _ (Phi.le.refl _) hR VR.undef hd
    ·cases hv
   ·rename_i op hn1 hn2 hn3 hn4
    split at hv
    ·rename_i u σ2 hw
     refine hwrite ?_ hw (by simpa using hv)
     exact writeOp_isWrite hw
    ·cases hv
theorem wanted_rel {n:Nat} {ops:Array Oper} {o:Oper} {ao:AOper} (hc:compOper P n ops o=some ao) (ht:∀ t∈(match ao.guard with | some (t,_)=>[t] | none=>[]),VR φ ((tm.get t).getD .undef) (a.tmps.getD t Go.undef)) :
  Region.wanted o (yielded ops a.tmps)=wantedA ao.guard tm:=by
 unfold compOper at hc
 split at hc
 ·split at hc
  ·cases hc
  ·split at hc
   ·rename_i hg
    cases hc
    simp [Region.wanted,hg,wantedA]
   ·rename_i j b hg
    split at hc
    ·rename_i t hj
     cases hc
     have hv:=ht t (by simp)
     simp only [Region.wanted,hg,wantedA,yielded,hj,Option.bind_some]
     have hval:∀ c,a.tmps[t]?=some (.bool c)↔tm.get t=some (.bool c):=by
      intro c
      constructor
      ·intro h
       have h1:a.tmps.getD t Go.undef=.bool c:=by rw [Array.getD_eq_getD_getElem?,h];rfl
       rw [h1] at hv
       cases htm:tm.get t with
       |none=>rw [htm] at hv;obtain ⟨C,hC,_⟩:=hv;cases hC
       |some u =>
        rw [htm] at hv
        simp only [Option.getD_some] at hv
        cases u with
        |bool d=>have:Value.bool c=Value.bool d:=hv;cases this;rfl
        |int k m=>cases hv
        |str s=>obtain ⟨bs,h,_⟩:=hv;cases h
        |ptr q=>cases q with | none=>cases hv | some q=>obtain ⟨_,_,_,h⟩:=hv;cases h
        |slice q l e=>cases q with | none=>cases hv.2 | some q=>(rcases hv with ⟨_,_,_,_,_,h,_⟩ | ⟨_,_,_,h⟩ <;> cases h)
        |map q=>cases q with | none=>cases hv | some q=>obtain ⟨_,_,_,h⟩:=hv;cases h
        |func f x y=>obtain ⟨_,_,h,_⟩:=hv;cases h
        |nilFunc=>cases hv
        |iface t v=>obtain ⟨_,h,_⟩:=hv;cases h
        |nilIface=>cases hv
        |agg cs=>obtain ⟨_,h,_⟩:=hv;cases h
        |tuple cs=>obtain ⟨_,h,_⟩:=hv;cases h
      ·intro h
       rw [h] at hv
       have hv:a.tmps.getD t Go.undef=.bool c:=hv
       rw [Array.getD_eq_getD_getElem?] at hv
       cases hq:a.tmps[t]? with
       |none=>rw [hq] at hv;simp [Go.undef] at hv
       |some u=>rw [hq] at hv;simp at hv;rw [hv]
     cases htm:tm.get t with
     |none =>
      have:∀ c,a.tmps[t]?≠some (.bool c):=fun c h=>by have:=(hval c).1 h;rw [htm] at this;cases this
      cases hq:a.tmps[t]? with
      |none=>simp
      |some u=>cases u <;> simp_all
     |some u =>
      cases u with
      |bool c=>rw [(hval c).2 htm];simp
      |_ =>
       have:∀ c,a.tmps[t]?≠some (.bool c):=fun c h=>by have:=(hval c).1 h;rw [htm] at this;cases this
       cases hq:a.tmps[t]? with
       |none=>simp
       |some u=>cases u <;> simp_all
    ·cases hc
 ·cases hc
end AM
namespace AM
open Go Go.RowKit
variable {P:Program} {φ:Phi} {tm:T V} {a:Act} {w:World} {w0:Base} {σ σ':St} {G B:Nat} {call:CallT}
theorem compOper_spec {n:Nat} {ops:Array Oper} {o:Oper} {ao:AOper} (hc:compOper P n ops o=some ao):compOp P o=some ao.op /\ ao.dst=o.dst /\ okDst n o.dst:=by
 unfold compOper at hc
 split at hc
 ·rename_i hd
  have hok:okDst n o.dst:=by
   intro t ht;rw [ht] at hd;simpa [dstOk] using hd
  split at hc
  ·cases hc
  ·rename_i op hop
   split at hc
   ·cases hc;exact ⟨hop,rfl,hok⟩
   ·split at hc
    ·cases hc;exact ⟨hop,rfl,hok⟩
    ·cases hc
 ·cases hc
theorem runOps_sound (hcall:CallSound P G call) (hGP:G=P.globals.size) {n:Nat} {ops:Array Oper}:∀ (l:List Oper) (al:List AOper),compOpers P n ops l=some al -> ∀ {fr fr':Fr} {σ σ':St},runOps call al fr σ=some (fr',σ') →
  ∀ {φ:Phi} {a:Act} {w:World},Rel G B w0 φ σ w -> FR n φ fr a -> ∀ {Q:Exit -> Act -> World -> Prop},(∀ φ' a' w',φ.le φ' -> Rel G B w0 φ' σ' w' -> FR n φ' fr' a' -> Q .normal a' w') -> wpList P ops Q l a w
 | [],al,hc,fr,fr',σ,σ',hr,φ,a,w,hR,hF,Q,hQ=>by
  simp [compOpers] at hc;subst hc
  simp [runOps] at hr;obtain ⟨rfl,rfl⟩:=hr
  exact hQ φ a w (Phi.le.refl _) hR hF
 |o :: r,al,hc,fr,fr',σ,σ',hr,φ,a,w,hR,hF,Q,hQ=>by
  simp only [compOpers] at hc
  split at hc
  ·rename_i ao al' ho hr'
   simp at hc;subst hc
   obtain ⟨h1,h2,h3⟩:=compOper_spec ho
   have hw:=wanted_rel (tm:=fr.tmps) (a:=a) ho (fun t _=>hF.ts t)
   simp only [runOps] at hr
   unfold wpList
   rw [hw]
   split at hr
   ·rename_i hwant
    rw [if_pos hwant]
    left
    split at hr
    ·rename_i v ds σ1 hev
     refine evalOp_sound hcall h1 hev hGP (hF.tr _) hF.ds hR ?_
     intro φ1 x w1 dfs hle hR1 hvx hds
     have hF1:=(hF.mono hle).put (d:=o.dst) h3 hvx hds
     rw [h2] at hr
     exact runOps_sound hcall hGP r al' hr' hr hR1 hF1 (fun φ' a' w' hle'=>hQ φ' a' w' (hle.trans hle'))
    ·cases hr
   ·rename_i hwant
    rw [if_neg hwant]
    have hF1:=hF.put (d:=o.dst) h3 VR.undef hF.ds
    rw [h2] at hr
    exact runOps_sound hcall hGP r al' hr' hr hR hF1 hQ
  ·cases hc
def toExit:Ex -> Exit
 | .normal=>.normal
 | .exit id=>.exit id
 | .goto l=>.goto l
 | .ret=>.ret
def OkB (b:Frame) (cs:List Frame):Prop:=∀ fr:Frame,fr.kind=b.kind -> tryRecover fr cs=none
def Come (P:Program) (G B:Nat) (w0:Base) (n:Nat) (φ:Phi) (ex:Ex) (fr':Fr) (σ':St) (m:Machine) (b:Frame) (k:List Item) (cs:List Frame):Prop :=
 ∃ a' w' φ',φ.le φ' /\ Rel G B w0 φ' σ' w' /\ FR n φ' fr' a' /\ Arrives P m b k cs (toExit ex) a' w'
theorem Come.of_steps {n:Nat} {ex:Ex} {fr':Fr} {m m1:Machine} {b:Frame} {k:List Item} {cs:List Frame} (h:Steps P m m1) (c:Come P G B w0 n φ ex fr' σ' m1 b k cs):Come P G B w0 n φ ex fr' σ' m b k cs:=by
 obtain ⟨a',w',φ',h1,h2,h3,h4⟩:=c
 exact ⟨a',w',φ',h1,h2,h3,Arrives.of_steps h h4⟩
theorem Come.mono {n:Nat} {ψ:Phi} {ex:Ex} {fr':Fr} {m:Machine} {b:Frame} {k:List Item} {cs:List Frame} (h:φ.le ψ) (c:Come P G B w0 n ψ ex fr' σ' m b k cs):Come P G B w0 n φ ex fr' σ' m b k cs:=by
 obtain ⟨a',w',φ',h1,h2⟩:=c
 exact ⟨a',w',φ',h.trans h1,h2⟩
theorem Come.pass {n:Nat} {ex:Ex} {fr':Fr} {m:Machine} {b:Frame} {x:Item} {k:List Item} {cs:List Frame} (hx:x.plain=true) (hne:ex≠.normal) (c:Come P G B w0 n φ ex fr' σ' m b (x :: k) cs):Come P G B w0 n φ ex fr' σ' m b k cs:=by
 obtain ⟨a',w',φ',h1,h2,h3,h4⟩:=c
 exact ⟨a',w',φ',h1,h2,h3,Arrives.pass hx (fun _ _=>.inl (by cases ex <;> simp_all [toExit])) h4⟩
theorem come_of_wp {n:Nat} {c:Code} {fr':Fr} (h:c.wp P (fun e a' w'=>e=.normal /\ ∃ φ',φ.le φ' /\ Rel G B w0 φ' σ' w' /\ FR n φ' fr' a') a w) (b:Frame) (k:List Item) (cs:List Frame) :
  Come P G B w0 n φ .normal fr' σ' (lone (b.at a (.code c :: k)) cs w) b k cs:=by
 obtain ⟨e,a',w',⟨rfl,φ',h1,h2,h3⟩,h4⟩:=h b k cs
 exact ⟨a',w',φ',h1,h2,h3,h4⟩
theorem findLabel_comp (n:Nat):∀ (c:Code) (l:Nat),findLabel (comp P n c) l=(Go.findLabel c l).map (comp P n)
 | .seq x y,l=>by
  simp only [comp,findLabel,Go.findLabel,findLabel_comp n x l,findLabel_comp n y l]
  cases Go.findLabel x l <;> simp [comp]
 | .label l',l=>by simp only [comp,findLabel,Go.findLabel];split <;> simp [comp]
 | .region id ops d,l=>by
  simp only [comp,Go.findLabel]
  repeat' (split)
  all_goals simp [findLabel]
 | .cond c x y,l=>by simp only [comp,Go.findLabel];split <;> simp [findLabel]
 | .skip,l | .block _ _,l | .loop _,l | .rangeFunc ..,l | .exit _,l | .scope _,l | .goto _,l | .ret,l | .refuse _,l=>by simp [comp,findLabel,Go.findLabel]
end AM
