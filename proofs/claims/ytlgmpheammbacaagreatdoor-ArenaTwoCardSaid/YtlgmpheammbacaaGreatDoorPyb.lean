import Derived.Test.YtlgmpheammbacaaGreatDoorPya
import Derived.IntWalk
set_option linter.all false
namespace AM
open Go Go.RowKit
variable {P:Program} {φ:TF} {tm:T V} {a:Act} {w:World}
def Dw(P:Program)(a:Act)(o:Oper)(φ:TF)(v:V)(w:World):Prop:=
 ∃x,(execOp a.eval o).run P w=.ok (.value x) w∧VR φ v x
def Sm(P:Program)(t:TypeId)(x y:Operand):Ek->Prop
 | .bool=>P.underlying t=some .bool
 | .ptr=>∃e,P.underlying t=some (.pointer e)
 | .slice=>∃e,P.underlying t=some (.slice e)
 | .map=>∃k e,P.underlying t=some (.map k e)
 | .func=>∃ps a v,P.underlying t=some (.func ps a v)
 | .iface=>(∃ms,P.underlying t=some (.interface ms))∧(YP x ||YP y)=true
def Il{t:TypeId}{x y:Operand}{k:Ek}(h:Nq P t x y=some k):Sm P t x y k:=by
 unfold Nq at h;split at h
 .rename_i hu;cases h;exact hu
 .rename_i e hu;cases h;exact⟨e,hu⟩
 .rename_i e hu;cases h;exact⟨e,hu⟩
 .rename_i k e hu;cases h;exact⟨k,e,hu⟩
 .rename_i b c v hu;cases h;exact⟨b,c,v,hu⟩
 .rename_i ms hu;split at h
  .rename_i a;cases h;exact⟨⟨ms,hu⟩,a⟩
  cases h
 cases h
def pL(op:BinOp)(t:TypeId)(x y:Operand)(X Y:Value)(a:∀c,X≠.agg c)(b:X=.nilIface->Y=.nilIface->(YP x ||YP y)=true):
  (eqGuard op t x y X Y).run P w=.ok () w:=by
 unfold eqGuard;cases X <;> cases Y <;> (try (cases op <;> simp;done)) <;> (try (exact(a _ rfl).elim))
 have d:=b rfl rfl;cases op <;> cases x <;> cases y <;> simp_all[YP]
def qj{t:TypeId}{X Y:Value}{r:Bool}{op:BinOp}(a:op=.eql∨op=.neq)(h:(Op.equal t X Y).run P w=.ok r w)(d:∀k n,X≠.int k n)(hs:∀s,X≠.string s)(f:∀k b,X≠.float k b)(e:∀k b c,X≠.complex k b c):
  (Go.binOp op t X Y).run P w=.ok (.bool (if(op == .neq)then !r else r)) w:=by
 rcases a with rfl|rfl
 .unfold Go.binOp;split <;> simp_all
 unfold Go.binOp;split <;> simp_all
def Q3{op:BinOp}(i:op=.eql∨op=.neq){t:TypeId}{x y:Operand}{k:Ek}(I:Nq P t x y=some k){u v:V}{X Y:Value}{r:Bool}(h:Y4 k u v=some r)(hx:VR φ u X)(hy:VR φ v Y):
  (do eqGuard op t x y X Y;Go.binOp op t X Y:Sem Value).run P w=.ok (.bool (if(op == .neq)then !r else r)) w:=by
 have hs:=Il I;have a:(∀c,X≠.agg c)->(X=.nilIface->Y=.nilIface->(YP x ||YP y)=true)->(∀d,(Op.equalIn (d+1) t X Y).run P w=.ok r w) →
   (∀k n,X≠.int k n)->(∀s,X≠.string s)->(∀k b,X≠.float k b)->(∀k b c,X≠.complex k b c) →
   (do eqGuard op t x y X Y;Go.binOp op t X Y:Sem Value).run P w=.ok (.bool (if(op == .neq)then !r else r)) w:=by
  intro B C D E F G H;simp only[Wn,pL op t x y X Y B C,VQ];exact qj i (D 9999) E F G H
 unfold Y4 at h;split at h
 .rename_i p q;have hx:X=.bool p:=hx;have hy:Y=.bool q:=hy;subst hx;subst hy;simp at h;subst h;have hs:P.underlying t=some .bool:=hs;exact a acI acI (fun d=>by simp[Op.equalIn,ak hs]) acI acI acI acI
 .rename_i q;obtain⟨e,hs⟩:=hs;have hx:X=.pointer none:=hx;subst hx;simp at h;subst h;cases q with
  |none=>have hy:Y=.pointer none:=hy;subst hy;exact a acI acI (fun d=>by simp[Op.equalIn,ak hs]) acI acI acI acI
  |some q=>obtain⟨b,n,_,hy⟩:=hy;subst hy;exact a acI acI (fun d=>by simp[Op.equalIn,ak hs]) acI acI acI acI
 .rename_i p;obtain⟨e,hs⟩:=hs;obtain⟨b,n,_,hx⟩:=hx;have hy:Y=.pointer none:=hy;subst hx;subst hy;simp at h;subst h;exact a acI acI (fun d=>by simp[Op.equalIn,ak hs]) acI acI acI acI
 .rename_i q N M;obtain⟨e,hs⟩:=hs;obtain⟨_,hx⟩:=hx;subst hx;simp at h;subst h;cases q with
  |none=>obtain⟨_,hy⟩:=hy;subst hy;exact a acI acI (fun d=>by simp[Op.equalIn,ak hs]) acI acI acI acI
  |some q=>
   rcases hy with⟨b,n,K,f,_,hy,_⟩|⟨_,_,A,hy⟩
   .subst hy;exact a acI acI (fun d=>by simp[Op.equalIn,ak hs]) acI acI acI acI
   subst hy;exact a acI acI (fun d=>by simp[Op.equalIn,ak hs]) acI acI acI acI
 .obtain⟨e,hs⟩:=hs;obtain⟨_,hy⟩:=hy;rcases hx with⟨b,n,K,f,_,hx,_⟩|⟨_,_,A,hx⟩
  .subst hx;subst hy;simp at h;subst h;exact a acI acI (fun d=>by simp[Op.equalIn,ak hs]) acI acI acI acI
  subst hx;subst hy;simp at h;subst h;exact a acI acI (fun d=>by simp[Op.equalIn,ak hs]) acI acI acI acI
 .rename_i q;obtain⟨J,e,hs⟩:=hs;have hx:X=.map none:=hx;subst hx;simp at h;subst h;cases q with
  |none=>have hy:Y=.map none:=hy;subst hy;exact a acI acI (fun d=>by simp[Op.equalIn,ak hs]) acI acI acI acI
  |some q=>obtain⟨b,n,_,hy⟩:=hy;subst hy;exact a acI acI (fun d=>by simp[Op.equalIn,ak hs]) acI acI acI acI
 .obtain⟨J,e,hs⟩:=hs;obtain⟨b,n,_,hx⟩:=hx;have hy:Y=.map none:=hy;subst hx;subst hy;simp at h;subst h;exact a acI acI (fun d=>by simp[Op.equalIn,ak hs]) acI acI acI acI
 .obtain⟨j,l,m,hs⟩:=hs;have hx:X=.nilFunc:=hx;have hy:Y=.nilFunc:=hy;subst hx;subst hy;simp at h;subst h;exact a acI acI (fun d=>by simp[Op.equalIn,ak hs]) acI acI acI acI
 .obtain⟨j,l,m,hs⟩:=hs;have hx:X=.nilFunc:=hx;obtain⟨z,o,hy,_⟩:=hy;subst hx;subst hy;simp at h;subst h;exact a acI acI (fun d=>by simp[Op.equalIn,ak hs]) acI acI acI acI
 .obtain⟨j,l,m,hs⟩:=hs;have hy:Y=.nilFunc:=hy;obtain⟨z,o,hx,_⟩:=hx;subst hx;subst hy;simp at h;subst h;exact a acI acI (fun d=>by simp[Op.equalIn,ak hs]) acI acI acI acI
 .obtain⟨⟨ms,hs⟩,g⟩:=hs;have hx:X=.nilIface:=hx;have hy:Y=.nilIface:=hy;subst hx;subst hy;simp at h;subst h;exact a acI (fun _ _=>g) (fun d=>by simp[Op.equalIn,ak hs]) acI acI acI acI
 .obtain⟨⟨ms,hs⟩,g⟩:=hs;have hx:X=.nilIface:=hx;obtain⟨L,hy,_⟩:=hy;subst hx;subst hy;simp at h;subst h;exact a acI acI (fun d=>by simp[Op.equalIn,ak hs]) acI acI acI acI
 .obtain⟨⟨ms,hs⟩,g⟩:=hs;have hy:Y=.nilIface:=hy;obtain⟨L,hx,_⟩:=hx;subst hx;subst hy;simp at h;subst h;exact a acI acI (fun d=>by simp[Op.equalIn,ak hs]) acI acI acI acI
 cases h
def sR{x:V}{X:Value}{y a n:Nat}(h:lI x y=some n)(hx:VR φ x X)(hy:y≤a)(c:BoundsCode):(Instr.sliceBound X a c).run P w=.ok n w∧n≤y:=by
 unfold lI at h;split at h
 .rename_i k i;have hx:X=.int k i:=hx;subst hx;split at h
  .rename_i b;simp at h;subst h;refine⟨?_,Q⟩;simp only[Instr.sliceBound,asIntOf,pure_bind];rw[Ti ⟨b.1,Q⟩];rfl
  cases h
 cases h
def OR(φ:TF)(x:Option V)(X:Option Value):Prop:=(x=none∧X=none)∨∃u U,x=some u∧X=some U∧VR φ u U
def mN{lo hi:Option V}{f p:Option Value}{len c cap' l h:Nat}(q:c≤cap')(i:sliceB lo hi len c=some (l,h))(o:OR φ lo f)(m:OR φ hi p)(b:Bool):
  (Instr.sliceBounds b len cap' f p none).run P w=.ok (l,h,cap') w∧l≤h∧(h≤c∨h=len):=by
 have YQ:∀{g:Nat},XW lo g=some (l,h)->h=g∧l≤h∧∀w:World,
   (match f with|some v=>Instr.sliceBound v g .sliceB|none=>(pure 0:Sem Nat)).run P w=.ok l w:=by
  intro g d;rcases o with⟨rfl,rfl⟩|⟨u,U,rfl,rfl,hu⟩
  .simp[XW]at d;obtain⟨rfl,rfl⟩:=d;exact⟨rfl,Q,fun w=>rfl⟩
  simp only[XW]at d;split at d
  .rename_i r j;simp at d;obtain⟨rfl,rfl⟩:=d;have:=sR (P:=P) (w:=w) j hu (Tx _) .sliceB;exact⟨rfl,this.2,fun w=>(sR (P:=P) (w:=w) j hu (Tx _) .sliceB).1⟩
  cases d
 rcases m with⟨rfl,rfl⟩|⟨u,U,rfl,rfl,hu⟩
 .obtain⟨rfl,n,a⟩:=YQ i;refine⟨?_,n,.inr rfl⟩;have:=a w;cases f <;> simp_all[Instr.sliceBounds]
 simp only[sliceB]at i;split at i
 .cases i
 rename_i g k;obtain⟨rfl,n,a⟩:=YQ i;have e:=sR (P:=P) (w:=w) k hu q (if b then .sliceAcap else .sliceAlen);refine⟨?_,n,.inl e.2⟩;have:=a w;cases f <;> simp_all[Instr.sliceBounds]
end AM
namespace AM
open Go Go.RowKit
variable {P:Program} {φ:TF} {tm:T V} {a:Act} {w:World}
def Bt(b:Bool):∀{l:List V} {L:List Value} {x v:V} {X:Value},LR φ l L->VR φ x X->kS b x l=some v →
  ∃Y,((L.foldlM (if b then Builtin.max2 else Builtin.min2) X:Sem Value)).run P w=.ok Y w∧VR φ v Y
 | [],L,x,v,X,hl,hx,h=>by cases hl;simp[kS]at h;subst h;exact⟨X,rfl,hx⟩
 |y ::r,L,x,v,X,⟨Y,s,hL,hy,hr⟩,hx,h=>by
  subst hL;unfold kS at h;split at h
  .rename_i a;cases a
  .rename_i k p f q g a;simp at a;obtain⟨rfl,rfl⟩:=a;have hx:X=.int k p:=hx;have hy:Y=.int f q:=hy;subst hx;subst hy;split at h
   .rename_i d;subst d;obtain⟨Z,c,e⟩:=Bt b hr (x:=.int k (if b then(if q > p then q else p)else(if q<p then q else p))) (X:=.int k (if b then(if q > p then q else p)else(if q<p then q else p))) rfl h;refine⟨Z,?_,e⟩;cases b <;> simpa [List.foldlM_cons,Builtin.max2,Builtin.min2]using c
   cases h
  cases h
def Cs{t:TypeId}{g:Bool}{n off:Nat}(hg:uE P t=some g)(hn:iu P t=some n){cs:List V}{C:Array Value}(a:LR φ cs C.toList){v:V}(h:(if g then(if off+n≤cs.length then some (.agg ((cs.drop off).take n))else none)else cs[off]?)=some v):∃X,(part t C off).run P w=.ok X w∧VR φ v X:=by
 cases g with
 |true=>
  simp only[TT]at h;split at h
  .simp at h;subst h;refine⟨.agg (C.extract off (off+n)),by simp[part,ia hg,cG hn],VR.agg ?_⟩;have:=LR.take n (LR.drop off a)
   simpa [abW,abZ]using this
  cases h
 |false=>
  simp only[U5,Ul]at h;obtain⟨X,b,c⟩:=a.get off v h;exact⟨X,nX hg (by simpa using b),c⟩
def oz(b o n:Nat):(⟨b,o,none⟩:Addr).add n=⟨b,o+n,none⟩:=jg b o n
def tJ(f:Field->Sem (Nat×Nat))(g:Field->Nat×Nat):∀(a:List Field),(∀x∈a, ∀w,(f x).run P w=.ok (g x) w)->∀w,(a.mapM f).run P w=.ok (a.map g) w
 | [],h,w=>by simp
 |x ::r,h,w=>by simp only[List.mapM_cons,Wn,h x Y w,VQ,tJ f g r (fun y hy=>h y (by simp[hy])) w,Ys,Xr]
def AZ(f:Field->Sem (Nat×Nat))(g:Field->Nat×Nat)(a:Array Field)(h:∀x∈a.toList, ∀w,(f x).run P w=.ok (g x) w)(w:World):(a.mapM f).run P w=.ok (a.map g) w:=by rw[Array.mapM_eq_mapM_toList];simp only[Sem.run_map,tJ f g a.toList h w,VQ];congr 1;apply Array.ext';simp
def E8{p q:Nat->Option (Nat×Nat)}(h:∀i,p i=q i)(C:Array Value)(l:List (Nat×Value)):Instr.fill p C l=Instr.fill q C l:=by have:p=q:=funext h;rw[this]
def Aq{dst:Option Tmp}{type:TypeId}{pos:String}{after:Array Edge}{guard:Option (Nat×Bool)}{b:Builtin}{args:Array Operand}{h:Array TypeId}{op:TL}{v:V}(c:iJ P b h args.toList=some op)(hp:cD op=true)(hv:cN op tm=some v)(k:GR P φ)(o:TR φ tm a op.tmps):
  Dw P a ⟨dst,.call ⟨.builtin b,args,h⟩,type,pos,after,guard⟩ φ v w:=by
 obtain⟨args⟩:=args;simp only at c;unfold iJ at c;split at c
 .rename_i t x d;split at c
  .rename_i n e hu;cases c;simp[cN]at hv;subst hv;exact⟨.int .i64 n,by simp[execOp,resolve,invoke,builtin,Builtin.len_,d,ak hu,goInt],rfl⟩
  .rename_i e y hu hy;cases c;have r:=bE (tm:=tm) (a:=a) k hy o;simp only[cN]at hv;split at hv
   .rename_i z n D B;simp at hv;subst hv;rw[B]at r;cases z with
    |none=>
     obtain⟨j,hx⟩:=r;subst j;exact⟨.int .i64 (0:Nat),by simp[execOp,resolve,invoke,builtin,Builtin.len_,d,ak hu,goInt,hx],rfl⟩
    |some q=>
     rcases r with⟨b,m,F,A,E,hx,_⟩|⟨j,_,z,hx⟩
     .exact⟨.int .i64 n,by simp[execOp,resolve,invoke,builtin,Builtin.len_,d,ak hu,goInt,hx],rfl⟩
     subst j;exact⟨.int .i64 (0:Nat),by simp[execOp,resolve,invoke,builtin,Builtin.len_,d,ak hu,goInt,hx],rfl⟩
   cases hv
  .cases c;simp[cD]at hp
  cases c
 .split at c
  .split at c
   .split at c
    .split at c <;> cases c <;> simp[cD]at hp
    cases c
   cases c
  cases c
 .split at c
  .split at c <;> cases c;simp[cD]at hp
  cases c
 .split at c
  .split at c <;> cases c;simp[cD]at hp
  .cases c;simp[cD]at hp
  cases c
 .split at c
  .rename_i l p;cases c;have r:=jo (tm:=tm) (a:=a) k p o;simp only[cN]at hv;split at hv
   .cases hv
   rename_i y C g;rw[g]at r;obtain⟨Y,s,hs,hy,u⟩:=r;obtain⟨Z,i,f⟩:=Bt (P:=P) (w:=w) true u hy hv;refine⟨Z,?_,f⟩;simp only[TT]at i;simp[execOp,resolve,invoke,builtin,Builtin.max_,hs,i]
  cases c
 .split at c
  .rename_i l p;cases c;have r:=jo (tm:=tm) (a:=a) k p o;simp only[cN]at hv;split at hv
   .cases hv
   rename_i y C g;rw[g]at r;obtain⟨Y,s,hs,hy,u⟩:=r;obtain⟨Z,i,f⟩:=Bt (P:=P) (w:=w) false u hy hv;refine⟨Z,?_,f⟩;simp only[U5,Ul]at i;simp[execOp,resolve,invoke,builtin,Builtin.min_,hs,i]
  cases c
 .split at c
  .split at c <;> cases c;simp[cD]at hp
  cases c
 cases c
def Ep{o:Oper}{op:TL}{v:V}(A:aN P o=some op)(hp:cD op=true)(hv:cN op tm=some v)(E:GR P φ)(B:TR φ tm a op.tmps):Dw P a o φ v w:=by
 obtain⟨dst,bT,bY,pos,ba,guard⟩:=o;unfold Dw;cases bT with
 |move x=>
  simp only[aN]at A;split at A
  .rename_i y hy;cases A;simp[cN]at hv;subst hv;exact⟨_,rfl,bE E hy B⟩
  cases A
 |assign x=>
  simp only[aN]at A;split at A
  .rename_i y hy;cases A;simp[cN]at hv;subst hv;exact⟨_,rfl,bE E hy B⟩
  cases A
 |pick c x y=>
  simp only[aN]at A;split at A
  .rename_i c' x' y' K N h3;cases A;have F:=bE (tm:=tm) (a:=a) E K B.left.left;have G:=bE (tm:=tm) (a:=a) E N B.left.right;have r3:=bE (tm:=tm) (a:=a) E h3 B.right;simp only[cN]at hv;split at hv
   .rename_i t ht;rw[ht]at F;have F:a.eval c=.bool t:=F;simp at hv;subst hv;cases t
    .exact⟨_,by simp[execOp,asBool,F],r3⟩
    exact⟨_,by simp[execOp,asBool,F],G⟩
   cases hv
  cases A
 |build t ps=>
  simp only[aN]at A;split at A
  .rename_i z fs hz hu;split at A
   .rename_i l hl;split at A
    .rename_i bw;cases A;have ar:=oV (tm:=tm) (a:=a) E hl B;simp only[cN]at hv;split at hv
     .rename_i cs al;simp at hv;subst hv;obtain⟨X,hX,I,hs,bi⟩:=gC hz;obtain⟨D,hD,ah⟩:=qI ar (I φ) al;refine⟨.agg D,?_,VR.agg ah⟩;have ag:∀f∈fs.toList, ∃n,iu P f.type=some n:=by intro f hf;have:=Array.all_eq_true_iff_forall_mem.1 bw f (by simpa using hf);exact Option.isSome_iff_exists.1 this
      have hm:=AZ (P:=P) (fun f:Field=>do pure (f.offset, <- Go.sizeOf f.type)) (fun f:Field=>(f.offset,(iu P f.type).getD 0)) fs (fun f hf w=>by
       obtain⟨n,hn⟩:=ag f hf;simp[cG hn,hn]) w
      have bS:∀i:Nat,(fs.map fun f:Field=>(f.offset,(iu P f.type).getD 0))[i]?=(match fs[i]? with|some f=>(match iu P (Field.type f)with|some s=>some (Field.offset f,s)|none=>none)|none=>none):=by
       intro i;rw[Array.getElem?_map];cases bv:fs[i]? with
       |none=>rfl
       |some f=>
        obtain⟨n,hn⟩:=ag f (by have:=Array.mem_of_getElem? bv;simpa using this);simp[hn]
      have bd:=(E8 bS X.cells (ps.toList.map fun p=>(p.1,a.eval p.2))).trans hD;simp only[execOp,Instr.build,Wn,hX,VQ,ak hu,hm,aau];rw[bd];rfl
     cases hv
    cases A
   cases A
  .rename_i z n e hz hu;split at A
   .rename_i s hs;split at A
    .rename_i l hl;cases A;have ar:=oV (tm:=tm) (a:=a) E hl B;simp only[cN]at hv;split at hv
     .rename_i cs al;simp at hv;subst hv;obtain⟨X,hX,I,b2,bi⟩:=gC hz;obtain⟨D,hD,ah⟩:=qI ar (I φ) al;refine⟨.agg D,?_,VR.agg ah⟩;simp only[execOp,Instr.build,Wn,hX,VQ,ak hu,cG hs,aau];rw[hD];rfl
     cases hv
    cases A
   cases A
  cases A
 |nilCheck x=>
  simp only[aN]at A;split at A
  .rename_i y hy;cases A;have r:=bE (tm:=tm) (a:=a) E hy B;simp only[cN]at hv;split at hv
   .rename_i q hq;simp at hv;subst hv;rw[hq]at r;obtain⟨b,n,T,hx⟩:=r;exact⟨a.eval x,by simp[execOp,hx],b,n,T,hx⟩
   .rename_i f x' c' hq;simp at hv;subst hv;rw[hq]at r;obtain⟨X,C,hx,I⟩:=r;exact⟨a.eval x,by simp[execOp,hx],X,C,hx,I⟩
   cases hv
  cases A
 |binOp R t x y yt=>
  simp only[aN,Ea]at A;split at A
  .rename_i x' y' K N;split at A
   .rename_i k hu;cases A;have F:=bE (tm:=tm) (a:=a) E K B.left;have G:=bE (tm:=tm) (a:=a) E N B.right;simp only[cN]at hv;obtain⟨Z,hZ,I⟩:=NJ (P:=P) (w:=w) (t:=t) hv F G;refine⟨Z,?_,I⟩;have hg:(eqGuard R t x y (a.eval x) (a.eval y)).run P w=.ok () w:=by
     unfold UU at hv;split at hv
     .rename_i k1 n1 k2 n2 S W;rw[S]at F;rw[W]at G;have F:a.eval x=.int k1 n1:=F;refine pL R t x y _ _ (by rw[F];simp) (by rw[F];simp)
     cases hv
    simp[execOp,hg,hZ]
   .rename_i fs hu;split at A
    .rename_i J;split at A
     .rename_i ks hk;cases A;have F:=bE (tm:=tm) (a:=a) E K B.left;have G:=bE (tm:=tm) (a:=a) E N B.right;simp only[cN]at hv;split at hv
      .rename_i xs ys S W;rw[S]at F;rw[W]at G;obtain⟨C,O,ax⟩:=F;obtain⟨D,hD,ay⟩:=G;split at hv
       .rename_i r I;simp only[TC]at hv;subst hv;have he:=Gl (w:=w) hk ax ay I;have hg:(eqGuard R t x y (a.eval x) (a.eval y)).run P w=.ok () w:=by rw[O,hD];exact run_eqGuard_agg w R t x y C D J.2
        have T:=qj (op:=R) (P:=P) (w:=w) (t:=t) (X:=a.eval x) (Y:=a.eval y) J.1 (by rw[O,hD];exact he) (by rw[O];simp) (by rw[O];simp) (by rw[O];simp) (by rw[O];simp);refine⟨_,?_,rfl⟩;simp only[execOp,Wn,hg,VQ,T];rfl
       cases hv
      cases hv
     cases A
    cases A
   .rename_i n e hu;split at A
    .rename_i J;split at A
     .rename_i ks hk;cases A;have F:=bE (tm:=tm) (a:=a) E K B.left;have G:=bE (tm:=tm) (a:=a) E N B.right;simp only[cN]at hv;split at hv
      .rename_i xs ys S W;rw[S]at F;rw[W]at G;obtain⟨C,O,ax⟩:=F;obtain⟨D,hD,ay⟩:=G;split at hv
       .rename_i r I;simp only[TC]at hv;subst hv;have he:=Gl (w:=w) hk ax ay I;have hg:(eqGuard R t x y (a.eval x) (a.eval y)).run P w=.ok () w:=by rw[O,hD];exact run_eqGuard_agg w R t x y C D J.2
        have T:=qj (op:=R) (P:=P) (w:=w) (t:=t) (X:=a.eval x) (Y:=a.eval y) J.1 (by rw[O,hD];exact he) (by rw[O];simp) (by rw[O];simp) (by rw[O];simp) (by rw[O];simp);refine⟨_,?_,rfl⟩;simp only[execOp,Wn,hg,VQ,T];rfl
       cases hv
      cases hv
     cases A
    cases A
   split at A
   .rename_i bN;split at A
    .rename_i k hk;cases A;have F:=bE (tm:=tm) (a:=a) E K B.left;have G:=bE (tm:=tm) (a:=a) E N B.right;simp only[cN]at hv;split at hv
     .rename_i r I;simp only[TC]at hv;subst hv;have:=Q3 (w:=w) bN hk I F G;refine⟨_,?_,rfl⟩;simp only[Wn]at this;simp only[execOp,Wn,this,VQ];rfl
     cases hv
    cases A
   cases A
  cases A
 |unOp u t x=>
  simp only[aN]at A;split at A
  .rename_i y hy;cases A;have r:=bE (tm:=tm) (a:=a) E hy B;simp only[cN]at hv;split at hv
   .rename_i k n e;rw[e]at r;have r:a.eval x=.int k n:=r;simp at hv;subst hv;exact⟨_,by simp[execOp,Op.unary,Op.intArith,r],rfl⟩
   cases hv
  .rename_i y hy;cases A;have r:=bE (tm:=tm) (a:=a) E hy B;simp only[cN]at hv;split at hv
   .rename_i b e;rw[e]at r;have r:a.eval x=.bool b:=r;simp at hv;subst hv;exact⟨_,by simp[execOp,Op.unary,r],rfl⟩
   cases hv
  .rename_i y hy;cases A;have r:=bE (tm:=tm) (a:=a) E hy B;simp only[cN]at hv;split at hv
   .rename_i k n e;rw[e]at r;have r:a.eval x=.int k n:=r;simp[mj]at hv;subst hv;refine⟨_,?_,rfl⟩;cases hs:k.signed <;> simp[execOp,Op.unary,Op.intBits,r,hs] <;> rfl
   cases hv
  cases A
 |convert s d x=>
  simp only[aN]at A;split at A
  .rename_i k1 k2 y hs hd hy;cases A;have r:=bE (tm:=tm) (a:=a) E hy B;simp only[cN]at hv;split at hv
   .rename_i k n e;rw[e]at r;have r:a.eval x=.int k n:=r;simp at hv;subst hv;exact⟨_,by simp[execOp,convert,Conv.intToInt,ak hs,ak hd,r],rfl⟩
   cases hv
  cases A
 |slice t x lo hi mx=>
  simp only[aN,qd]at A;split at A
  .cases A
  rename_i ap;have ap:mx=none:=by simpa using ap
  subst ap;split at A
  .rename_i x' aB am K N h3;have o2:∀{l:List Nat},TR φ tm a (l++oD aB++oD am)->OR φ (aB.map (·.eval tm)) (lo.map a.eval):=by
    intro l hl;rcases qY (tm:=tm) (a:=a) E N hl.left.right with⟨rfl,rfl⟩|⟨u,v,rfl,rfl,I⟩
    .exact .inl ⟨rfl,rfl⟩
    exact .inr ⟨_,_,rfl,rfl,I⟩
   have o3:∀{l:List Nat},TR φ tm a (l++oD aB++oD am)->OR φ (am.map (·.eval tm)) (hi.map a.eval):=by
    intro l hl;rcases qY (tm:=tm) (a:=a) E h3 hl.right with⟨rfl,rfl⟩|⟨u,v,rfl,rfl,I⟩
    .exact .inl ⟨rfl,rfl⟩
    exact .inr ⟨_,_,rfl,rfl,I⟩
   split at A
   .rename_i n e hu;split at A
    .rename_i s hs;cases A;simp[cD]at hp
    cases A
   .rename_i e hu;split at A
    .rename_i s hs;cases A;have r:=bE (tm:=tm) (a:=a) E K B.left.left;simp only[cN]at hv;split at hv
     .rename_i ad len e' S;rw[S]at r;split at hv
      .rename_i l h as;split at hv
       .simp at hv;subst hv;obtain⟨ao,hx⟩:=r;subst ao;obtain⟨L,aS,hh⟩:=mN (P:=P) (w:=w) (cap':=0) (Tx _) as (o2 B) (o3 B) true;have h0:h=0:=Q;have l0:l=0:=Q;subst h0;subst l0;refine⟨.slice none 0 0,?_,rfl,rfl⟩;simp[execOp,Instr.sliceAt,Instr.slice,ak hu,hx,L,cG hs]
       rename_i id ac;split at hv
       .rename_i he;subst he;simp at hv;subst hv;rcases r with⟨b,n,o',H,T,hx,aP,aL,ho⟩|⟨ao,b1,ad,hx⟩
        .obtain⟨L,aS,hh⟩:=mN (P:=P) (w:=w) aP as (o2 B) (o3 B) true;have b0:h≤len:=Q;by_cases aJ:H=l
         .subst aJ;refine⟨.slice (some ⟨b,o',none⟩) (h-H) (H-H),?_,.inl ⟨b,n,o',H-H,T,rfl,Q,?_,?_⟩⟩
          .simp[execOp,Instr.sliceAt,Instr.slice,ak hu,hx,L,cG hs]
          .have:H-H=0:=Q;rw[this];omega
          right;omega
         refine⟨.slice (some ⟨b,o'+l*e',none⟩) (h-l) (H-l),?_,.inl ⟨b,n,o'+l*e',H-l,T,rfl,Q,?_,?_⟩⟩
         .simp[execOp,Instr.sliceAt,Instr.slice,ak hu,hx,L,cG hs,aJ,oz]
         .have:l*e'+(H-l)*e'=H*e':=by rw[<- UW];congr 1;omega
          omega
         left;rcases ho with rfl|⟨rfl,rfl⟩
         .rfl
         omega
        subst ao;obtain⟨L,aS,hh⟩:=mN (P:=P) (w:=w) (cap':=0) (Tx _) as (o2 B) (o3 B) true;have h0:h=0:=Q;have l0:l=0:=Q;subst h0;subst l0;refine⟨.slice (some ad) 0 0,?_,.inr ⟨rfl,Q,ad,rfl⟩⟩;simp[execOp,Instr.sliceAt,Instr.slice,ak hu,hx,L,cG hs]
       cases hv
      cases hv
     cases hv
    cases A
   cases A
  cases A
 |field t x i=>
  simp only[aN]at A;split at A
  .rename_i fs y hu hy;split at A
   .rename_i f hf;split at A
    .rename_i g n hg hn;cases A;have r:=bE (tm:=tm) (a:=a) E hy B;simp only[cN]at hv;split at hv
     .rename_i cs e;rw[e]at r;obtain⟨C,O,I⟩:=r;obtain⟨X,hX,af⟩:=Cs (P:=P) (w:=w) hg hn I hv;exact⟨X,by simp[execOp,Instr.field,ak hu,hf,O,asAgg,hX],af⟩
     cases hv
    cases A
   cases A
  cases A
 |fieldAddr s x i=>
  simp only[aN]at A;split at A
  .rename_i fs y hu hy;split at A
   .rename_i f hf;split at A
    .rename_i n hn;split at A
     .cases A
     rename_i bx;cases A;have r:=bE (tm:=tm) (a:=a) E hy B;simp only[cN]at hv;split at hv
     .rename_i id ac e;rw[e]at r;obtain⟨b,m,T,hx⟩:=r;simp at hv;subst hv;refine⟨.pointer (some ⟨b,ac+f.offset,none⟩),?_,b,m,T,rfl⟩;simp[execOp,Instr.fieldAt,ak hu,hf,hx,Instr.sureAddr,fieldPlace,cG hn,bx,oz]
     cases hv
    cases A
   cases A
  cases A
 |indexAddr t x i=>
  simp only[aN]at A;split at A
  .rename_i e x' i' hu K N;split at A
   .rename_i s hs;cases A;have F:=bE (tm:=tm) (a:=a) E K B.left;have G:=bE (tm:=tm) (a:=a) E N B.right;simp only[cN]at hv;split at hv
    .rename_i id ac len e' k n S W;rw[S]at F;rw[W]at G;have G:a.eval i=.int k n:=G;split at hv
     .rename_i I;rcases F with⟨b,m,o',H,T,hx,aP,aL,ho⟩|⟨b3,_⟩
      rotate_left
      .omega
      simp at hv;subst hv;have bC:o'=ac:=by rcases ho with h|h;exact h;omega
      subst bC;refine⟨.pointer (some ⟨b,o'+n.toNat*s,none⟩),?_,b,m,T,rfl⟩;simp[execOp,Instr.indexAt,asIntOf,ak hu,hx,G,I.1,I.2,cG hs,oz]
     cases hv
    cases hv
   cases A
  .rename_i n e x' i' hu K N;split at A
   .rename_i s hs;cases A;have F:=bE (tm:=tm) (a:=a) E K B.left;have G:=bE (tm:=tm) (a:=a) E N B.right;simp only[cN]at hv;split at hv
    .rename_i id ac k j S W;rw[S]at F;rw[W]at G;obtain⟨b,m,T,hx⟩:=F;have G:a.eval i=.int k j:=G;split at hv
     .rename_i I;simp at hv;subst hv;refine⟨.pointer (some ⟨b,ac+j.toNat*s,none⟩),?_,b,m,T,rfl⟩;simp[execOp,Instr.indexAt,asIntOf,ak hu,hx,G,I.1,I.2,cG hs,oz,Instr.sureAddr]
     cases hv
    cases hv
   cases A
  cases A
 |index t x i=>
  simp only[aN]at A;split at A
  .rename_i n e x' i' hu K N;split at A
   .rename_i s g hs hg;cases A;have F:=bE (tm:=tm) (a:=a) E K B.left;have G:=bE (tm:=tm) (a:=a) E N B.right;simp only[cN]at hv;split at hv
    .rename_i cs k j S W;rw[S]at F;rw[W]at G;obtain⟨C,O,I⟩:=F;have G:a.eval i=.int k j:=G;split at hv
     .rename_i U;obtain⟨X,hX,af⟩:=Cs (P:=P) (w:=w) hg hs I hv;exact⟨X,by simp[execOp,Instr.index,asIntOf,ak hu,O,G,U.1,U.2,cG hs,hX],af⟩
     cases hv
    cases hv
   cases A
  .rename_i x' i' hu K N;cases A;have F:=bE (tm:=tm) (a:=a) E K B.left;have G:=bE (tm:=tm) (a:=a) E N B.right;simp only[cN]at hv;split at hv
   .rename_i s k j S W;rw[S]at F;rw[W]at G;obtain⟨bs,bk,aU⟩:=F;have G:a.eval i=.int k j:=G;split at hv
    .rename_i hj;split at hv
     .rename_i u av;simp at hv;subst hv;rw[<- aU]at av;simp only[X0,Y1]at av;obtain⟨c,bl,rfl⟩:=av;have aM:bs[j.toNat]?=some c:=by
       have K:bs.data[j.toNat]?=some c:=by simpa using bl
       have N:j.toNat<bs.data.size:=by
        rcases Vm j.toNat bs.data.size with k|k
        .exact k
        rw[Array.getElem?_eq_none k]at K;cases K
       rw[Array.getElem?_eq_getElem N]at K;have h3:j.toNat<bs.size:=N;rw[getElem?_pos bs j.toNat h3];exact K
      exact⟨.int .u8 c.toNat,by simp[execOp,Instr.index,asIntOf,ak hu,bk,G,hj,aM],rfl⟩
     cases hv
    cases hv
   cases hv
  cases A
 |extract x i=>
  simp only[aN]at A;split at A
  .rename_i y hy;cases A;have r:=bE (tm:=tm) (a:=a) E hy B;simp only[cN]at hv;split at hv
   .rename_i vs e;rw[e]at r;obtain⟨C,O,I⟩:=r;obtain⟨X,hX,af⟩:=I.get i v hv;have be:C[i]?=some X:=by simpa using hX
    exact⟨X,by simp[execOp,Instr.extract,O,be],af⟩
   cases hv
  cases A
 |makeFunc fn first H=>
  cases fn with
  |func f=>
   simp only[aN]at A;split at A
   .rename_i x c hx bu;cases A;simp[cN]at hv;subst hv;have F:=jo (tm:=tm) (a:=a) E hx B.left;have G:=jo (tm:=tm) (a:=a) E bu B.right;exact⟨.func (.func f) (first.map a.eval) (H.map a.eval),by simp[execOp,Instr.makeFunc],_,_,rfl,by simpa using F,by simpa using G⟩
   cases A
  |_=>simp[aN]at A
 |call c=>
  obtain⟨M,aC,bb⟩:=c;cases M with
  |value f=>
   simp only[aN]at A;split at A
   .split at A
    .cases A;simp[cD]at hp
    split at A
    .cases A;simp[cD]at hp
    cases A
   cases A
  |invoke r m=>simp[aN]at A
  |builtin b=>
   simp only[aN]at A;exact Aq A hp hv E B
 |alloc t=>simp only[aN]at A;split at A <;> cases A;simp[cD]at hp
 |box t x=>simp only[aN]at A;split at A <;> cases A;simp[cD]at hp
 |buildSlice t l ps=>
  simp only[aN]at A;split at A
  .split at A
   .split at A
    .split at A <;> cases A;simp[cD]at hp
    cases A
   cases A
  cases A
 |load t x=>simp only[aN,vz]at A;split at A <;> cases A;simp[cD]at hp
 |store t x y=>simp only[aN]at A;split at A <;> cases A;simp[cD]at hp
 |makeSlice t l c=>
  simp only[aN]at A;split at A
  .split at A
   .split at A <;> cases A;simp[cD]at hp
   cases A
  cases A
 |lookup t m k ok=>
  simp only[aN]at A;split at A
  .split at A
   .split at A <;> cases A;simp[cD]at hp
   cases A
  cases A
 |mapUpdate t m k x=>
  simp only[aN]at A;split at A
  .split at A <;> cases A;simp[cD]at hp
  cases A
 |makeMap t r=>cases r <;> simp only[aN]at A <;> cases A;simp[cD]at hp
 |defer c=>
  obtain⟨M,aC,bb⟩:=c;cases M with
  |value f=>
   simp only[aN]at A;split at A
   .split at A
    .cases A;simp[cD]at hp
    split at A
    .cases A;simp[cD]at hp
    cases A
   cases A
  |invoke r m=>simp[aN]at A
  |builtin b=>simp[aN]at A
 |_=>simp[aN]at A
end AM
namespace AM
open Go Go.RowKit
variable {P:Program} {φ:TF} {tm:T V} {a:Act} {w:World} {w0:lK} {σ:St} {G B:Nat}
def MB(d:TypeDesc):Kk->Prop
 | .int=>∃k,d=.int k
 | .WJ=>d=.string
 | .bool=>d=.bool
def qe{t:TypeId}{kk:Kk}(h:BS P t=some kk):∃d,P.underlying t=some d∧MB d kk:=by
 unfold BS at h;split at h
 .rename_i k hu;cases h;exact⟨_,hu,k,rfl⟩
 .rename_i hu;cases h;exact⟨_,hu,rfl⟩
 .rename_i hu;cases h;exact⟨_,hu,rfl⟩
 cases h
def qH:∀(a b:List UInt8),(a ==b)=(a.map (·.toNat) ==b.map (·.toNat))
 | [],[]=>rfl
 | [],_ ::_=>rfl
 |_ ::_,[]=>rfl
 |x ::a,y ::b=>by
  have h:(x ==y)=(x.toNat ==y.toNat):=by rw[Bool.eq_iff_iff];simp[UInt8.toNat_inj]
  simp only[List.cons_beq_cons,Xr,qH a b,h]
def abK{a b:ByteArray}:(a ==b)=(a.data.toList.map (·.toNat) ==b.data.toList.map (·.toNat)):=by rw[beq_toListBytes,ByteArray.toList_eq,ByteArray.toList_eq,qH]
def zD{kk:Kk}{d:TypeDesc}(hd:MB d kk){x y:V}{X Y:Value}{r:Bool}(h:kg kk x y=some r)(hx:VR φ x X)(hy:VR φ y Y):Instr.sameNow d X Y=some r:=by
 unfold kg at h;split at h
 .rename_i k n a b;obtain⟨f,rfl⟩:=hd;have hx:X=.int k n:=hx;have hy:Y=.int a b:=hy;subst hx;subst hy
  simpa [Instr.sameNow]using h
 .have hd:d=.string:=hd;subst hd;obtain⟨e,rfl,rfl⟩:=hx;obtain⟨c,rfl,rfl⟩:=hy;simp only[Instr.sameNow,TC]at h⊢;rw[abK];exact h
 .rename_i p q;have hd:d=.bool:=hd;subst hd;have hx:X=.bool p:=hx;have hy:Y=.bool q:=hy;subst hx;subst hy
  simpa [Instr.sameNow]using h
 cases h
def ER.nil:ER φ [] []:=⟨rfl,Y⟩
def ER.acr{k v:V}{r:List (V×V)}{m:List MapEntry}(h:ER φ ((k,v) ::r) m):∃e s,m=e ::s∧VR φ k e.key∧VR φ v e.val∧ER φ r s:=by
 obtain⟨d,hg⟩:=h;cases m with
 |nil=>simp at d
 |cons e s=>
  obtain⟨j,c,f,g⟩:=hg 0 k v rfl;simp at c;subst c;exact⟨e,s,rfl,f,g,by simpa using d,fun i a b hi=>by simpa using hg (i+1) a b (by simpa using hi)⟩
def jb{kk:Kk}{d:TypeDesc}(hd:MB d kk){x:V}{X:Value}(hx:VR φ x X):∀{es:List (V×V)} {m:List MapEntry} {i:Nat} {r:Option (Nat×V)},ER φ es m->dR kk x es i=some r →
  (r=none∧Instr.findNow d X m i=some none)∨∃j v Y,r=some (j,v)∧Instr.findNow d X m i=some (some (j,Y))∧VR φ v Y∧i≤j∧j<i+es.length∧∃e k,m[j-i]?=some e∧es[j-i]?=some (k,v)∧kg kk x k=some true
 | [],m,i,r,he,h=>by
  have:m=[]:=by cases m with|nil=>rfl|cons a b=>have:=he.1;simp at this
  subst this;simp only[dR]at h;split at h
  .cases h;exact .inl ⟨rfl,rfl⟩
  cases h
 |(k,v) ::es,m,i,r,he,h=>by
  obtain⟨e,s,rfl,l,y,w⟩:=he.acr;simp only[dR]at h;split at h
  .rename_i c;cases h;right;refine⟨i,v,e.val,rfl,?_,y,Tx _,acI,e,k,acI,acI,c⟩;simp[Instr.findNow,zD hd c hx l]
  .rename_i c;have o:Instr.findNow d X (e ::s) i=Instr.findNow d X s (i+1):=by simp[Instr.findNow,zD hd c hx l]
   rw[o];rcases jb hd hx w h with⟨f,g⟩|⟨j,A,Y,f,g,p,B,C,n,z,q,t,u⟩
   .exact .inl ⟨f,g⟩
   right;refine⟨j,A,Y,f,g,p,Q,by simp;omega,n,z,?_,?_,u⟩
   .rw[(Q:j-i=(j-(i+1))+1)];simpa using q
   rw[(Q:j-i=(j-(i+1))+1)];simpa using t
  cases h
def iH{kk:Kk}{x:V}:∀{es:List (V×V)} {i:Nat} {r:Option (Nat×V)},dR kk x es i=some r->ZV kk x=true
 | [],i,r,h=>by simp only[dR]at h;split at h;assumption;cases h
 |(k,v) ::es,i,r,h=>by
  simp only[dR]at h;split at h
  .rename_i a;unfold kg at a;split at a <;> simp_all[ZV]
  .rename_i a;unfold kg at a;split at a <;> simp_all[ZV]
  cases h
def jf{kk:Kk}{t:TypeId}{d:TypeDesc}(hu:P.underlying t=some d)(hd:MB d kk){x:V}{X:Value}(hx:VR φ x X)(a:ZV kk x=true)(b:Bool)(n:Nat):
  (Instr.checkKey b (n+1) t X).run P w=.ok () w:=by
 unfold ZV at a;split at a
 .rename_i k m;obtain⟨e,rfl⟩:=hd;have hx:X=.int k m:=hx;subst hx;simp[Instr.checkKey,ak hu]
 .have hd:d=.string:=hd;subst hd;obtain⟨c,rfl,rfl⟩:=hx;simp[Instr.checkKey,ak hu]
 .rename_i p;have hd:d=.bool:=hd;subst hd;have hx:X=.bool p:=hx;subst hx;simp[Instr.checkKey,ak hu]
 cases a
def iT{t:TypeId}{d:TypeDesc}(hu:P.underlying t=some d){X:Value}{m:List MapEntry}{r:Option (Nat×Value)}(h:Instr.findNow d X m 0=some r):
  (Instr.findKey t X m).run P w=.ok r w:=by
 simp[Instr.findKey,ak hu,h]
def T2.sj(h:T2 G B w0 φ σ w){r b n:Nat}{es:List (V×V)}(c:σ.Tq.get r=some (.map es))(ha:φ r=some (b,n)):
  B≤b∧∃m a,w.heap[b]?=some (.map m a)∧ER φ es m.toList:=h.VM r _ b n c ha
def ZB{b:Nat}{m:Array MapEntry}{a:Nat}(h:w.heap[b]?=some (.map m a)):(getObj b).run P w=.ok (.map m a) w:=by simp only[getObj,Sem.run,h]
def EJ{o:Oper}{op:TL}{v:V}(p:aN P o=some op)(hp:bQ op=true)(hv:eT op tm σ=some v)(U:GR P φ)(W:TR φ tm a op.tmps)(hR:T2 G B w0 φ σ w):Dw P a o φ v w:=by
 obtain⟨dst,bb,be,pos,av,guard⟩:=o;unfold Dw;cases bb with
 |load t x=>
  simp only[aN,vz]at p;split at p
  .rename_i g n y hg hn hy;cases p;have r:=bE (tm:=tm) (a:=a) U hy W;simp only[eT]at hv;split at hv
   .rename_i id N e;rw[e]at r;obtain⟨b,m,K,hx⟩:=r;cases g with
    |true=>
     simp only[TT]at hv;split at hv
     .rename_i vs aS;simp at hv;subst hv;obtain⟨xs,S,ao,Z⟩:=hR.load aS K;refine⟨.agg xs.toArray,?_,VR.agg (by simpa using S)⟩;have O:=run_loadCells_list (P:=P) w ⟨b,N,none⟩ xs Z;rw[ao]at O;simp[execOp,Instr.loadAt,Instr.sureAddr,hx,loadVar,ia hg,cG hn,O]
     cases hv
    |false=>
     simp only[U5,Ul]at hv;obtain⟨X,hX,aP⟩:=hR.cell hv K;exact⟨X,by simp[execOp,Instr.loadAt,Instr.sureAddr,hx,loadVar,ia hg,hX],aP⟩
   cases hv
  cases p
 |slice t x lo hi mx=>
  simp only[aN,qd]at p;split at p
  .cases p
  rename_i af;have af:mx=none:=by simpa using af
  subst af;split at p
  .rename_i x' ah ad h1 h2 h3;have o2:∀{l:List Nat},TR φ tm a (l++oD ah++oD ad)->OR φ (ah.map (·.eval tm)) (lo.map a.eval):=by
    intro l O;rcases qY (tm:=tm) (a:=a) U h2 O.left.right with⟨rfl,rfl⟩|⟨u,v,rfl,rfl,S⟩
    .exact .inl ⟨rfl,rfl⟩
    exact .inr ⟨_,_,rfl,rfl,S⟩
   have o3:∀{l:List Nat},TR φ tm a (l++oD ah++oD ad)->OR φ (ad.map (·.eval tm)) (hi.map a.eval):=by
    intro l O;rcases qY (tm:=tm) (a:=a) U h3 O.right with⟨rfl,rfl⟩|⟨u,v,rfl,rfl,S⟩
    .exact .inl ⟨rfl,rfl⟩
    exact .inr ⟨_,_,rfl,rfl,S⟩
   split at p
   .rename_i n e hu;split at p
    .rename_i s hs;cases p;have r:=bE (tm:=tm) (a:=a) U h1 W.left.left;simp only[eT]at hv;split at hv
     .rename_i id N e1;rw[e1]at r;obtain⟨b,m,K,hx⟩:=r;split at hv
      .rename_i l h aM;split at hv
       .rename_i ac;obtain⟨ay,aB⟩:=ac;split at hv
        .rename_i ro g k z t' ho;split at hv
         .rename_i bd;simp at hv;subst hv;obtain⟨ap,_,_⟩:=mN (P:=P) (w:=w) (Tx _) aM (o2 W) (o3 W) false;subst ay;subst aB;obtain⟨C,E,fz,d1,d2,d3,d4,d5⟩:=hR.VM id _ b m ho K;refine⟨.slice (some ⟨b,N,none⟩) h h,?_,.inl ⟨b,m,N,h,K,rfl,Tx _,Q,.inl rfl⟩⟩;simp[execOp,Instr.sliceAt,ak hu,hx,Instr.sureAddr,ap,cG hs,oz]
         cases hv
        cases hv
       cases hv
      cases hv
     cases hv
    cases p
   .split at p
    .cases p;simp[bQ]at hp
    cases p
   cases p
  cases p
 |lookup t m k ok=>
  simp only[aN]at p;split at p
  .rename_i kt e m' k' hu h1 h2;split at p
   .rename_i z hz;split at p
    .rename_i kk aL;cases p;have r1:=bE (tm:=tm) (a:=a) U h1 W.left;have r2:=bE (tm:=tm) (a:=a) U h2 W.right;obtain⟨d,ag,hd⟩:=qe aL;obtain⟨X,hX,aU⟩:=nK hz;have as:=uT φ X z aU;simp only[eT]at hv;have ba:∀J,(match Tt.eval tm m' with
       | .map none=>some []
       | .map (some r)=>match σ.Tq.get r with|some (.map J)=>some J|_=>none
       |_=>none:Option (List (V×V)))=some J->∃M:Array MapEntry,ER φ J M.toList∧
        ((a.eval m=.map none∧M=#[])∨∃b A,a.eval m=.map (some b)∧(getObj b).run P w=.ok (.map M A) w):=by
      intro J F;split at F
      .rename_i T;rw[T]at r1;have r1:a.eval m=.map none:=r1;cases F;exact⟨#[],ER.nil,.inl ⟨r1,rfl⟩⟩
      .rename_i r T;rw[T]at r1;obtain⟨b,n,K,L⟩:=r1;split at F
       .rename_i bi ho;cases F;obtain⟨_,M,A,hM,I⟩:=hR.sj ho K;exact⟨M,I,.inr ⟨b,A,L,ZB hM⟩⟩
       cases F
      cases F
     split at hv
     .cases hv
     rename_i J F;obtain⟨M,I,R⟩:=ba J F;split at hv
     .cases hv
     rename_i r S;have aJ:=iH S;have am:=fun b=>jf (w:=w) ag hd r2 aJ b 9999
     rcases jb hd r2 I S with⟨rfl,hf⟩|⟨j,v',Y,rfl,hf,ar,_⟩
     .simp only[TC]at hv;subst hv;have aC:=iT (w:=w) ag hf;refine⟨if ok then .tuple #[X,.bool false]else X,?_,?_⟩
      .rcases R with⟨L,rfl⟩|⟨b,A,L,hg⟩ <;>
        simp[execOp,Instr.lookup,ak hu,L,am,hX, *]
      cases ok
      .exact as
      exact⟨_,rfl,LR.cons as (LR.cons rfl LR.nil)⟩
     simp only[TC]at hv;subst hv;have aC:=iT (w:=w) ag hf;refine⟨if ok then .tuple #[Y,.bool true]else Y,?_,?_⟩
     .rcases R with⟨L,rfl⟩|⟨b,A,L,hg⟩ <;>
       simp[execOp,Instr.lookup,ak hu,L,am,hX, *]
     cases ok
     .exact ar
     exact⟨_,rfl,LR.cons ar (LR.cons rfl LR.nil)⟩
    cases p
   cases p
  cases p
 |call c=>
  obtain⟨D,H,ax⟩:=c;cases D with
  |value f=>
   simp only[aN]at p;split at p
   .split at p
    .cases p;simp[bQ]at hp
    split at p
    .cases p;simp[bQ]at hp
    cases p
   cases p
  |invoke r m=>simp[aN]at p
  |builtin b=>
   simp only[aN]at p;obtain⟨H⟩:=H;simp only at p;unfold iJ at p;split at p
   .rename_i t x al;split at p
    .cases p;simp[bQ]at hp
    .cases p;simp[bQ]at hp
    .rename_i kt e y hu hy;cases p;have r:=bE (tm:=tm) (a:=a) U hy W;simp only[eT]at hv;split at hv
     .rename_i T;rw[T]at r;have r:a.eval x=.map none:=r;simp at hv;subst hv;exact⟨.int .i64 (0:Nat),by simp[execOp,resolve,invoke,builtin,Builtin.len_,al,ak hu,goInt,r],rfl⟩
     .rename_i q T;rw[T]at r;obtain⟨b,n,K,L⟩:=r;split at hv
      .rename_i J ho;simp at hv;subst hv;obtain⟨_,M,A,hM,I⟩:=hR.sj ho K;have O:M.size=J.length:=by have:=I.1;simpa using this
       exact⟨.int .i64 M.size,by simp[execOp,resolve,invoke,builtin,Builtin.len_,al,ak hu,goInt,L,ZB hM],by simp[VR,O]⟩
      cases hv
     cases hv
    cases p
   all_goals (first|(cases p;done)|skip)
   all_goals (repeat' (split at p))
   all_goals (first|(cases p;done)|(cases p;simp[bQ]at hp))
 |move x=>simp only[aN]at p;split at p <;> cases p;simp[bQ]at hp
 |assign x=>simp only[aN]at p;split at p <;> cases p;simp[bQ]at hp
 |pick c x y=>simp only[aN]at p;split at p <;> cases p;simp[bQ]at hp
 |makeMap t r=>cases r <;> simp only[aN]at p <;> cases p;simp[bQ]at hp
 |makeFunc fn x c=>cases fn <;> simp only[aN]at p <;> (try (cases p;done));split at p <;> cases p;simp[bQ]at hp
 |defer c=>
  obtain⟨D,H,ax⟩:=c;cases D with
  |value f=>
   simp only[aN]at p;split at p
   .split at p
    .cases p;simp[bQ]at hp
    split at p
    .cases p;simp[bQ]at hp
    cases p
   cases p
  |invoke r m=>simp[aN]at p
  |builtin b=>simp[aN]at p
 |binOp op t x y yt=>
  simp only[aN,Ea]at p
  repeat' (split at p)
  all_goals (first|(cases p;done)|(cases p;simp[bQ]at hp))
 |alloc t|box t x|build t ps|buildSlice t l ps|store t x y|nilCheck x|unOp u t x|convert s d x|makeSlice t l c|fieldAddr s x i|field t x i|indexAddr t x i|index t x i|mapUpdate t m k x|extract x i=>
  simp only[aN]at p
  repeat' (split at p)
  all_goals (first|(cases p;done)|(cases p;simp[bQ]at hp))
 |_=>simp[aN]at p
end AM
namespace AM
open Go Go.RowKit
variable {P:Program} {φ:TF} {tm:T V} {a:Act} {w:World} {w0:lK} {σ:St} {G B:Nat}
def LJ(P:Program)(a:Act)(o:Oper)(G B:Nat)(w0:lK)(φ:TF)(σ':St)(v:V)(w:World):Prop:=
 ∃x c b,((execOp a.eval o).run P w=.ok (.value x) c∨((execOp a.eval o).run P w=.ok .skip c∧x=Go.undef))∧φ.le b∧T2 G B w0 b σ' c∧VR b v x
def jn(z:List V):∀n,(bL z n).length=n*z.length
 | 0=>by simp[bL]
 |n+1=>by simp[bL,jn z n,UW];omega
def jT(z:List V)(a:0<z.length):∀n i,i<n*z.length->(bL z n)[i]?=z[i%z.length]?
 | 0,i,h=>by simp at h
 |n+1,i,h=>by
  simp only[bL];by_cases c:i<z.length
  .rw[Wh c,WR c]
  rw[WM Q,jT z a n (i-z.length) (by rw[UW]at h;omega)];congr 1;have:=Nat.add_mod_right (i-z.length) z.length;rw[abB Q]at this;exact this.symm
def BY(zs:Array Value)(n:Nat)(i:Nat)(h:i<n)(b:0<zs.size):((Array.range n).map (fun j=>zs[j%zs.size]!))[i]?=zs.toList[i%zs.toList.length]?:=by have a:i%zs.size<zs.size:=Wt _ b;simp[h,a]
def wT{z:List V}{zs:Array Value}(d:LR φ z zs.toList)(n:Nat):LR φ (bL z n) ((Array.range (n*zs.size)).map (fun j=>zs[j%zs.size]!)).toList:=by
 have c:=d.length;have b:zs.size=z.length:=by simpa using c
 refine LR.fQ (by simp[jn,b]) fun i v hi=>?_
 have a:i<n*z.length:=by
  rcases Vm i (n*z.length)with k|k
  .exact k
  rw[Xk (by rw[jn];exact k)]at hi;cases hi
 have f:0<z.length:=by
  rcases Wi z.length with k|k
  .rw[k]at a;omega
  exact k
 rw[jT z f n i a]at hi;obtain⟨x,hx,e⟩:=d.get _ v hi;refine⟨x,?_,e⟩;have:=BY zs (n*zs.size) i (by rw[b];exact a) Q;rw[abV,this,c];exact hx
def T2.Hf(h:T2 G B w0 φ σ w):φ σ.next=none:=by
 cases a:φ σ.next with
 |none=>rfl
 |some x=>obtain⟨b,m⟩:=x;have:=(h.V6 _ _ _ a).1;omega
def T2.mE(h:T2 G B w0 φ σ w){r b n:Nat}{es es':List (V×V)}{m':Array MapEntry}{clock':Nat}(i:σ.Tq.get r=some (.map es))(ha:φ r=some (b,n))(t:ER φ es' m'.toList):
  T2 G B w0 φ { σ with Tq:=σ.Tq.set r (.map es') } { w with heap:=w.heap.setIfInBounds b (.map m' clock') }:=by
 obtain⟨O,m,s,hM,_⟩:=h.sj i ha;have P:=(h.V6 r b n ha).2;have o:∀k,k≠b->({ w with heap:=w.heap.setIfInBounds b (.map m' clock') }:World).heap[k]?=w.heap[k]?:=by intro k C;simp only;rw[abU (U2 C)]
 have T6:({ w with heap:=w.heap.setIfInBounds b (.map m' clock') }:World).heap[b]?=some (.map m' clock'):=by simp only;rw[Array.getElem?_setIfInBounds_self];simp[P]
 have f:∀x d,(σ.Tq.set r (.map es')).get x=some d->(x=r∧d=.map es')∨(x≠r∧σ.Tq.get x=some d):=by
  intro x d hx;rw[T.aJ]at hx;by_cases e:x=r
  .rw[Ti e]at hx;simp at hx;exact .inl ⟨e,hx.symm⟩
  rw[Tg e]at hx;exact .inr ⟨e,hx⟩
 refine⟨h.below.trans ⟨rfl,rfl,rfl,Y,fun k C=>o k Q⟩,by simp;exact h.WU,by intro a b n c;simpa using h.V6 a b n c,h.Xn,?_,?_,?_,?_,h.Y7,h.XF⟩
 .intro x d p D hx c;rcases f x d hx with⟨rfl,rfl⟩|⟨g,j⟩
  .rw[ha]at c;simp at c;obtain⟨rfl,rfl⟩:=c;exact⟨O,m',clock',T6,t⟩
  cases v:d.Ty with
  |false=>cases d <;> simp_all[Obj.Ty,qx]
  |true=>
   have u:p≠b:=by rintro rfl;have:=h.VX r x _ d p n D (U2 g) i j rfl v ha c;exact this.1 rfl
   exact(h.VM x d p D j c).kD (o p u)
 .intro x hx;simp only at hx⊢;rw[T.aJ,Tg (by have:=h.lt i;omega)];exact h.VS x hx
 .intro x y l E b1 U W g z S R v M N;have K:∃q,σ.Tq.get x=some q∧q.X6=true∧q.TG=l.TG:=by
   rcases f x l z with⟨rfl,rfl⟩|⟨_,k⟩
   .exact⟨_,i,rfl,rfl⟩
   exact⟨_,k,R,rfl⟩
  have L:∃q,σ.Tq.get y=some q∧q.Ty=true∧q.TG=E.TG:=by
   rcases f y E S with⟨rfl,rfl⟩|⟨_,k⟩
   .exact⟨_,i,rfl,rfl⟩
   exact⟨_,k,v,rfl⟩
  obtain⟨X,F,H,A⟩:=K;obtain⟨Z,c1,I,J⟩:=L;have:=h.VX x y X Z b1 U W g F c1 H I M N;exact⟨A▸this.1,by rw[<- A, <- J];exact this.2⟩
 intro x l z hg;rcases f x l z with⟨rfl,rfl⟩|⟨_,k⟩
 .exact(hg rfl).elim
 exact h.TG x l k hg
def aao{b:Nat}{m:Array MapEntry}{a:Nat}{o:Go.Obj}(h:w.heap[b]?=some (.map m a)):(setObj b o).run P w=.ok () { w with heap:=w.heap.setIfInBounds b o }:=by simp only[setObj,Sem.run,h]
def ER.push{es:List (V×V)}{m:Array MapEntry}{k v:V}{e:MapEntry}(h:ER φ es m.toList)(g:VR φ k e.key)(hv:VR φ v e.val):ER φ (es++[(k,v)]) (m.push e).toList:=by
 refine⟨by have:=h.1;simp at this⊢;omega,fun i x y hi=>?_⟩;have j:=h.1;by_cases c:i<es.length
 .rw[Wh c]at hi;obtain⟨a,f,b,d⟩:=h.2 i x y hi;refine⟨a,?_,b,d⟩;rw[Array.toList_push,Wh Q];exact f
 rw[WM Q]at hi;have:i=es.length:=by
  rcases Vm i (es.length+1)with l|l
  .omega
  rw[Xk (by simp;omega)]at hi;cases hi
 subst this;simp at hi;obtain⟨rfl,rfl⟩:=hi;refine⟨e,?_,g,hv⟩;rw[Array.toList_push,WM Q,j];simp
def ER.set{es:List (V×V)}{m:Array MapEntry}{k v:V}{i:Nat}{f:MapEntry->MapEntry}{e:MapEntry}(h:ER φ es m.toList)(b:m[i]?=some e)(q:VR φ k (f e).key)(hv:VR φ v (f e).val):
  ER φ (es.set i (k,v)) (m.modify i f).toList:=by
 have g:=h.1;refine⟨by simp at g⊢;exact g,fun j x y a=>?_⟩;have hi:i<m.size:=by
  rcases Vm i m.size with l|l
  .exact l
  rw[Array.getElem?_eq_none l]at b;cases b
 by_cases c:j=i
 .subst c;rw[List.getElem?_set_self (by simp at g;omega)]at a;simp at a;obtain⟨rfl,rfl⟩:=a;exact⟨f e,by simp[Array.getElem?_modify,b],q,hv⟩
 rw[abj (U2 c)]at a;obtain⟨n,d,o,p⟩:=h.2 j x y a;refine⟨n,?_,o,p⟩;rw[Array.toList_modify,List.getElem?_modify,d];simp[U2 c]
def ER.erase{es:List (V×V)}{m:Array MapEntry}{i:Nat}(h:ER φ es m.toList)(hi:i<es.length):ER φ (es.eraseIdx i) (m.eraseIdxIfInBounds i).toList:=by
 have g:=h.1;have k:i<m.size:=by simp at g;omega
 have e:(m.eraseIdxIfInBounds i).toList=m.toList.eraseIdx i:=by simp[Array.eraseIdxIfInBounds,k]
 rw[e];refine⟨by rw[List.length_eraseIdx,List.length_eraseIdx,g],fun j x y a=>?_⟩;rw[ab1]at a;split at a
 .rename_i c;obtain⟨b,d,f⟩:=h.2 j x y a;exact⟨b,by rw[ab1,Ti c];exact d,f⟩
 rename_i c;obtain⟨b,d,f⟩:=h.2 (j+1) x y a;exact⟨b,by rw[ab1,Tg c];exact d,f⟩
def AT{kk:Kk}{x y:V}{X Y:Value}(h:kg kk x y=some true)(hx:VR φ x X)(hy:VR φ y Y)(n:Nat):Instr.sameBits n Y X=true:=by
 unfold kg at h;split at h
 .rename_i k p e q;have hx:X=.int k p:=hx;have hy:Y=.int e q:=hy;subst hx;subst hy;split at h
  .rename_i d;subst d;simp at h;subst h;simp[Instr.sameBits]
  cases h
 .obtain⟨b,rfl,rfl⟩:=hx;obtain⟨a,rfl,rfl⟩:=hy;have:(b ==a)=true:=by rw[abK];simpa using h
  have c:(a ==b)=true:=by rw[abK]at this⊢;rw[Zv]at this⊢;exact this.symm
  cases n <;> simpa [Instr.sameBits]using c
 .rename_i p q;have hx:X=.bool p:=hx;have hy:Y=.bool q:=hy;subst hx;subst hy;simp at h;subst h;simp[Instr.sameBits]
 cases h
end AM
namespace AM
open Go Go.RowKit
variable {P:Program} {φ:TF} {tm:T V} {a:Act} {w:World} {w0:lK} {σ:St} {G B:Nat}
def App(P:Program)(ts:Array TypeId)(e:TypeId)(s:Nat)(x:Value)(k:Nat)(xs:List Value)(w:World):Prop:=
 ∀(f:TypeId) (t:TypeId),ts[0]?=some t->P.underlying t=some (.slice e)->∀(Tj:Option Addr) (b c:Nat),
  ((Builtin.append_ ts f #[.slice Tj b c,x]).run P w =
   if b+k≤c then
    ((match Tj with|some a=>storeCells (a.add (b*s)) xs|none=>pure ():Sem Unit).run P w).andThen fun _ d=>.ok (.slice Tj (b+k) c) d
   else
    ((Builtin.firstCells s b (.slice Tj b c)).run P w.drew).andThen fun TE d=>
     ((zeroValue e).run P d).andThen fun z d=>
      .ok (.slice (some ⟨d.heap.size,0,none⟩) (b+k) (grownCap w (b+k) c e))
       (d.alloc (.cells (TE++xs.toArray++Builtin.zeroCells z.cells (grownCap w (b+k) c e-(b+k))) e)))
def mZ{t:TypeId}{n:Nat}(h:bytesOf P t=some n):∃i,P.info? t=some i∧i.bytes=n:=by
 unfold bytesOf at h;cases hi:P.info? t with
 |none=>simp[hi]at h
 |some i=>simp[hi]at h;exact⟨i,rfl,h⟩
def Hv{ts:Array TypeId}{u e q:TypeId}{s bytes k c:Nat}{o:Addr}{xs:List Value}(h:ts[1]?=some u)(hu:P.underlying u=some (.slice q))(hs:iu P e=some s)(x:bytesOf P e=some bytes)(y:xs.length=k*s)(f:∀j v,xs[j]?=some v->w.cell? (o.add j)=some v){Tj:Option Addr}{sLen sCap:Nat}(r:(sLen+k)*bytes≤140737488355328)(A:sLen+k≤140737488355328){ty t:TypeId}(g:ts[0]?=some t)(ht:P.underlying t=some (.slice e)):
  (Builtin.append_ ts ty #[.slice Tj sLen sCap,.slice (some o) k c]).run P w =
   if sLen+k≤sCap then
    ((match Tj with|some a=>storeCells (a.add (sLen*s)) xs|none=>pure ():Sem Unit).run P w).andThen fun _ w'=>.ok (.slice Tj (sLen+k) sCap) w'
   else
    ((Builtin.firstCells s sLen (.slice Tj sLen sCap)).run P w.drew).andThen fun TE w'=>
     ((Builtin.firstCells s k (.slice (some o) k c)).run P w').andThen fun new w'=>
      ((zeroValue e).run P w').andThen fun z w'=>
       .ok (.slice (some ⟨w'.heap.size,0,none⟩) (sLen+k) (grownCap w (sLen+k) sCap e))
        (w'.alloc (.cells (TE++new++Builtin.zeroCells z.cells (grownCap w (sLen+k) sCap e-(sLen+k))) e)):=by
 obtain⟨i,hi,rfl⟩:=r5 hs;obtain⟨B,n,rfl⟩:=mZ x;rw[hi]at n;cases n;have p:=abS (P:=P) w i.size k o k c xs y f;by_cases d:sLen+k≤sCap
 .rw[Ti d];cases Tj with
  |none=>simp[Builtin.append_,g,h,ak ht,ak hu,Go.sizeOf,typeInfo,hi,Builtin.lenOf,d,p]
  |some b=>
   simp[Builtin.append_,g,h,ak ht,ak hu,Go.sizeOf,typeInfo,hi,Builtin.lenOf,d,p]
 rw[Tg d];have m:¬(9223372036854775807<((sLen:Int)+(k:Int))):=Q;have hg:Builtin.nextslicecap (sLen+k) sCap*i.bytes≤281474976710656:=growslice_fits Q r;have l:¬(281474976710656<Builtin.nextslicecap (sLen+k) sCap*i.bytes):=Q;simp[Builtin.append_,g,h,ak ht,ak hu,Go.sizeOf,typeInfo,hi,Builtin.lenOf,d,m,l,Question.forced,newRow,grownCap]
def JQ{ts:Array TypeId}{u e:TypeId}{k0:IntKind}{s bytes k:Nat}{kk:IntKind}{n:Int}{z:List V}(m:ts[1]?=some u)(hu:P.underlying u=some (.int k0))(hs:iu P e=some s)(x:bytesOf P e=some bytes)(hn:n=k)(y:0<k)(A:k≤1000000000000)(j:0<s){Tj:Option Addr}{sLen sCap:Nat}(v:(sLen+k)*bytes≤140737488355328)(B:sLen+k≤140737488355328){Z:Value}(r:∀w,(zeroValue e).run P w=.ok Z w){ty t:TypeId}(l:ts[0]?=some t)(ht:P.underlying t=some (.slice e)):
  (Builtin.append_ ts ty #[.slice Tj sLen sCap,.int kk n]).run P w =
   if sLen+k≤sCap then
    ((match Tj with|some a=>storeCells (a.add (sLen*s)) (Builtin.zeroCells Z.cells k).toList|none=>pure ():Sem Unit).run P w).andThen fun _ w'=>.ok (.slice Tj (sLen+k) sCap) w'
   else
    ((Builtin.firstCells s sLen (.slice Tj sLen sCap)).run P w.drew).andThen fun TE w'=>
       .ok (.slice (some ⟨w'.heap.size,0,none⟩) (sLen+k) (grownCap w (sLen+k) sCap e))
        (w'.alloc (.cells (TE++Builtin.zeroCells Z.cells k++Builtin.zeroCells Z.cells (grownCap w (sLen+k) sCap e-(sLen+k))) e)):=by
 obtain⟨i,hi,rfl⟩:=r5 hs;obtain⟨C,q,rfl⟩:=mZ x;rw[hi]at q;cases q;subst hn;have hw:IntKind.i64.wrap (k:Int)=k:=by have:=IntWalk.i64_in (n:=(k:Int)) Q;exact this
 have f:¬((k:Int)<0):=Q;have d:¬(281474976710656<(k:Int)*(i.bytes:Int)):=by
  have:k*i.bytes≤(sLen+k)*i.bytes:=UG _ Q;have:(k:Int)*(i.bytes:Int)=((k*i.bytes:Nat):Int):=by simp
  omega
 have h:¬(k*i.size=0):=by have:=Nat.mul_pos y j;omega
 by_cases c:sLen+k≤sCap
 .rw[Ti c];cases Tj with
  |none=>simp[Builtin.append_,l,m,ak ht,ak hu,Go.sizeOf,typeInfo,hi,asInt,asIntOf,hw,f,d,c,h,r]
  |some b=>
   simp[Builtin.append_,l,m,ak ht,ak hu,Go.sizeOf,typeInfo,hi,asInt,asIntOf,hw,f,d,c,h,r]
 rw[Tg c];have p:¬(9223372036854775807<((sLen:Int)+(k:Int))):=Q;have g:¬(IntKind.i64.max<((sLen:Int)+(k:Int))):=by show ¬((9223372036854775807:Int)<_);omega
 have hg:Builtin.nextslicecap (sLen+k) sCap*i.bytes≤281474976710656:=growslice_fits Q v;have o:¬(281474976710656<Builtin.nextslicecap (sLen+k) sCap*i.bytes):=Q;simp[Builtin.append_,l,m,ak ht,ak hu,Go.sizeOf,typeInfo,hi,asInt,asIntOf,hw,f,d,c,h,r,p,g,o,Question.forced,newRow,grownCap]
def iG(a:Addr):∀(n i:Nat) (b:Array Value) (w w':World) (c:Array Value),(loadCellsFrom a i n b).run P w=.ok c w'->w'=w
 | 0,i,b,w,w',c,h=>by simp[loadCellsFrom]at h;exact h.2.symm
 |n+1,i,b,w,w',c,h=>by
  simp only[loadCellsFrom,Wn,run_load]at h;split at h
  .exact iG a n (i+1) _ w w' c h
  split at h
  .exact iG a n (i+1) _ w w' c h
  simp[Result.andThen]at h
def sX{s n:Nat}{v:Value}{w w':World}{c:Array Value}(h:(Builtin.firstCells s n v).run P w=.ok c w'):w'=w:=by
 unfold Builtin.firstCells at h;split at h
 .exact iG _ _ _ _ _ _ _ h
 .simp at h;exact h.2.symm
 .simp at h;exact h.2.symm
 simp at h
def wF(P:Program){esz bytes k xl xe:Nat}{vs:List V}{xs:List Value}{xa:Option (Nat×Nat)}{v:V}{σ':St}{S:Value}{R:Result Value}(h:T2 G B w0 φ σ w)(f:dc σ esz bytes k vs xa xl=some (v,σ'))(hS:VR φ (.slice xa xl xe) S)(U:xa.isSome=true->xe=esz)(T:LR φ vs xs)(H:xs.length=k*esz)(hk:0<k)(aP:0<esz)(J:∀Tj sLen sCap,S=.slice Tj sLen sCap->∃cap' rest E,sLen+k≤cap'∧Array.size rest=(cap'-(sLen+k))*esz∧R =
   if sLen+k≤sCap then
    ((match Tj with|some a=>storeCells (a.add (sLen*esz)) xs|none=>pure ():Sem Unit).run P w).andThen fun _ w'=>.ok (.slice Tj (sLen+k) sCap) w'
   else
    ((Builtin.firstCells esz sLen (.slice Tj sLen sCap)).run P w.drew).andThen fun TE w'=>
     .ok (.slice (some ⟨w'.heap.size,0,none⟩) (sLen+k) cap') (w'.alloc (.cells (TE++xs.toArray++rest) E))):
  ∃X w' W,R=.ok X w'∧φ.le W∧T2 G B w0 W σ' w'∧VR W v X:=by
 unfold dc at f;split at f
 .rename_i L;obtain⟨aS,aU,M⟩:=L;have ar:∀x∈xs,x.oneCell'=true:=by
   intro x hx;obtain⟨i,hi,rfl⟩:=Zn hx;have av:i<vs.length:=by have:=T.length;omega
   obtain⟨y,hy,hv⟩:=T.get i vs[i] (by simp[av]);simp[hi]at hy;subst hy;exact hv.FZ (by simpa using X8.1 M vs[i] Y)
  split at f
  ·
   split at f
   .rename_i aL;subst aL;simp only[TC,TU]at f;obtain⟨rfl,rfl⟩:=f;obtain⟨_,rfl⟩:=hS;obtain⟨cap',rest,E,u,A,o⟩:=J none 0 0 rfl;rw[Tg Q]at o;simp only[Builtin.firstCells,Ys,VQ,Vk]at o u A;have I:=h.drew.ag vs xs rest.toList E T;refine⟨_,_,_,o,I.2,?_,?_⟩
    .have e:(#[]++xs.toArray++rest)=(xs++rest.toList).toArray:=by apply Array.ext';simp
     rw[e];exact I.1
    refine .inl ⟨w.drew.heap.size,(xs++rest.toList).length,0,cap',TF.an _ _ _,rfl,u,?_,.inl rfl⟩;simp only[UN,aat,H,A];rw[<- UW];simp;exact UG _ Q
   cases f
  rename_i id bd;split at f
  .rename_i ao;subst ao;split at f
   .rename_i g n z t ho;split at f
    .cases f
    rename_i TE Ur;simp only[TC,TU]at f;obtain⟨rfl,rfl⟩:=f;rcases hS with⟨b,m,o',r,hb,rfl,bb,ah,am⟩|⟨_,af,_⟩
    rotate_left
    .exact(XK _ af).elim
    have U:=U rfl;subst U;obtain⟨cap',rest,E,u,A,o⟩:=J _ _ _ rfl;have N:σ.load id 0 (xl*xe)=some TE:=by unfold St.load;rw[ho];exact Ur
    obtain⟨d,O,aB,p⟩:=h.load N hb;obtain⟨C,E0,fz,Z,d2,d3,d4,d5⟩:=h.VM id _ b m ho hb;obtain⟨rfl,ac⟩:=d3 rfl;have s:∀i,i<xl*xe->C[i]?=d[i]?:=by intro i hi;have al:i<d.length:=Q;have:=p i d[i] (by simp[al]);rw[jg]at this;simp[World.cell?,Z]at this;simp[this,al]
    have ap:=O.length;by_cases l:xl+k≤r
    .rw[Ti l]at o;have aC:o'=0:=by rcases am with hh|⟨_,hh⟩;exact hh;omega
     subst aC;simp only[jg,Vk]at o;have ax:(xl+k)*xe≤r*xe:=UG _ l;rw[UW]at ax;have as:=run_storeCells_at P b (xl*xe) E0 xs 0 C w Z (by simp;omega) ar;simp only[X2]at as;rw[as]at o;simp only[VQ]at o;generalize ad:(C.toList.take (xl*xe)++xs++C.toList.drop (xl*xe+xs.length)).toArray=K at o;have aM:K.size=C.size:=by rw[<- ad];simp;omega
     have F:∀i,K[i]?=if xl*xe≤i∧i<xl*xe+xs.length then xs[i-xl*xe]? else C[i]?:=by
      intro i;rw[<- ad];simp only[abk];by_cases c1:i<xl*xe
      .rw[Tg Q,Xj,Wh (by simp;omega),YD];simp[c1]
      by_cases c2:i<xl*xe+xs.length
      .rw[Ti Q,Xj,WM (by simp;omega),Wh (by simp;omega)];simp only[Va,aat];rw[(Q:min (xl*xe) C.size=xl*xe)]
      rw[Tg Q,WM (by simp;omega)];simp only[UN,Va,aat,Z4,abV];congr 1;omega
     have j:=h.CK (w':=w.setRow b K) (C':=K) (E':=E0) (all:=TE++vs) (e:=xl*xe) ho hb Z rfl (rv h.below ac K) Y (.inl ⟨rfl,rfl⟩)
      (setRow_heap w b C K E0 _ Z) Q ac (fun k _ hk=>setRow_other w b k K hk) (fun _ i hi=>by rw[F,Tg Q])
      (fun i v hi=>by
       rw[F];by_cases c:i<TE.length
       .rw[Wh c]at hi;rw[Tg Q,s i Q];exact O.get i v hi
       rw[WM Q]at hi;obtain⟨x,hx,hv⟩:=T.get _ v hi;have:i-TE.length<xs.length:=by
        rcases Vm (i-TE.length) xs.length with q|q
        .exact q
        rw[Xk q]at hx;cases hx
       refine⟨x,?_,hv⟩;rw[Ti Q];rw[(Q:i-xl*xe=i-TE.length)];exact hx)
      (by have:=T.length;simp;omega)
     refine⟨_,_,_,o,j.2,j.1,?_⟩;exact .inl ⟨b,m,0,r,TF.an _ _ _,rfl,Q,by simpa using ah,.inl rfl⟩
    rw[Tg l]at o;have D:(Builtin.firstCells xe xl (.slice (some ⟨b,o',none⟩) xl r)).run P w.drew=.ok d.toArray w.drew:=by
     refine abS (P:=P) w.drew xe xl ⟨b,o',none⟩ xl r d Q ?_;rcases am with rfl|⟨rfl,_⟩
     .exact p
     have:d=[]:=aaz Q;subst this;simp
    rw[D]at o;simp only[VQ]at o;have j:=h.drew.CK (b':=w.heap.size) (n':=(d.toArray++xs.toArray++rest).size) (w':=w.drew.alloc (.cells (d.toArray++xs.toArray++rest) E)) (C':=d.toArray++xs.toArray++rest) (E':=E) (all:=TE++vs) (e:=xl*xe) ho hb Z rfl
     (h.drew.below.alloc h.drew.WU _) Y (.inr ⟨rfl,Y⟩) (aaZ w.drew _) rfl h.WU (fun k hk _=>heap_alloc_old w.drew _ k hk)
     (fun ba i hi=>by have:=(h.V6 id b m hb).2;omega)
     (fun i v hi=>by
      have aJ:=LR.append O T;obtain⟨x,hx,hv⟩:=aJ.get i v hi;refine⟨x,?_,hv⟩;have ay:i<(d++xs).length:=by
       rcases Vm i (d++xs).length with q|q
       .exact q
       rw[Xk q]at hx;cases hx
      have e:(d.toArray++xs.toArray++rest)=((d++xs)++rest.toList).toArray:=by apply Array.ext';simp
      rw[e,abk,Wh ay];exact hx)
     (by have:=T.length;simp;omega)
    refine⟨_,_,_,o,j.2,j.1,?_⟩;refine .inl ⟨w.heap.size,_,0,cap',TF.an _ _ _,rfl,u,?_,.inl rfl⟩;simp only[Array.size_append,List.size_toArray,aB,H,A,Vk];rw[<- UW, <- UW];exact UG _ Q
   cases f
  cases f
 cases f
end AM
namespace AM
open Go Go.RowKit
variable {P:Program} {φ:TF} {tm:T V} {a:Act} {w:World} {w0:lK} {σ σ':St} {G B:Nat}
def fp(op:TL):Bool:=match op with
 | .alloc _| .box ..| .Yx ..| .store ..| .makeSlice ..| .append ..| .gT ..| .copy ..| .YM ..| .YL _| .makeMap| .mapUpdate ..| .delete ..=>true
 |_=>false
def CG{dst:Option Tmp}{type:TypeId}{pos:String}{after:Array Edge}{guard:Option (Nat×Bool)}{t:TypeId}{z:List V}(g:nQ P t=some z)(d:T2 G B w0 φ σ w):
  ∃b n,(execOp a.eval ⟨dst,.alloc t,type,pos,after,guard⟩).run P w=.ok (.value (.pointer (some ⟨w.heap.size,0,none⟩))) (w.alloc b)∧
   T2 G B w0 (φ.TN σ.next (w.heap.size,n)) (σ.new (.cells false 0 z.length z .nil)) (w.alloc b)∧φ.le (φ.TN σ.next (w.heap.size,n)):=by
 obtain⟨X,e,f,hs,c⟩:=gC g;have:=d.Fx z.length z X.cells.toList X.cells t (f φ) c (fun i hi=>by rw[WR (by simp;omega)];simp);refine⟨.cells X.cells t,z.length,?_,this.1,this.2⟩;simp[execOp,Instr.alloc,e,newVar,newRow]
def Fw{dst:Option Tmp}{type:TypeId}{pos:String}{after:Array Edge}{guard:Option (Nat×Bool)}{b:Builtin}{args:Array Operand}{d:Array TypeId}{v:V}{R:Result Value}(e:(execOp a.eval ⟨dst,.call ⟨.builtin b,args,d⟩,type,pos,after,guard⟩).run P w=R.andThen fun x w'=>.ok (.value x) w')(h:∃X w' c,R=.ok X w'∧φ.le c∧T2 G B w0 c σ' w'∧VR c v X):LJ P a ⟨dst,.call ⟨.builtin b,args,d⟩,type,pos,after,guard⟩ G B w0 φ σ' v w:=by obtain⟨X,w',c,rfl,f,g,i⟩:=h;exact⟨X,w',c,.inl e,f,g,i⟩
def yB{dst:Option Tmp}{type:TypeId}{pos:String}{after:Array Edge}{guard:Option (Nat×Bool)}{b:Builtin}{args:Array Operand}{al:Array TypeId}{op:TL}{v:V}(m:iJ P b al args.toList=some op)(hw:fp op=true)(hv:bp op tm σ=some (v,σ'))(hG:GR P φ)(hT:TR φ tm a op.tmps)(U:T2 G B w0 φ σ w):
  LJ P a ⟨dst,.call ⟨.builtin b,args,al⟩,type,pos,after,guard⟩ G B w0 φ σ' v w:=by
 obtain⟨args⟩:=args;simp only at m;unfold iJ at m;split at m
 .repeat' (split at m)
  all_goals (first|(cases m;done)|(cases m;simp[fp]at hw))
 ·
  rename_i t x y o;split at m
  .rename_i e hu;split at m
   .rename_i s bs z x' y' hs hb hz h1 h2;split at m
    .rename_i u bi;split at m
     .rename_i k0 as;cases m;have J:=bE (tm:=tm) (a:=a) hG h1 hT.left;have S:=bE (tm:=tm) (a:=a) hG h2 hT.right;simp only[bp]at hv;unfold gH at hv;split at hv
      .rename_i xa E xe kk n e1 e2;rw[e1]at J;rw[e2]at S;have S:a.eval y=.int kk n:=S;split at hv
       .cases hv
       rename_i D;split at hv
       .rename_i hn;obtain⟨X,hX,hr,ah,ap⟩:=gC hz;have ay:X.cells.size=s:=by rw[hs]at ah;cases ah;exact ap
        have N:0<s:=by
         rcases Wi s with k|k
         .exact(D (.inl k)).elim
         exact k
        have bk:xa.isSome=true->xe=s:=by
         intro h;rcases Nat.decEq xe s with k|k
         .exact(D (.inr ⟨k,h⟩)).elim
         exact k
        have l:(E+n.toNat)*bs≤aq∧E+n.toNat≤aq:=by
         unfold dc at hv;split at hv
         .rename_i f;exact⟨f.1,f.2.1⟩
         cases hv
        simp only[aq]at l;refine Fw (R:=(Builtin.append_ al type #[a.eval x,a.eval y]).run P w) (by simp[execOp,resolve,invoke,builtin]) ?_;refine wF P U hv J bk (wT (hr φ) n.toNat) (by simp[ay]) Q N ?_;intro Tj g C hS;have bd:g=E:=by
         cases xa with
         |none=>obtain⟨p,f⟩:=J;rw[f]at hS;cases hS;omega
         |some q=>
            rcases J with⟨b0,n0,o0,c0,_,f,_⟩|⟨p,_,_,f⟩
            .rw[f]at hS;cases hS;rfl
            rw[f]at hS;cases hS;omega
        subst bd;refine⟨grownCap w (g+n.toNat) C e,Builtin.zeroCells X.cells (grownCap w (g+n.toNat) C e-(g+n.toNat)),e,grownCap_ge _ _ _ _,by rw[size_zeroCells,ay],?_⟩;rw[hS,S];have:=JQ (w:=w) (kk:=kk) (n:=n) (k:=n.toNat) (Tj:=Tj) (sLen:=g) (sCap:=C) (ty:=type) (z:=z) bi as hs hb Q Q Q N l.1 l.2 hX o hu;rw[this];rfl
       cases hv
      cases hv
     .rename_i e2 as;cases m;have J:=bE (tm:=tm) (a:=a) hG h1 hT.left;have S:=bE (tm:=tm) (a:=a) hG h2 hT.right;simp only[bp]at hv;unfold dj at hv;split at hv
      .rename_i xa E xe ya F ye e1 bu;rw[e1]at J;rw[bu]at S;split at hv
       .cases hv
       rename_i D;have N:0<s:=by
        rcases Wi s with k|k
        .exact(D (.inl k)).elim
        exact k
       have bk:xa.isSome=true->xe=s:=by
        intro h;rcases Nat.decEq xe s with k|k
        .exact(D (.inr ⟨k,h⟩)).elim
        exact k
       split at hv
       .rename_i ax;subst ax;simp only[TC,TU]at hv;obtain⟨rfl,rfl⟩:=hv;obtain⟨i,hi,bT⟩:=r5 hs;have hy:∃ad c,a.eval y=.slice ad 0 c:=by
         cases ya with
         |none=>exact⟨_,_,S.2⟩
         |some q=>(rcases S with⟨b0,n0,o0,c0,_,f,_⟩|⟨_,_,_,f⟩ <;> exact⟨_,_,f⟩)
        obtain⟨ad,c,hy⟩:=hy;have hx:∃Tj T,a.eval x=.slice Tj E T∧E≤T:=by
         cases xa with
         |none=>obtain⟨p,f⟩:=J;subst p;exact⟨_,_,f,Tx _⟩
         |some q=>
          rcases J with⟨b0,n0,o0,c0,_,f,ba,_⟩|⟨p,_,_,f⟩
          .exact⟨_,_,f,ba⟩
          subst p;exact⟨_,_,f,Tx _⟩
        obtain⟨Tj,T,hx,ba⟩:=hx;have hf:∀w:World,(Builtin.firstCells i.size 0 (.slice ad 0 c)).run P w=.ok #[] w:=by intro w;cases ad <;> simp[Builtin.firstCells,loadCells,loadCellsFrom]
        have W:(Builtin.append_ al type #[a.eval x,a.eval y]).run P w=.ok (.slice Tj E T) w:=by rw[hx,hy];cases Tj <;> simp[Builtin.append_,o,bi,ak hu,ak as,Go.sizeOf,typeInfo,hi,Builtin.lenOf,ba,hf,storeCells]
        refine⟨.slice Tj E T,w,φ,.inl ?_,TF.le.refl _,U,by rw[<- hx];exact J⟩;simp[execOp,resolve,invoke,builtin,W]
       rename_i ax;split at hv
       .cases hv
       rename_i id O;split at hv
       .cases hv
       rename_i vs af;rcases S with⟨b0,n0,o0,c0,H,hy,aU,ao,ac⟩|⟨ag,_⟩
       rotate_left
       .exact(ax ag).elim
       have ho:o0=O:=by rcases ac with h|⟨h,_⟩;exact h;exact(ax h).elim
       subst ho;obtain⟨xs,hr,A,L⟩:=U.load af H;have l:(E+F)*bs≤aq∧E+F≤aq:=by
        unfold dc at hv;split at hv
        .rename_i f;exact⟨f.1,f.2.1⟩
        cases hv
       simp only[aq]at l;obtain⟨X,hX,bS,ah,ap⟩:=gC hz;have ay:X.cells.size=s:=by rw[hs]at ah;cases ah;exact ap
       refine Fw (R:=(Builtin.append_ al type #[a.eval x,a.eval y]).run P w) (by simp[execOp,resolve,invoke,builtin]) ?_;refine wF P U hv J bk hr A Q N ?_;intro Tj g C hS;have bd:g=E:=by
        cases xa with
        |none=>obtain⟨p,f⟩:=J;rw[f]at hS;cases hS;omega
        |some q=>
         rcases J with⟨b0,n0,o0,c0,_,f,_⟩|⟨p,_,_,f⟩
         .rw[f]at hS;cases hS;rfl
         rw[f]at hS;cases hS;omega
       subst bd;refine⟨grownCap w (g+F) C e,Builtin.zeroCells X.cells (grownCap w (g+F) C e-(g+F)),e,grownCap_ge _ _ _ _,by rw[size_zeroCells,ay],?_⟩;rw[hS,hy];rw[Hv (w:=w) (c:=c0) (Tj:=Tj) (sLen:=g) (sCap:=C) (ty:=type) bi as hs hb A L l.1 l.2 o hu];split
       .rfl
       cases bv:(Builtin.firstCells s g (.slice Tj g C)).run P w.drew with
       |halt f w'=>rfl
       |ok TE w'=>
        have:=sX bv;subst this;have hf:=abS (P:=P) w.drew s F ⟨b0,o0,none⟩ F c0 xs A (by simpa using L);simp only[VQ,hf,hX]
      cases hv
     cases m
    cases m
   cases m
  cases m
 ·
  rename_i t x y o;split at m
  .rename_i e hu;split at m
   .rename_i s x' y' hs h1 h2;cases m;have J:=bE (tm:=tm) (a:=a) hG h1 hT.left;have S:=bE (tm:=tm) (a:=a) hG h2 hT.right;simp only[bp]at hv;split at hv
    .rename_i xa E xe ya F ye e1 e2;rw[e1]at J;rw[e2]at S;have hy:∃ad c,a.eval y=.slice ad F c:=by
      cases ya with
      |none=>obtain⟨p,f⟩:=S;subst p;exact⟨_,_,f⟩
      |some q=>
       rcases S with⟨b0,n0,o0,c0,_,f,_⟩|⟨p,_,_,f⟩
       .exact⟨_,_,f⟩
       subst p;exact⟨_,_,f⟩
     obtain⟨ad,c,hy⟩:=hy;have hx:∃Tj T,a.eval x=.slice Tj E T:=by
      cases xa with
      |none=>obtain⟨p,f⟩:=J;subst p;exact⟨_,_,f⟩
      |some q=>
       rcases J with⟨b0,n0,o0,c0,_,f,_⟩|⟨p,_,_,f⟩
       .exact⟨_,_,f⟩
       subst p;exact⟨_,_,f⟩
     obtain⟨Tj,T,hx⟩:=hx;have aB:∀vs,(if min F E*s=0 then some []else match ya with|none=>none|some (id,O)=>σ.load id O (min F E*s):Option (List V))=some vs →
       ∃xs:List Value,LR φ vs xs∧(Builtin.firstCells s (min F E) (.slice ad F c)).run P w=.ok xs.toArray w∧xs.length=min F E*s:=by
      intro vs af;split at af
      .rename_i p;cases af;refine⟨[],LR.nil,?_,by simp[p]⟩;cases ad <;> simp[Builtin.firstCells,loadCells,loadCellsFrom,p]
      rename_i p;split at af
      .cases af
      rename_i id O;rcases S with⟨b0,n0,o0,c0,H,f,aU,ao,ac⟩|⟨ag,_⟩
      rotate_left
      .rw[ag]at p;simp at p
      rw[hy]at f;cases f;have bC:F≠0:=by intro h;rw[h]at p;simp at p
      have ho:o0=O:=by rcases ac with h|⟨h,_⟩;exact h;exact(bC h).elim
      subst ho;obtain⟨xs,hr,A,L⟩:=U.load af H;exact⟨xs,hr,abS (P:=P) w s (min F E) _ F _ xs A L,A⟩
     split at hv
     .rename_i p;simp only[TC,TU]at hv;obtain⟨rfl,rfl⟩:=hv;obtain⟨xs,hr,hf,A⟩:=aB [] p;have:xs=[]:=hr;subst this;refine⟨.int .i64 ((min F E:Nat):Int),w,φ,.inl ?_,TF.le.refl _,U,rfl⟩;have aL:(Builtin.firstCells s (Nat.min F E) (.slice ad F c)).run P w=.ok #[] w:=hf;cases Tj <;> simp[execOp,resolve,invoke,builtin,Builtin.copy_,o,ak hu,hx,hy,Builtin.lenOf,cG hs,aL,storeCells,goInt] <;> rfl
     .rename_i vs id O bx p;split at hv
      .rename_i bN be;simp only[TC,TU]at hv;obtain⟨rfl,rfl⟩:=hv;obtain⟨xs,hr,hf,A⟩:=aB vs p;have bl:E≠0:=by intro h;subst h;rw[Ti acI]at p;cases p;exact bx rfl
       rcases J with⟨b0,n0,o0,c0,H,f,aU,ao,ac⟩|⟨ag,_⟩
       rotate_left
       .exact(bl ag).elim
       rw[hx]at f;cases f;have ho:o0=O:=by rcases ac with h|⟨h,_⟩;exact h;exact(bl h).elim
       subst ho;obtain⟨w',W,aC⟩:=U.store (P:=P) be H hr;refine⟨.int .i64 ((min F E:Nat):Int),w',φ,.inl ?_,TF.le.refl _,aC,rfl⟩;have aL:(Builtin.firstCells s (Nat.min F E) (.slice ad F c)).run P w=.ok xs.toArray w:=hf;simp[execOp,resolve,invoke,builtin,Builtin.copy_,o,ak hu,hx,hy,Builtin.lenOf,cG hs,aL,W,goInt]
      cases hv
     cases hv
    cases hv
   cases m
  cases m
 ·
  rename_i t x o;split at m
  .rename_i e y hu hy;split at m
   .rename_i z hz;cases m;have r:=bE (tm:=tm) (a:=a) hG hy hT;obtain⟨X,hX,hr,ah,ap⟩:=gC hz;simp only[bp]at hv;split at hv
    .rename_i l0 e0 he;simp only[TC,TU]at hv;obtain⟨rfl,rfl⟩:=hv;rw[he]at r;obtain⟨_,hx⟩:=r;refine⟨.tuple #[],w,φ,.inl ?_,TF.le.refl _,U,VR.undef⟩;simp[execOp,resolve,invoke,builtin,Builtin.clear_,o,ak hu,hx]
    .rename_i id O n e0 he;rw[he]at r;rcases r with⟨b0,n0,o0,c0,H,hx,aU,ao,ac⟩|⟨ag,_,_,hx⟩
     rotate_left
     .subst ag;rw[Ti rfl]at hv;simp only[TC,TU]at hv;obtain⟨rfl,rfl⟩:=hv;refine⟨.tuple #[],w,φ,.inl ?_,TF.le.refl _,U,VR.undef⟩;simp[execOp,resolve,invoke,builtin,Builtin.clear_,o,ak hu,hx]
     split at hv
     .rename_i ar;simp only[TC,TU]at hv;obtain⟨rfl,rfl⟩:=hv;subst ar;refine⟨.tuple #[],w,φ,.inl ?_,TF.le.refl _,U,VR.undef⟩;simp[execOp,resolve,invoke,builtin,Builtin.clear_,o,ak hu,hx]
     rename_i ar;split at hv
     .rename_i bN be;simp only[TC,TU]at hv;obtain⟨rfl,rfl⟩:=hv;have ho:o0=O:=by rcases ac with h|⟨h,_⟩;exact h;exact(ar h).elim
      subst ho;obtain⟨w',W,aC⟩:=U.store (P:=P) be H (wT (hr φ) n);refine⟨.tuple #[],w',φ,.inl ?_,TF.le.refl _,aC,VR.undef⟩;have bb:(storeCells ⟨b0,o0,none⟩ (Builtin.zeroCells X.cells n).toList).run P w=.ok () w':=W;cases n with
      |zero=>exact(ar rfl).elim
      |succ n=>simp[execOp,resolve,invoke,builtin,Builtin.clear_,o,ak hu,hx,hX,bb]
     cases hv
    cases hv
   cases m
  .rename_i kt e y hu hy;cases m;have r:=bE (tm:=tm) (a:=a) hG hy hT;simp only[bp]at hv;split at hv
   .rename_i he;simp only[TC,TU]at hv;obtain⟨rfl,rfl⟩:=hv;rw[he]at r;have hx:a.eval x=.map none:=r;refine⟨.tuple #[],w,φ,.inl ?_,TF.le.refl _,U,VR.undef⟩;simp[execOp,resolve,invoke,builtin,Builtin.clear_,o,ak hu,hx]
   .rename_i q he;rw[he]at r;obtain⟨b0,n0,H,hx⟩:=r;split at hv
    .rename_i es ho;simp only[TC,TU]at hv;obtain⟨rfl,rfl⟩:=hv;obtain⟨hB,M,K,hM,am⟩:=U.sj ho H;have Z:=U.mE (m':=#[]) (clock':=K) ho H (es':=[]) ER.nil;refine⟨.tuple #[],_,φ,.inl ?_,TF.le.refl _,Z,VR.undef⟩;simp[execOp,resolve,invoke,builtin,Builtin.clear_,o,ak hu,hx,ZB hM,aao hM]
    cases hv
   cases hv
  cases m
 .split at m
  .cases m;simp[fp]at hw
  cases m
 .split at m
  .cases m;simp[fp]at hw
  cases m
 ·
  rename_i t x y o;split at m
  .rename_i kt e x' y' hu h1 h2;split at m
   .rename_i kk bw;cases m;have J:=bE (tm:=tm) (a:=a) hG h1 hT.left;have S:=bE (tm:=tm) (a:=a) hG h2 hT.right;obtain⟨d,av,hd⟩:=qe bw;simp only[bp]at hv;split at hv
    .rename_i q e0;rw[e0]at J;obtain⟨b,n,hb,hm⟩:=J;split at hv
     .rename_i es ho;obtain⟨hB,M,K,hM,am⟩:=U.sj ho hb;split at hv
      .cases hv
      .rename_i hf;simp only[TC,TU]at hv;obtain⟨rfl,rfl⟩:=hv;have aS:=iH hf;have aJ:=jf (w:=w) av hd S aS M.isEmpty 9999;rcases jb hd S am hf with⟨_,aM⟩|⟨j,v',Y,I,_⟩
       .have aP:=iT (w:=w) av aM;have Z:=U.mE (m':=M) (clock':=K) ho hb am;refine⟨.tuple #[],_,φ,.inl ?_,TF.le.refl _,Z,VR.undef⟩;simp[execOp,resolve,invoke,builtin,Builtin.delete_,o,ak hu,hm,ZB hM,aJ,aP,aao hM]
       cases I
      rename_i i v' hf;simp only[TC,TU]at hv;obtain⟨rfl,rfl⟩:=hv;have aS:=iH hf;have aJ:=jf (w:=w) av hd S aS M.isEmpty 9999;rcases jb hd S am hf with⟨I,_⟩|⟨j,v2,Y,I,aM,bY,_,hj,_⟩
      .cases I
      simp only[TC,TU]at I;obtain⟨rfl,rfl⟩:=I;have aP:=iT (w:=w) av aM;have Z:=U.mE (m':=M.eraseIdxIfInBounds i) (clock':=K) ho hb (am.erase Q);refine⟨.tuple #[],_,φ,.inl ?_,TF.le.refl _,Z,VR.undef⟩;simp[execOp,resolve,invoke,builtin,Builtin.delete_,o,ak hu,hm,ZB hM,aJ,aP,aao hM]
     cases hv
    cases hv
   cases m
  cases m
 cases m
def Dt{o:Oper}{op:TL}{v:V}(g:aN P o=some op)(hw:fp op=true)(hv:bp op tm σ=some (v,σ'))(R:GR P φ)(S:TR φ tm a op.tmps)(L:T2 G B w0 φ σ w):LJ P a o G B w0 φ σ' v w:=by
 obtain⟨dst,bS,bd,pos,al,guard⟩:=o;unfold LJ;cases bS with
 |alloc t=>
  simp only[aN]at g;split at g
  .rename_i z hz;cases g;simp only[bp,TC,TU]at hv;obtain⟨rfl,rfl⟩:=hv;obtain⟨b,n,h1,h2,h3⟩:=CG (a:=a) (dst:=dst) (type:=bd) (pos:=pos) (after:=al) (guard:=guard) hz L;exact⟨_,_,_,.inl h1,h3,h2,w.heap.size,n,TF.an _ _ _,rfl⟩
  cases g
 |box t x=>
  simp only[aN]at g;split at g
  .rename_i n y hn hy;cases g;have r:=bE (tm:=tm) (a:=a) R hy S;simp only[bp]at hv;split at hv
   .rename_i hl;simp only[TC,TU]at hv;obtain⟨rfl,rfl⟩:=hv;have:=L.ag (y.eval tm).cells (a.eval x).cells.toList [] t r.cells;refine⟨_,_,_,.inl ?_,this.2,this.1,w.heap.size,_,TF.an _ _ _,rfl⟩;simp[execOp,Instr.box,newVar,newRow]
   cases hv
  cases g
 |buildSlice t len ps=>
  simp only[aN]at g;split at g
  .rename_i e hu;split at g
   .rename_i s z hs hz;split at g
    .rename_i N;split at g
     .rename_i l hl;cases g;have bv:=oV (tm:=tm) (a:=a) R hl S;simp only[bp]at hv;split at hv
      .rename_i cs aL;simp only[TC,TU]at hv;obtain⟨rfl,rfl⟩:=hv;obtain⟨X,hX,hr,I,am⟩:=gC hz;have ay:X.cells.size=s:=by rw[hs]at I;cases I;exact am
       have ah:=wT (hr φ) len;rw[ay]at ah;obtain⟨D,hD,aJ⟩:=qI bv ah aL;have bi:=aJ.length;have A:=L.ag cs D.toList [] e aJ;have F:(Instr.buildSlice t len (ps.map fun p=>(p.1,a.eval p.2))).run P w=.ok (.slice (some ⟨w.heap.size,0,none⟩) len len) (w.alloc (.cells D e)):=by
        have Z:¬(2^24<len*s):=Q;have bb:((if len*s=0 then pure #[]else do pure (<- zeroValue e).cells:Sem (Array Value)).run P w)=.ok (if len*s=0 then #[]else X.cells) w:=by split <;> simp[hX]
        have ad:∀zz:Array Value,(len*s≠0->zz=X.cells)->(Array.range (len*s)).map (zz[·%zz.size]!)=(Array.range (len*s)).map (fun j=>X.cells[j%s]!):=by
         intro zz bb;by_cases U:len*s=0
         .rw[U];have ax:Array.range 0=#[]:=rfl;rw[ax];simp
         rw[bb U,ay]
        have aC:Instr.fill (fun i=>some (i*s,s)) ((Array.range (len*s)).map (fun j=>X.cells[j%s]!)) (ps.map fun p=>(p.1,a.eval p.2)).toList=some D:=by simpa [aau]using hD
        by_cases U:len*s=0
        .have hg:=ad #[] (fun h=>(h U).elim);simp only[Instr.buildSlice,Wn,ak hu,VQ,cG hs,gt_iff_lt,Z,Ul,Ti U,Ys];rw[hg,aC];simp[newRow]
        have hg:=ad X.cells (fun _=>rfl);simp only[Instr.buildSlice,Wn,ak hu,VQ,cG hs,gt_iff_lt,Z,Ul,U,Ys,hX];rw[hg,aC];simp[newRow]
       refine⟨_,_,_,.inl ?_,A.2,A.1,.inl ⟨w.heap.size,_,0,len,TF.an _ _ _,rfl,Tx _,?_,.inl rfl⟩⟩
       .simp only[execOp,Wn,F,VQ,Wr];rfl
       have aP:cs.length=(bL z len).length:=by
        have:∀{c:List V} {ps} {c'},bZ c ps=some c'->c'.length=c.length:=by
         intro c ps;induction ps generalizing c with
         |nil=>intro c' h;simp[bZ]at h;rw[h]
         |cons p r ih=>
          intro c' h;obtain⟨o,sz,x⟩:=p;simp only[bZ]at h;split at h
          .rename_i hh;rw[ih h];simp;omega
          cases h
        exact this aL
       rw[jn]at aP;have:z.length=s:=by rw[hs]at I;cases I;rfl
       simp only[Wr,bi,aP,this];omega
      cases hv
     cases g
    cases g
   cases g
  cases g
 |store t x y=>
  simp only[aN]at g;split at g
  .rename_i n x' y' hn h1 h2;cases g;have T:=bE (tm:=tm) (a:=a) R h1 S.left;have J:=bE (tm:=tm) (a:=a) R h2 S.right;simp only[bp]at hv;split at hv
   .rename_i id bY e;rw[e]at T;obtain⟨b,m,hb,hx⟩:=T;split at hv
    .rename_i hl;split at hv
     .rename_i b0 bC;simp only[TC,TU]at hv;obtain⟨rfl,rfl⟩:=hv;obtain⟨w',F,bk⟩:=L.store (P:=P) bC hb J.cells;refine⟨Go.undef,w',φ,.inr ⟨?_,rfl⟩,TF.le.refl _,bk,VR.undef⟩;have bN:(a.eval y).cells.size=n:=by have:=J.cells.length;simp at this;omega
      simp[execOp,Instr.storeAt,hx,Instr.sureAddr,storeVar,cG hn,bN,F]
     cases hv
    cases hv
   cases hv
  cases g
 |makeSlice t l c=>
  simp only[aN]at g;split at g
  .rename_i e hu;split at g
   .rename_i s bs z l' c' hs hb hz h1 h2;split at g
    .rename_i bx;cases g;have T:=bE (tm:=tm) (a:=a) R h1 S.left;have J:=bE (tm:=tm) (a:=a) R h2 S.right;simp only[bp]at hv;split at hv
     .rename_i k1 p k2 q e1 e2;rw[e1]at T;rw[e2]at J;have T:a.eval l=.int k1 p:=T;have J:a.eval c=.int k2 q:=J;split at hv
      .rename_i N;obtain⟨c1,c2,c3,c4⟩:=N;simp only[TC,TU]at hv;obtain⟨rfl,rfl⟩:=hv;obtain⟨X,hX,hr,I,am⟩:=gC hz;have ay:X.cells.size=s:=by rw[hs]at I;cases I;exact am
       obtain⟨i,hi,rfl⟩:=mZ hb;have ba:IntKind.i64.wrap p=p:=IntWalk.i64_in _ Q;have aU:IntKind.i64.wrap q=q:=IntWalk.i64_in _ Q;have t1:¬(q<0):=Q;have t2:¬(281474976710656<(i.bytes:Int)*q):=by
        have e0:(i.bytes:Int)*q=((q.toNat*i.bytes:Nat):Int):=by rw[Z2,YV Q,Int.mul_comm]
        rw[e0];simp only[aq]at c3;omega
       have t3:¬(p<0):=Q;have t4:¬(q<p):=Q;have A:=L.Fx (q.toNat*s) z X.cells.toList ((Array.range (q.toNat*s)).map (fun j=>X.cells[j%X.cells.size]!)) e (hr φ) acI (fun i hi=>BY _ _ _ hi Q);have F:(Instr.makeSlice t (.int k1 p) (.int k2 q)).run P w=.ok (.slice (some ⟨w.heap.size,0,none⟩) p.toNat q.toNat) (w.alloc (.cells ((Array.range (q.toNat*s)).map (fun j=>X.cells[j%X.cells.size]!)) e)):=by
        by_cases U:q.toNat*s=0
        .simp[Instr.makeSlice,ak hu,asInt,asIntOf,ba,aU,typeInfo,hi,t1,t2,t3,t4,cG hs,U,newRow];have ax:Array.range 0=#[]:=rfl;rw[ax];simp
        simp[Instr.makeSlice,ak hu,asInt,asIntOf,ba,aU,typeInfo,hi,t1,t2,t3,t4,cG hs,U,hX,newRow]
       refine⟨_,_,_,.inl ?_,A.2,A.1,.inl ⟨w.heap.size,_,0,q.toNat,TF.an _ _ _,rfl,Q,Q,.inl rfl⟩⟩;simp only[execOp,T,J,Wn,F,VQ];rfl
      cases hv
     cases hv
    cases g
   cases g
  cases g
 |makeMap t r=>
  cases r with
  |some r=>simp[aN]at g
  |none=>
   simp only[aN]at g;cases g;simp only[bp,TC,TU]at hv;obtain⟨rfl,rfl⟩:=hv;have A:=L.new (.map []) (.map #[] 0) 0 rfl (.inr trivial) ⟨L.WU, #[],0,aaZ w _,ER.nil⟩;refine⟨_,_,_,.inl ?_,A.2,A.1,w.heap.size,0,TF.an _ _ _,rfl⟩;simp[execOp,Instr.makeMap]
 |mapUpdate t m k x=>
  simp only[aN]at g;split at g
  .rename_i kt e m' k' x' hu h1 h2 h3;split at g
   .rename_i kk bu;cases g;have T:=bE (tm:=tm) (a:=a) R h1 S.left.left;have J:=bE (tm:=tm) (a:=a) R h2 S.left.right;have r3:=bE (tm:=tm) (a:=a) R h3 S.right;obtain⟨d,W,hd⟩:=qe bu;simp only[bp]at hv;split at hv
    .rename_i q e0;rw[e0]at T;obtain⟨b,n,hb,hm⟩:=T;split at hv
     .rename_i es ho;obtain⟨hB,M,H,hM,K⟩:=L.sj ho hb;split at hv
      .cases hv
      .rename_i hf;simp only[TC,TU]at hv;obtain⟨rfl,rfl⟩:=hv;have as:=iH hf;have ao:=jf (w:=w) W hd J as false 9999;rcases jb hd J K hf with⟨_,ap⟩|⟨j,v',Y,C,_⟩
       .have ar:=iT (w:=w) W ap;have O:=L.mE (m':=M.push { key:=a.eval k,val:=a.eval x,born:=H }) (clock':=H+1) ho hb (K.push J r3);refine⟨Go.undef,_,φ,.inr ⟨?_,rfl⟩,TF.le.refl _,O,VR.undef⟩;simp[execOp,Instr.mapUpdate,ak hu,hm,ZB hM,ao,ar,aao hM]
       cases C
      rename_i i v' hf;simp only[TC,TU]at hv;obtain⟨rfl,rfl⟩:=hv;have as:=iH hf;have ao:=jf (w:=w) W hd J as false 9999;rcases jb hd J K hf with⟨C,_⟩|⟨j,v2,Y,C,ap,bT,_,hj,e1,k1,av,ac,aS⟩
      .cases C
      simp only[TC,TU]at C;obtain⟨rfl,rfl⟩:=C;have ar:=iT (w:=w) W ap;simp only[Zr]at av ac;have af:M[i]?=some e1:=by simpa using av
      obtain⟨e2,aM,bl,_⟩:=K.2 i k1 v' ac;have:e2=e1:=by rw[av]at aM;cases aM;rfl
      subst this;have bw:=AT aS J bl 10000;have O:=L.mE (m':=M.modify i fun e=>{ e with key:=a.eval k,val:=a.eval x }) (clock':=H) ho hb (K.set af J r3);refine⟨Go.undef,_,φ,.inr ⟨?_,rfl⟩,TF.le.refl _,O,VR.undef⟩;simp[execOp,Instr.mapUpdate,ak hu,hm,ZB hM,ao,ar,aao hM,af,Instr.keyThatStays,bw]
     cases hv
    cases hv
   cases g
  cases g
 |call c=>
  obtain⟨E,aB,be⟩:=c;cases E with
  |value f=>
   simp only[aN]at g;split at g
   .split at g
    .cases g;simp[fp]at hw
    split at g
    .cases g;simp[fp]at hw
    cases g
   cases g
  |invoke r m=>simp[aN]at g
  |builtin b=>
   simp only[aN]at g;exact yB g hw hv R S L
 |move x=>simp only[aN]at g;split at g <;> cases g;simp[fp]at hw
 |assign x=>simp only[aN]at g;split at g <;> cases g;simp[fp]at hw
 |pick c x y=>simp only[aN]at g;split at g <;> cases g;simp[fp]at hw
 |makeFunc fn x c=>cases fn <;> simp only[aN]at g <;> (try (cases g;done));split at g <;> cases g;simp[fp]at hw
 |defer c=>
  obtain⟨E,aB,be⟩:=c;cases E with
  |value f=>
   simp only[aN]at g;split at g
   .split at g
    .cases g;simp[fp]at hw
    split at g
    .cases g;simp[fp]at hw
    cases g
   cases g
  |invoke r m=>simp[aN]at g
  |builtin b=>simp[aN]at g
 |load t x=>simp only[aN,vz]at g;split at g <;> cases g;simp[fp]at hw
 |binOp op t x y yt=>
  simp only[aN,Ea]at g
  repeat' (split at g)
  all_goals (first|(cases g;done)|(cases g;simp[fp]at hw))
 |slice t x lo hi mx=>
  simp only[aN,qd]at g
  repeat' (split at g)
  all_goals (first|(cases g;done)|(cases g;simp[fp]at hw))
 |build t ps|nilCheck x|unOp u t x|convert s d x|fieldAddr s x i|field t x i|indexAddr t x i|index t x i|lookup t m k ok|extract x i=>
  simp only[aN]at g
  repeat' (split at g)
  all_goals (first|(cases g;done)|(cases g;simp[fp]at hw))
 |_=>simp[aN]at g
end AM
