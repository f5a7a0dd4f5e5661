import Derived.Test.YtlgmpheammbacaaGreatDoorPyZ
set_option linter.all false
namespace AM
open Go
inductive T (α:Type) where
 |nil
 |node (v:Option α) (l r:T α)
 deriving Inhabited
noncomputable section
def T.get{a:Type}(t:T a):Nat->Option a:=
 T.rec (motive:=fun _=>Nat->Option a) (fun _=>none) (fun v _ _ b c i=>Bool.rec (motive:=fun _=>Option a) (Bool.rec (motive:=fun _=>Option a) (c (Nat.sub (Nat.div i 2) 1)) (b (Nat.div i 2)) (Nat.beq (Nat.mod i 2) 1)) v (Nat.beq i 0)) t
def T.xC{b:Type}(x:Option b)(f:Nat):Nat->T b:=
 Nat.rec (motive:=fun _=>Nat->T b) (fun _=>.nil) (fun _ a i=>Bool.rec (motive:=fun _=>T b) (Bool.rec (motive:=fun _=>T b) (.node none .nil (a (Nat.sub (Nat.div i 2) 1))) (.node none (a (Nat.div i 2)) .nil) (Nat.beq (Nat.mod i 2) 1)) (.node x .nil .nil) (Nat.beq i 0)) f
def T.xn{a:Type}(x:Option a)(t:T a):Nat->T a:=
 T.rec (motive:=fun _=>Nat->T a) (fun i=>T.xC x (Nat.succ i) i)
  (fun v l r sl b i=>Bool.rec (motive:=fun _=>T a) (Bool.rec (motive:=fun _=>T a) (.node v l (b (Nat.sub (Nat.div i 2) 1))) (.node v (sl (Nat.div i 2)) r) (Nat.beq (Nat.mod i 2) 1)) (.node x l r) (Nat.beq i 0)) t
def T.set{a:Type}(t:T a)(i:Nat)(x:a):T a:=T.xn (some x) t i
theorem T.Xm{a:Type}(i:Nat):(T.nil:T a).get i=none:=rfl
theorem T.iK{a:Type}(v:Option a)(l r:T a):(T.node v l r).get 0=v:=rfl
def BG(k:Nat):Nat.div (2*k+1) 2=k:=by show(2*k+1)/2=k;omega
def wk(k:Nat):Nat.sub (Nat.div (2*k+2) 2) 1=k:=by show(2*k+2)/2-1=k;omega
def BE(k:Nat):Nat.beq (Nat.mod (2*k+1) 2) 1=true:=by
 have:Nat.mod (2*k+1) 2=1:=by show(2*k+1)%2=1;omega
 rw[this];rfl
def vd(k:Nat):Nat.beq (Nat.mod (2*k+2) 2) 1=false:=by
 have:Nat.mod (2*k+2) 2=0:=by show(2*k+2)%2=0;omega
 rw[this];rfl
def T.jq{a:Type}(v:Option a)(l r:T a)(k:Nat):(T.node v l r).get (2*k+1)=l.get k:=by show Bool.rec (motive:=fun _=>Option a) (Bool.rec (motive:=fun _=>Option a) (r.get (Nat.sub (Nat.div (2*k+1) 2) 1)) (l.get (Nat.div (2*k+1) 2)) (Nat.beq (Nat.mod (2*k+1) 2) 1)) v (Nat.beq (2*k+1) 0)=_;rw[BE,BG];rfl
def T.ij{a:Type}(v:Option a)(l r:T a)(k:Nat):(T.node v l r).get (2*k+2)=r.get k:=by show Bool.rec (motive:=fun _=>Option a) (Bool.rec (motive:=fun _=>Option a) (r.get (Nat.sub (Nat.div (2*k+2) 2) 1)) (l.get (Nat.div (2*k+2) 2)) (Nat.beq (Nat.mod (2*k+2) 2) 1)) v (Nat.beq (2*k+2) 0)=_;rw[vd,wk];rfl
theorem T.vn{a:Type}(x:Option a)(f:Nat):T.xC x (f+1) 0=.node x .nil .nil:=rfl
def T.Ab{a:Type}(x:Option a)(f k:Nat):T.xC x (f+1) (2*k+1)=.node none (T.xC x f k) .nil:=by show Bool.rec (motive:=fun _=>T a) (Bool.rec (motive:=fun _=>T a) (.node none .nil (T.xC x f (Nat.sub (Nat.div (2*k+1) 2) 1))) (.node none (T.xC x f (Nat.div (2*k+1) 2)) .nil) (Nat.beq (Nat.mod (2*k+1) 2) 1)) (.node x .nil .nil) (Nat.beq (2*k+1) 0)=_;rw[BE,BG];rfl
def T.xE{a:Type}(x:Option a)(f k:Nat):T.xC x (f+1) (2*k+2)=.node none .nil (T.xC x f k):=by show Bool.rec (motive:=fun _=>T a) (Bool.rec (motive:=fun _=>T a) (.node none .nil (T.xC x f (Nat.sub (Nat.div (2*k+2) 2) 1))) (.node none (T.xC x f (Nat.div (2*k+2) 2)) .nil) (Nat.beq (Nat.mod (2*k+2) 2) 1)) (.node x .nil .nil) (Nat.beq (2*k+2) 0)=_;rw[vd,wk];rfl
theorem T.xy{a:Type}(x:Option a)(v:Option a)(l r:T a):T.xn x (.node v l r) 0=.node x l r:=rfl
def T.AA{a:Type}(x:Option a)(v:Option a)(l r:T a)(k:Nat):T.xn x (.node v l r) (2*k+1)=.node v (T.xn x l k) r:=by show Bool.rec (motive:=fun _=>T a) (Bool.rec (motive:=fun _=>T a) (.node v l (T.xn x r (Nat.sub (Nat.div (2*k+1) 2) 1))) (.node v (T.xn x l (Nat.div (2*k+1) 2)) r) (Nat.beq (Nat.mod (2*k+1) 2) 1)) (.node x l r) (Nat.beq (2*k+1) 0)=_;rw[BE,BG];rfl
def T.vE{a:Type}(x:Option a)(v:Option a)(l r:T a)(k:Nat):T.xn x (.node v l r) (2*k+2)=.node v l (T.xn x r k):=by show Bool.rec (motive:=fun _=>T a) (Bool.rec (motive:=fun _=>T a) (.node v l (T.xn x r (Nat.sub (Nat.div (2*k+2) 2) 1))) (.node v (T.xn x l (Nat.div (2*k+2) 2)) r) (Nat.beq (Nat.mod (2*k+2) 2) 1)) (.node x l r) (Nat.beq (2*k+2) 0)=_;rw[vd,wk];rfl
def mb(i:Nat):i=0∨(∃k,i=2*k+1)∨∃k,i=2*k+2:=by
 rcases Wi i with h|h
 .exact .inl h
 rcases abw i with e|e
 .exact .inr (.inr ⟨i/2-1,Q⟩)
 exact .inr (.inl ⟨i/2,Q⟩)
def T.Mt{b:Type}(x:Option b):∀(f i j:Nat),i<f->(T.xC x f i).get j=if j=i then x else none:=by
 intro f;induction f with
 |zero=>intro i j h;omega
 |succ f a=>
  intro i j h;rcases mb i with rfl|⟨k,rfl⟩|⟨k,rfl⟩ <;> rcases mb j with rfl|⟨m,rfl⟩|⟨m,rfl⟩
  .rw[T.vn,T.iK,Ti rfl]
  .rw[T.vn,T.jq,T.Xm,Tg Q]
  .rw[T.vn,T.ij,T.Xm,Tg Q]
  .rw[T.Ab,T.iK,Tg Q]
  .rw[T.Ab,T.jq,a _ _ Q];by_cases e:m=k
   .rw[Ti e,Ti Q]
   rw[Tg e,Tg Q]
  .rw[T.Ab,T.ij,T.Xm,Tg Q]
  .rw[T.xE,T.iK,Tg Q]
  .rw[T.xE,T.jq,T.Xm,Tg Q]
  rw[T.xE,T.ij,a _ _ Q];by_cases e:m=k
  .rw[Ti e,Ti Q]
  rw[Tg e,Tg Q]
def T.Lj{c:Type}(x:Option c):∀(t:T c) (i j:Nat),(T.xn x t i).get j=if j=i then x else t.get j:=by
 intro t;induction t with
 |nil=>intro i j;exact T.Mt x (i+1) i j Q
 |node v l r a b=>
  intro i j;rcases mb i with rfl|⟨k,rfl⟩|⟨k,rfl⟩ <;> rcases mb j with rfl|⟨m,rfl⟩|⟨m,rfl⟩
  .rw[T.xy,T.iK,Ti rfl]
  .rw[T.xy,T.jq,T.jq,Tg Q]
  .rw[T.xy,T.ij,T.ij,Tg Q]
  .rw[T.AA,T.iK,T.iK,Tg Q]
  .rw[T.AA,T.jq,a,T.jq];by_cases e:m=k
   .rw[Ti e,Ti Q]
   rw[Tg e,Tg Q]
  .rw[T.AA,T.ij,T.ij,Tg Q]
  .rw[T.vE,T.iK,T.iK,Tg Q]
  .rw[T.vE,T.jq,T.jq,Tg Q]
  rw[T.vE,T.ij,b,T.ij];by_cases e:m=k
  .rw[Ti e,Ti Q]
  rw[Tg e,Tg Q]
def T.aJ{a:Type}(t:T a)(i j:Nat)(x:a):(t.set i x).get j=if j=i then some x else t.get j:=
 T.Lj _ _ _ _
inductive V where
 |bool (b:Bool)
 |int (k:IntKind) (n:Int)
 |WJ (s:List Nat)
 |ptr (a:Option (Nat × Nat))
 |slice (a:Option (Nat × Nat)) (len esz:Nat)
 |map (r:Option Nat)
 |func (f:FuncId) (first cap:List V)
 |nilFunc
 |iface (t:TypeId) (v:V)
 |nilIface
 |agg (cs:List V)
 |tuple (vs:List V)
 deriving Inhabited,Repr
def V.undef:V:=.tuple []
def V.cells:V->List V
 | .agg cs=>cs
 |v=>[v]
def V.Tr:V->Bool
 | .agg _=>false
 | .tuple _=>false
 |_=>true
inductive Obj where
 |cells (ro:Bool) (TG n:Nat) (z:List V) (t:T V)
 |map (es:List (V × V))
 |Wu
 deriving Inhabited
structure St where
 next:Nat
 Tq:T Obj
 TX:T (List Nat)
 deriving Inhabited
def Vw(n:Nat)(z:List V)(t:T V)(i:Nat):Option V:=
 if i<n then(match t.get i with|some v=>some v|none=>z[i%z.length]?)else none
def St.cell(σ:St)(id off:Nat):Option V:=
 match σ.Tq.get id with
 |some (.cells _ _ n z t)=>Vw n z t off
 |_=>none
def qN(n:Nat)(z:List V)(t:T V)(off:Nat):Nat->Option (List V)
 | 0=>some []
 |k+1=>match Vw n z t off with
  |some v=>match qN n z t (off+1) k with
   |some r=>some (v ::r)
   |none=>none
  |none=>none
def St.load(σ:St)(id off k:Nat):Option (List V):=
 match σ.Tq.get id with
 |some (.cells _ _ n z t)=>qN n z t off k
 |_=>none
def mf(t:T V)(off:Nat):List V->T V
 | []=>t
 |v ::r=>mf (t.set off v) (off+1) r
def eB(x i:Nat):List Nat->T Obj->T Obj
 | [],o=>o
 |m ::r,o=>eB x i r (if m=x then o else match o.get m with
  |some (.cells ro g n z t)=>o.set m (.cells ro g (min n i) z t)
  |_=>o)
def gO:List Nat->T Obj->T Obj
 | [],o=>o
 |m ::r,o=>gO r (match o.get m with
  |some _=>o.set m .Wu
  |none=>o)
def St.store(σ:St)(id off:Nat)(vs:List V):Option St:=
 match σ.Tq.get id with
 |some (.cells false g n z t)=>
  if off+vs.length≤n∧vs.all V.Tr=true then
   let o:=σ.Tq.set id (.cells false g n z (mf t off vs))
   some { σ with Tq:=if g=0 then o else eB id off ((σ.TX.get g).getD []) o }
  else none
 |_=>none
def St.new(σ:St)(o:Obj):St:={ σ with next:=σ.next+1,Tq:=σ.Tq.set σ.next o }
def ofList(vs:List V):T V:=mf .nil 0 vs
def St.ag(σ:St)(vs:List V):St:=σ.new (.cells false 0 vs.length [] (ofList vs))
mutual
def eE:V->V->Bool
 | .bool a,.bool b=>a ==b
 | .int k a,.int k' b=>k ==k' && a ==b
 | .WJ a,.WJ b=>a ==b
 | .ptr a,.ptr b=>a ==b
 | .slice a l e,.slice b m f=>a ==b && l ==m && e ==f
 | .map a,.map b=>a ==b
 | .func f a b,.func g c d=>f ==g && jh a c && jh b d
 | .nilFunc,.nilFunc=>true
 | .iface t v,.iface u w=>t ==u && eE v w
 | .nilIface,.nilIface=>true
 | .agg a,.agg b=>jh a b
 | .tuple a,.tuple b=>jh a b
 |_,_=>false
def jh:List V->List V->Bool
 | [],[]=>true
 |a ::r,b ::s=>eE a b && jh r s
 |_,_=>false
end
mutual
theorem jX:∀(x y:V),eE x y=true->x=y
 | .bool a,y,h=>by cases y <;> simp_all[eE]
 | .int k n,y,h=>by cases y <;> simp_all[eE]
 | .WJ s,y,h=>by cases y <;> simp_all[eE]
 | .ptr a,y,h=>by cases y <;> simp_all[eE]
 | .slice a l e,y,h=>by cases y <;> simp_all[eE]
 | .map a,y,h=>by cases y <;> simp_all[eE]
 | .func f a b,y,h=>by
  cases y <;> simp[eE]at h
  rename_i g c d;obtain⟨⟨i,j⟩,m⟩:=h;rw[i,jr a c j,jr b d m]
 | .nilFunc,y,h=>by cases y <;> simp_all[eE]
 | .iface t v,y,h=>by
  cases y <;> simp[eE]at h
  rename_i u o;rw[h.1,jX v o h.2]
 | .nilIface,y,h=>by cases y <;> simp_all[eE]
 | .agg cs,y,h=>by
  cases y <;> simp[eE]at h
  rename_i ds;rw[jr cs ds h]
 | .tuple cs,y,h=>by
  cases y <;> simp[eE]at h
  rename_i ds;rw[jr cs ds h]
theorem jr:∀(x y:List V),jh x y=true->x=y
 | [],y,h=>by cases y <;> simp_all[jh]
 |a ::r,y,h=>by
  cases y <;> simp[jh]at h
  rename_i b s;rw[jX a b h.1,jr r s h.2]
end
mutual
theorem dD:∀(x:V),eE x x=true
 | .bool a=>by simp[eE]
 | .int k n=>by simp[eE]
 | .WJ s=>by simp[eE]
 | .ptr a=>by simp[eE]
 | .slice a l e=>by simp[eE]
 | .map a=>by simp[eE]
 | .func f a b=>by simp[eE,jC a,jC b]
 | .nilFunc=>by simp[eE]
 | .iface t v=>by simp[eE,dD v]
 | .nilIface=>by simp[eE]
 | .agg cs=>by simp[eE,jC cs]
 | .tuple cs=>by simp[eE,jC cs]
theorem jC:∀(x:List V),jh x x=true
 | []=>by simp[jh]
 |a ::r=>by simp[jh,dD a,jC r]
end
instance:DecidableEq V:=fun x y=>if h:eE x y=true then isTrue (jX x y h) else isFalse (fun e=>h (e▸dD x))
inductive Tt where
 |tmp (t:Nat) | const (v:V) | Xn (g:Nat)
 deriving Inhabited,Repr,DecidableEq
inductive Bn where
 |add | sub | mul | quo | rem | and | or | xor | andNot | shl | shr | eql | neq | lss | leq | gtr | geq
 deriving DecidableEq,Inhabited,Repr
inductive Ek where
 |bool | ptr | slice | map | func | iface
 deriving DecidableEq,Inhabited,Repr
inductive Kk where
 |int | WJ | bool
 deriving DecidableEq,Inhabited,Repr
inductive TL where
 |mv (x:Tt)
 |pick (c a b:Tt)
 |alloc (z:List V)
 |box (n:Nat) (x:Tt)
 |build (z:List V) (T0:List (Nat × Nat × Tt))
 |Yx (len esz:Nat) (z:List V) (T0:List (Nat × Nat × Tt))
 |load (agg:Bool) (n:Nat) (a:Tt)
 |store (n:Nat) (a x:Tt)
 |nilCheck (x:Tt)
 |UU (op:Bn) (x y:Tt)
 |eq1 (neg:Bool) (k:Ek) (x y:Tt)
 |Y5 (neg:Bool) (ks:List Bool) (x y:Tt)
 |neg (x:Tt) | not (x:Tt) | aaW (x:Tt)
 |conv (k:IntKind) (x:Tt)
 |makeSlice (esz bytes:Nat) (z:List V) (l c:Tt)
 |Zi (esz:Nat) (x:Tt) (lo hi:Option Tt)
 |ZY (n esz:Nat) (x:Tt) (lo hi:Option Tt)
 |part (agg:Bool) (off n:Nat) (x:Tt)
 |Y6 (off:Nat) (x:Tt)
 |Zb (esz:Nat) (x i:Tt)
 |Za (len esz:Nat) (x i:Tt)
 |aa0 (len esz:Nat) (agg:Bool) (x i:Tt)
 |aag (x i:Tt)
 |extract (x:Tt) (i:Nat)
 |Zd (x:Tt)
 |aak (x:Tt)
 |aa2 (n:Nat)
 |append (esz bytes:Nat) (x y:Tt)
 |gT (esz bytes:Nat) (z:List V) (x n:Tt)
 |copy (esz:Nat) (x y:Tt)
 |YM (z:List V) (x:Tt)
 |YL (x:Tt)
 |XA (max:Bool) (xs:List Tt)
 |recover
 |makeFunc (f:FuncId) (first cap:List Tt)
 |makeMap
 |lookup (kk:Kk) (z:V) (ok:Bool) (m k:Tt)
 |mapUpdate (kk:Kk) (m k v:Tt)
 |delete (kk:Kk) (m k:Tt)
 |call (f:FuncId) (xs:List Tt)
 |YK (f:Tt) (xs:List Tt)
 |defer (f:FuncId) (xs:List Tt)
 |Zx (f:Tt) (xs:List Tt)
 |Xe (why:String)
 deriving Inhabited,Repr,DecidableEq
structure eY where
 dst:Option Nat
 op:TL
 guard:Option (Nat × Bool)
 deriving Inhabited,Repr,DecidableEq
structure dY where
 o:eY
 lo:Nat
 hi:Nat
 deriving Inhabited,Repr,DecidableEq
inductive AC where
 |skip
 |region (ops:List eY)
 |YS (dst:Option Nat) (ops:List eY)
 |Yh (ops:List dY)
 |seq (a b:AC)
 |cond (c:Tt) (a b:AC)
 |block (id:Nat) (b:AC)
 |loop (b:AC)
 |exit (id:Nat)
 |ret
 |scope (b:AC)
 |label (l:Nat)
 |goto (l:Nat)
 |Xe (why:String)
 deriving Inhabited,Repr,DecidableEq
inductive VH where
 |tmp (t:Nat)
 |cell (t:Nat) (agg:Bool) (n:Nat)
 deriving Inhabited,Repr
inductive TP where
 |lock | unlock | aal | aap
 |still (l:List (Nat × List Int)) (b:Bool)
 deriving Inhabited,Repr,DecidableEq
structure jj where
 results:List VH
 body:AC
 deriving Inhabited,Repr
inductive AF where
 |code (f:jj)
 |ext (e:TP)
 deriving Inhabited,Repr
abbrev T4:=List (FuncId×List V)
structure Fr where
 tmps:T V
 defers:T4
 deriving Inhabited
def Tt.eval(tm:T V):Tt->V
 | .tmp t=>(tm.get t).getD .undef
 | .const v=>v
 | .Xn g=>.ptr (some (g,0))
def mj(op:Bn)(k:IntKind)(x y:Int):Option V:=
 match op with
 | .add=>some (.int k (k.wrap (x+y)))
 | .sub=>some (.int k (k.wrap (x-y)))
 | .mul=>some (.int k (k.wrap (x*y)))
 | .quo=>if y=0 then none else some (.int k (k.wrap (x.tdiv y)))
 | .rem=>if y=0 then none else some (.int k (x.tmod y))
 | .and=>some (.int k (k.wrap (BitVec.ofInt k.bits x &&& BitVec.ofInt k.bits y).toNat))
 | .or=>some (.int k (k.wrap (BitVec.ofInt k.bits x |||BitVec.ofInt k.bits y).toNat))
 | .xor=>some (.int k (k.wrap (BitVec.ofInt k.bits x ^^^BitVec.ofInt k.bits y).toNat))
 | .andNot=>some (.int k (k.wrap (BitVec.ofInt k.bits x &&& ~~~ BitVec.ofInt k.bits y).toNat))
 | .eql=>some (.bool (x ==y))
 | .neq=>some (.bool (x !=y))
 | .lss=>some (.bool (decide (x<y)))
 | .leq=>some (.bool (decide (x≤y)))
 | .gtr=>some (.bool (decide (x > y)))
 | .geq=>some (.bool (decide (x ≥ y)))
 |_=>none
def Bo(op:Bn)(k:IntKind)(x y:Int):Option V:=
 if y<0 then none else
 match op with
 | .shl=>some (.int k (k.wrap (x*2^(min y.toNat k.bits))))
 | .shr=>some (.int k (x.fdiv (2^(min y.toNat k.bits))))
 |_=>none
def UU(op:Bn)(x y:V):Option V:=
 match x,y with
 | .int k a,.int k' b=>
  if op=.shl∨op=.shr then Bo op k a b
  else if k=k' then mj op k a b else none
 |_,_=>none
def Y4:Ek->V->V->Option Bool
 | .bool,.bool a,.bool b=>some (a ==b)
 | .ptr,.ptr none,.ptr b=>some b.isNone
 | .ptr,.ptr (some _),.ptr none=>some false
 | .slice,.slice none _ _,.slice b _ _=>some b.isNone
 | .slice,.slice (some _) _ _,.slice none _ _=>some false
 | .map,.map none,.map b=>some b.isNone
 | .map,.map (some _),.map none=>some false
 | .func,.nilFunc,.nilFunc=>some true
 | .func,.nilFunc,.func _ _ _=>some false
 | .func,.func _ _ _,.nilFunc=>some false
 | .iface,.nilIface,.nilIface=>some true
 | .iface,.nilIface,.iface _ _=>some false
 | .iface,.iface _ _,.nilIface=>some false
 |_,_,_=>none
def nr:Bool->V->V->Option Bool
 |false,.bool a,.bool b=>some (a ==b)
 |true,.int k a,.int k' b=>if k=k' then some (a ==b)else none
 |_,_,_=>none
def cF:List Bool->List V->List V->Option Bool
 | [],[],[]=>some true
 |k ::ks,a ::r,b ::s=>match nr k a b with
  |some false=>some false
  |some true=>cF ks r s
  |none=>none
 |_,_,_=>none
def bZ(cells:List V):List (Nat×Nat×V)->Option (List V)
 | []=>some cells
 |(off,size,v) ::r=>
  if v.cells.length=size∧off+size≤cells.length then bZ (cells.take off++v.cells++cells.drop (off+size)) r else none
def aG(tm:T V)(ps:List (Nat×Nat×Tt)):List (Nat×Nat×V):=ps.map fun p=>(p.1,p.2.1,p.2.2.eval tm)
def bL(z:List V):Nat->List V
 | 0=>[]
 |n+1=>z++bL z n
def aq:Nat:=2^47
def dc(σ:St)(esz bytes k:Nat)(vs:List V)(a:Option (Nat×Nat))(xl:Nat):Option (V×St):=
  if(xl+k)*bytes≤aq∧xl+k≤aq∧vs.all V.Tr=true then
    match a with
    | none=>if xl=0 then some (.slice (some (σ.next,0)) k esz,σ.ag vs)else none
    | some (id,off)=>
      if off=0 then
        match σ.Tq.get id with
        | some (.cells false g n z t)=>
          match qN n z t 0 (xl*esz)with
          | none=>none
          | some TE=>
            some (.slice (some (σ.next,0)) (xl+k) esz,
              { next:=σ.next+1
                Tq:=T.set
                  (gO (if g=0 then []else((σ.TX.get g).getD []).drop 8)
                    (eB id (xl*esz) (if g=0 then []else(σ.TX.get g).getD []) (σ.Tq.set id (.cells false (if g=0 then σ.next else g) (min n (xl*esz)) z t))))
                  σ.next (.cells false (if g=0 then σ.next else g) (TE ++vs).length [] (ofList (TE ++vs)))
                TX:=σ.TX.set (if g=0 then σ.next else g) (σ.next ::(if g=0 then [id]else((σ.TX.get g).getD []).take 8)) })
        | _=>none
      else none
  else none
def dj(σ:St)(esz bytes:Nat)(x y:V):Option (V×St):=
 match x,y with
 | .slice xa xl xe,.slice ya yl _=>
  if esz=0∨xe≠esz∧xa.isSome then none else
  if yl=0 then some (.slice xa xl xe,σ)else
  match ya with
  |none=>none
  |some (id,off)=>match σ.load id off (yl*esz)with
   |none=>none
   |some a=>dc σ esz bytes yl a xa xl
 |_,_=>none
def gH(σ:St)(esz bytes:Nat)(z:List V)(x n:V):Option (V×St):=
 match x,n with
 | .slice xa xl xe,.int _ i=>
  if esz=0∨xe≠esz∧xa.isSome then none else
  if 0<i∧i≤1000000000000 then dc σ esz bytes i.toNat (bL z i.toNat) xa xl else none
 |_,_=>none
def lI(x:V)(y:Nat):Option Nat:=
 match x with
 | .int _ i=>if 0≤i∧i≤y then some i.toNat else none
 |_=>none
def XW(lo:Option V)(h:Nat):Option (Nat×Nat):=
 match lo with
 |none=>some (0,h)
 |some x=>match lI x h with
  |some l=>some (l,h)
  |none=>none
def sliceB(lo hi:Option V)(len a:Nat):Option (Nat×Nat):=
 match hi with
 |none=>XW lo len
 |some y=>match lI y a with
  |none=>none
  |some h=>XW lo h
def kg:Kk->V->V->Option Bool
 | .int,.int k a,.int k' b=>if k=k' then some (a ==b)else none
 | .WJ,.WJ a,.WJ b=>some (a ==b)
 | .bool,.bool a,.bool b=>some (a ==b)
 |_,_,_=>none
def ZV:Kk->V->Bool
 | .int,.int _ _=>true
 | .WJ,.WJ _=>true
 | .bool,.bool _=>true
 |_,_=>false
def dR(kk:Kk)(k:V):List (V×V)->Nat->Option (Option (Nat×V))
 | [],_=>if ZV kk k then some none else none
 |(a,v) ::r,i=>match kg kk k a with
  |some true=>some (some (i,v))
  |some false=>dR kk k r (i+1)
  |none=>none
def kS(b:Bool):V->List V->Option V
 |a,[]=>some a
 | .int k x,.int k' y ::r=>if k=k' then kS b (.int k (if b then(if y > x then y else x)else(if y<x then y else x))) r else none
 |_,_=>none
def cN(op:TL)(tm:T V):Option V:=
 match op with
 | .mv x=>some (x.eval tm)
 | .pick c a b=>match c.eval tm with| .bool t=>some (if t then a.eval tm else b.eval tm)|_=>none
 | .build z p=>match bZ z (aG tm p)with|some cs=>some (.agg cs)|none=>none
 | .nilCheck x=>match x.eval tm with
  | .ptr (some a)=>some (.ptr (some a))
  | .func f a b=>some (.func f a b)
  |_=>none
 | .UU op x y=>UU op (x.eval tm) (y.eval tm)
 | .eq1 neg k x y=>match Y4 k (x.eval tm) (y.eval tm)with|some b=>some (.bool (if neg then !b else b))|none=>none
 | .Y5 neg ks x y=>match x.eval tm,y.eval tm with
  | .agg a,.agg b=>match cF ks a b with|some r=>some (.bool (if neg then !r else r))|none=>none
  |_,_=>none
 | .neg x=>match x.eval tm with| .int k n=>some (.int k (k.wrap (0-n)))|_=>none
 | .not x=>match x.eval tm with| .bool b=>some (.bool (!b))|_=>none
 | .aaW x=>match x.eval tm with| .int k n=>mj .xor k (if k.signed then -1 else k.max) n|_=>none
 | .conv k x=>match x.eval tm with| .int _ n=>some (.int k (k.wrap n))|_=>none
 | .Zi d x lo hi=>match x.eval tm with
  | .slice a len e=>match sliceB (lo.map (·.eval tm)) (hi.map (·.eval tm)) len len with
   |some (l,h)=>match a with
    |none=>some (.slice none (h-l) e)
    |some (id,g)=>if e=d then some (.slice (some (id,g+l*d)) (h-l) e)else none
   |none=>none
  |_=>none
 | .part agg g n x=>match x.eval tm with
  | .agg cs=>if agg then(if g+n≤cs.length then some (.agg ((cs.drop g).take n))else none)else cs[g]?
  |_=>none
 | .Y6 g x=>match x.eval tm with| .ptr (some (id,o))=>some (.ptr (some (id,o+g)))|_=>none
 | .Zb d x i=>match x.eval tm,i.eval tm with
  | .slice (some (id,g)) len _,.int _ n=>if 0≤n∧n<len then some (.ptr (some (id,g+n.toNat*d)))else none
  |_,_=>none
 | .Za len d x i=>match x.eval tm,i.eval tm with
  | .ptr (some (id,g)),.int _ n=>if 0≤n∧n<len then some (.ptr (some (id,g+n.toNat*d)))else none
  |_,_=>none
 | .aa0 len d agg x i=>match x.eval tm,i.eval tm with
  | .agg cs,.int _ n=>if 0≤n∧n<len then
    (if agg then(if n.toNat*d+d≤cs.length then some (.agg ((cs.drop (n.toNat*d)).take d))else none)else cs[n.toNat*d]?)else none
  |_,_=>none
 | .aag x i=>match x.eval tm,i.eval tm with
  | .WJ s,.int _ n=>if 0≤n then(match s[n.toNat]? with|some b=>some (.int .u8 b)|none=>none)else none
  |_,_=>none
 | .extract x i=>match x.eval tm with| .tuple q=>q[i]?|_=>none
 | .Zd x=>match x.eval tm with
  | .slice _ n _=>some (.int .i64 n)
  |_=>none
 | .aa2 n=>some (.int .i64 n)
 | .XA m xs=>match xs.map (·.eval tm)with| []=>none|a ::r=>kS m a r
 | .makeFunc f first j=>some (.func f (first.map (·.eval tm)) (j.map (·.eval tm)))
 |_=>none
def eT(op:TL)(tm:T V)(σ:St):Option V:=
 match op with
 | .load agg n a=>match a.eval tm with
  | .ptr (some (id,off))=>if agg then(match σ.load id off n with|some e=>some (.agg e)|none=>none)else σ.cell id off
  |_=>none
 | .ZY n c x lo hi=>match x.eval tm with
  | .ptr (some (id,off))=>match sliceB (lo.map (·.eval tm)) (hi.map (·.eval tm)) n n with
   |some (l,h)=>if l=0∧h=n then(match σ.Tq.get id with
    |some (.cells _ _ k _ _)=>if off+n*c≤k then some (.slice (some (id,off)) n c)else none
    |_=>none)else none
   |none=>none
  |_=>none
 | .aak x=>match x.eval tm with
  | .map none=>some (.int .i64 0)
  | .map (some r)=>match σ.Tq.get r with|some (.map b)=>some (.int .i64 b.length)|_=>none
  |_=>none
 | .lookup d z ok m k=>
  match (match m.eval tm with
   | .map none=>some []
   | .map (some r)=>match σ.Tq.get r with|some (.map b)=>some b|_=>none
   |_=>none:Option (List (V×V)))with
  |none=>none
  |some b=>match dR d (k.eval tm) b 0 with
   |none=>none
   |some r=>match r with
    |none=>some (if ok then .tuple [z,.bool false]else z)
    |some (_,v)=>some (if ok then .tuple [v,.bool true]else v)
 |_=>none
def bp(op:TL)(tm:T V)(σ:St):Option (V×St):=
 match op with
 | .alloc z=>some (.ptr (some (σ.next,0)),σ.new (.cells false 0 z.length z .nil))
 | .box n x=>if(x.eval tm).cells.length=n then some (.ptr (some (σ.next,0)),σ.ag (x.eval tm).cells)else none
 | .Yx len d z h=>match bZ (bL z len) (aG tm h)with
  |some cs=>some (.slice (some (σ.next,0)) len d,σ.ag cs)
  |none=>none
 | .store n a x=>match a.eval tm with
  | .ptr (some (id,off))=>if(x.eval tm).cells.length=n then(match σ.store id off (x.eval tm).cells with|some σ=>some (.undef,σ)|none=>none)else none
  |_=>none
 | .makeSlice d bytes z l c=>match l.eval tm,c.eval tm with
  | .int _ a,.int _ b=>
   if 0≤a∧a≤b∧b.toNat*bytes≤aq∧b<9223372036854775808 then
    some (.slice (some (σ.next,0)) a.toNat d,σ.new (.cells false 0 (b.toNat*d) z .nil))
   else none
  |_,_=>none
 | .append d bytes x y=>dj σ d bytes (x.eval tm) (y.eval tm)
 | .gT d bytes z x n=>gH σ d bytes z (x.eval tm) (n.eval tm)
 | .copy d x y=>match x.eval tm,y.eval tm with
  | .slice xa e _,.slice ya f _=>
   match (if min f e*d=0 then some []else match ya with|none=>none|some (id,off)=>σ.load id off (min f e*d):Option (List V)),xa with
   |some [],_=>some (.int .i64 (min f e:Nat),σ)
   |some vs,some (id,off)=>match σ.store id off vs with|some σ=>some (.int .i64 (min f e:Nat),σ)|none=>none
   |_,_=>none
  |_,_=>none
 | .YM z x=>match x.eval tm with
  | .slice none _ _=>some (.tuple [],σ)
  | .slice (some (id,off)) n _=>if n=0 then some (.tuple [],σ)else match σ.store id off (bL z n)with|some σ=>some (.tuple [],σ)|none=>none
  |_=>none
 | .YL x=>match x.eval tm with
  | .map none=>some (.tuple [],σ)
  | .map (some r)=>match σ.Tq.get r with|some (.map _)=>some (.tuple [], { σ with Tq:=σ.Tq.set r (.map []) })|_=>none
  |_=>none
 | .makeMap=>some (.map (some σ.next),σ.new (.map []))
 | .mapUpdate g m k v=>match m.eval tm with
  | .map (some r)=>match σ.Tq.get r with
   |some (.map es)=>match dR g (k.eval tm) es 0 with
    |none=>none
    |some none=>some (.undef, { σ with Tq:=σ.Tq.set r (.map (es++[(k.eval tm,v.eval tm)])) })
    |some (some (i,_))=>some (.undef, { σ with Tq:=σ.Tq.set r (.map (es.set i (k.eval tm,v.eval tm))) })
   |_=>none
  |_=>none
 | .delete g m k=>match m.eval tm with
  | .map (some r)=>match σ.Tq.get r with
   |some (.map es)=>match dR g (k.eval tm) es 0 with
    |none=>none
    |some none=>some (.tuple [], { σ with Tq:=σ.Tq.set r (.map es) })
    |some (some (i,_))=>some (.tuple [], { σ with Tq:=σ.Tq.set r (.map (es.eraseIdx i)) })
   |_=>none
  |_=>none
 |_=>none
def cD:TL->Bool
 | .mv _| .pick ..| .build ..| .nilCheck _| .UU ..| .eq1 ..| .Y5 ..| .neg _| .not _| .aaW _| .conv ..| .Zi ..| .part ..| .Y6 ..
 | .Zb ..| .Za ..| .aa0 ..| .aag ..| .extract ..| .Zd _| .aa2 _| .XA ..| .makeFunc ..=>true
 |_=>false
def bQ:TL->Bool
 | .load ..| .aak _| .lookup ..| .ZY ..=>true
 |_=>false
abbrev iB:=FuncId->List V->St->Option (V×St)
def Uh(call:iB)(op:TL)(tm:T V)(ds:T4)(σ:St):Option (V×T4×St):=
 if cD op then(match cN op tm with|some v=>some (v,ds,σ)|none=>none)
 else if bQ op then(match eT op tm σ with|some v=>some (v,ds,σ)|none=>none)
 else match op with
 | .call g xs=>match call g (xs.map (·.eval tm)) σ with
  |some (v,σ)=>some (v,ds,σ)
  |none=>none
 | .YK g xs=>match g.eval tm with
  | .func g first a=>match call g (first++xs.map (·.eval tm)++a) σ with
   |some (v,σ)=>some (v,ds,σ)
   |none=>none
  |_=>none
 | .defer g xs=>some (.undef,(g,xs.map (·.eval tm)) ::ds,σ)
 | .Zx g xs=>match g.eval tm with
  | .func g first a=>some (.undef,(g,first++xs.map (·.eval tm)++a) ::ds,σ)
  |_=>none
 |op=>match bp op tm σ with|some (v,σ)=>some (v,ds,σ)|none=>none
inductive Ex where
 |normal | exit (id:Nat) | goto (l:Nat) | ret
 deriving Inhabited,Repr,DecidableEq
def gI(tm:T V):Option Nat->V->T V
 |some d,v=>tm.set d v
 |none,_=>tm
def eJ(g:Option (Nat×Bool))(tm:T V):Bool:=
 match g with
 |none=>true
 |some (t,b)=>match tm.get t with
  |some (.bool c)=>c ==b
  |_=>false
def fM(call:iB):List eY->Fr->St->Option (Fr×St)
 | [],fr,σ=>some (fr,σ)
 |o ::r,fr,σ=>
  if eJ o.guard fr.tmps then
   match Uh call o.op fr.tmps fr.defers σ with
   |some (v,ds,σ)=>fM call r ⟨gI fr.tmps o.dst v,ds⟩ σ
   |none=>none
  else fM call r ⟨gI fr.tmps o.dst .undef,fr.defers⟩ σ
def bh:TL->Bool
 | .alloc _=>true
 |_=>false
def cM(op:TL):Bool:=!cD op && !bQ op && !bh op
def Vx:List dY->St->St
 | [],σ=>σ
 |d ::r,σ=>match d.o.op with
  | .alloc z=>Vx r (σ.new (.cells false 0 z.length z .nil))
  |_=>Vx r σ
def lJ(call:iB):List dY->Nat->Fr->St->Option (Fr×List (T V×V)×List (T4×St))
 | [],_,fr,_=>some (fr,[],[])
 |d ::r,h,fr,σ=>
  if eJ d.o.guard fr.tmps then
   if bh d.o.op then
    match lJ call r (h+1) ⟨gI fr.tmps d.o.dst (.ptr (some (h,0))),fr.defers⟩ σ with
    |some (f',tr,es)=>some (f',(fr.tmps,.ptr (some (h,0))) ::tr,es)
    |none=>none
   else match Uh call d.o.op fr.tmps fr.defers σ with
    |some (v,ds,σ')=>match lJ call r h ⟨gI fr.tmps d.o.dst v,ds⟩ σ' with
     |some (f',tr,es)=>some (f',(fr.tmps,v) ::tr,if cM d.o.op then(ds,σ') ::es else es)
     |none=>none
    |none=>none
  else if bh d.o.op then none
  else match lJ call r h ⟨gI fr.tmps d.o.dst .undef,fr.defers⟩ σ with
   |some (f',tr,es)=>some (f',(fr.tmps,.undef) ::tr,if cM d.o.op then(fr.defers,σ) ::es else es)
   |none=>none
def fG(op:TL)(tm:T V)(v:V)(lo hi:Nat):Nat->List (T4×St)->Bool
 |_,[]=>true
 |m,(_,σ) ::r=>(if lo≤m∧m≤hi then(match eT op tm σ with|some u=>eE u v|none=>false)else true) && fG op tm v lo hi (m+1) r
def eN(h:Nat)(z:List V)(hi:Nat):Nat->List (T4×St)->Bool
 |_,[]=>true
 |m,(_,σ) ::r=>(if m≤hi then(match σ.Tq.get h with
  |some (.cells false 0 n z' .nil)=>n ==z.length && jh z' z
  |_=>false)else true) && eN h z hi (m+1) r
def dP(es:List (T4×St)):List dY->Nat->List (T V×V)->Bool
  | [],_,_=>true
  | d ::r,h,(tm,v) ::tr=>
    (if bQ d.o.op && eJ d.o.guard tm then fG d.o.op tm v d.lo d.hi 0 es else true) &&
    (match d.o.op with
     | .alloc z=>eN h z d.hi 0 es && dP es r (h+1) tr
     | _=>dP es r h tr)
  | _ ::_,_, []=>false
def gW(σ:St):List (T4×St)->St
 | []=>σ
 |(_,σ') ::r=>gW σ' r
def jM(call:iB)(ops:List dY)(fr:Fr)(σ:St):Option (Fr×St):=
 match lJ call ops σ.next fr (Vx ops σ)with
 |some (Tw,tr,es)=>if dP ((fr.defers,Vx ops σ) ::es) ops σ.next tr then some (Tw,gW (Vx ops σ) es)else none
 |none=>none
def findLabel:AC->Nat->Option AC
 | .seq a b,l=>match findLabel a l with
  |some r=>some (.seq r b)
  |none=>findLabel b l
 | .label l',l=>if l' ==l then some .skip else none
 |_,_=>none
def bR(tm:T V)(σ:St):List VH->Option (List V)
 | []=>some []
 | .tmp t ::r=>match bR tm σ r with|some l=>some ((tm.get t).getD .undef ::l)|none=>none
 | .cell t agg n ::r=>match (tm.get t).getD .undef with
  | .ptr (some (id,off))=>match bR tm σ r with
   |none=>none
   |some l=>if agg then(match σ.load id off n with|some vs=>some (.agg vs ::l)|none=>none)else(match σ.cell id off with|some v=>some (v ::l)|none=>none)
  |_=>none
def Dj:List V->V
 | [v]=>v
 |vs=>.tuple vs
def wx(σ:St)(id:Nat):Nat->List Int->Bool
 |_,[]=>true
 |off,n ::r=>(match σ.cell id off with|some v=>eE v (.int .u64 n)|none=>false) && wx σ id (off+1) r
def zR(σ:St)(l:List (Nat×List Int)):Bool:=l.all fun p=>wx σ p.1 0 p.2
def dA(e:TP)(xs:List V)(σ:St):Option (V×St):=
 match e,xs with
 | .lock,[.ptr (some (id,off))]=>match σ.cell id off with
  |some (.int .i32 0)=>(σ.store id off [.int .i32 1]).map (.tuple [], ·)
  |_=>none
 | .unlock,[.ptr (some (id,off))]=>match σ.cell id off with
  |some (.int .i32 1)=>(σ.store id off [.int .i32 0]).map (.tuple [], ·)
  |_=>none
 | .aal,[.ptr (some (id,off))]=>match σ.cell id off with
  |some (.int .u32 n)=>some (.int .u32 n,σ)
  |_=>none
 | .aap,[.ptr (some (id,off)),.int .u32 n]=>match σ.cell id off with
  |some (.int .u32 _)=>(σ.store id off [.int .u32 n]).map (.tuple [], ·)
  |_=>none
 | .still l b,[]=>if zR σ l=true then some (.bool b,σ)else none
 |_,_=>none
def enter(xs:List V):Fr:=⟨ofList xs,[]⟩
def pK{a:Type}(f:a->a->Bool):T a->T a->Bool
 | .nil,.nil=>true
 | .node v l r,.node v' l' r'=>(match v,v' with|none,none=>true|some x,some y=>f x y|_,_=>false) && pK f l l' && pK f r r'
 |_,_=>false
def yU:List (V×V)->List (V×V)->Bool
 | [],[]=>true
 |(a,b) ::r,(c,d) ::s=>eE a c && eE b d && yU r s
 |_,_=>false
def Gp:Obj->Obj->Bool
 | .cells a g n z t,.cells a' g' n' z' t'=>a ==a' && g ==g' && n ==n' && jh z z' && pK eE t t'
 | .map e,.map e'=>yU e e'
 | .Wu,.Wu=>true
 |_,_=>false
def yW:List Nat->List Nat->Bool
 | [],[]=>true
 |a ::r,b ::s=>a ==b && yW r s
 |_,_=>false
def Ap(a b:St):Bool:=a.next ==b.next && pK Gp a.Tq b.Tq && pK yW a.TX b.TX
def sQ:T4->T4->Bool
 | [],[]=>true
 |(f,a) ::r,(g,b) ::s=>f ==g && jh a b && sQ r s
 |_,_=>false
def D6(a b:Fr):Bool:=pK eE a.tmps b.tmps && sQ a.defers b.defers
structure pG where
 b:AC
 fr:Fr
 σ:St
 ex:Ex
 Tw:Fr
 σ':St
def ki:List pG->AC->Fr->St->Option (Ex×Fr×St)
 | [],_,_,_=>none
 |m ::r,b,fr,σ=>if m.σ.next ==σ.next && (D6 m.fr fr && (Ap m.σ σ && decide (m.b=b)))then some (m.ex,m.Tw,m.σ')else ki r b fr σ
def T7(call:iB)(L:List pG):Nat->AC->Fr->St->Option (Ex×Fr×St)
 | 0,_,_,_=>none
 |f+1,c,fr,σ=>match c with
  | .skip=>some (.normal,fr,σ)
  | .region ops=>match fM call ops fr σ with|some (fr,σ)=>some (.normal,fr,σ)|none=>none
  | .YS d ops=>match fM call ops ⟨gI fr.tmps d .nilIface,fr.defers⟩ σ with|some (fr,σ)=>some (.normal,fr,σ)|none=>none
  | .Yh ops=>match jM call ops fr σ with|some (fr,σ)=>some (.normal,fr,σ)|none=>none
  | .seq a b=>match T7 call L f a fr σ with
   |some (.normal,fr,σ)=>T7 call L f b fr σ
   |r=>r
  | .cond c a b=>match c.eval fr.tmps with
   | .bool t=>if t then T7 call L f a fr σ else T7 call L f b fr σ
   |_=>none
  | .block id b=>match T7 call L f b fr σ with
   |some (.exit i,fr,σ)=>if i=id then some (.normal,fr,σ)else some (.exit i,fr,σ)
   |r=>r
  | .loop b=>match ki L b fr σ with
   |some r=>some r
   |none=>match T7 call L f b fr σ with
    |some (.normal,fr,σ)=>T7 call L f (.loop b) fr σ
    |r=>r
  | .exit id=>some (.exit id,fr,σ)
  | .ret=>some (.ret,fr,σ)
  | .scope b=>match T7 call L f b fr σ with
   |some (.goto l,fr,σ)=>scopeLoop (T7 call L f) b f l fr σ
   |r=>r
  | .label _=>some (.normal,fr,σ)
  | .goto l=>some (.goto l,fr,σ)
  | .Xe _=>none
where
 scopeLoop (run:AC->Fr->St->Option (Ex×Fr×St)) (b:AC):Nat->Nat->Fr->St->Option (Ex×Fr×St)
  | 0,_,_,_=>none
  |n+1,l,fr,σ=>match findLabel b l with
   |none=>some (.goto l,fr,σ)
   |some r=>match run r fr σ with
    |some (.goto l,fr,σ)=>scopeLoop run b n l fr σ
    |r=>r
def fH(call:iB):T4->St->Option St
 | [],σ=>some σ
 |(g,xs) ::r,σ=>match call g xs σ with
  |some (_,σ)=>fH call r σ
  |none=>none
structure fK where
 g:FuncId
 xs:List V
 σ:St
 v:V
 σ':St
 TJ:Option (List (Nat × Obj))
def IQ(l:List (Nat×Obj))(n:Nat)(σ:St):Bool:=decide (σ.next≤n) && l.all fun p=>(match p.2 with| .cells _ 0 _ _ _=>true| .map ..=>true|_=>false) && (match σ.Tq.get p.1 with|some o=>Gp p.2 o|none=>false)
def pC(n:Nat)(l:List (Nat×Obj)):St:=⟨n,l.foldr (fun p t=>T.set t p.1 p.2) .nil,.nil⟩
def fK.at(m:fK):St:=match m.TJ with|none=>m.σ|some l=>pC m.σ.next l
def fK.Vd(m:fK)(σ:St):Bool:=match m.TJ with|none=>m.σ.next ==σ.next && Ap m.σ σ|some l=>IQ l m.σ.next σ
def jm:List fK->FuncId->List V->St->Option (V×St)
 | [],_,_,_=>none
 |m ::r,g,xs,σ=>if m.g ==g && (jh m.xs xs && m.Vd σ)then some (m.v,m.σ')else jm r g xs σ
def fj(Γ:T AF)(call:iB):iB:=fun g xs σ=>match Γ.get g with
 |some (.code _)=>call g xs σ
 |some (.ext .unlock)=>call g xs σ
 |_=>none
def eF(Γ:T AF)(M:List fK)(L:List pG):Nat->iB
 | 0,_,_,_=>none
 |f+1,g,xs,σ=>match jm M g xs σ with
  |some r=>some r
  |none=>match Γ.get g with
   |some (.ext e)=>dA e xs σ
   |some (.code fn)=>match T7 (eF Γ M L f) L f fn.body (enter xs) σ with
    |some (ex,fr,σ)=>if ex=.normal∨ex=.ret then
      match fH (fj Γ (eF Γ M L f)) fr.defers σ with
      |some σ=>match bR fr.tmps σ fn.results with|some vs=>some (Dj vs,σ)|none=>none
      |none=>none
     else none
    |_=>none
   |none=>none
end
end AM
namespace AM
open Go
mutual
def Wp:Value->Option V
 | .bool b=>some (.bool b)
 | .int k n=>some (.int k n)
 | .string s=>some (.WJ (s.data.toList.map (·.toNat)))
 | .pointer none=>some (.ptr none)
 | .slice none l c=>if l=0∧c=0 then some (.slice none 0 0)else none
 | .map none=>some (.map none)
 | .nilFunc=>some .nilFunc
 | .nilIface=>some .nilIface
 | .agg ⟨cs⟩=>match Ii cs with|some l=>some (.agg l)|none=>none
 | .tuple ⟨cs⟩=>match Ii cs with|some l=>some (.tuple l)|none=>none
 |_=>none
def Ii:List Value->Option (List V)
 | []=>some []
 |v ::r=>match Wp v,Ii r with
  |some a,some b=>some (a ::b)
  |_,_=>none
end
section
variable (P:Program)
def iu(t:TypeId):Option Nat:=(P.info? t).map (·.size)
def bytesOf(t:TypeId):Option Nat:=(P.info? t).map (·.bytes)
def aba(t:TypeId):Option V:=(P.info? t).bind fun i=>i.zero.bind Wp
def nQ(t:TypeId):Option (List V):=match aba P t,iu P t with
 |some z,some n=>if z.cells.length=n then some z.cells else none
 |_,_=>none
def uE(t:TypeId):Option Bool:=(P.underlying t).map fun d=>match d with| .struct _| .array _ _=>true|_=>false
def UT:Operand->Option Tt
 | .tmp t=>some (.tmp t)
 | .const v=>match Wp v with|some x=>some (.const x)|none=>none
 | .global g=>if g<P.globals.size then some (.Xn g)else none
 | .func f=>some (.const (.func f [] []))
def XE:List Operand->Option (List Tt)
 | []=>some []
 |x ::r=>match UT P x,XE r with
  |some a,some b=>some (a ::b)
  |_,_=>none
def T0(c:Nat->Option (Nat×Nat)):List (Nat×Operand)->Option (List (Nat×Nat×Tt))
 | []=>some []
 |(i,x) ::r=>match c i,UT P x,T0 c r with
  |some (o,s),some a,some b=>some ((o,s,a) ::b)
  |_,_,_=>none
def aam:Option Operand->Option (Option Tt)
 |none=>some none
 |some x=>match UT P x with|some a=>some (some a)|none=>none
def bn:BinOp->Bn
 | .add=>.add| .sub=>.sub| .mul=>.mul| .quo=>.quo| .rem=>.rem| .and=>.and| .or=>.or| .xor=>.xor| .andNot=>.andNot
 | .shl=>.shl| .shr=>.shr| .eql=>.eql| .neq=>.neq| .lss=>.lss| .leq=>.leq| .gtr=>.gtr| .geq=>.geq
def oZ(t:TypeId):Option Bool:=
 if iu P t=some 1 then(match P.underlying t with
  |some .bool=>some false
  |some (.int _)=>some true
  |_=>none)else none
def EC(t:TypeId):Option (List Bool):=match P.underlying t with
 |some (.array n e)=>if iu P t=some n then(match oZ P e with|some k=>some (List.replicate n k)|none=>none)else none
 |_=>match oZ P t with|some k=>some [k]|none=>none
def rG:List Field->Nat->Option (List Bool)
 | [],_=>some []
 |f :: r, off => if f.offset = off /\ f.name ≠ "_" then (match EC P f.type with
  |some l=>match rG r (off+l.length)with|some m=>some (l++m)|none=>none
  |none=>none)else none
def AJ(t:TypeId):Option (List Bool):=match P.underlying t with
 |some (.struct fs)=>if P.stoodInHeld t=false then rG P fs.toList 0 else none
 |_=>none
def YP:Operand->Bool
 | .const _=>true
 |_=>false
def Nq(t:TypeId)(x y:Operand):Option Ek:=match P.underlying t with
 |some .bool=>some .bool
 |some (.pointer _)=>some .ptr
 |some (.slice _)=>some .slice
 |some (.map _ _)=>some .map
 |some (.func _ _ _)=>some .func
 |some (.interface _)=>if YP x ||YP y then some .iface else none
 |_=>none
def BS(t:TypeId):Option Kk:=match P.underlying t with
 |some (.int _)=>some .int
 |some .string=>some .WJ
 |some .bool=>some .bool
 |_=>none
def vz(t:TypeId)(a:Operand):Option TL:=match uE P t,iu P t,UT P a with
 |some g,some n,some a=>some (.load g n a)
 |_,_,_=>none
def Ea(op:BinOp)(t:TypeId)(x y:Operand):Option TL:=
 match UT P x,UT P y with
 |some a,some b=>match P.underlying t with
  |some (.int _)=>some (.UU (bn op) a b)
  |some (.struct _)|some (.array _ _)=>
   if(op=.eql∨op=.neq)∧P.eqGuardType P.depth t=false then(match AJ P t with|some ks=>some (.Y5 (op == .neq) ks a b)|none=>none)else none
  |_=>if op=.eql∨op=.neq then(match Nq P t x y with|some k=>some (.eq1 (op == .neq) k a b)|none=>none)else none
 |_,_=>none
def qd(t:TypeId)(x:Operand)(lo hi a:Option Operand):Option TL:=
 if a.isSome then none else
 match UT P x,aam P lo,aam P hi with
 |some x,some lo,some hi=>match P.underlying t with
  |some (.array n e)=>(match iu P e with|some s=>some (.ZY n s x lo hi)|none=>none)
  |some (.slice e)=>(match iu P e with|some s=>some (.Zi s x lo hi)|none=>none)
  |_=>none
 |_,_,_=>none
def iJ(b:Builtin)(ts:Array TypeId)(args:List Operand):Option TL:=
 match b,ts[0]?,args with
 | .len,some t,[x]=>match P.underlying t,UT P x with
  |some (.array n _),_=>some (.aa2 n)
  |some (.slice _),some a=>some (.Zd a)
  |some (.map _ _),some a=>some (.aak a)
  |_,_=>none
 | .append,some t,[x,y]=>match P.underlying t with
  |some (.slice e)=>match iu P e,bytesOf P e,nQ P e,UT P x,UT P y with
   |some s,some bs,some z,some x,some y=>
    (match ts[1]? with
    |some u=>match P.underlying u with
     |some (.int _)=>some (.gT s bs z x y)
     |some (.slice _)=>some (.append s bs x y)
     |_=>none
    |none=>none)
   |_,_,_,_,_=>none
  |_=>none
 | .copy,some t,[x,y]=>match P.underlying t with
  |some (.slice e)=>match iu P e,UT P x,UT P y with
   |some s,some x,some y=>some (.copy s x y)
   |_,_,_=>none
  |_=>none
 | .clear,some t,[x]=>match P.underlying t,UT P x with
  |some (.slice e),some a=>(match nQ P e with|some z=>some (.YM z a)|none=>none)
  |some (.map _ _),some a=>some (.YL a)
  |_,_=>none
 | .max,_,xs=>match XE P xs with|some l=>some (.XA true l)|none=>none
 | .min,_,xs=>match XE P xs with|some l=>some (.XA false l)|none=>none
 | .delete,some t,[x,y]=>match P.underlying t,UT P x,UT P y with
  |some (.map k _),some a,some b=>(match BS P k with|some c=>some (.delete c a b)|none=>none)
  |_,_,_=>none
 |_,_,_=>none
def aN(o:Oper):Option TL:=
 match o.op with
 | .move x| .assign x=>match UT P x with|some a=>some (.mv a)|none=>none
 | .pick c a b=>match UT P c,UT P a,UT P b with|some c,some a,some b=>some (.pick c a b)|_,_,_=>none
 | .alloc t=>match nQ P t with|some z=>some (.alloc z)|none=>none
 | .box t x=>match iu P t,UT P x with|some n,some a=>some (.box n a)|_,_=>none
 | .build t h=>match nQ P t,P.underlying t with
  |some z,some (.struct fs)=>(match T0 P (fun i=>match fs[i]? with|some f=>(match iu P f.type with|some s=>some (f.offset,s)|none=>none)|none=>none) h.toList with
   |some l=>if fs.all fun f=>(iu P f.type).isSome then some (.build z l)else none
   |none=>none)
  |some z,some (.array _ e)=>(match iu P e with
   |some s=>match T0 P (fun i=>some (i*s,s)) h.toList with|some l=>some (.build z l)|none=>none
   |none=>none)
  |_,_=>none
 | .buildSlice t len h=>match P.underlying t with
  |some (.slice e)=>match iu P e,nQ P e with
   |some s,some z=>if len*s≤2^24∧0<s then(match T0 P (fun i=>some (i*s,s)) h.toList with|some l=>some (.Yx len s z l)|none=>none)else none
   |_,_=>none
  |_=>none
 | .load t a=>vz P t a
 | .store t a x=>match iu P t,UT P a,UT P x with|some n,some a,some x=>some (.store n a x)|_,_,_=>none
 | .nilCheck x=>match UT P x with|some a=>some (.nilCheck a)|none=>none
 | .binOp op t x y _=>Ea P op t x y
 | .unOp op _ x=>match op,UT P x with
  | .neg,some a=>some (.neg a)
  | .not,some a=>some (.not a)
  | .xor,some a=>some (.aaW a)
  |_,_=>none
 | .convert s d x=>match P.underlying s,P.underlying d,UT P x with
  |some (.int _),some (.int k),some a=>some (.conv k a)
  |_,_,_=>none
 | .makeSlice t l c=>match P.underlying t with
  |some (.slice e)=>match iu P e,bytesOf P e,nQ P e,UT P l,UT P c with
   |some s,some b,some z,some l,some c=>if 0<s then some (.makeSlice s b z l c)else none
   |_,_,_,_,_=>none
  |_=>none
 | .slice t x lo hi p=>qd P t x lo hi p
 | .fieldAddr s x i=>match P.underlying s,UT P x with
  |some (.struct fs),some a=>match fs[i]? with
   |some f=>(match iu P f.type with|some n=>if n=0 then none else some (.Y6 f.offset a)|none=>none)
   |none=>none
  |_,_=>none
 | .field t x i=>match P.underlying t,UT P x with
  |some (.struct fs),some a=>match fs[i]? with
   |some f=>match uE P f.type,iu P f.type with|some g,some n=>some (.part g f.offset n a)|_,_=>none
   |none=>none
  |_,_=>none
 | .indexAddr t x i=>match P.underlying t,UT P x,UT P i with
  |some (.slice e),some a,some b=>(match iu P e with|some s=>some (.Zb s a b)|none=>none)
  |some (.array n e),some a,some b=>(match iu P e with|some s=>some (.Za n s a b)|none=>none)
  |_,_,_=>none
 | .index t x i=>match P.underlying t,UT P x,UT P i with
  |some (.array n e),some a,some b=>(match iu P e,uE P e with|some s,some g=>some (.aa0 n s g a b)|_,_=>none)
  |some .string,some a,some b=>some (.aag a b)
  |_,_,_=>none
 | .lookup t m k ok=>match P.underlying t,UT P m,UT P k with
  |some (.map kt e),some m,some k=>(match aba P e with|some z=>(match BS P kt with|some j=>some (.lookup j z ok m k)|none=>none)|none=>none)
  |_,_,_=>none
 | .mapUpdate t m k v=>match P.underlying t,UT P m,UT P k,UT P v with
  |some (.map kt _),some m,some k,some v=>(match BS P kt with|some j=>some (.mapUpdate j m k v)|none=>none)
  |_,_,_,_=>none
 | .makeMap _ none=>some .makeMap
 | .extract x i=>match UT P x with|some a=>some (.extract a i)|none=>none
 | .makeFunc (.func f) a c=>match XE P a.toList,XE P c.toList with|some a,some c=>some (.makeFunc f a c)|_,_=>none
 | .call c=>match c.callee with
  | .value f=>match XE P c.args.toList with
   |some xs=>(match f with
    | .func g=>some (.call g xs)
    |f=>match UT P f with|some a=>some (.YK a xs)|none=>none)
   |none=>none
  | .builtin b=>iJ P b c.argTypes c.args.toList
  |_=>none
 | .defer c=>match c.callee with
  | .value f=>match XE P c.args.toList with
   |some xs=>(match f with
    | .func g=>some (.defer g xs)
    |f=>match UT P f with|some a=>some (.Zx a xs)|none=>none)
   |none=>none
  |_=>none
 |_=>none
def BZ(n:Nat):Option Nat->Bool
 |some d=>decide (d<n)
 |none=>true
def kQ(n:Nat)(ops:Array Oper)(o:Oper):Option eY:=
 if BZ n o.dst=true then
  match aN P o with
  |none=>none
  |some a=>match o.guard with
   |none=>some ⟨o.dst,a,none⟩
   |some (j,b)=>match (ops[j]?).bind (·.dst)with
    |some t=>some ⟨o.dst,a,some (t,b)⟩
    |none=>none
 else none
def fI(n:Nat)(ops:Array Oper):List Oper->Option (List eY)
 | []=>some []
 |o ::r=>match kQ P n ops o,fI n ops r with
  |some a,some b=>some (a ::b)
  |_,_=>none
def sa(a:List Nat)(es:List Edge):Nat:=
 es.foldl (fun s e=>if Region.binds .any e then s |||2^e.on |||a.getD e.on 0 else s) 0
def Xf(a:List Nat):List Oper->List Nat
 | []=>a
 |o ::r=>Xf (a++[sa a o.after.toList]) r
def Tt.tmps:Tt->List Nat
 | .tmp t=>[t]
 |_=>[]
def oD:Option Tt->List Nat
 |some x=>x.tmps
 |none=>[]
def F7(l:List (Nat×Nat×Tt)):List Nat:=l.flatMap fun p=>p.2.2.tmps
def ua(l:List Tt):List Nat:=l.flatMap (·.tmps)
def TL.tmps:TL->List Nat
 | .mv x| .box _ x| .load _ _ x| .nilCheck x| .neg x| .not x| .aaW x| .conv _ x| .part _ _ _ x| .Y6 _ x| .extract x _| .Zd x| .aak x| .YM _ x| .YL x=>x.tmps
 | .pick c a b=>c.tmps++a.tmps++b.tmps
 | .alloc _| .aa2 _| .recover| .makeMap| .Xe _=>[]
 | .build _ ps| .Yx _ _ _ ps=>F7 ps
 | .store _ a x| .UU _ a x| .eq1 _ _ a x| .Y5 _ _ a x| .makeSlice _ _ _ a x| .Zb _ a x| .Za _ _ a x| .aa0 _ _ _ a x| .aag a x| .append _ _ a x| .gT _ _ _ a x| .copy _ a x
 | .lookup _ _ _ a x| .delete _ a x=>a.tmps++x.tmps
 | .Zi _ x lo hi| .ZY _ _ x lo hi=>x.tmps++oD lo++oD hi
 | .XA _ xs=>ua xs
 | .makeFunc _ a c=>ua a++ua c
 | .mapUpdate _ m k v=>m.tmps++k.tmps++v.tmps
 | .call _ xs| .defer _ xs=>ua xs
 | .YK f xs| .Zx f xs=>f.tmps++ua xs
def eY.Ym(o:eY):List Nat:=o.op.tmps++o.dst.toList++(match o.guard with|some (t,_)=>[t]|none=>[])
def OO:TL->Bool
 | .recover| .Xe _=>false
 |_=>true
def Br(B:List Nat)(l:List eY):Bool:=
 l.zipIdx.all fun(o,j)=>
  OO o.op && (!bh o.op ||o.guard.isNone) &&
  l.zipIdx.all fun(p,i)=>
   (!(cM o.op && cM p.op && i<j) ||(B.getD j 0).testBit i) &&
   (i ==j ||(match p.dst with|some t=>!(o.Ym.contains t) ||(B.getD (max i j) 0).testBit (min i j)|none=>true))
def eM(p:Nat->Bool):Nat->Nat
 | 0=>0
 |k+1=>eM p k+(if p k then 1 else 0)
def eG(l:List eY)(i:Nat):Bool:=match l[i]? with
 |some p=>cM p.op
 |none=>false
def Kq(B:List Nat)(l:List eY)(j:Nat):Nat:=eM (fun i=>eG l i && (B.getD j 0).testBit i) l.length
def Kd(B:List Nat)(l:List eY)(j:Nat):Nat:=eM (fun i=>eG l i && !(B.getD i 0).testBit j) l.length
def qw:Nat->List Oper->Bool
 |_,[]=>true
 |j,o ::r=>(o.after.toList.all fun e=>!Region.binds .any e ||decide (e.on<j)) && qw (j+1) r
def rM(n:Nat)(ops:Array Oper):Option (List dY):=
 match fI P n ops ops.toList with
 |none=>none
 |some l=>
  if Br (Xf [] ops.toList) l && qw 0 ops.toList then
   some (l.zipIdx.map fun(o,j)=>⟨o,Kq (Xf [] ops.toList) l j,Kd (Xf [] ops.toList) l j⟩)
  else none
def pa(o:Oper):Bool:=match o.op with
 | .call c=>(match c.callee with| .builtin .recover=>true|_=>false)
 |_=>false
def comp(n:Nat):Code->AC
 | .skip=>.skip
 | .region _ ops d => if d then (match rM P n ops with | some l => .Yh l | none => .Xe "draw")
  else(match ops.toList with
   |o :: r => if pa o = true /\ o.guard.isNone = true /\ BZ n o.dst = true then (match fI P n ops r with | some l => .YS o.dst l | none => .Xe "region")
    else (match fI P n ops (o :: r) with | some l => .region l | none => .Xe "region")
   | []=>.region [])
 | .seq a b=>.seq (comp n a) (comp n b)
 | .cond c a b => match UT P c with | some c => .cond c (comp n a) (comp n b) | none => .Xe "cond"
 | .block id b=>.block id (comp n b)
 | .loop b=>.loop (comp n b)
 | .rangeFunc .. => .Xe "rangeFunc"
 | .exit id=>.exit id
 | .scope b=>.scope (comp n b)
 | .label l=>.label l
 | .goto l=>.goto l
 | .ret=>.ret
 | .refuse w=>.Xe w
def jL:List ResultVar->Option (List VH)
 | []=>some []
 | .tmp t ::r=>match jL r with|some l=>some (.tmp t ::l)|none=>none
 | .cell a t ::r=>match jL r,uE P t,iu P t with|some l,some g,some n=>some (.cell a g n ::l)|_,_,_=>none
def mW(a:Func):Option jj:=
 if a.name = "runtime.NumGoroutine" then none else
 match a.body with
 |none=>none
 |some b=>match jL P a.results.toList with
  |some c=>some ⟨c,comp P a.ntmps b⟩
  |none=>none
end
end AM
namespace AM
open Go Go.RowKit
abbrev TF:=Nat->Option (Nat×Nat)
def TF.le(φ b:TF):Prop:=∀a x,φ a=some x->b a=some x
def TF.le.refl(φ:TF):φ.le φ:=fun _ _ h=>h
def TF.le.trans{φ c b:TF}(h:φ.le c)(k:c.le b):φ.le b:=fun a x hx=>k a x (h a x hx)
def TF.TN(φ:TF)(a:Nat)(x:Nat×Nat):TF:=fun b=>if b=a then some x else φ b
def TF.an(φ:TF)(a:Nat)(x:Nat×Nat):φ.TN a x a=some x:=by simp[TF.TN]
def TF.ae(φ:TF){a b:Nat}(x:Nat×Nat)(h:b≠a):φ.TN a x b=φ b:=by simp[TF.TN,h]
def TF.xd(φ:TF){a:Nat}(x:Nat×Nat)(h:φ a=none):φ.le (φ.TN a x):=by
 intro b y hy;by_cases e:b=a
 .subst e;rw[h]at hy;cases hy
 rw[TF.ae φ x e];exact hy
mutual
def VR(φ:TF):V->Value->Prop
 | .bool b,v=>v=.bool b
 | .int k n,v=>v=.int k n
 | .WJ s,v=>∃h:ByteArray,v=.string h∧h.data.toList.map (·.toNat)=s
 | .ptr none,v=>v=.pointer none
 | .ptr (some (a,o)),v=>∃b n,φ a=some (b,n)∧v=.pointer (some ⟨b,o,none⟩)
 | .slice none l _,v=>l=0∧v=.slice none 0 0
 | .slice (some (a,o)) l e,v=>(∃b n g d,φ a=some (b,n)∧v=.slice (some ⟨b,g,none⟩) l d∧l≤d∧g+d*e≤n∧(g=o∨(l=0∧d=0)))∨(l=0∧0<o∧∃i,v=.slice (some i) 0 0)
 | .map none,v=>v=.map none
 | .map (some a),v=>∃b n,φ a=some (b,n)∧v=.map (some b)
 | .func f x c,v=>∃X C,v=.func (.func f) X C∧LR φ x X.toList∧LR φ c C.toList
 | .nilFunc,v=>v=.nilFunc
 | .iface t x,v=>∃y,v=.iface t y∧VR φ x y
 | .nilIface,v=>v=.nilIface
 | .agg cs,v=>∃C,v=.agg C∧LR φ cs C.toList
 | .tuple cs,v=>∃C,v=.tuple C∧LR φ cs C.toList
def LR(φ:TF):List V->List Value->Prop
 | [],m=>m=[]
 |a ::r,m=>∃b s,m=b ::s∧VR φ a b∧LR φ r s
end
theorem LR.nil{φ:TF}:LR φ [] []:=rfl
def LR.cons{φ:TF}{a:V}{b:Value}{r:List V}{s:List Value}(h:VR φ a b)(k:LR φ r s):LR φ (a ::r) (b ::s):=⟨b,s,rfl,h,k⟩
mutual
theorem VR.mono{φ d:TF}(h:φ.le d):∀(v:V) (x:Value),VR φ v x->VR d v x
 | .bool b,v,hv=>hv
 | .int k n,v,hv=>hv
 | .WJ s,v,hv=>hv
 | .ptr none,v,hv=>hv
 | .ptr (some (a,o)),v,⟨b,n,ha,hv⟩=>⟨b,n,h _ _ ha,hv⟩
 | .slice none l e,v,hv=>hv
 | .slice (some (a,o)) l e,v,.inl ⟨b,n,o',cap,ha,hv⟩=>.inl ⟨b,n,o',cap,h _ _ ha,hv⟩
 | .slice (some (a,o)) l e,v,.inr hv=>.inr hv
 | .map none,v,hv=>hv
 | .map (some a),v,⟨b,n,ha,hv⟩=>⟨b,n,h _ _ ha,hv⟩
 | .func f x c,v,⟨X,C,hv,hx,hc⟩=>⟨X,C,hv,LR.mono h x _ hx,LR.mono h c _ hc⟩
 | .nilFunc,v,hv=>hv
 | .iface t x,v,⟨y,hv,hx⟩=>⟨y,hv,VR.mono h x y hx⟩
 | .nilIface,v,hv=>hv
 | .agg cs,v,⟨C,hv,hx⟩=>⟨C,hv,LR.mono h cs _ hx⟩
 | .tuple cs,v,⟨C,hv,hx⟩=>⟨C,hv,LR.mono h cs _ hx⟩
theorem LR.mono{φ c:TF}(h:φ.le c):∀(l:List V) (m:List Value),LR φ l m->LR c l m
 | [],m,hm=>hm
 |a ::r,m,⟨b,s,hm,ha,hr⟩=>⟨b,s,hm,VR.mono h a b ha,LR.mono h r s hr⟩
end
def LR.length{φ:TF}:∀{l:List V} {m:List Value},LR φ l m->m.length=l.length
 | [],m,h=>by cases h;rfl
 |a ::r,m,⟨b,s,hm,ha,hr⟩=>by subst hm;simp[LR.length hr]
def LR.get{φ:TF}:∀{l:List V} {m:List Value},LR φ l m->∀(i:Nat) (v:V),l[i]?=some v->∃x,m[i]?=some x∧VR φ v x
 | [],m,h,i,v,hi=>by simp at hi
 |a ::r,m,⟨b,s,hm,ha,hr⟩,i,v,hi=>by
  subst hm;cases i with
  |zero=>simp at hi;subst hi;exact⟨b,rfl,ha⟩
  |succ i=>simpa using LR.get hr i v (by simpa using hi)
def LR.fQ{φ:TF}:∀{l:List V} {m:List Value},m.length=l.length->(∀(i:Nat) (v:V),l[i]?=some v->∃x,m[i]?=some x∧VR φ v x)->LR φ l m
 | [],m,hl,h=>by cases m with|nil=>rfl|cons a b=>simp at hl
 |a ::r,m,hl,h=>by
  cases m with
  |nil=>simp at hl
  |cons b s=>
   obtain⟨x,hx,hv⟩:=h 0 a rfl;simp at hx;subst hx;exact⟨b,s,rfl,hv,LR.fQ (by simpa using hl) fun i v hi=>by simpa using h (i+1) v (by simpa using hi)⟩
def LR.append{φ:TF}:∀{l:List V} {m:List Value} {c:List V} {m':List Value},LR φ l m->LR φ c m'->LR φ (l++c) (m++m')
 | [],m,c,m',h,h'=>by cases h;exact h'
 |a ::r,m,c,m',⟨b,s,hm,ha,hr⟩,h'=>by subst hm;exact⟨b,_,rfl,ha,LR.append hr h'⟩
def LR.take{φ:TF}:∀{l:List V} {m:List Value} (n:Nat),LR φ l m->LR φ (l.take n) (m.take n)
 |l,m,0,h=>by simp;exact LR.nil
 | [],m,n+1,h=>by cases h;exact LR.nil
 |a ::r,m,n+1,⟨b,s,hm,ha,hr⟩=>by subst hm;exact⟨b,_,rfl,ha,LR.take n hr⟩
def LR.drop{φ:TF}:∀{l:List V} {m:List Value} (n:Nat),LR φ l m->LR φ (l.drop n) (m.drop n)
 |l,m,0,h=>by simpa using h
 | [],m,n+1,h=>by cases h;exact LR.nil
 |a ::r,m,n+1,⟨b,s,hm,ha,hr⟩=>by subst hm;simpa using LR.drop n hr
def VR.agg{φ:TF}{cs:List V}{C:Array Value}(h:LR φ cs C.toList):VR φ (.agg cs) (.agg C):=⟨C,rfl,h⟩
def VR.undef{φ:TF}:VR φ .undef Go.undef:=⟨#[],rfl,rfl⟩
def VR.cells{φ:TF}{v:V}{x:Value}(h:VR φ v x):LR φ v.cells x.cells.toList:=by
 cases v with
 |agg cs=>obtain⟨C,rfl,g⟩:=h;exact g
 |tuple cs=>obtain⟨C,rfl,g⟩:=h;exact LR.cons ⟨C,rfl,g⟩ LR.nil
 |bool b=>cases h;exact LR.cons rfl LR.nil
 |int k n=>cases h;exact LR.cons rfl LR.nil
 |WJ s=>obtain⟨m,rfl,q⟩:=h;exact LR.cons ⟨m,rfl,q⟩ LR.nil
 |ptr a=>
  cases a with
  |none=>cases h;exact LR.cons rfl LR.nil
  |some a=>obtain⟨b,n,ha,rfl⟩:=h;exact LR.cons ⟨b,n,ha,rfl⟩ LR.nil
 |slice a l e=>
  cases a with
  |none=>obtain⟨u,rfl⟩:=h;exact LR.cons ⟨u,rfl⟩ LR.nil
  |some a=>
   rcases h with⟨b,n,A,d,ha,rfl,i⟩|⟨o,p,j,rfl⟩
   .exact LR.cons (.inl ⟨b,n,A,d,ha,rfl,i⟩) LR.nil
   exact LR.cons (.inr ⟨o,p,j,rfl⟩) LR.nil
 |map r=>
  cases r with
  |none=>cases h;exact LR.cons rfl LR.nil
  |some a=>obtain⟨b,n,ha,rfl⟩:=h;exact LR.cons ⟨b,n,ha,rfl⟩ LR.nil
 |func f x c=>obtain⟨X,C,rfl,i⟩:=h;exact LR.cons ⟨X,C,rfl,i⟩ LR.nil
 |nilFunc=>cases h;exact LR.cons rfl LR.nil
 |iface t y=>obtain⟨z,rfl,w⟩:=h;exact LR.cons ⟨z,rfl,w⟩ LR.nil
 |nilIface=>cases h;exact LR.cons rfl LR.nil
def VR.FZ{φ:TF}{v:V}{x:Value}(h:VR φ v x)(d:v.Tr=true):x.oneCell'=true:=by
 cases v with
 |agg cs=>simp[V.Tr]at d
 |tuple cs=>simp[V.Tr]at d
 |bool b=>cases h;rfl
 |int k n=>cases h;rfl
 |WJ s=>obtain⟨m,rfl,q⟩:=h;rfl
 |ptr a=>
  cases a with
  |none=>cases h;rfl
  |some a=>obtain⟨b,n,ha,rfl⟩:=h;rfl
 |slice a l e=>
  cases a with
  |none=>obtain⟨u,rfl⟩:=h;rfl
  |some a=>rcases h with⟨b,n,A,g,ha,rfl,i⟩|⟨o,p,j,rfl⟩ <;> rfl
 |map r=>
  cases r with
  |none=>cases h;rfl
  |some a=>obtain⟨b,n,ha,rfl⟩:=h;rfl
 |func f x c=>obtain⟨X,C,rfl,i⟩:=h;rfl
 |nilFunc=>cases h;rfl
 |iface t y=>obtain⟨z,rfl,w⟩:=h;rfl
 |nilIface=>cases h;rfl
mutual
theorem uT(φ:TF):∀(x:Value) (v:V),Wp x=some v->VR φ v x
 | .bool b,v,h=>by simp[Wp]at h;subst h;rfl
 | .int k n,v,h=>by simp[Wp]at h;subst h;rfl
 | .string s,v,h=>by simp[Wp]at h;subst h;exact⟨s,rfl,rfl⟩
 | .pointer none,v,h=>by simp[Wp]at h;subst h;rfl
 | .pointer (some a),v,h=>by simp[Wp]at h
 | .slice none l c,v,h=>by simp[Wp]at h;obtain⟨⟨rfl,rfl⟩,rfl⟩:=h;exact⟨rfl,rfl⟩
 | .slice (some a) l c,v,h=>by simp[Wp]at h
 | .map none,v,h=>by simp[Wp]at h;subst h;rfl
 | .map (some r),v,h=>by simp[Wp]at h
 | .nilFunc,v,h=>by simp[Wp]at h;subst h;rfl
 | .nilIface,v,h=>by simp[Wp]at h;subst h;rfl
 | .agg ⟨cs⟩,v,h=>by
  simp only[Wp]at h;split at h
  .rename_i l d;simp at h;subst h;exact⟨⟨cs⟩,rfl,xg φ cs l d⟩
  cases h
 | .tuple ⟨cs⟩,v,h=>by
  simp only[Wp]at h;split at h
  .rename_i l d;simp at h;subst h;exact⟨⟨cs⟩,rfl,xg φ cs l d⟩
  cases h
 | .float _ _,v,h=>by simp[Wp]at h
 | .complex _ _ _,v,h=>by simp[Wp]at h
 | .chan _,v,h=>by simp[Wp]at h
 | .func _ _ _,v,h=>by simp[Wp]at h
 | .iface _ _,v,h=>by simp[Wp]at h
theorem xg(φ:TF):∀(x:List Value) (v:List V),Ii x=some v->LR φ v x
 | [],v,h=>by simp[Ii]at h;subst h;rfl
 |a ::r,v,h=>by
  simp only[Ii]at h;split at h
  .rename_i x y hx hy;simp at h;subst h;exact⟨a,r,rfl,uT φ a x hx,xg φ r y hy⟩
  cases h
end
def ER(φ:TF)(l:List (V×V))(m:List MapEntry):Prop:=
 m.length=l.length∧∀(i:Nat) k v,l[i]?=some (k,v)->∃e,m[i]?=some e∧VR φ k e.key∧VR φ v e.val
def Obj.Ty:Obj->Bool
 | .Wu=>false
 |_=>true
def Obj.X6:Obj->Bool
 | .cells ro _ _ _ _=>!ro
 | .map _=>true
 | .Wu=>false
def Obj.TG:Obj->Nat
 | .cells _ g _ _ _=>g
 |_=>0
def qx(φ:TF)(B b n:Nat)(w:World):Obj->Prop
 | .cells ro _ k z t=>∃C E c,w.heap[b]?=some (.cells C E c)∧C.size=n∧(ro=false->c=(0,0)∧B≤b)∧k≤n∧
   ∀i v,Vw k z t i=some v->∃x,C[i]?=some x∧VR φ v x
 | .map es=>B≤b∧∃m a,w.heap[b]?=some (.map m a)∧ER φ es m.toList
 | .Wu=>True
structure lK where
 w:World
 X:Nat -> Prop
structure T2 (G B:Nat) (w0:lK) (φ:TF) (σ:St) (w:World):Prop where
 below:Below B w0.w w
 WU:B≤w.heap.size
 V6:∀ a b n,φ a=some (b,n) -> a<σ.next∧b<w.heap.size
 Xn:∀ g,g<G -> g<σ.next∧∃ n,φ g=some (g,n)
 VM:∀ a o b n,σ.Tq.get a=some o -> φ a=some (b,n) -> qx φ B b n w o
 VS:∀ a,σ.next≤a -> σ.Tq.get a=none
 VX:∀ a a' o o' b n n',a≠a' -> σ.Tq.get a=some o -> σ.Tq.get a'=some o' -> o.X6=true -> o'.Ty=true →
  φ a=some (b,n) -> φ a'=some (b,n') -> o.TG≠0∧o.TG=o'.TG
 TG:∀ a o,σ.Tq.get a=some o -> o.TG≠0 -> o.TG<σ.next∧a∈(σ.TX.get o.TG).getD []
 Y7:∀ g,σ.next≤g -> σ.TX.get g=none
 XF:∀ a,w0.X a -> φ a=none∧a<σ.next
variable {G B:Nat} {w0:lK} {φ:TF} {σ:St} {w:World}
def ER.mono{φ b:TF}(h:φ.le b){l:List (V×V)}{m:List MapEntry}(k:ER φ l m):ER b l m:=
 ⟨k.1,fun i a v hi=>let ⟨e,c,ha,d⟩:=k.2 i a v hi;⟨e,c,VR.mono h _ _ ha,VR.mono h _ _ d⟩⟩
def qx.mono{φ e:TF}(h:φ.le e){B b n:Nat}{w:World}{o:Obj}(k:qx φ B b n w o):qx e B b n w o:=by
 cases o with
 |cells ro g k z t=>
  obtain⟨C,E,f,c,d,j,l,p⟩:=k;exact⟨C,E,f,c,d,j,l,fun i v hi=>let ⟨x,hx,r⟩:=p i v hi;⟨x,hx,VR.mono h _ _ r⟩⟩
 |map s=>obtain⟨q,m,a,c,d⟩:=k;exact⟨q,m,a,c,d.mono h⟩
 |Wu=>trivial
def qx.kD{φ:TF}{B b n:Nat}{w w':World}{o:Obj}(k:qx φ B b n w o)(h:w'.heap[b]?=w.heap[b]?):qx φ B b n w' o:=by
 cases o with
 |cells ro g k z t=>obtain⟨C,E,e,c,d⟩:=k;exact⟨C,E,e,h.trans c,d⟩
 |map i=>obtain⟨f,m,a,c,d⟩:=k;exact⟨f,m,a,h.trans c,d⟩
 |Wu=>trivial
def T2.drew(h:T2 G B w0 φ σ w):T2 G B w0 φ σ w.drew:=
 ⟨h.below.drew,h.WU,h.V6,h.Xn,fun a o b n c ha=>(h.VM a o b n c ha).kD rfl,h.VS,h.VX,h.TG,h.Y7,h.XF⟩
def T2.lt(h:T2 G B w0 φ σ w){a:Nat}{o:Obj}(b:σ.Tq.get a=some o):a<σ.next:=by
 rcases Vm a σ.next with k|k
 .exact k
 rw[h.VS a k]at b;cases b
def T2.cell(h:T2 G B w0 φ σ w){id off b n:Nat}{v:V}(a:σ.cell id off=some v)(ha:φ id=some (b,n)):
  ∃x,w.cell? ⟨b,off,none⟩=some x∧VR φ v x:=by
 unfold St.cell at a;split at a
 .rename_i ro g k z t e;obtain⟨C,E,i,c,j,l,m,d⟩:=h.VM id _ b n e ha;obtain⟨x,hx,f⟩:=d off v a;exact⟨x,by simp[World.cell?,c,hx],f⟩
 cases a
def yI{n:Nat}{z:List V}{t:T V}:∀{k off:Nat} {l:List V},qN n z t off k=some l->l.length=k∧∀i v,l[i]?=some v->Vw n z t (off+i)=some v
 | 0,off,l,h=>by simp[qN]at h;subst h;simp
 |k+1,off,l,h=>by
  simp only[qN]at h;split at h
  .rename_i v hv;split at h
   .rename_i r b;simp at h;subst h;obtain⟨a,hg⟩:=yI b;refine⟨by simp[a],fun i u hi=>?_⟩;cases i with
    |zero=>simp at hi;subst hi;exact hv
    |succ i=>have:=hg i u (by simpa using hi);rwa [(Q:off+(i+1)=off+1+i)]
   cases h
  cases h
def St.B6{σ:St}{id off k:Nat}{l:List V}(h:σ.load id off k=some l):l.length=k∧∀i v,l[i]?=some v->σ.cell id (off+i)=some v:=by
 unfold St.load at h;split at h
 .rename_i ro g n z t c;obtain⟨a,b⟩:=yI h;exact⟨a,fun i v hi=>by unfold St.cell;rw[c];exact b i v hi⟩
 cases h
def jg(b o j:Nat):(⟨b,o,none⟩:Addr).add j=⟨b,o+j,none⟩:=by unfold Addr.add;split <;> simp_all
def T2.load(h:T2 G B w0 φ σ w){id off k b n:Nat}{l:List V}(o:σ.load id off k=some l)(ha:φ id=some (b,n)):
  ∃xs:List Value,LR φ l xs∧xs.length=k∧∀j v,xs[j]?=some v->w.cell? ((⟨b,off,none⟩:Addr).add j)=some v:=by
 obtain⟨c,a⟩:=St.B6 o;have:∀i,i<l.length->∃x,w.cell? ⟨b,off+i,none⟩=some x∧∀v,l[i]?=some v->VR φ v x:=by intro i hi;obtain⟨x,hx,m⟩:=h.cell (a i l[i] (by simp[hi])) ha;exact⟨x,hx,fun v d=>by simp[hi]at d;subst d;exact m⟩
 refine⟨(List.range k).map fun i=>(w.cell? ⟨b,off+i,none⟩).getD Go.undef,?_,Y,?_⟩
 .refine LR.fQ (by simp[c]) fun i v hi=>?_
  have f:i<l.length:=by
   rcases Vm i l.length with k|k
   .exact k
   rw[Xk k]at hi;cases hi
  obtain⟨x,hx,m⟩:=this i f;refine⟨x,?_,m v hi⟩;have:i<k:=Q;simp[this,hx]
 intro j v e;have g:j<k:=by
  rcases Vm j k with q|q
  .exact q
  rw[Xk (by simpa using q)]at e;cases e
 obtain⟨x,hx,_⟩:=this j Q;simp[g,hx]at e;subst e;rw[jg];exact hx
def T2.new(h:T2 G B w0 φ σ w)(o:Obj)(O:Go.Obj)(n:Nat)(hg:o.TG=0)(H:o.X6=true∨True)(z:qx (φ.TN σ.next (w.heap.size,n)) B w.heap.size n (w.alloc O) o):
  T2 G B w0 (φ.TN σ.next (w.heap.size,n)) (σ.new o) (w.alloc O)∧φ.le (φ.TN σ.next (w.heap.size,n)):=by
 have hn:φ σ.next=none:=by
  cases v:φ σ.next with
  |none=>rfl
  |some x=>obtain⟨b,m⟩:=x;have:=(h.V6 _ _ _ v).1;omega
 have j:=φ.xd (a:=σ.next) (w.heap.size,n) hn;refine⟨⟨h.below.alloc h.WU O,by simp;have:=h.WU;omega,?_,?_,?_,?_,?_,?_,?_,?_⟩,j⟩
 .intro a b m ha;by_cases e:a=σ.next
  .subst e;rw[TF.an]at ha;simp at ha;obtain⟨rfl,rfl⟩:=ha;simp[St.new]
  rw[TF.ae φ _ e]at ha;obtain⟨f,p⟩:=h.V6 a b m ha;simp[St.new];omega
 .intro g i;obtain⟨f,m,r⟩:=h.Xn g i;exact⟨by simp[St.new];omega,m,j _ _ r⟩
 .intro a D b m d ha;simp only[St.new,T.aJ]at d;by_cases e:a=σ.next
  .subst e;rw[Ti rfl]at d;simp at d;subst d;rw[TF.an]at ha;simp at ha;obtain⟨rfl,rfl⟩:=ha;exact z
  rw[Tg e]at d;rw[TF.ae φ _ e]at ha;refine((h.VM a D b m d ha).mono j).kD ?_;exact Below.heap_alloc w O b (h.V6 a b m ha).2
 .intro a ha;simp only[St.new,T.aJ]at ha⊢;rw[Tg Q];exact h.VS a Q
 .intro a t s E b m C l f p r y ha c;simp only[St.new,T.aJ]at f p;by_cases e:a=σ.next
  .subst e;rw[TF.an]at ha;simp at ha;obtain⟨rfl,rfl⟩:=ha;rw[TF.ae φ _ (U2 l)]at c;have:=(h.V6 _ _ _ c).2;omega
  by_cases q:t=σ.next
  .subst q;rw[TF.an]at c;simp at c;obtain⟨rfl,rfl⟩:=c;rw[TF.ae φ _ e]at ha;have:=(h.V6 _ _ _ ha).2;omega
  rw[Tg e]at f;rw[Tg q]at p;rw[TF.ae φ _ e]at ha;rw[TF.ae φ _ q]at c;exact h.VX a t s E b m C l f p r y ha c
 .intro a s f k;simp only[St.new,T.aJ]at f⊢;by_cases e:a=σ.next
  .rw[Ti e]at f;simp at f;subst f;exact(k hg).elim
  rw[Tg e]at f;obtain⟨I,A⟩:=h.TG a s f k;exact⟨Q,A⟩
 .intro g i;simp only[St.new]at i⊢;exact h.Y7 g Q
 intro a u;obtain⟨F,J⟩:=h.XF a u;exact⟨by rw[TF.ae φ _ Q];exact F,by simp[St.new];omega⟩
end AM
namespace AM
open Go Go.RowKit
variable {G B:Nat} {w0:lK} {φ:TF} {σ:St} {w:World} {P:Program}
def lN(vs:List V):∀(t:T V) (off i:Nat),(mf t off vs).get i=if off≤i∧i<off+vs.length then vs[i-off]? else t.get i:=by
 induction vs with
 |nil=>intro t off i;simp[mf];omega
 |cons v r b=>
  intro t off i;simp only[mf,b,T.aJ,TH];by_cases h:i=off
  .subst h;rw[Tg Q,Ti rfl,Ti Q];simp
  by_cases a:off+1≤i∧i<off+1+r.length
  .rw[Ti a,Ti Q];obtain⟨j,rfl⟩:∃j,i=off+1+j:=⟨i-off-1,Q⟩
   rw[(Q:off+1+j-(off+1)=j),(Q:off+1+j-off=j+1)];simp
  rw[Tg a,Tg h,Tg Q]
def mK(vs:List V)(i:Nat):(ofList vs).get i=vs[i]?:=by
 unfold ofList;rw[lN];by_cases h:i<vs.length
 .rw[Ti Q];simp
 rw[Tg Q,Xk Q];rfl
def cT(vs:List V)(i:Nat):Vw vs.length [] (ofList vs) i=vs[i]?:=by
 unfold Vw;rw[mK];by_cases h:i<vs.length
 .rw[Ti h];simp[h]
 rw[Tg h,Xk Q]
def T2.ag(h:T2 G B w0 φ σ w)(vs:List V)(xs rest:List Value)(E:TypeId)(c:LR φ vs xs):
  T2 G B w0 (φ.TN σ.next (w.heap.size,(xs++rest).length)) (σ.ag vs) (w.alloc (.cells (xs++rest).toArray E))∧
   φ.le (φ.TN σ.next (w.heap.size,(xs++rest).length)):=by
 refine h.new (.cells false 0 vs.length [] (ofList vs)) (.cells (xs++rest).toArray E) _ rfl (.inr trivial) ?_;have hn:φ σ.next=none:=by
  cases d:φ σ.next with
  |none=>rfl
  |some x=>obtain⟨b,m⟩:=x;have:=(h.V6 _ _ _ d).1;omega
 refine⟨(xs++rest).toArray,E,(0,0),aaZ w _,Y,fun _=>⟨rfl,h.WU⟩,by have:=c.length;simp;omega,?_⟩;intro i v hi;rw[cT]at hi;obtain⟨x,hx,e⟩:=c.get i v hi;have a:i<xs.length:=by
  rcases Vm i xs.length with k|k
  .exact k
  rw[Xk k]at hx;cases hx
 refine⟨x,?_,VR.mono (φ.xd _ hn) _ _ e⟩;simp only[abk];rw[Wh a];exact hx
def T2.Fx(h:T2 G B w0 φ σ w)(n:Nat)(z:List V)(zs:List Value)(C:Array Value)(E:TypeId)(d:LR φ z zs)(e:C.size=n)(a:∀i,i<n->C[i]?=zs[i%zs.length]?):
  T2 G B w0 (φ.TN σ.next (w.heap.size,n)) (σ.new (.cells false 0 n z .nil)) (w.alloc (.cells C E))∧φ.le (φ.TN σ.next (w.heap.size,n)):=by
 refine h.new (.cells false 0 n z .nil) (.cells C E) n rfl (.inr trivial) ?_;have hn:φ σ.next=none:=by
  cases a:φ σ.next with
  |none=>rfl
  |some x=>obtain⟨b,m⟩:=x;have:=(h.V6 _ _ _ a).1;omega
 refine⟨C,E,(0,0),aaZ w _,e,fun _=>⟨rfl,h.WU⟩,Tx _,?_⟩;intro i v hi;unfold Vw at hi;split at hi
 .rename_i c;simp only[T.Xm]at hi;obtain⟨x,hx,f⟩:=d.get _ v hi;exact⟨x,by rw[a i c,d.length];exact hx,VR.mono (φ.xd _ hn) _ _ f⟩
 cases hi
def nO(o b:Obj):Prop:=
 o=b∨o=.Wu∨∃ro g n z t a,b=.cells ro g n z t∧o=.cells ro g a z t∧a≤n
def nO.refl(o:Obj):nO o o:=.inl rfl
def nO.trans{a b c:Obj}(h:nO a b)(k:nO b c):nO a c:=by
 rcases h with rfl|rfl|⟨ro,g,n,z,t,j,rfl,rfl,hn⟩
 .exact k
 .exact .inr (.inl rfl)
 rcases k with rfl|k|⟨d,e,m,o,l,i,rfl,k,f⟩
 .exact .inr (.inr ⟨_,_,_,_,_,_,rfl,rfl,hn⟩)
 .cases k
 cases k;exact .inr (.inr ⟨_,_,_,_,_,_,rfl,rfl,Q⟩)
def nO.Ty{o a:Obj}(h:nO o a)(b:o.Ty=true):a.Ty=true∧o.X6=a.X6∧o.TG=a.TG:=by
 rcases h with rfl|rfl|⟨ro,g,n,z,t,c,rfl,rfl,hn⟩
 .exact⟨b,rfl,rfl⟩
 .simp[Obj.Ty]at b
 exact⟨rfl,rfl,rfl⟩
def Obj.DA{o:Obj}(h:o.X6=true):o.Ty=true:=by cases o <;> simp_all[Obj.X6,Obj.Ty]
def oH{n n':Nat}{z:List V}{t:T V}{i:Nat}{v:V}(hn:n'≤n)(h:Vw n' z t i=some v):Vw n z t i=some v:=by
 unfold Vw at h⊢;split at h
 .rw[Ti Q];exact h
 cases h
def nO.NG{o a:Obj}(h:nO o a){b n:Nat}(k:qx φ B b n w a):qx φ B b n w o:=by
 rcases h with rfl|rfl|⟨ro,g,n,z,t,m,rfl,rfl,hn⟩
 .exact k
 .trivial
 obtain⟨C,E,c,d,e,f,l,j⟩:=k;exact⟨C,E,c,d,e,f,Q,fun i v hi=>j i v (oH hn hi)⟩
def pE(x i:Nat)(l:List Nat):∀(o:T Obj) (a:Nat),
  ((eB x i l o).get a=o.get a∨∃p q,(eB x i l o).get a=some p∧o.get a=some q∧nO p q)∧
  (a=x->(eB x i l o).get a=o.get a)∧
  (a∈l->a≠x->∀ro g n z t,(eB x i l o).get a=some (.cells ro g n z t)->n≤i):=by
 induction l with
 |nil=>intro o a;exact⟨.inl rfl,fun _=>rfl,fun h=>by cases h⟩
 |cons m r I=>
  intro o a;simp only[eB];by_cases F:m=x
  .rw[Ti F];obtain⟨d,w,y⟩:=I o a;exact⟨d,w,fun ha j=>y (by rcases U8.1 ha with e|e;exact(j (e.trans F)).elim;exact e) j⟩
  rw[Tg F];split
  .rename_i ro g n z t C;obtain⟨d,w,y⟩:=I (o.set m (.cells ro g (min n i) z t)) a;refine⟨?_,?_,?_⟩
   .by_cases f:a=m
    .subst f;rw[T.aJ,Ti rfl]at d;right;rcases d with d|⟨p,q,D,u,c⟩
     .exact⟨_,_,d,C,.inr (.inr ⟨_,_,_,_,_,_,rfl,rfl,abv _ _⟩)⟩
     simp at u;subst u;exact⟨p,_,D,C,c.trans (.inr (.inr ⟨_,_,_,_,_,_,rfl,rfl,abv _ _⟩))⟩
    rw[T.aJ,Tg f]at d;exact d
   .intro e;rw[w e,T.aJ,Tg (fun k=>F (k.symm.trans e))]
   intro ha j v G J L K b;by_cases f:a=m
   .subst f;rw[T.aJ,Ti rfl]at d;rcases d with d|⟨p,q,D,u,c⟩
    .rw[d]at b;cases b;exact Nat.min_le_right _ _
    simp at u;subst u;rw[D]at b;cases b;rcases c with c|c|⟨_,_,_,_,_,_,u,E,B⟩
    .cases c;exact Nat.min_le_right _ _
    .cases c
    cases u;cases E;exact V4 B (Nat.min_le_right _ _)
   exact y (by rcases U8.1 ha with e|e;exact(f e).elim;exact e) j v G J L K b
  obtain⟨d,w,y⟩:=I o a;refine⟨d,w,fun ha j v G J L K b=>?_⟩;by_cases A:a∈r
  .exact y A j v G J L K b
  have f:a=m:=by rcases U8.1 ha with e|e;exact e;exact(A e).elim
  subst f;rename_i s;rcases d with d|⟨p,q,D,u,c⟩
  .rw[b]at d;exact(s _ _ _ _ _ d.symm).elim
  rw[D]at b;cases b;rcases c with c|c|⟨_,_,_,_,_,_,H,E,B⟩
  .rw[u, <- c]at s;exact(s _ _ _ _ _ rfl).elim
  .cases c
  rw[u,H]at s;exact(s _ _ _ _ _ rfl).elim
def rv{a w:World}(h:Below B a w){g:Nat}(hg:B≤g)(C:Array Value):Below B a (w.setRow g C):=
 h.trans ⟨rfl,rfl,rfl,Y,fun k b=>setRow_other w g k C Q⟩
def T2.store(h:T2 G B w0 φ σ w){id off b n:Nat}{vs:List V}{xs:List Value}{σ':St}(hs:σ.store id off vs=some σ')(ha:φ id=some (b,n))(hr:LR φ vs xs):
  ∃w',(storeCells ⟨b,off,none⟩ xs).run P w=.ok () w'∧T2 G B w0 φ σ' w':=by
 unfold St.store at hs;split at hs
 .rename_i g k z t ho;split at hs
  .rename_i U;obtain⟨bi,W⟩:=U;simp only[TC]at hs;obtain⟨C,E,fz,h1,h2,h3,h4,h5⟩:=h.VM id _ b n ho ha;obtain⟨rfl,ac⟩:=h3 rfl;have bb:=hr.length;have al:∀x∈xs,x.oneCell'=true:=by intro x hx;obtain⟨i,hi,rfl⟩:=Zn hx;have ax:i<vs.length:=Q;obtain⟨y,hy,hv⟩:=hr.get i vs[i] (by simp[ax]);simp[hi]at hy;subst hy;exact hv.FZ (by simpa using X8.1 W vs[i] Y)
   have O:=run_storeCells_at P b off E xs 0 C w h1 Q al;simp only[X2]at O;refine⟨_,O,?_⟩;generalize ad:(C.toList.take off++xs++C.toList.drop (off+xs.length)).toArray=I;have ba:I.size=C.size:=by rw[<- ad];simp;omega
   have N:∀i,I[i]?=if off≤i∧i<off+xs.length then xs[i-off]? else C[i]?:=by
    intro i;rw[<- ad];simp only[abk];by_cases c1:i<off
    .rw[Tg Q,Xj,Wh (by simp;omega),YD];simp[c1]
    by_cases c2:i<off+xs.length
    .rw[Ti Q,Xj,WM (by simp;omega),Wh (by simp;omega)];simp only[Va,aat];rw[(Q:min off C.size=off)]
    rw[Tg Q,WM (by simp;omega)];simp only[UN,Va,aat,Z4,abV];congr 1;omega
   have M:(w.setRow b I).heap[b]?=some (.cells I E (0,0)):=setRow_heap w b C I E _ h1;have H:∀a s,σ'.Tq.get a=some s →
     (a=id∧s=.cells false g k z (mf t off vs))∨
     (a≠id∧∃q,σ.Tq.get a=some q∧nO s q∧(q.TG=g->g≠0->∀ro J L z' t',s=.cells ro J L z' t'->L≤off)):=by
    intro a s d;rw[<- hs]at d;simp only at d;by_cases D:g=0
    .rw[Ti D,T.aJ]at d;by_cases e:a=id
     .rw[Ti e]at d;simp at d;exact .inl ⟨e,d.symm⟩
     rw[Tg e]at d;exact .inr ⟨e,s,d,nO.refl _,fun _ hg=>(hg D).elim⟩
    rw[Tg D]at d;obtain⟨K,k2,k3⟩:=pE id off ((σ.TX.get g).getD []) (σ.Tq.set id (.cells false g k z (mf t off vs))) a;by_cases e:a=id
    .rw[k2 e,T.aJ,Ti e]at d;simp at d;exact .inl ⟨e,d.symm⟩
    rw[T.aJ,Tg e]at K;right;refine⟨e,?_⟩;rcases K with K|⟨p,q,hp,r,aL⟩
    .rw[K]at d;refine⟨s,d,nO.refl _,fun o hg ro J L z' t' he=>?_⟩;subst he;have l:=(h.TG a _ d (by rw[o];exact hg)).2;rw[o]at l;exact k3 l e ro J L z' t' (by rw[K];exact d)
    rw[hp]at d;cases d;refine⟨q,r,aL,fun o hg ro J L z' t' he=>?_⟩;subst he;have l:=(h.TG a _ r (by rw[o];exact hg)).2;rw[o]at l;exact k3 l e ro J L z' t' hp
   have j:σ'.next=σ.next∧σ'.TX=σ.TX:=by rw[<- hs];exact⟨rfl,rfl⟩
   refine⟨rv h.below ac I,by simp;exact h.WU,?_,?_,?_,?_,?_,?_,?_,by intro a hX;rw[j.1];exact h.XF a hX⟩
   .intro a b m ar;rw[j.1];simpa using h.V6 a b m ar
   .intro g hg;rw[j.1];exact h.Xn g hg
   .intro a s b' m d A;rcases H a s d with⟨rfl,rfl⟩|⟨Z,q,r,f,af⟩
    .rw[ha]at A;simp at A;obtain⟨rfl,rfl⟩:=A;refine⟨I,E,(0,0),M,Q,fun _=>⟨rfl,ac⟩,h4,?_⟩;intro i v hi;unfold Vw at hi;split at hi
     .rename_i av;rw[lN]at hi;rw[N];by_cases c:off≤i∧i<off+vs.length
      .rw[Ti c]at hi;rw[Ti Q];have:vs[i-off]?=some v:=by
        cases am:vs[i-off]? with
        |none=>rw[List.getElem?_eq_none_iff]at am;omega
        |some u=>rw[am]at hi;simp at hi;rw[hi]
       exact hr.get _ v this
      rw[Tg c]at hi;rw[Tg Q];exact h5 i v (by unfold Vw;rw[Ti av];exact hi)
     cases hi
    by_cases hb:b'=b
    .subst hb;cases aU:s.Ty with
     |false=>cases s <;> simp_all[Obj.Ty,qx]
     |true=>
      obtain⟨aS,_,o⟩:=f.Ty aU;obtain⟨D,ah⟩:=h.VX id a _ q b' n m (U2 Z) ho r rfl aS ha A;simp only[Obj.TG]at D ah;have hk:=f.NG (h.VM a q b' m r A);cases s with
      |Wu=>trivial
      |map es=>simp[Obj.TG]at o;omega
      |cells ro J L z' t'=>
       have bk:=af ah.symm D ro J L z' t' rfl;obtain⟨C2,E2,bd,R,e2,S,e4,e5⟩:=hk;rw[h1]at R;simp at R;obtain⟨rfl,rfl,rfl⟩:=R;refine⟨I,E,(0,0),M,Q,S,e4,?_⟩;intro i v hi;have be:i<L:=by unfold Vw at hi;split at hi;assumption;cases hi
       rw[N,Tg Q];exact e5 i v hi
    refine(f.NG (h.VM a q b' m r A)).kD ?_;exact setRow_other w b b' I hb
   .intro a aC;rw[j.1]at aC;cases hc:σ'.Tq.get a with
    |none=>rfl
    |some s=>
     rcases H a s hc with⟨rfl,_⟩|⟨_,q,r,_⟩
     .have:=h.lt ho;omega
     have:=h.lt r;omega
   .intro a a' o1 o2 b1 m m' Z K k2 hm hl ao ap;have f1:∃q,σ.Tq.get a=some q∧q.X6=o1.X6∧q.TG=o1.TG:=by
     rcases H a o1 K with⟨rfl,rfl⟩|⟨_,q,r,f,_⟩
     .exact⟨_,ho,rfl,rfl⟩
     obtain⟨R,e2,S⟩:=f.Ty (Obj.DA hm);exact⟨q,r,e2.symm,S.symm⟩
    have f2:∃q,σ.Tq.get a'=some q∧q.Ty=true∧q.TG=o2.TG:=by
     rcases H a' o2 k2 with⟨rfl,rfl⟩|⟨_,q,r,f,_⟩
     .exact⟨_,ho,rfl,rfl⟩
     obtain⟨R,e2,S⟩:=f.Ty hl;exact⟨q,r,R,S.symm⟩
    obtain⟨q1,aM,aB,F⟩:=f1;obtain⟨q2,aP,ay,as⟩:=f2;obtain⟨r1,r2⟩:=h.VX a a' q1 q2 b1 m m' Z aM aP (aB.trans hm) ay ao ap;exact⟨F▸r1,by rw[<- F, <- as];exact r2⟩
   .intro a o1 K F;rw[j.1,j.2];rcases H a o1 K with⟨rfl,rfl⟩|⟨_,q,r,f,_⟩
    .exact h.TG a (.cells false g k z t) ho F
    have X:o1.Ty=true:=by cases o1 <;> simp_all[Obj.TG,Obj.Ty]
    obtain⟨R,e2,S⟩:=f.Ty X;rw[S]at F⊢;exact h.TG a q r F
   intro J ag;rw[j.1]at ag;rw[j.2];exact h.Y7 J ag
  cases hs
 cases hs
end AM
namespace AM
open Go Go.RowKit
variable {G B:Nat} {w0:lK} {φ:TF} {σ:St} {w:World} {P:Program}
theorem jE(ro:Bool)(g n:Nat)(z:List V)(t:T V):(Obj.cells ro g n z t).TG=g:=rfl
def CT:∀(l:List Nat) (o:T Obj) (a:Nat),
  ((gO l o).get a=o.get a∨((gO l o).get a=some .Wu∧(o.get a).isSome))∧
  (a∈l->(gO l o).get a=none∨(gO l o).get a=some .Wu):=by
 intro l;induction l with
 |nil=>intro o a;exact⟨.inl rfl,fun h=>by cases h⟩
 |cons m r f=>
  intro o a;simp only[gO];split
  .rename_i q c;obtain⟨b,d⟩:=f (o.set m .Wu) a;by_cases e:a=m
   .subst e;rw[T.aJ,Ti rfl]at b;have:(gO r (o.set a Obj.Wu)).get a=some .Wu:=by rcases b with b|b;exact b;exact b.1
    exact⟨.inr ⟨this,by rw[c];rfl⟩,fun _=>.inr this⟩
   rw[T.aJ,Tg e]at b;exact⟨b,fun ha=>d (by rcases U8.1 ha with k|k;exact(e k).elim;exact k)⟩
  rename_i c;obtain⟨b,d⟩:=f o a;refine⟨b,fun ha=>?_⟩;rcases U8.1 ha with rfl|k
  .rcases b with b|b
   .exact .inl (b.trans c)
   rw[c]at b;simp at b
  exact d k
def T2.CK(h:T2 G B w0 φ σ w){id b n g nn e b' n':Nat}{z:List V}{t:T V}{w':World}{C C':Array Value}{E E':TypeId}{all:List V}{P:Nat}(ho:σ.Tq.get id=some (.cells false g nn z t))(ha:φ id=some (b,n))(hC:w.heap[b]? =some (.cells C E (0,0)))(A:P=if g=0 then σ.next else g)(ax:Below B w0.w w')(b9:w.heap.size≤w'.heap.size)(ac:(b'=b∧n'=n)∨(b'=w.heap.size∧b'<w'.heap.size))(R:w'.heap[b']? =some (.cells C' E' (0,0)))(be:C'.size=n')(bd:B≤b')(aM: ∀k,k<w.heap.size->k≠ b'->w'.heap[k]? =w.heap[k]?)(ah:b'=b->∀i:Nat,i<e->C'[i]? =C[i]?)(aL: ∀(i:Nat) (v:V),all[i]? =some v->∃x,C'[i]? =some x∧VR φ v x)(av:all.length≤n'):
    T2 G B w0 (φ.TN σ.next (b',n'))
      { next:=σ.next+1
        Tq:=T.set (gO (if g=0 then []else((σ.TX.get g).getD []).drop 8)
          (eB id e (if g=0 then []else(σ.TX.get g).getD []) (σ.Tq.set id (.cells false P (min nn e) z t)))) σ.next (.cells false P all.length [] (ofList all))
        TX:=σ.TX.set P (σ.next ::(if g=0 then [id]else((σ.TX.get g).getD []).take 8)) } w'∧φ.le (φ.TN σ.next (b',n')):=by
  have hn:φ σ.next=none:=by
    cases hc:φ σ.next with
    | none=>rfl
    | some x=>obtain⟨b,m⟩:=x;have:=(h.V6 _ _ _ hc).1;omega
  have af:=φ.xd (a:=σ.next) (b',n') hn;have bs:=h.lt ho;have b0:=h.V6 id b n ha;have bk:P≠ 0:=by rw[A];split <;> omega
  have u:=h.TG id _ ho;simp only[jE]at u;generalize F:(if g=0 then []else(σ.TX.get g).getD [])=mem;have ao:(if g=0 then []else((σ.TX.get g).getD []).drop 8)=mem.drop 8:=by rw[<- F];split <;> simp
  rw[ao];generalize hO:gO (mem.drop 8) (eB id e mem (σ.Tq.set id (.cells false P (min nn e) z t)))=O;have Z: ∀a o,O.get a=some o →
      (a=id∧(o= .Wu∨(o= .cells false P (min nn e) z t∧a ∉ mem.drop 8)))∨
      (a≠ id∧∃q,σ.Tq.get a=some q∧nO o q∧(o.Ty=true->a ∉ mem.drop 8)∧(q.TG=g->g≠ 0->∀ro g1 n1 z1 t1,o= .cells ro g1 n1 z1 t1->n1≤e)):=by
    intro a o c;rw[<- hO]at c;obtain⟨l,k2⟩:=CT (mem.drop 8) (eB id e mem (σ.Tq.set id (.cells false P (min nn e) z t))) a;obtain⟨c1,c2,c3⟩:=pE id e mem (σ.Tq.set id (.cells false P (min nn e) z t)) a;have S:o.Ty=true->a ∉ mem.drop 8:=by
      intro hl M;rcases k2 M with k|k <;> rw[k]at c <;> simp at c
      subst c;simp[Obj.Ty]at hl
    by_cases s:a=id
    · left;refine⟨s, ?_⟩;rcases l with l|⟨l,_⟩
      · rw[l,c2 s,T.aJ,Ti s]at c;simp at c;subst c;exact .inr ⟨rfl,S rfl⟩
      · rw[l]at c;simp at c;exact .inl c.symm
    · right;refine⟨s, ?_⟩;rw[T.aJ,Tg s]at c1;have y: ∃q,σ.Tq.get a=some q∧nO o q:=by
        rcases l with l|⟨l,bb⟩
        · rw[l]at c;rcases c1 with c1|⟨p,q,hp,y,aP⟩
          · rw[c1]at c;exact⟨o,c,nO.refl _⟩
          · rw[hp]at c;simp at c;subst c;exact⟨q,y,aP⟩
        · rw[l]at c;simp at c;rcases c1 with c1|⟨p,q,hp,y,aP⟩
          · rw[c1]at bb;obtain⟨q,y⟩:=Option.isSome_iff_exists.1 bb;exact⟨q,y, .inr (.inl c.symm)⟩
          · exact⟨q,y, .inr (.inl c.symm)⟩
      obtain⟨q,y,j⟩:=y;refine⟨q,y,j,S,fun L hg ro g1 n1 z1 t1 he=>?_⟩;subst he;have M:=(h.TG a q y (by rw[L];exact hg)).2;rw[L]at M;have bv:a ∈ mem:=by rw[<- F,Tg hg];exact M
      refine c3 bv s ro g1 n1 z1 t1 ?_;rcases l with l|⟨l,_⟩
      · rw[<- l];exact c
      · rw[l]at c;cases c
  have as:O.get σ.next=none∨True:= .inr trivial;have bu: ∀a o,O.get a=some o->a<σ.next:=by
    intro a o c;rcases Z a o c with⟨rfl,_⟩|⟨_,q,y,_⟩
    · exact bs
    · exact h.lt y
  have N: ∀a o,O.get a=some o->o.Ty=true->∃q,σ.Tq.get a=some q∧q.Ty=true∧q.X6=o.X6∧((a=id∧o.TG=P∧q.TG=g)∨(a≠ id∧o.TG=q.TG)):=by
    intro a o c hl;rcases Z a o c with⟨rfl,k|⟨k,_⟩⟩|⟨D,q,y,j,_⟩
    · subst k;simp[Obj.Ty]at hl
    · subst k;exact⟨_,ho,rfl,rfl, .inl ⟨rfl,rfl,rfl⟩⟩
    · obtain⟨r1,r2,r3⟩:=j.Ty hl;exact⟨q,y,r1,r2.symm, .inr ⟨D,r3⟩⟩
  have K: ∀a m,φ a=some (b',m)->b'=b:=by
    intro a m M;rcases ac with⟨k,_⟩|⟨k,_⟩
    · exact k
    · have:=(h.V6 a b' m M).2;omega
  refine⟨⟨ax,by have:=h.WU;omega, ?_, ?_, ?_, ?_, ?_, ?_, ?_, ?_⟩,af⟩
  · intro a b1 m d;by_cases s:a=σ.next
    · subst s;rw[TF.an]at d;simp at d;obtain⟨rfl,rfl⟩:=d;exact⟨Y,by rcases ac with⟨k,_⟩|⟨_,k⟩ <;> omega⟩
    · rw[TF.ae φ _ s]at d;obtain⟨r1,r2⟩:=h.V6 a b1 m d;exact⟨by simp;omega,Q⟩
  · intro g1 ad;obtain⟨r1,m,M⟩:=h.Xn g1 ad;exact⟨by simp;omega,m,af _ _ M⟩
  · intro a o b1 m c d;simp only[T.aJ]at c;by_cases s:a=σ.next
    · rw[Ti s]at c;simp at c;subst c;subst s;rw[TF.an]at d;simp at d;obtain⟨rfl,rfl⟩:=d;refine⟨C',E',(0,0),R,be,fun _=>⟨rfl,bd⟩,av, ?_⟩
      intro i v hi;rw[cT]at hi;obtain⟨x,hx,hv⟩:=aL i v hi;exact⟨x,hx,VR.mono af _ _ hv⟩
    · rw[Tg s]at c;rw[TF.ae φ _ s]at d;have bi:=(h.V6 a b1 m d).2;refine qx.mono af ?_;by_cases I:b1=b'
      · subst I;have I:=K a m d;subst I;cases bC:o.Ty with
        | false=>cases o <;> simp_all[Obj.Ty,qx]
        | true=>
          rcases Z a o c with⟨rfl,k|⟨k,_⟩⟩|⟨D,q,y,j,_,ay⟩
          · subst k;trivial
          · subst k;obtain⟨C2,E2,am,d1,d2,d3,d4,d5⟩:=h.VM a _ b1 m ho d;rw[hC]at d1;simp at d1;obtain⟨rfl,rfl,rfl⟩:=d1;rw[ha]at d;simp at d;subst d;have b2:n'=n:=by rcases ac with⟨_,k⟩|⟨k,_⟩;exact k;omega
            refine⟨C',E',(0,0),R,Q,d3,Q, ?_⟩;intro i v hi;have aC:i<e:=by unfold Vw at hi;split at hi;omega;cases hi
            rw[ah rfl i aC];exact d5 i v (oH (abv _ _) hi)
          · obtain⟨r1,r2,r3⟩:=j.Ty bC;obtain⟨s1,s2⟩:=h.VX id a _ q b1 n m (U2 D) ho y rfl r1 ha d;simp only[jE]at s1 s2;have hk:=j.NG (h.VM a q b1 m y d);cases o with
            | Wu=>trivial
            | map es=>have hz:q.TG=0:=r3.symm;exact(s1 (s2.trans hz)).elim
            | cells ro g1 n1 z1 t1=>
              have b8:=ay s2.symm s1 ro g1 n1 z1 t1 rfl;obtain⟨C2,E2,am,d1,d2,d3,d4,d5⟩:=hk;rw[hC]at d1;simp at d1;obtain⟨rfl,rfl,rfl⟩:=d1;have b6:m=n':=by have q1:=(h.VM id _ b1 n ho ha);obtain⟨C3,E3,b5,f1,f2,_⟩:=q1;rw[hC]at f1;simp at f1;obtain⟨rfl,rfl,rfl⟩:=f1;rcases ac with⟨_,k⟩|⟨k,_⟩ <;> omega
              refine⟨C',E',(0,0),R,Q,d3,d4, ?_⟩;intro i v hi;have aC:i<n1:=by unfold Vw at hi;split at hi;assumption;cases hi
              rw[ah rfl i Q];exact d5 i v hi
      · have X:=aM b1 bi I;rcases Z a o c with⟨rfl,k|⟨k,_⟩⟩|⟨D,q,y,j,_⟩
        · subst k;trivial
        · subst k;have hk:=(h.VM a _ b1 m ho d).kD X;obtain⟨C2,E2,am,d1,d2,d3,d4,d5⟩:=hk;exact⟨C2,E2,am,d1,d2,d3,Q,fun i v hi=>d5 i v (oH (abv _ _) hi)⟩
        · exact(j.NG (h.VM a q b1 m y d)).kD X
  · intro a bw;simp only at bw;simp only[T.aJ];rw[Tg Q]
    cases hc:O.get a with
    | none=>rfl
    | some o=>have:=bu a o hc;omega
  · intro a a' o1 o2 b1 m m' D l k2 M hl J H;simp only[T.aJ]at l k2;by_cases s:a=σ.next
    · rw[Ti s]at l;simp at l;subst l;subst s;rw[TF.an]at J;simp at J;obtain⟨rfl,rfl⟩:=J;rw[Tg (U2 D)]at k2;rw[TF.ae φ _ (U2 D)]at H;refine⟨bk, ?_⟩;simp only[jE];have I:=K a' m' H;subst I;obtain⟨q,y,ba,bS,ap⟩:=N a' o2 k2 hl;rcases ap with⟨_,r,_⟩|⟨W,r⟩
      · exact r.symm
      · obtain⟨s1,s2⟩:=h.VX id a' _ q b' n m' (U2 W) ho y rfl ba ha H;simp only[jE]at s1 s2;rw[r, <- s2,A,Tg s1]
    · rw[Tg s]at l;rw[TF.ae φ _ s]at J;obtain⟨q1,aS,b3,al,ag⟩:=N a o1 l (Obj.DA M);by_cases e2:a'=σ.next
      · rw[Ti e2]at k2;simp at k2;subst k2;subst e2;rw[TF.an]at H;simp at H;obtain⟨rfl,rfl⟩:=H;simp only[jE];have I:=K a m J;subst I;rcases ag with⟨_,r,_⟩|⟨W,r⟩
        · exact⟨Q,r⟩
        · obtain⟨s1,s2⟩:=h.VX a id q1 _ b' m n W aS ho (al.trans M) rfl J ha;simp only[jE]at s1 s2;have:g≠ 0:=Q
          refine⟨by rw[r];exact s1,by rw[r,s2,A,Tg this]⟩
      · rw[Tg e2]at k2;rw[TF.ae φ _ e2]at H;obtain⟨q2,bN,aU,b4,aB⟩:=N a' o2 k2 hl;obtain⟨s1,s2⟩:=h.VX a a' q1 q2 b1 m m' D aS bN (al.trans M) aU J H;rcases ag with⟨i1,r1,bT⟩|⟨i1,r1⟩ <;> rcases aB with⟨i2,r2,bY⟩|⟨i2,r2⟩
        · exact(D (i1.trans i2.symm)).elim
        · have:g≠ 0:=Q
          exact⟨Q,by rw[r1,r2, <- s2,bT,A,Tg this]⟩
        · have:g≠ 0:=Q
          exact⟨Q,by rw[r1,r2,s2,bY,A,Tg this]⟩
        · exact⟨Q,Q⟩
  · intro a o1 l ad;simp only[T.aJ]at l⊢;by_cases s:a=σ.next
    · rw[Ti s]at l;simp at l;subst l;simp only[jE];rw[Ti trivial];exact⟨by rw[A];split;omega;rename_i f;have:=(u f).1;omega,by simp[s]⟩
    · rw[Tg s]at l;have ar:o1.Ty=true:=by cases o1 <;> simp_all[Obj.TG,Obj.Ty]
      have U:a ∈ mem->a ∈ mem.take 8:=by
        intro M;have bx:a ∉ mem.drop 8:=by
          rcases Z a o1 l with⟨_,k|⟨_,k⟩⟩|⟨_,q,_,_,k,_⟩
          · subst k;simp[Obj.Ty]at ar
          · exact k
          · exact k ar
        rw[<- YI 8 mem]at M;rcases VJ.1 M with k|k
        · exact k
        · exact(bx k).elim
      obtain⟨q,y,ba,bS,ap⟩:=N a o1 l ar;rcases ap with⟨rfl,r,r'⟩|⟨D,r⟩
      · rw[r,Ti rfl];refine⟨by rw[A];split;omega;rename_i f;have:=(u f).1;omega, ?_⟩
        simp only[Xc,U8];right;by_cases f:g=0
        · simp[f]
        · rw[Tg f];have:=U (by rw[<- F,Tg f];exact(u f).2)
          rw[<- F,Tg f]at this;exact this
      · rw[r]at ad⊢;obtain⟨s1,s2⟩:=h.TG a q y ad;refine⟨Q, ?_⟩
        by_cases L:q.TG=P
        · rw[Ti L];have f:g≠ 0:=by
            intro f;rw[A,Ti f]at L;omega
          have bl:P=g:=by rw[A,Tg f]
          simp only[Xc,U8];right;rw[Tg f];have:=U (by rw[<- F,Tg f, <- bl, <- L];exact s2);rw[<- F,Tg f]at this;exact this
        · rw[Tg L];exact s2
  · intro x hx;simp only at hx;simp only[T.aJ];have:x≠ P:=by
      rw[A];split
      · omega
      · rename_i f;have:=(u f).1;omega
    rw[Tg this];exact h.Y7 x Q
  · intro a hX;obtain⟨p1,p2⟩:=h.XF a hX;exact⟨by rw[TF.ae φ _ Q];exact p1,by simp;omega⟩
end AM
namespace AM
open Go Go.RowKit
variable {P:Program} {φ:TF} {tm:T V} {a:Act} {w:World}
def TR(φ:TF)(tm:T V)(a:Act)(ts:List Nat):Prop:=∀t∈ts,VR φ ((tm.get t).getD .undef) (a.tmps.getD t Go.undef)
def GR(P:Program)(φ:TF):Prop:=∀g,g<P.globals.size->∃n,φ g=some (g,n)
def TR.left{l m:List Nat}(h:TR φ tm a (l++m)):TR φ tm a l:=fun t ht=>h t (VJ.2 (.inl ht))
def TR.right{l m:List Nat}(h:TR φ tm a (l++m)):TR φ tm a m:=fun t ht=>h t (VJ.2 (.inr ht))
def bE(b:GR P φ){y:Operand}{x:Tt}(h:UT P y=some x)(ht:TR φ tm a x.tmps):VR φ (x.eval tm) (a.eval y):=by
 cases y with
 |tmp t=>simp[UT]at h;subst h;exact ht t (by simp[Tt.tmps])
 |const v=>
  simp only[UT]at h;split at h
  .rename_i u hu;simp at h;subst h;exact uT φ v u hu
  cases h
 |global g=>
  simp only[UT]at h;split at h
  .rename_i hg;simp at h;subst h;obtain⟨n,hn⟩:=b g hg;exact⟨g,n,hn,rfl⟩
  cases h
 |func f=>simp[UT]at h;subst h;exact⟨#[], #[],rfl,LR.nil,LR.nil⟩
def jo(c:GR P φ):∀{d:List Operand} {xs:List Tt},XE P d=some xs->TR φ tm a (ua xs)->LR φ (xs.map (·.eval tm)) (d.map a.eval)
 | [],xs,h,ht=>by simp[XE]at h;subst h;exact LR.nil
 |y ::r,xs,h,ht=>by
  simp only[XE]at h;split at h
  .rename_i x s hx hs;simp at h;subst h;have b:TR φ tm a (x.tmps++ua s):=by simpa [ua]using ht
   exact LR.cons (bE c hx b.left) (jo c hs b.right)
  cases h
def qY(d:GR P φ){y:Option Operand}{x:Option Tt}(h:aam P y=some x)(ht:TR φ tm a (oD x)):
  (x=none∧y=none)∨∃b c,x=some b∧y=some c∧VR φ (b.eval tm) (a.eval c):=by
 cases y with
 |none=>simp[aam]at h;exact .inl ⟨h.symm,rfl⟩
 |some y=>
  simp only[aam]at h;split at h
  .rename_i z e;simp at h;subst h;exact .inr ⟨z,y,rfl,rfl,bE d e ht⟩
  cases h
def PR(φ:TF)(a:Nat->Option (Nat×Nat)):List (Nat×Nat×V)->List (Nat×Value)->Prop
 | [],m=>m=[]
 |(o,s,v) ::r,m=>∃i x q,m=(i,x) ::q∧a i=some (o,s)∧VR φ v x∧PR φ a r q
def oV(d:GR P φ){b:Nat->Option (Nat×Nat)}:∀{ps:List (Nat×Operand)} {l:List (Nat×Nat×Tt)},T0 P b ps=some l->TR φ tm a (F7 l) →
  PR φ b (aG tm l) (ps.map fun p=>(p.1,a.eval p.2))
 | [],l,h,ht=>by simp[T0]at h;subst h;rfl
 |(i,y) ::r,l,h,ht=>by
  simp only[T0]at h;split at h
  .rename_i o s x q hp hx e;simp at h;subst h;have c:TR φ tm a (x.tmps++F7 q):=by simpa [F7]using ht
   exact⟨i,a.eval y,_,rfl,hp,bE d hx c.left,oV d e c.right⟩
  cases h
def Db(off:Nat):∀(xs:List Value) (j:Nat) (cs:Array Value),off+j+xs.length≤cs.size →
  (xs.zipIdx j).foldl (fun cs (c:Value×Nat)=>cs.setIfInBounds (off+c.2) c.1) cs=(cs.toList.take (off+j)++xs++cs.toList.drop (off+j+xs.length)).toArray
 | [],j,cs,h=>by simp
 |x ::r,j,cs,h=>by simp only[List.zipIdx_cons,List.foldl_cons];rw[Db off r (j+1) _ (by simp at h⊢;omega)];have e:=list_seg_step cs.toList (off+j) x r (by simp at h⊢;omega);simp only[Array.toList_setIfInBounds];congr 1
def qI{b:Nat->Option (Nat×Nat)}:∀{ps:List (Nat×Nat×V)} {g:List (Nat×Value)} {cells:List V} {C:Array Value} {cs:List V},
  PR φ b ps g->LR φ cells C.toList->bZ cells ps=some cs->∃D,Instr.fill b C g=some D∧LR φ cs D.toList
 | [],g,cells,C,cs,h,hC,hf=>by simp[PR]at h;subst h;simp[bZ]at hf;subst hf;exact⟨C,rfl,hC⟩
 |(o,s,v) ::r,g,cells,C,cs,h,hC,hf=>by
  obtain⟨i,x,q,rfl,hp,hv,p⟩:=h;simp only[bZ]at hf;split at hf
  .rename_i n;have f:=hv.cells;have k:=f.length;have e:=hC.length;simp only[Instr.fill,hp];have l:¬(x.cells.size≠s∨C.size<o+x.cells.size):=by simp at k e⊢;omega
   have m:(decide (x.cells.size≠s) ||decide (o+x.cells.size > C.size))=false:=by simp at l⊢;omega
   simp only[m];have a:=Db o x.cells.toList 0 C (by simp at k e⊢;omega);simp only[X2]at a;have d:x.cells.zipIdx.foldl (fun cs (c,j)=>cs.setIfInBounds (o+j) c) C=(C.toList.take o++x.cells.toList++C.toList.drop (o+x.cells.toList.length)).toArray:=by rw[<- Array.foldl_toList,Array.toList_zipIdx];exact a
   rw[Tg Y];rw[d];refine qI p ?_ hf;simp only[];rw[k,n.1];exact LR.append (LR.append (LR.take o hC) f) (LR.drop _ hC)
  cases hf
def ak{t:TypeId}{d:TypeDesc}(h:P.underlying t=some d):(underlying t).run P w=.ok d w:=by simp[underlying,h]
def cG{t:TypeId}{n:Nat}(h:iu P t=some n):(Go.sizeOf t).run P w=.ok n w:=by
 unfold iu at h;cases hi:P.info? t with
 |none=>rw[hi]at h;cases h
 |some i=>rw[hi]at h;simp only[Xd,TC]at h;simp[Go.sizeOf,typeInfo,hi,h]
def ia{t:TypeId}{g:Bool}(h:uE P t=some g):(isAgg t).run P w=.ok g w:=by
 unfold uE at h;cases hd:P.underlying t with
 |none=>rw[hd]at h;cases h
 |some d=>
  rw[hd]at h;simp only[isAgg,Wn,ak hd,VQ];cases d <;> simp at h⊢ <;> simp[h]
def nK{t:TypeId}{z:V}(h:aba P t=some z):∃x,(∀w,(zeroValue t).run P w=.ok x w)∧Wp x=some z:=by
 unfold aba at h;cases hi:P.info? t with
 |none=>simp[hi]at h
 |some i=>
  rw[hi]at h;simp only[Option.bind_some,Option.bind_eq_some_iff]at h;obtain⟨x,hx,a⟩:=h;exact⟨x,fun w=>by simp[zeroValue,typeInfo,hi,hx],a⟩
def gC{t:TypeId}{z:List V}(h:nQ P t=some z):∃x,(∀w,(zeroValue t).run P w=.ok x w)∧(∀φ,LR φ z x.cells.toList)∧iu P t=some z.length∧x.cells.size=z.length:=by
 unfold nQ at h;split at h
 .rename_i c n e hn;split at h
  .rename_i d;simp at h;subst h;obtain⟨x,hx,a⟩:=nK e;have b:∀φ,LR φ c.cells x.cells.toList:=fun φ=>(uT φ x c a).cells
   exact⟨x,hx,b,by rw[hn,d],by have:=(b (fun _=>none)).length;simpa using this⟩
  cases h
 cases h
def IF{op:BinOp}:(bn op=.shl↔op=.shl)∧(bn op=.shr↔op=.shr):=by cases op <;> simp[bn]
def NJ{op:BinOp}{t:TypeId}{x y:V}{X Y:Value}{v:V}(hv:UU (bn op) x y=some v)(hx:VR φ x X)(hy:VR φ y Y):
  ∃z,(Go.binOp op t X Y).run P w=.ok z w∧VR φ v z:=by
 unfold UU at hv;split at hv
 .rename_i k n d m;have hx:X=.int k n:=hx;have hy:Y=.int d m:=hy;subst hx;subst hy;split at hv
  .rename_i hs;unfold Bo at hv;split at hv
   .cases hv
   rename_i a;have b:=@IF op;rcases hs with hs|hs
   .have:=b.1.1 hs;subst this;simp[bn]at hv;subst hv;exact⟨_,by simp[Go.binOp,Op.shift,a],rfl⟩
   have:=b.2.1 hs;subst this;simp[bn]at hv;subst hv;exact⟨_,by simp[Go.binOp,Op.shift,a],rfl⟩
  rename_i hs;split at hv
  .rename_i c;subst c;cases op <;> simp[bn]at hs hv⊢ <;> simp only[mj]at hv <;> (try (split at hv)) <;> (try (cases hv;done)) <;> (try (simp at hv)) <;> (try subst hv) <;>
    first
    |(refine⟨_,?_,rfl⟩;simp[Go.binOp,Op.intArith,Op.intDiv,Op.intBits,Op.intCmp, *];done)
    |(cases hv)
  cases hv
 cases hv
end AM
namespace AM
open Go Go.RowKit
variable {P:Program} {φ:TF} {tm:T V} {a:Act} {w:World}
def r5{t:TypeId}{n:Nat}(h:iu P t=some n):∃i,P.info? t=some i∧i.size=n:=by
 unfold iu at h;cases hi:P.info? t with
 |none=>simp[hi]at h
 |some i=>simp[hi]at h;exact⟨i,rfl,h⟩
def S8:TypeDesc->Bool
 | .struct _| .array _ _=>true
 |_=>false
def zV{t:TypeId}{d:TypeDesc}(h:P.underlying t=some d):uE P t=some (S8 d):=by unfold uE;rw[h];cases d <;> rfl
def km{t:TypeId}{k:Bool}(h:oZ P t=some k):iu P t=some 1∧uE P t=some false∧((k=false∧P.underlying t=some .bool)∨(k=true∧∃i,P.underlying t=some (.int i))):=by
 unfold oZ at h;split at h
 .rename_i hs;refine⟨hs,?_⟩;split at h
  .rename_i hu;cases h;exact⟨zV hu,.inl ⟨rfl,hu⟩⟩
  .rename_i i hu;cases h;exact⟨zV hu,.inr ⟨rfl,i,hu⟩⟩
  cases h
 cases h
def nN{t:TypeId}{k:Bool}(c:oZ P t=some k){x y:V}{X Y:Value}{r:Bool}(h:nr k x y=some r)(hx:VR φ x X)(hy:VR φ y Y)(d:Nat):
  (Op.equalIn (d+1) t X Y).run P w=.ok r w:=by
 obtain⟨_,_,hu⟩:=km c;unfold nr at h;split at h
 .rename_i p q;have hx:X=.bool p:=hx;have hy:Y=.bool q:=hy;subst hx;subst hy;rcases hu with⟨_,hu⟩|⟨a,_⟩
  .simp at h;subst h;simp[Op.equalIn,ak hu]
  cases a
 .rename_i e p f q;have hx:X=.int e p:=hx;have hy:Y=.int f q:=hy;subst hx;subst hy;rcases hu with⟨a,_⟩|⟨_,i,hu⟩
  .cases a
  split at h
  .rename_i b;subst b;simp at h;subst h;simp[Op.equalIn,ak hu]
  cases h
 cases h
def nX{t:TypeId}(a:uE P t=some false){C:Array Value}{off:Nat}{X:Value}(h:C[off]?=some X):(part t C off).run P w=.ok X w:=by simp[part,ia a,h]
def nP:∀{l m:List Bool} {xs a:List V} {r:Bool},cF (l++m) xs a=some r →
  (cF l (xs.take l.length) (a.take l.length)=some false∧r=false)∨
  (cF l (xs.take l.length) (a.take l.length)=some true∧cF m (xs.drop l.length) (a.drop l.length)=some r)
 | [],m,xs,a,r,h=>by right;simpa [cF]using h
 |k ::l,m,[],a,r,h=>by simp[cF]at h
 |k ::l,m,x ::xs,[],r,h=>by simp[cF]at h
 |k ::l,m,x ::xs,y ::a,r,h=>by
  simp only[abg,cF]at h;simp only[TH,Wa,WZ,cF];split at h
  .simp at h;exact .inl ⟨Y,h⟩
  .exact nP h
  cases h
def zI{e:TypeId}{k:Bool}(g:oZ P e=some k)(d:Nat)(C D:Array Value):∀(n off:Nat) (xs b:List V) (r:Bool),
  LR φ xs (C.toList.drop off)->LR φ b (D.toList.drop off)->cF (List.replicate n k) (xs.take n) (b.take n)=some r →
  (forIn (m:=Sem) (List.range' off n) ((none,()):Option Bool×Unit) (fun i _=>do
    let r <- Op.equalIn (d+1) e (<- part e C (i*1)) (<- part e D (i*1))
    if(!r)=true then pure (ForInStep.done (some false,()))else pure (ForInStep.yield (none,())))).run P w =
   .ok (if r then(none,())else(some false,())) w
 | 0,off,xs,b,r,hx,hy,h=>by simp[cF]at h;subst h;simp
 |n+1,off,xs,b,r,hx,hy,h=>by
  obtain⟨A,a,hu⟩:=km g;cases xs with
  |nil=>simp[abp,cF]at h
  |cons x xs=>
   cases b with
   |nil=>simp[abp,cF]at h
   |cons y b=>
    obtain⟨X,s,v,c,t⟩:=hx;obtain⟨Y,B,z,f,u⟩:=hy;have l:C[off]?=some X:=by have:=Uj (·[0]?) v;simpa using this
    have p:D[off]?=some Y:=by have:=Uj (·[0]?) z;simpa using this
    have j:C.toList.drop (off+1)=s:=by rw[<- List.drop_drop,v];rfl
    have o:D.toList.drop (off+1)=B:=by rw[<- List.drop_drop,z];rfl
    simp only[abp,Wa,cF]at h;simp only[Ya,List.forIn_cons,Wn,Um,nX a l,nX a p,VQ];split at h
    .rename_i q;simp at h;subst h;rw[nN g q c f];simp
    .rename_i q;rw[nN g q c f];simp only[VQ,XZ,U5,Ul,Ys];have:=zI g d C D n (off+1) xs b r (by rw[j];exact t) (by rw[o];exact u) h
     simpa using this
    cases h
def tO{t:TypeId}{l:List Bool}(a:EC P t=some l)(d:Nat){C D:Array Value}{off:Nat}{xs j:List V}{r:Bool}(hx:LR φ xs (C.toList.drop off))(hy:LR φ j (D.toList.drop off))(h:cF l (xs.take l.length) (j.take l.length)=some r):
  ∃X Y,(part t C off).run P w=.ok X w∧(part t D off).run P w=.ok Y w∧(Op.equalIn (d+2) t X Y).run P w=.ok r w:=by
 unfold EC at a;split at a
 .rename_i n e hu;split at a
  .rename_i i;split at a
   .rename_i k f;simp at a;subst a;obtain⟨g,b,_⟩:=km f;have c:uE P t=some true:=zV hu;refine⟨.agg (C.extract off (off+n)),.agg (D.extract off (off+n)),?_,?_,?_⟩
    .simp[part,ia c,cG i]
    .simp[part,ia c,cG i]
    simp only[List.length_replicate]at h;have q:LR φ (xs.take n) ((C.extract off (off+n)).toList.drop 0):=by simpa [abW,abZ]using LR.take n hx
    have v:LR φ (j.take n) ((D.extract off (off+n)).toList.drop 0):=by simpa [abW,abZ]using LR.take n hy
    have:=zI (w:=w) f d _ _ n 0 _ _ r q v (by rw[Z8,Z8,Nat.min_self];exact h);rw[Op.equalIn];simp only[Wn,ak hu,VQ,cG g];rw[Std.Legacy.Range.forIn_eq_forIn_range'];simp only[Std.Legacy.Range.size,Zr,Zq,Nat.div_one]at this⊢;rw[this];cases r <;> rfl
   cases a
  cases a
 split at a
 .rename_i k f;simp at a;subst a;obtain⟨g,b,_⟩:=km f;cases xs with
  |nil=>simp[cF]at h
  |cons x xs=>
   cases j with
   |nil=>simp[cF]at h
   |cons y j=>
    obtain⟨X,s,A,u,E⟩:=hx;obtain⟨Y,G,B,z,F⟩:=hy;have m:C[off]?=some X:=by have:=Uj (·[0]?) A;simpa using this
    have o:D[off]?=some Y:=by have:=Uj (·[0]?) B;simpa using this
    refine⟨X,Y,nX b m,nX b o,?_⟩;simp[cF]at h;have:nr k x y=some r:=by
     split at h
     .rename_i p;simp at h;subst h;exact p
     .rename_i p;simp at h;subst h;exact p
     cases h
    exact nN f this u z _
 cases a
def qz(d:Nat){C D:Array Value}:∀{o:List Field} {l:List Bool} {off:Nat} {xs i:List V} {r:Bool},rG P o off=some l →
  LR φ xs (C.toList.drop off)->LR φ i (D.toList.drop off)->cF l (xs.take l.length) (i.take l.length)=some r->(Op.eqFields (d+2) C D o).run P w=.ok r w
 | [],l,off,xs,i,r,hf,hx,hy,h=>by simp[rG]at hf;subst hf;simp[cF]at h;subst h;rfl
 |f ::o,l,off,xs,i,r,hf,hx,hy,h=>by
  simp only[rG]at hf;split at hf
  .rename_i q;split at hf
   .rename_i l1 c;split at hf
    .rename_i m s;simp at hf;subst hf;obtain⟨e,a⟩:=q;simp only[Op.eqFields];rw[Ti a];simp only[Wn,e];have g:∀{u v:List V},cF l1 ((u.take (l1++m).length).take l1.length) ((v.take (l1++m).length).take l1.length)=cF l1 (u.take l1.length) (v.take l1.length):=by intro u v;rw[Z8,Z8];simp
     rcases nP h with⟨b,rfl⟩|⟨b,p⟩
     .rw[g]at b;obtain⟨X,Y,j,k,n⟩:=tO (w:=w) c d hx hy b;rw[j];simp only[VQ];rw[k];simp only[VQ];rw[n];simp
     rw[g]at b;obtain⟨X,Y,j,k,n⟩:=tO (w:=w) c d hx hy b;rw[j];simp only[VQ];rw[k];simp only[VQ];rw[n];simp only[VQ,XZ,U5,Ul];refine qz d s (by have:=LR.drop l1.length hx;rwa [List.drop_drop]at this) (by have:=LR.drop l1.length hy;rwa [List.drop_drop]at this) ?_;have:∀u:List V,(u.take (l1++m).length).drop l1.length=(u.drop l1.length).take m.length:=by intro u;rw[List.drop_take];simp
     rw[this,this]at p;exact p
    cases hf
   cases hf
  cases hf
def qO:∀{l:List Bool} {xs a:List V} {r:Bool},cF l xs a=some r->cF l (xs.take l.length) (a.take l.length)=some r
 | [],[],[],r,h=>by simpa using h
 | [],x ::xs,a,r,h=>by simp[cF]at h
 | [],[],y ::a,r,h=>by simp[cF]at h
 |k ::l,[],a,r,h=>by simp[cF]at h
 |k ::l,x ::xs,[],r,h=>by simp[cF]at h
 |k ::l,x ::xs,y ::a,r,h=>by
  simp only[cF,TH,Wa]at h⊢;split at h
  .exact h
  .exact qO h
  cases h
def Gl{t:TypeId}{ks:List Bool}(a:AJ P t=some ks){xs d:List V}{C D:Array Value}{r:Bool}(hx:LR φ xs C.toList)(hy:LR φ d D.toList)(h:cF ks xs d=some r):(Op.equal t (.agg C) (.agg D)).run P w=.ok r w:=by
 unfold AJ at a;split at a
 .rename_i e hu;split at a
  .rename_i c;have b:P.fieldsOf t=e:=by simp[Program.fieldsOf,hu]
   unfold Op.equal Op.maxDepth;rw[show(10000:Nat)=9999+1 from rfl,run_equalIn_struct w 9999 t C D (by rw[b];exact hu) c,b];exact qz 9997 a (by simpa using hx) (by simpa using hy) (qO h)
  cases a
 cases a
end AM
