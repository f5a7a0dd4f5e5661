import Derived.Conc.MuLone
import Derived.Recover
import Derived.Orders
import Derived.Below
import Derived.Laws.StructEq
set_option linter.unusedVariables false
set_option linter.unusedSimpArgs false
namespace AM
open Go
inductive T (α:Type) where
 |nil
 |node (v:Option α) (l r:T α)
 deriving Inhabited
noncomputable section
def T.get {α:Type} (t:T α):Nat -> Option α :=
 T.rec (motive:=fun _=>Nat -> Option α) (fun _=>none) (fun v _ _ gl gr i=>Bool.rec (motive:=fun _=>Option α) (Bool.rec (motive:=fun _=>Option α) (gr (Nat.sub (Nat.div i 2) 1)) (gl (Nat.div i 2)) (Nat.beq (Nat.mod i 2) 1)) v (Nat.beq i 0)) t
def T.oneF {α:Type} (x:Option α) (f:Nat):Nat -> T α :=
 Nat.rec (motive:=fun _=>Nat -> T α) (fun _=>.nil) (fun _ one i=>Bool.rec (motive:=fun _=>T α) (Bool.rec (motive:=fun _=>T α) (.node none .nil (one (Nat.sub (Nat.div i 2) 1))) (.node none (one (Nat.div i 2)) .nil) (Nat.beq (Nat.mod i 2) 1)) (.node x .nil .nil) (Nat.beq i 0)) f
def T.setF {α:Type} (x:Option α) (t:T α):Nat -> T α :=
 T.rec (motive:=fun _=>Nat -> T α) (fun i=>T.oneF x (Nat.succ i) i)
  (fun v l r sl sr i=>Bool.rec (motive:=fun _=>T α) (Bool.rec (motive:=fun _=>T α) (.node v l (sr (Nat.sub (Nat.div i 2) 1))) (.node v (sl (Nat.div i 2)) r) (Nat.beq (Nat.mod i 2) 1)) (.node x l r) (Nat.beq i 0)) t
def T.set {α:Type} (t:T α) (i:Nat) (x:α):T α:=T.setF (some x) t i
theorem T.get_nil {α:Type} (i:Nat):(T.nil:T α).get i=none:=rfl
theorem T.get_zero {α:Type} (v:Option α) (l r:T α):(T.node v l r).get 0=v:=rfl
theorem div_odd (k:Nat):Nat.div (2*k+1) 2=k:=by show (2*k+1) / 2=k;omega
theorem div_even (k:Nat):Nat.sub (Nat.div (2*k+2) 2) 1=k:=by show (2*k+2) / 2-1=k;omega
theorem mod_odd (k:Nat):Nat.beq (Nat.mod (2*k+1) 2) 1=true:=by
 have:Nat.mod (2*k+1) 2=1:=by show (2*k+1)%2=1;omega
 rw [this];rfl
theorem mod_even (k:Nat):Nat.beq (Nat.mod (2*k+2) 2) 1=false:=by
 have:Nat.mod (2*k+2) 2=0:=by show (2*k+2)%2=0;omega
 rw [this];rfl
theorem T.get_odd {α:Type} (v:Option α) (l r:T α) (k:Nat):(T.node v l r).get (2*k+1)=l.get k:=by
 show Bool.rec (motive:=fun _=>Option α) (Bool.rec (motive:=fun _=>Option α) (r.get (Nat.sub (Nat.div (2*k+1) 2) 1)) (l.get (Nat.div (2*k+1) 2)) (Nat.beq (Nat.mod (2*k+1) 2) 1)) v (Nat.beq (2*k+1) 0)=_
 rw [mod_odd,div_odd];rfl
theorem T.get_even {α:Type} (v:Option α) (l r:T α) (k:Nat):(T.node v l r).get (2*k+2)=r.get k:=by
 show Bool.rec (motive:=fun _=>Option α) (Bool.rec (motive:=fun _=>Option α) (r.get (Nat.sub (Nat.div (2*k+2) 2) 1)) (l.get (Nat.div (2*k+2) 2)) (Nat.beq (Nat.mod (2*k+2) 2) 1)) v (Nat.beq (2*k+2) 0)=_
 rw [mod_even,div_even];rfl
theorem T.one_zero {α:Type} (x:Option α) (f:Nat):T.oneF x (f+1) 0=.node x .nil .nil:=rfl
theorem T.one_odd {α:Type} (x:Option α) (f k:Nat):T.oneF x (f+1) (2*k+1)=.node none (T.oneF x f k) .nil:=by
 show Bool.rec (motive:=fun _=>T α) (Bool.rec (motive:=fun _=>T α) (.node none .nil (T.oneF x f (Nat.sub (Nat.div (2*k+1) 2) 1))) (.node none (T.oneF x f (Nat.div (2*k+1) 2)) .nil) (Nat.beq (Nat.mod (2*k+1) 2) 1)) (.node x .nil .nil) (Nat.beq (2*k+1) 0)=_
 rw [mod_odd,div_odd];rfl
theorem T.one_even {α:Type} (x:Option α) (f k:Nat):T.oneF x (f+1) (2*k+2)=.node none .nil (T.oneF x f k):=by
 show Bool.rec (motive:=fun _=>T α) (Bool.rec (motive:=fun _=>T α) (.node none .nil (T.oneF x f (Nat.sub (Nat.div (2*k+2) 2) 1))) (.node none (T.oneF x f (Nat.div (2*k+2) 2)) .nil) (Nat.beq (Nat.mod (2*k+2) 2) 1)) (.node x .nil .nil) (Nat.beq (2*k+2) 0)=_
 rw [mod_even,div_even];rfl
theorem T.set_zero {α:Type} (x:Option α) (v:Option α) (l r:T α):T.setF x (.node v l r) 0=.node x l r:=rfl
theorem T.set_odd {α:Type} (x:Option α) (v:Option α) (l r:T α) (k:Nat):T.setF x (.node v l r) (2*k+1)=.node v (T.setF x l k) r:=by
 show Bool.rec (motive:=fun _=>T α) (Bool.rec (motive:=fun _=>T α) (.node v l (T.setF x r (Nat.sub (Nat.div (2*k+1) 2) 1))) (.node v (T.setF x l (Nat.div (2*k+1) 2)) r) (Nat.beq (Nat.mod (2*k+1) 2) 1)) (.node x l r) (Nat.beq (2*k+1) 0)=_
 rw [mod_odd,div_odd];rfl
theorem T.set_even {α:Type} (x:Option α) (v:Option α) (l r:T α) (k:Nat):T.setF x (.node v l r) (2*k+2)=.node v l (T.setF x r k):=by
 show Bool.rec (motive:=fun _=>T α) (Bool.rec (motive:=fun _=>T α) (.node v l (T.setF x r (Nat.sub (Nat.div (2*k+2) 2) 1))) (.node v (T.setF x l (Nat.div (2*k+2) 2)) r) (Nat.beq (Nat.mod (2*k+2) 2) 1)) (.node x l r) (Nat.beq (2*k+2) 0)=_
 rw [mod_even,div_even];rfl
theorem nat_parts (i:Nat):i=0 \/ (∃ k,i=2*k+1) \/ ∃ k,i=2*k+2:=by
 rcases Nat.eq_zero_or_pos i with h | h
 ·exact .inl h
 ·rcases Nat.mod_two_eq_zero_or_one i with e | e
  ·exact .inr (.inr ⟨i / 2-1,by omega⟩)
  ·exact .inr (.inl ⟨i / 2,by omega⟩)
theorem T.get_one {α:Type} (x:Option α):∀ (f i j:Nat),i<f -> (T.oneF x f i).get j=if j=i then x else none:=by
 intro f
 induction f with
 |zero=>intro i j h;omega
 |succ f ih =>
  intro i j h
  rcases nat_parts i with rfl | ⟨k,rfl⟩ | ⟨k,rfl⟩ <;> rcases nat_parts j with rfl | ⟨m,rfl⟩ | ⟨m,rfl⟩
  ·rw [T.one_zero,T.get_zero,if_pos rfl]
  ·rw [T.one_zero,T.get_odd,T.get_nil,if_neg (by omega)]
  ·rw [T.one_zero,T.get_even,T.get_nil,if_neg (by omega)]
  ·rw [T.one_odd,T.get_zero,if_neg (by omega)]
  ·rw [T.one_odd,T.get_odd,ih _ _ (by omega)]
   by_cases e:m=k
   ·rw [if_pos e,if_pos (by omega)]
   ·rw [if_neg e,if_neg (by omega)]
  ·rw [T.one_odd,T.get_even,T.get_nil,if_neg (by omega)]
  ·rw [T.one_even,T.get_zero,if_neg (by omega)]
  ·rw [T.one_even,T.get_odd,T.get_nil,if_neg (by omega)]
  ·rw [T.one_even,T.get_even,ih _ _ (by omega)]
   by_cases e:m=k
   ·rw [if_pos e,if_pos (by omega)]
   ·rw [if_neg e,if_neg (by omega)]
theorem T.get_setF {α:Type} (x:Option α):∀ (t:T α) (i j:Nat),(T.setF x t i).get j=if j=i then x else t.get j:=by
 intro t
 induction t with
 |nil=>intro i j;exact T.get_one x (i+1) i j (by omega)
 |node v l r ihl ihr =>
  intro i j
  rcases nat_parts i with rfl | ⟨k,rfl⟩ | ⟨k,rfl⟩ <;> rcases nat_parts j with rfl | ⟨m,rfl⟩ | ⟨m,rfl⟩
  ·rw [T.set_zero,T.get_zero,if_pos rfl]
  ·rw [T.set_zero,T.get_odd,T.get_odd,if_neg (by omega)]
  ·rw [T.set_zero,T.get_even,T.get_even,if_neg (by omega)]
  ·rw [T.set_odd,T.get_zero,T.get_zero,if_neg (by omega)]
  ·rw [T.set_odd,T.get_odd,ihl,T.get_odd]
   by_cases e:m=k
   ·rw [if_pos e,if_pos (by omega)]
   ·rw [if_neg e,if_neg (by omega)]
  ·rw [T.set_odd,T.get_even,T.get_even,if_neg (by omega)]
  ·rw [T.set_even,T.get_zero,T.get_zero,if_neg (by omega)]
  ·rw [T.set_even,T.get_odd,T.get_odd,if_neg (by omega)]
  ·rw [T.set_even,T.get_even,ihr,T.get_even]
   by_cases e:m=k
   ·rw [if_pos e,if_pos (by omega)]
   ·rw [if_neg e,if_neg (by omega)]
theorem T.get_set {α:Type} (t:T α) (i j:Nat) (x:α):(t.set i x).get j=if j=i then some x else t.get j :=
 T.get_setF _ _ _ _
inductive V where
 |bool (b:Bool)
 |int (k:IntKind) (n:Int)
 |str (s:List Nat)
 |ptr (a:Option (Nat × Nat))
 |slice (a:Option (Nat × Nat)) (len esz:Nat)
 |map (r:Option Nat)
 |func (f:FuncId) (first cap:List V)
 |nilFunc
 |iface (t:TypeId) (v:V)
 |nilIface
 |agg (cs:List V)
 |tuple (vs:List V)
 deriving Inhabited,Repr
def V.undef:V:=.tuple []
def V.cells:V -> List V
 | .agg cs=>cs
 |v=>[v]
def V.flat:V -> Bool
 | .agg _=>false
 | .tuple _=>false
 |_=>true
inductive Obj where
 |cells (ro:Bool) (grp n:Nat) (z:List V) (t:T V)
 |map (es:List (V × V))
 |dead
 deriving Inhabited
structure St where
 next:Nat
 objs:T Obj
 grps:T (List Nat)
 deriving Inhabited
def cellOf (n:Nat) (z:List V) (t:T V) (i:Nat):Option V :=
 if i<n then (match t.get i with | some v=>some v | none=>z[i%z.length]?) else none
def St.cell (σ:St) (id off:Nat):Option V :=
 match σ.objs.get id with
 |some (.cells _ _ n z t)=>cellOf n z t off
 |_=>none
def loadN (n:Nat) (z:List V) (t:T V) (off:Nat):Nat -> Option (List V)
 | 0=>some []
 |k+1=>match cellOf n z t off with
  |some v=>match loadN n z t (off+1) k with
   |some r=>some (v :: r)
   |none=>none
  |none=>none
def St.load (σ:St) (id off k:Nat):Option (List V) :=
 match σ.objs.get id with
 |some (.cells _ _ n z t)=>loadN n z t off k
 |_=>none
def putN (t:T V) (off:Nat):List V -> T V
 | []=>t
 |v :: r=>putN (t.set off v) (off+1) r
def cutOthers (x i:Nat):List Nat -> T Obj -> T Obj
 | [],o=>o
 |m :: r,o=>cutOthers x i r (if m=x then o else match o.get m with
  |some (.cells ro g n z t)=>o.set m (.cells ro g (min n i) z t)
  |_=>o)
def killAll:List Nat -> T Obj -> T Obj
 | [],o=>o
 |m :: r,o=>killAll r (match o.get m with
  |some _=>o.set m .dead
  |none=>o)
def St.store (σ:St) (id off:Nat) (vs:List V):Option St :=
 match σ.objs.get id with
 |some (.cells false g n z t) =>
  if off+vs.length <= n /\ vs.all V.flat=true then
   let o:=σ.objs.set id (.cells false g n z (putN t off vs))
   some { σ with objs:=if g=0 then o else cutOthers id off ((σ.grps.get g).getD []) o }
  else none
 |_=>none
def St.new (σ:St) (o:Obj):St:={ σ with next:=σ.next+1,objs:=σ.objs.set σ.next o }
def ofList (vs:List V):T V:=putN .nil 0 vs
def St.newCells (σ:St) (vs:List V):St:=σ.new (.cells false 0 vs.length [] (ofList vs))
mutual
def sameV:V -> V -> Bool
 | .bool a,.bool b=>a == b
 | .int k a,.int k' b=>k == k' && a == b
 | .str a,.str b=>a == b
 | .ptr a,.ptr b=>a == b
 | .slice a l e,.slice b m f=>a == b && l == m && e == f
 | .map a,.map b=>a == b
 | .func f a b,.func g c d=>f == g && sameL a c && sameL b d
 | .nilFunc,.nilFunc=>true
 | .iface t v,.iface u w=>t == u && sameV v w
 | .nilIface,.nilIface=>true
 | .agg a,.agg b=>sameL a b
 | .tuple a,.tuple b=>sameL a b
 |_,_=>false
def sameL:List V -> List V -> Bool
 | [],[]=>true
 |a :: r,b :: s=>sameV a b && sameL r s
 |_,_=>false
end
mutual
theorem sameV_eq:∀ (x y:V),sameV x y=true -> x=y
 | .bool a,y,h=>by cases y <;> simp_all [sameV]
 | .int k n,y,h=>by cases y <;> simp_all [sameV]
 | .str s,y,h=>by cases y <;> simp_all [sameV]
 | .ptr a,y,h=>by cases y <;> simp_all [sameV]
 | .slice a l e,y,h=>by cases y <;> simp_all [sameV]
 | .map a,y,h=>by cases y <;> simp_all [sameV]
 | .func f a b,y,h=>by
  cases y <;> simp [sameV] at h
  rename_i g c d
  obtain ⟨⟨h1,h2⟩,h3⟩:=h
  rw [h1,sameL_eq a c h2,sameL_eq b d h3]
 | .nilFunc,y,h=>by cases y <;> simp_all [sameV]
 | .iface t v,y,h=>by
  cases y <;> simp [sameV] at h
  rename_i u v'
  rw [h.1,sameV_eq v v' h.2]
 | .nilIface,y,h=>by cases y <;> simp_all [sameV]
 | .agg cs,y,h=>by
  cases y <;> simp [sameV] at h
  rename_i ds;rw [sameL_eq cs ds h]
 | .tuple cs,y,h=>by
  cases y <;> simp [sameV] at h
  rename_i ds;rw [sameL_eq cs ds h]
theorem sameL_eq:∀ (x y:List V),sameL x y=true -> x=y
 | [],y,h=>by cases y <;> simp_all [sameL]
 |a :: r,y,h=>by
  cases y <;> simp [sameL] at h
  rename_i b s;rw [sameV_eq a b h.1,sameL_eq r s h.2]
end
mutual
theorem sameV_refl:∀ (x:V),sameV x x=true
 | .bool a=>by simp [sameV]
 | .int k n=>by simp [sameV]
 | .str s=>by simp [sameV]
 | .ptr a=>by simp [sameV]
 | .slice a l e=>by simp [sameV]
 | .map a=>by simp [sameV]
 | .func f a b=>by simp [sameV,sameL_refl a,sameL_refl b]
 | .nilFunc=>by simp [sameV]
 | .iface t v=>by simp [sameV,sameV_refl v]
 | .nilIface=>by simp [sameV]
 | .agg cs=>by simp [sameV,sameL_refl cs]
 | .tuple cs=>by simp [sameV,sameL_refl cs]
theorem sameL_refl:∀ (x:List V),sameL x x=true
 | []=>by simp [sameL]
 |a :: r=>by simp [sameL,sameV_refl a,sameL_refl r]
end
instance:DecidableEq V:=fun x y=>if h:sameV x y=true then isTrue (sameV_eq x y h) else isFalse (fun e=>h (e▸sameV_refl x))
inductive Opd where
 |tmp (t:Nat) | const (v:V) | glob (g:Nat)
 deriving Inhabited,Repr,DecidableEq
inductive Bn where
 |add | sub | mul | quo | rem | and | or | xor | andNot | shl | shr | eql | neq | lss | leq | gtr | geq
 deriving DecidableEq,Inhabited,Repr
inductive Ek where
 |bool | ptr | slice | map | func | iface
 deriving DecidableEq,Inhabited,Repr
inductive Kk where
 |int | str | bool
 deriving DecidableEq,Inhabited,Repr
inductive AOp where
 |mv (x:Opd)
 |pick (c a b:Opd)
 |alloc (z:List V)
 |box (n:Nat) (x:Opd)
 |build (z:List V) (parts:List (Nat × Nat × Opd))
 |mkSlice (len esz:Nat) (z:List V) (parts:List (Nat × Nat × Opd))
 |load (agg:Bool) (n:Nat) (a:Opd)
 |store (n:Nat) (a x:Opd)
 |nilCheck (x:Opd)
 |bin (op:Bn) (x y:Opd)
 |eq1 (neg:Bool) (k:Ek) (x y:Opd)
 |eqs (neg:Bool) (ks:List Bool) (x y:Opd)
 |neg (x:Opd) | not (x:Opd) | compl (x:Opd)
 |conv (k:IntKind) (x:Opd)
 |makeSlice (esz bytes:Nat) (z:List V) (l c:Opd)
 |sliceOf (esz:Nat) (x:Opd) (lo hi:Option Opd)
 |sliceArr (n esz:Nat) (x:Opd) (lo hi:Option Opd)
 |part (agg:Bool) (off n:Nat) (x:Opd)
 |faddr (off:Nat) (x:Opd)
 |iaddrS (esz:Nat) (x i:Opd)
 |iaddrA (len esz:Nat) (x i:Opd)
 |indexA (len esz:Nat) (agg:Bool) (x i:Opd)
 |indexS (x i:Opd)
 |extract (x:Opd) (i:Nat)
 |lenS (x:Opd)
 |lenM (x:Opd)
 |lenArr (n:Nat)
 |append (esz bytes:Nat) (x y:Opd)
 |appendZ (esz bytes:Nat) (z:List V) (x n:Opd)
 |copy (esz:Nat) (x y:Opd)
 |clearS (z:List V) (x:Opd)
 |clearM (x:Opd)
 |maxmin (max:Bool) (xs:List Opd)
 |recover
 |makeFunc (f:FuncId) (first cap:List Opd)
 |makeMap
 |lookup (kk:Kk) (z:V) (ok:Bool) (m k:Opd)
 |mapUpdate (kk:Kk) (m k v:Opd)
 |delete (kk:Kk) (m k:Opd)
 |call (f:FuncId) (xs:List Opd)
 |callv (f:Opd) (xs:List Opd)
 |defer (f:FuncId) (xs:List Opd)
 |deferv (f:Opd) (xs:List Opd)
 |bad (why:String)
 deriving Inhabited,Repr,DecidableEq
structure AOper where
 dst:Option Nat
 op:AOp
 guard:Option (Nat × Bool)
 deriving Inhabited,Repr,DecidableEq
structure DOper where
 o:AOper
 lo:Nat
 hi:Nat
 deriving Inhabited,Repr,DecidableEq
inductive AC where
 |skip
 |region (ops:List AOper)
 |regionR (dst:Option Nat) (ops:List AOper)
 |draw (ops:List DOper)
 |seq (a b:AC)
 |cond (c:Opd) (a b:AC)
 |block (id:Nat) (b:AC)
 |loop (b:AC)
 |exit (id:Nat)
 |ret
 |scope (b:AC)
 |label (l:Nat)
 |goto (l:Nat)
 |bad (why:String)
 deriving Inhabited,Repr,DecidableEq
inductive Res where
 |tmp (t:Nat)
 |cell (t:Nat) (agg:Bool) (n:Nat)
 deriving Inhabited,Repr
inductive Ext where
 |lock | unlock | loadU32 | storeU32
 |still (l:List (Nat × List Int)) (b:Bool)
 deriving Inhabited,Repr,DecidableEq
structure AFunc where
 results:List Res
 body:AC
 deriving Inhabited,Repr
inductive AF where
 |code (f:AFunc)
 |ext (e:Ext)
 deriving Inhabited,Repr
abbrev Dfs:=List (FuncId × List V)
structure Fr where
 tmps:T V
 defers:Dfs
 deriving Inhabited
def Opd.eval (tm:T V):Opd -> V
 | .tmp t=>(tm.get t).getD .undef
 | .const v=>v
 | .glob g=>.ptr (some (g,0))
def binI (op:Bn) (k:IntKind) (x y:Int):Option V :=
 match op with
 | .add=>some (.int k (k.wrap (x+y)))
 | .sub=>some (.int k (k.wrap (x-y)))
 | .mul=>some (.int k (k.wrap (x*y)))
 | .quo=>if y=0 then none else some (.int k (k.wrap (x.tdiv y)))
 | .rem=>if y=0 then none else some (.int k (x.tmod y))
 | .and=>some (.int k (k.wrap (BitVec.ofInt k.bits x &&& BitVec.ofInt k.bits y).toNat))
 | .or=>some (.int k (k.wrap (BitVec.ofInt k.bits x ||| BitVec.ofInt k.bits y).toNat))
 | .xor=>some (.int k (k.wrap (BitVec.ofInt k.bits x ^^^ BitVec.ofInt k.bits y).toNat))
 | .andNot=>some (.int k (k.wrap (BitVec.ofInt k.bits x &&& ~~~ BitVec.ofInt k.bits y).toNat))
 | .eql=>some (.bool (x == y))
 | .neq=>some (.bool (x != y))
 | .lss=>some (.bool (decide (x<y)))
 | .leq=>some (.bool (decide (x <= y)))
 | .gtr=>some (.bool (decide (x > y)))
 | .geq=>some (.bool (decide (x ≥ y)))
 |_=>none
def shiftI (op:Bn) (k:IntKind) (x y:Int):Option V :=
 if y<0 then none else
 match op with
 | .shl=>some (.int k (k.wrap (x*2^(min y.toNat k.bits))))
 | .shr=>some (.int k (x.fdiv (2^(min y.toNat k.bits))))
 |_=>none
def bin (op:Bn) (x y:V):Option V :=
 match x,y with
 | .int k a,.int k' b =>
  if op=.shl \/ op=.shr then shiftI op k a b
  else if k=k' then binI op k a b else none
 |_,_=>none
def eqV:Ek -> V -> V -> Option Bool
 | .bool,.bool a,.bool b=>some (a == b)
 | .ptr,.ptr none,.ptr b=>some b.isNone
 | .ptr,.ptr (some _),.ptr none=>some false
 | .slice,.slice none _ _,.slice b _ _=>some b.isNone
 | .slice,.slice (some _) _ _,.slice none _ _=>some false
 | .map,.map none,.map b=>some b.isNone
 | .map,.map (some _),.map none=>some false
 | .func,.nilFunc,.nilFunc=>some true
 | .func,.nilFunc,.func _ _ _=>some false
 | .func,.func _ _ _,.nilFunc=>some false
 | .iface,.nilIface,.nilIface=>some true
 | .iface,.nilIface,.iface _ _=>some false
 | .iface,.iface _ _,.nilIface=>some false
 |_,_,_=>none
def eqPlain:Bool -> V -> V -> Option Bool
 |false,.bool a,.bool b=>some (a == b)
 |true,.int k a,.int k' b=>if k=k' then some (a == b) else none
 |_,_,_=>none
def eqCells:List Bool -> List V -> List V -> Option Bool
 | [],[],[]=>some true
 |k :: ks,a :: r,b :: s=>match eqPlain k a b with
  |some false=>some false
  |some true=>eqCells ks r s
  |none=>none
 |_,_,_=>none
def fillP (cells:List V):List (Nat × Nat × V) -> Option (List V)
 | []=>some cells
 |(off,size,v) :: r =>
  if v.cells.length=size /\ off+size <= cells.length then fillP (cells.take off++v.cells++cells.drop (off+size)) r else none
def evalParts (tm:T V) (ps:List (Nat × Nat × Opd)):List (Nat × Nat × V):=ps.map fun p=>(p.1,p.2.1,p.2.2.eval tm)
def repeatZ (z:List V):Nat -> List V
 | 0=>[]
 |n+1=>z++repeatZ z n
def maxLenBytes:Nat:=2^47
def appendL (σ : St) (esz bytes k : Nat) (vs : List V) (xa : Option (Nat × Nat)) (xl : Nat) : Option (V × St) :=
  if (xl + k) * bytes <= maxLenBytes /\ xl + k <= maxLenBytes /\ vs.all V.flat = true then
    match xa with
    | none => if xl = 0 then some (.slice (some (σ.next, 0)) k esz, σ.newCells vs) else none
    | some (id, off) =>
      if off = 0 then
        match σ.objs.get id with
        | some (.cells false g n z t) =>
          match loadN n z t 0 (xl * esz) with
          | none => none
          | some old =>
            some (.slice (some (σ.next, 0)) (xl + k) esz,
              { next := σ.next + 1
                objs := T.set
                  (killAll (if g = 0 then [] else ((σ.grps.get g).getD []).drop 8)
                    (cutOthers id (xl * esz) (if g = 0 then [] else (σ.grps.get g).getD []) (σ.objs.set id (.cells false (if g = 0 then σ.next else g) (min n (xl * esz)) z t))))
                  σ.next (.cells false (if g = 0 then σ.next else g) (old ++ vs).length [] (ofList (old ++ vs)))
                grps := σ.grps.set (if g = 0 then σ.next else g) (σ.next :: (if g = 0 then [id] else ((σ.grps.get g).getD []).take 8)) })
        | _ => none
      else none
  else none
def appendV (σ:St) (esz bytes:Nat) (x y:V):Option (V × St) :=
 match x,y with
 | .slice xa xl xe,.slice ya yl _ =>
  if esz=0 \/ xe≠esz /\ xa.isSome then none else
  if yl=0 then some (.slice xa xl xe,σ) else
  match ya with
  |none=>none
  |some (id,off)=>match σ.load id off (yl*esz) with
   |none=>none
   |some vs=>appendL σ esz bytes yl vs xa xl
 |_,_=>none
def appendZV (σ:St) (esz bytes:Nat) (z:List V) (x n:V):Option (V × St) :=
 match x,n with
 | .slice xa xl xe,.int _ i =>
  if esz=0 \/ xe≠esz /\ xa.isSome then none else
  if 0<i /\ i <= 1000000000000 then appendL σ esz bytes i.toNat (repeatZ z i.toNat) xa xl else none
 |_,_=>none
def boundB (x:V) (y:Nat):Option Nat :=
 match x with
 | .int _ i=>if 0 <= i /\ i <= y then some i.toNat else none
 |_=>none
def loB (lo:Option V) (h:Nat):Option (Nat × Nat) :=
 match lo with
 |none=>some (0,h)
 |some x=>match boundB x h with
  |some l=>some (l,h)
  |none=>none
def sliceB (lo hi:Option V) (len cap:Nat):Option (Nat × Nat) :=
 match hi with
 |none=>loB lo len
 |some y=>match boundB y cap with
  |none=>none
  |some h=>loB lo h
def keyEq:Kk -> V -> V -> Option Bool
 | .int,.int k a,.int k' b=>if k=k' then some (a == b) else none
 | .str,.str a,.str b=>some (a == b)
 | .bool,.bool a,.bool b=>some (a == b)
 |_,_,_=>none
def isKey:Kk -> V -> Bool
 | .int,.int _ _=>true
 | .str,.str _=>true
 | .bool,.bool _=>true
 |_,_=>false
def mapFind (kk:Kk) (k:V):List (V × V) -> Nat -> Option (Option (Nat × V))
 | [],_=>if isKey kk k then some none else none
 |(a,v) :: r,i=>match keyEq kk k a with
  |some true=>some (some (i,v))
  |some false=>mapFind kk k r (i+1)
  |none=>none
def maxV (mx:Bool):V -> List V -> Option V
 |a,[]=>some a
 | .int k x,.int k' y :: r=>if k=k' then maxV mx (.int k (if mx then (if y > x then y else x) else (if y<x then y else x))) r else none
 |_,_=>none
def pureOp (op:AOp) (tm:T V):Option V :=
 match op with
 | .mv x=>some (x.eval tm)
 | .pick c a b=>match c.eval tm with | .bool t=>some (if t then a.eval tm else b.eval tm) | _=>none
 | .build z ps=>match fillP z (evalParts tm ps) with | some cs=>some (.agg cs) | none=>none
 | .nilCheck x=>match x.eval tm with
  | .ptr (some a)=>some (.ptr (some a))
  | .func f a b=>some (.func f a b)
  |_=>none
 | .bin op x y=>bin op (x.eval tm) (y.eval tm)
 | .eq1 neg k x y=>match eqV k (x.eval tm) (y.eval tm) with | some b=>some (.bool (if neg then !b else b)) | none=>none
 | .eqs neg ks x y=>match x.eval tm,y.eval tm with
  | .agg a,.agg b=>match eqCells ks a b with | some r=>some (.bool (if neg then !r else r)) | none=>none
  |_,_=>none
 | .neg x=>match x.eval tm with | .int k n=>some (.int k (k.wrap (0-n))) | _=>none
 | .not x=>match x.eval tm with | .bool b=>some (.bool (!b)) | _=>none
 | .compl x=>match x.eval tm with | .int k n=>binI .xor k (if k.signed then -1 else k.max) n | _=>none
 | .conv k x=>match x.eval tm with | .int _ n=>some (.int k (k.wrap n)) | _=>none
 | .sliceOf esz x lo hi=>match x.eval tm with
  | .slice a len e=>match sliceB (lo.map (·.eval tm)) (hi.map (·.eval tm)) len len with
   |some (l,h)=>match a with
    |none=>some (.slice none (h-l) e)
    |some (id,off)=>if e=esz then some (.slice (some (id,off+l*esz)) (h-l) e) else none
   |none=>none
  |_=>none
 | .part agg off n x=>match x.eval tm with
  | .agg cs=>if agg then (if off+n <= cs.length then some (.agg ((cs.drop off).take n)) else none) else cs[off]?
  |_=>none
 | .faddr off x=>match x.eval tm with | .ptr (some (id,o))=>some (.ptr (some (id,o+off))) | _=>none
 | .iaddrS esz x i=>match x.eval tm,i.eval tm with
  | .slice (some (id,off)) len _,.int _ n=>if 0 <= n /\ n<len then some (.ptr (some (id,off+n.toNat*esz))) else none
  |_,_=>none
 | .iaddrA len esz x i=>match x.eval tm,i.eval tm with
  | .ptr (some (id,off)),.int _ n=>if 0 <= n /\ n<len then some (.ptr (some (id,off+n.toNat*esz))) else none
  |_,_=>none
 | .indexA len esz agg x i=>match x.eval tm,i.eval tm with
  | .agg cs,.int _ n=>if 0 <= n /\ n<len then
    (if agg then (if n.toNat*esz+esz <= cs.length then some (.agg ((cs.drop (n.toNat*esz)).take esz)) else none) else cs[n.toNat*esz]?) else none
  |_,_=>none
 | .indexS x i=>match x.eval tm,i.eval tm with
  | .str s,.int _ n=>if 0 <= n then (match s[n.toNat]? with | some b=>some (.int .u8 b) | none=>none) else none
  |_,_=>none
 | .extract x i=>match x.eval tm with | .tuple vs=>vs[i]? | _=>none
 | .lenS x=>match x.eval tm with
  | .slice _ n _=>some (.int .i64 n)
  |_=>none
 | .lenArr n=>some (.int .i64 n)
 | .maxmin mx xs=>match xs.map (·.eval tm) with | []=>none | a :: r=>maxV mx a r
 | .makeFunc f first cap=>some (.func f (first.map (·.eval tm)) (cap.map (·.eval tm)))
 |_=>none
def readOp (op:AOp) (tm:T V) (σ:St):Option V :=
 match op with
 | .load agg n a=>match a.eval tm with
  | .ptr (some (id,off))=>if agg then (match σ.load id off n with | some vs=>some (.agg vs) | none=>none) else σ.cell id off
  |_=>none
 | .sliceArr n esz x lo hi=>match x.eval tm with
  | .ptr (some (id,off))=>match sliceB (lo.map (·.eval tm)) (hi.map (·.eval tm)) n n with
   |some (l,h)=>if l=0 /\ h=n then (match σ.objs.get id with
    |some (.cells _ _ k _ _)=>if off+n*esz <= k then some (.slice (some (id,off)) n esz) else none
    |_=>none) else none
   |none=>none
  |_=>none
 | .lenM x=>match x.eval tm with
  | .map none=>some (.int .i64 0)
  | .map (some r)=>match σ.objs.get r with | some (.map es)=>some (.int .i64 es.length) | _=>none
  |_=>none
 | .lookup kk z ok m k =>
  match (match m.eval tm with
   | .map none=>some []
   | .map (some r)=>match σ.objs.get r with | some (.map es)=>some es | _=>none
   |_=>none:Option (List (V × V))) with
  |none=>none
  |some es=>match mapFind kk (k.eval tm) es 0 with
   |none=>none
   |some r=>match r with
    |none=>some (if ok then .tuple [z,.bool false] else z)
    |some (_,v)=>some (if ok then .tuple [v,.bool true] else v)
 |_=>none
def writeOp (op:AOp) (tm:T V) (σ:St):Option (V × St) :=
 match op with
 | .alloc z=>some (.ptr (some (σ.next,0)),σ.new (.cells false 0 z.length z .nil))
 | .box n x=>if (x.eval tm).cells.length=n then some (.ptr (some (σ.next,0)),σ.newCells (x.eval tm).cells) else none
 | .mkSlice len esz z ps=>match fillP (repeatZ z len) (evalParts tm ps) with
  |some cs=>some (.slice (some (σ.next,0)) len esz,σ.newCells cs)
  |none=>none
 | .store n a x=>match a.eval tm with
  | .ptr (some (id,off))=>if (x.eval tm).cells.length=n then (match σ.store id off (x.eval tm).cells with | some σ=>some (.undef,σ) | none=>none) else none
  |_=>none
 | .makeSlice esz bytes z l c=>match l.eval tm,c.eval tm with
  | .int _ a,.int _ b =>
   if 0 <= a /\ a <= b /\ b.toNat*bytes <= maxLenBytes /\ b<9223372036854775808 then
    some (.slice (some (σ.next,0)) a.toNat esz,σ.new (.cells false 0 (b.toNat*esz) z .nil))
   else none
  |_,_=>none
 | .append esz bytes x y=>appendV σ esz bytes (x.eval tm) (y.eval tm)
 | .appendZ esz bytes z x n=>appendZV σ esz bytes z (x.eval tm) (n.eval tm)
 | .copy esz x y=>match x.eval tm,y.eval tm with
  | .slice xa xl _,.slice ya yl _ =>
   match (if min yl xl*esz=0 then some [] else match ya with | none=>none | some (id,off)=>σ.load id off (min yl xl*esz):Option (List V)),xa with
   |some [],_=>some (.int .i64 (min yl xl:Nat),σ)
   |some vs,some (id,off)=>match σ.store id off vs with | some σ=>some (.int .i64 (min yl xl:Nat),σ) | none=>none
   |_,_=>none
  |_,_=>none
 | .clearS z x=>match x.eval tm with
  | .slice none _ _=>some (.tuple [],σ)
  | .slice (some (id,off)) n _=>if n=0 then some (.tuple [],σ) else match σ.store id off (repeatZ z n) with | some σ=>some (.tuple [],σ) | none=>none
  |_=>none
 | .clearM x=>match x.eval tm with
  | .map none=>some (.tuple [],σ)
  | .map (some r)=>match σ.objs.get r with | some (.map _)=>some (.tuple [], { σ with objs:=σ.objs.set r (.map []) }) | _=>none
  |_=>none
 | .makeMap=>some (.map (some σ.next),σ.new (.map []))
 | .mapUpdate kk m k v=>match m.eval tm with
  | .map (some r)=>match σ.objs.get r with
   |some (.map es)=>match mapFind kk (k.eval tm) es 0 with
    |none=>none
    |some none=>some (.undef, { σ with objs:=σ.objs.set r (.map (es++[(k.eval tm,v.eval tm)])) })
    |some (some (i,_))=>some (.undef, { σ with objs:=σ.objs.set r (.map (es.set i (k.eval tm,v.eval tm))) })
   |_=>none
  |_=>none
 | .delete kk m k=>match m.eval tm with
  | .map (some r)=>match σ.objs.get r with
   |some (.map es)=>match mapFind kk (k.eval tm) es 0 with
    |none=>none
    |some none=>some (.tuple [], { σ with objs:=σ.objs.set r (.map es) })
    |some (some (i,_))=>some (.tuple [], { σ with objs:=σ.objs.set r (.map (es.eraseIdx i)) })
   |_=>none
  |_=>none
 |_=>none
def isPure:AOp -> Bool
 | .mv _ | .pick .. | .build .. | .nilCheck _ | .bin .. | .eq1 .. | .eqs .. | .neg _ | .not _ | .compl _ | .conv .. | .sliceOf .. | .part .. | .faddr ..
 | .iaddrS .. | .iaddrA .. | .indexA .. | .indexS .. | .extract .. | .lenS _ | .lenArr _ | .maxmin .. | .makeFunc ..=>true
 |_=>false
def isRead:AOp -> Bool
 | .load .. | .lenM _ | .lookup .. | .sliceArr ..=>true
 |_=>false
abbrev CallT:=FuncId -> List V -> St -> Option (V × St)
def evalOp (call:CallT) (op:AOp) (tm:T V) (ds:Dfs) (σ:St):Option (V × Dfs × St) :=
 if isPure op then (match pureOp op tm with | some v=>some (v,ds,σ) | none=>none)
 else if isRead op then (match readOp op tm σ with | some v=>some (v,ds,σ) | none=>none)
 else match op with
 | .call g xs=>match call g (xs.map (·.eval tm)) σ with
  |some (v,σ)=>some (v,ds,σ)
  |none=>none
 | .callv g xs=>match g.eval tm with
  | .func g first cap=>match call g (first++xs.map (·.eval tm)++cap) σ with
   |some (v,σ)=>some (v,ds,σ)
   |none=>none
  |_=>none
 | .defer g xs=>some (.undef,(g,xs.map (·.eval tm)) :: ds,σ)
 | .deferv g xs=>match g.eval tm with
  | .func g first cap=>some (.undef,(g,first++xs.map (·.eval tm)++cap) :: ds,σ)
  |_=>none
 |op=>match writeOp op tm σ with | some (v,σ)=>some (v,ds,σ) | none=>none
inductive Ex where
 |normal | exit (id:Nat) | goto (l:Nat) | ret
 deriving Inhabited,Repr,DecidableEq
def putD (tm:T V):Option Nat -> V -> T V
 |some d,v=>tm.set d v
 |none,_=>tm
def wantedA (g:Option (Nat × Bool)) (tm:T V):Bool :=
 match g with
 |none=>true
 |some (t,b)=>match tm.get t with
  |some (.bool c)=>c == b
  |_=>false
def runOps (call:CallT):List AOper -> Fr -> St -> Option (Fr × St)
 | [],fr,σ=>some (fr,σ)
 |o :: r,fr,σ =>
  if wantedA o.guard fr.tmps then
   match evalOp call o.op fr.tmps fr.defers σ with
   |some (v,ds,σ)=>runOps call r ⟨putD fr.tmps o.dst v,ds⟩ σ
   |none=>none
  else runOps call r ⟨putD fr.tmps o.dst .undef,fr.defers⟩ σ
def isAlloc:AOp -> Bool
 | .alloc _=>true
 |_=>false
def isEff (op:AOp):Bool:=!isPure op && !isRead op && !isAlloc op
def hoist:List DOper -> St -> St
 | [],σ=>σ
 |d :: r,σ=>match d.o.op with
  | .alloc z=>hoist r (σ.new (.cells false 0 z.length z .nil))
  |_=>hoist r σ
def runD (call:CallT):List DOper -> Nat -> Fr -> St -> Option (Fr × List (T V × V) × List (Dfs × St))
 | [],_,fr,_=>some (fr,[],[])
 |d :: r,h,fr,σ =>
  if wantedA d.o.guard fr.tmps then
   if isAlloc d.o.op then
    match runD call r (h+1) ⟨putD fr.tmps d.o.dst (.ptr (some (h,0))),fr.defers⟩ σ with
    |some (f',tr,es)=>some (f',(fr.tmps,.ptr (some (h,0))) :: tr,es)
    |none=>none
   else match evalOp call d.o.op fr.tmps fr.defers σ with
    |some (v,ds,σ')=>match runD call r h ⟨putD fr.tmps d.o.dst v,ds⟩ σ' with
     |some (f',tr,es)=>some (f',(fr.tmps,v) :: tr,if isEff d.o.op then (ds,σ') :: es else es)
     |none=>none
    |none=>none
  else if isAlloc d.o.op then none
  else match runD call r h ⟨putD fr.tmps d.o.dst .undef,fr.defers⟩ σ with
   |some (f',tr,es)=>some (f',(fr.tmps,.undef) :: tr,if isEff d.o.op then (fr.defers,σ) :: es else es)
   |none=>none
def checkR (op:AOp) (tm:T V) (v:V) (lo hi:Nat):Nat -> List (Dfs × St) -> Bool
 |_,[]=>true
 |m,(_,σ) :: r=>(if lo <= m /\ m <= hi then (match readOp op tm σ with | some u=>sameV u v | none=>false) else true) && checkR op tm v lo hi (m+1) r
def checkH (h:Nat) (z:List V) (hi:Nat):Nat -> List (Dfs × St) -> Bool
 |_,[]=>true
 |m,(_,σ) :: r=>(if m <= hi then (match σ.objs.get h with
  |some (.cells false 0 n z' .nil)=>n == z.length && sameL z' z
  |_=>false) else true) && checkH h z hi (m+1) r
def checkD (es : List (Dfs × St)) : List DOper -> Nat -> List (T V × V) -> Bool
  | [], _, _ => true
  | d :: r, h, (tm, v) :: tr =>
    (if isRead d.o.op && wantedA d.o.guard tm then checkR d.o.op tm v d.lo d.hi 0 es else true) &&
    (match d.o.op with
     | .alloc z => checkH h z d.hi 0 es && checkD es r (h + 1) tr
     | _ => checkD es r h tr)
  | _ :: _, _, [] => false
def lastSt (σ:St):List (Dfs × St) -> St
 | []=>σ
 |(_,σ') :: r=>lastSt σ' r
def runDraw (call:CallT) (ops:List DOper) (fr:Fr) (σ:St):Option (Fr × St) :=
 match runD call ops σ.next fr (hoist ops σ) with
 |some (fr',tr,es)=>if checkD ((fr.defers,hoist ops σ) :: es) ops σ.next tr then some (fr',lastSt (hoist ops σ) es) else none
 |none=>none
def findLabel:AC -> Nat -> Option AC
 | .seq a b,l=>match findLabel a l with
  |some r=>some (.seq r b)
  |none=>findLabel b l
 | .label l',l=>if l' == l then some .skip else none
 |_,_=>none
def readResults (tm:T V) (σ:St):List Res -> Option (List V)
 | []=>some []
 | .tmp t :: r=>match readResults tm σ r with | some l=>some ((tm.get t).getD .undef :: l) | none=>none
 | .cell t agg n :: r=>match (tm.get t).getD .undef with
  | .ptr (some (id,off))=>match readResults tm σ r with
   |none=>none
   |some l=>if agg then (match σ.load id off n with | some vs=>some (.agg vs :: l) | none=>none) else (match σ.cell id off with | some v=>some (v :: l) | none=>none)
  |_=>none
def retV:List V -> V
 | [v]=>v
 |vs=>.tuple vs
def numsAt (σ:St) (id:Nat):Nat -> List Int -> Bool
 |_,[]=>true
 |off,n :: r=>(match σ.cell id off with | some v=>sameV v (.int .u64 n) | none=>false) && numsAt σ id (off+1) r
def rowsAt (σ:St) (l:List (Nat × List Int)):Bool:=l.all fun p=>numsAt σ p.1 0 p.2
def extCall (e:Ext) (xs:List V) (σ:St):Option (V × St) :=
 match e,xs with
 | .lock,[.ptr (some (id,off))]=>match σ.cell id off with
  |some (.int .i32 0)=>(σ.store id off [.int .i32 1]).map (.tuple [], ·)
  |_=>none
 | .unlock,[.ptr (some (id,off))]=>match σ.cell id off with
  |some (.int .i32 1)=>(σ.store id off [.int .i32 0]).map (.tuple [], ·)
  |_=>none
 | .loadU32,[.ptr (some (id,off))]=>match σ.cell id off with
  |some (.int .u32 n)=>some (.int .u32 n,σ)
  |_=>none
 | .storeU32,[.ptr (some (id,off)),.int .u32 n]=>match σ.cell id off with
  |some (.int .u32 _)=>(σ.store id off [.int .u32 n]).map (.tuple [], ·)
  |_=>none
 | .still l b,[]=>if rowsAt σ l=true then some (.bool b,σ) else none
 |_,_=>none
def enter (xs:List V):Fr:=⟨ofList xs,[]⟩
def sameT {α:Type} (f:α -> α -> Bool):T α -> T α -> Bool
 | .nil,.nil=>true
 | .node v l r,.node v' l' r'=>(match v,v' with | none,none=>true | some x,some y=>f x y | _,_=>false) && sameT f l l' && sameT f r r'
 |_,_=>false
def sameE:List (V × V) -> List (V × V) -> Bool
 | [],[]=>true
 |(a,b) :: r,(c,d) :: s=>sameV a c && sameV b d && sameE r s
 |_,_=>false
def sameO:Obj -> Obj -> Bool
 | .cells a g n z t,.cells a' g' n' z' t'=>a == a' && g == g' && n == n' && sameL z z' && sameT sameV t t'
 | .map e,.map e'=>sameE e e'
 | .dead,.dead=>true
 |_,_=>false
def sameN:List Nat -> List Nat -> Bool
 | [],[]=>true
 |a :: r,b :: s=>a == b && sameN r s
 |_,_=>false
def sameSt (a b:St):Bool:=a.next == b.next && sameT sameO a.objs b.objs && sameT sameN a.grps b.grps
def sameDs:Dfs -> Dfs -> Bool
 | [],[]=>true
 |(f,a) :: r,(g,b) :: s=>f == g && sameL a b && sameDs r s
 |_,_=>false
def sameFr (a b:Fr):Bool:=sameT sameV a.tmps b.tmps && sameDs a.defers b.defers
structure LMemo where
 b:AC
 fr:Fr
 σ:St
 ex:Ex
 fr':Fr
 σ':St
def loopGet:List LMemo -> AC -> Fr -> St -> Option (Ex × Fr × St)
 | [],_,_,_=>none
 |m :: r,b,fr,σ=>if m.σ.next == σ.next && (sameFr m.fr fr && (sameSt m.σ σ && decide (m.b=b))) then some (m.ex,m.fr',m.σ') else loopGet r b fr σ
def exec (call:CallT) (L:List LMemo):Nat -> AC -> Fr -> St -> Option (Ex × Fr × St)
 | 0,_,_,_=>none
 |f+1,c,fr,σ=>match c with
  | .skip=>some (.normal,fr,σ)
  | .region ops=>match runOps call ops fr σ with | some (fr,σ)=>some (.normal,fr,σ) | none=>none
  | .regionR d ops=>match runOps call ops ⟨putD fr.tmps d .nilIface,fr.defers⟩ σ with | some (fr,σ)=>some (.normal,fr,σ) | none=>none
  | .draw ops=>match runDraw call ops fr σ with | some (fr,σ)=>some (.normal,fr,σ) | none=>none
  | .seq a b=>match exec call L f a fr σ with
   |some (.normal,fr,σ)=>exec call L f b fr σ
   |r=>r
  | .cond c a b=>match c.eval fr.tmps with
   | .bool t=>if t then exec call L f a fr σ else exec call L f b fr σ
   |_=>none
  | .block id b=>match exec call L f b fr σ with
   |some (.exit i,fr,σ)=>if i=id then some (.normal,fr,σ) else some (.exit i,fr,σ)
   |r=>r
  | .loop b=>match loopGet L b fr σ with
   |some r=>some r
   |none=>match exec call L f b fr σ with
    |some (.normal,fr,σ)=>exec call L f (.loop b) fr σ
    |r=>r
  | .exit id=>some (.exit id,fr,σ)
  | .ret=>some (.ret,fr,σ)
  | .scope b=>match exec call L f b fr σ with
   |some (.goto l,fr,σ)=>scopeLoop (exec call L f) b f l fr σ
   |r=>r
  | .label _=>some (.normal,fr,σ)
  | .goto l=>some (.goto l,fr,σ)
  | .bad _=>none
where
 scopeLoop (run:AC -> Fr -> St -> Option (Ex × Fr × St)) (b:AC):Nat -> Nat -> Fr -> St -> Option (Ex × Fr × St)
  | 0,_,_,_=>none
  |n+1,l,fr,σ=>match findLabel b l with
   |none=>some (.goto l,fr,σ)
   |some r=>match run r fr σ with
    |some (.goto l,fr,σ)=>scopeLoop run b n l fr σ
    |r=>r
def runDefers (call:CallT):Dfs -> St -> Option St
 | [],σ=>some σ
 |(g,xs) :: r,σ=>match call g xs σ with
  |some (_,σ)=>runDefers call r σ
  |none=>none
structure Memo where
 g:FuncId
 xs:List V
 σ:St
 v:V
 σ':St
 own:Option (List (Nat × Obj))
def ownIn (l:List (Nat × Obj)) (n:Nat) (σ:St):Bool:=decide (σ.next <= n) && l.all fun p=>(match p.2 with | .cells _ 0 _ _ _=>true | .map ..=>true | _=>false) && (match σ.objs.get p.1 with | some o=>sameO p.2 o | none=>false)
def ofOwn (n:Nat) (l:List (Nat × Obj)):St:=⟨n,l.foldr (fun p t=>T.set t p.1 p.2) .nil,.nil⟩
def Memo.at (m:Memo):St:=match m.own with | none=>m.σ | some l=>ofOwn m.σ.next l
def Memo.fits (m:Memo) (σ:St):Bool:=match m.own with | none=>m.σ.next == σ.next && sameSt m.σ σ | some l=>ownIn l m.σ.next σ
def memoGet:List Memo -> FuncId -> List V -> St -> Option (V × St)
 | [],_,_,_=>none
 |m :: r,g,xs,σ=>if m.g == g && (sameL m.xs xs && m.fits σ) then some (m.v,m.σ') else memoGet r g xs σ
def defOnly (Γ:T AF) (call:CallT):CallT:=fun g xs σ=>match Γ.get g with
 |some (.code _)=>call g xs σ
 |some (.ext .unlock)=>call g xs σ
 |_=>none
def callF (Γ:T AF) (M:List Memo) (L:List LMemo):Nat -> CallT
 | 0,_,_,_=>none
 |f+1,g,xs,σ=>match memoGet M g xs σ with
  |some r=>some r
  |none=>match Γ.get g with
   |some (.ext e)=>extCall e xs σ
   |some (.code fn)=>match exec (callF Γ M L f) L f fn.body (enter xs) σ with
    |some (ex,fr,σ)=>if ex=.normal \/ ex=.ret then
      match runDefers (defOnly Γ (callF Γ M L f)) fr.defers σ with
      |some σ=>match readResults fr.tmps σ fn.results with | some vs=>some (retV vs,σ) | none=>none
      |none=>none
     else none
    |_=>none
   |none=>none
end
end AM
namespace AM
open Go
mutual
def toV:Value -> Option V
 | .bool b=>some (.bool b)
 | .int k n=>some (.int k n)
 | .string s=>some (.str (s.data.toList.map (·.toNat)))
 | .pointer none=>some (.ptr none)
 | .slice none l c=>if l=0 /\ c=0 then some (.slice none 0 0) else none
 | .map none=>some (.map none)
 | .nilFunc=>some .nilFunc
 | .nilIface=>some .nilIface
 | .agg ⟨cs⟩=>match toVs cs with | some l=>some (.agg l) | none=>none
 | .tuple ⟨cs⟩=>match toVs cs with | some l=>some (.tuple l) | none=>none
 |_=>none
def toVs:List Value -> Option (List V)
 | []=>some []
 |v :: r=>match toV v,toVs r with
  |some a,some b=>some (a :: b)
  |_,_=>none
end
section
variable (P:Program)
def szOf (t:TypeId):Option Nat:=(P.info? t).map (·.size)
def bytesOf (t:TypeId):Option Nat:=(P.info? t).map (·.bytes)
def zeroV (t:TypeId):Option V:=(P.info? t).bind fun i=>i.zero.bind toV
def zeroC (t:TypeId):Option (List V):=match zeroV P t,szOf P t with
 |some z,some n=>if z.cells.length=n then some z.cells else none
 |_,_=>none
def aggT (t:TypeId):Option Bool:=(P.underlying t).map fun d=>match d with | .struct _ | .array _ _=>true | _=>false
def opd:Operand -> Option Opd
 | .tmp t=>some (.tmp t)
 | .const v=>match toV v with | some x=>some (.const x) | none=>none
 | .global g=>if g<P.globals.size then some (.glob g) else none
 | .func f=>some (.const (.func f [] []))
def opds:List Operand -> Option (List Opd)
 | []=>some []
 |x :: r=>match opd P x,opds r with
  |some a,some b=>some (a :: b)
  |_,_=>none
def parts (place:Nat -> Option (Nat × Nat)):List (Nat × Operand) -> Option (List (Nat × Nat × Opd))
 | []=>some []
 |(i,x) :: r=>match place i,opd P x,parts place r with
  |some (o,s),some a,some b=>some ((o,s,a) :: b)
  |_,_,_=>none
def oopd:Option Operand -> Option (Option Opd)
 |none=>some none
 |some x=>match opd P x with | some a=>some (some a) | none=>none
def bn:BinOp -> Bn
 | .add=>.add | .sub=>.sub | .mul=>.mul | .quo=>.quo | .rem=>.rem | .and=>.and | .or=>.or | .xor=>.xor | .andNot=>.andNot
 | .shl=>.shl | .shr=>.shr | .eql=>.eql | .neq=>.neq | .lss=>.lss | .leq=>.leq | .gtr=>.gtr | .geq=>.geq
def scalarK (t:TypeId):Option Bool :=
 if szOf P t=some 1 then (match P.underlying t with
  |some .bool=>some false
  |some (.int _)=>some true
  |_=>none) else none
def fieldK (t:TypeId):Option (List Bool):=match P.underlying t with
 |some (.array n e)=>if szOf P t=some n then (match scalarK P e with | some k=>some (List.replicate n k) | none=>none) else none
 |_=>match scalarK P t with | some k=>some [k] | none=>none
def fieldsK:List Field -> Nat -> Option (List Bool)
 | [],_=>some []
 |f :: r, off => if f.offset = off /\ f.name ≠ "_" then (match fieldK P f.type with
  |some l=>match fieldsK r (off+l.length) with | some m=>some (l++m) | none=>none
  |none=>none) else none
def kindsOf (t:TypeId):Option (List Bool):=match P.underlying t with
 |some (.struct fs)=>if P.stoodInHeld t=false then fieldsK P fs.toList 0 else none
 |_=>none
def isC:Operand -> Bool
 | .const _=>true
 |_=>false
def ekOf (t:TypeId) (x y:Operand):Option Ek:=match P.underlying t with
 |some .bool=>some .bool
 |some (.pointer _)=>some .ptr
 |some (.slice _)=>some .slice
 |some (.map _ _)=>some .map
 |some (.func _ _ _)=>some .func
 |some (.interface _)=>if isC x || isC y then some .iface else none
 |_=>none
def okKey (t:TypeId):Option Kk:=match P.underlying t with
 |some (.int _)=>some .int
 |some .string=>some .str
 |some .bool=>some .bool
 |_=>none
def cLoad (t:TypeId) (a:Operand):Option AOp:=match aggT P t,szOf P t,opd P a with
 |some g,some n,some a=>some (.load g n a)
 |_,_,_=>none
def cBin (op:BinOp) (t:TypeId) (x y:Operand):Option AOp :=
 match opd P x,opd P y with
 |some a,some b=>match P.underlying t with
  |some (.int _)=>some (.bin (bn op) a b)
  |some (.struct _) | some (.array _ _) =>
   if (op=.eql \/ op=.neq) /\ P.eqGuardType P.depth t=false then (match kindsOf P t with | some ks=>some (.eqs (op == .neq) ks a b) | none=>none) else none
  |_=>if op=.eql \/ op=.neq then (match ekOf P t x y with | some k=>some (.eq1 (op == .neq) k a b) | none=>none) else none
 |_,_=>none
def cSlice (t:TypeId) (x:Operand) (lo hi mx:Option Operand):Option AOp :=
 if mx.isSome then none else
 match opd P x,oopd P lo,oopd P hi with
 |some x,some lo,some hi=>match P.underlying t with
  |some (.array n e)=>(match szOf P e with | some s=>some (.sliceArr n s x lo hi) | none=>none)
  |some (.slice e)=>(match szOf P e with | some s=>some (.sliceOf s x lo hi) | none=>none)
  |_=>none
 |_,_,_=>none
def cBuiltin (b:Builtin) (ts:Array TypeId) (args:List Operand):Option AOp :=
 match b,ts[0]?,args with
 | .len,some t,[x]=>match P.underlying t,opd P x with
  |some (.array n _),_=>some (.lenArr n)
  |some (.slice _),some a=>some (.lenS a)
  |some (.map _ _),some a=>some (.lenM a)
  |_,_=>none
 | .append,some t,[x,y]=>match P.underlying t with
  |some (.slice e)=>match szOf P e,bytesOf P e,zeroC P e,opd P x,opd P y with
   |some s,some bs,some z,some x,some y =>
    (match ts[1]? with
    |some u=>match P.underlying u with
     |some (.int _)=>some (.appendZ s bs z x y)
     |some (.slice _)=>some (.append s bs x y)
     |_=>none
    |none=>none)
   |_,_,_,_,_=>none
  |_=>none
 | .copy,some t,[x,y]=>match P.underlying t with
  |some (.slice e)=>match szOf P e,opd P x,opd P y with
   |some s,some x,some y=>some (.copy s x y)
   |_,_,_=>none
  |_=>none
 | .clear,some t,[x]=>match P.underlying t,opd P x with
  |some (.slice e),some a=>(match zeroC P e with | some z=>some (.clearS z a) | none=>none)
  |some (.map _ _),some a=>some (.clearM a)
  |_,_=>none
 | .max,_,xs=>match opds P xs with | some l=>some (.maxmin true l) | none=>none
 | .min,_,xs=>match opds P xs with | some l=>some (.maxmin false l) | none=>none
 | .delete,some t,[x,y]=>match P.underlying t,opd P x,opd P y with
  |some (.map k _),some a,some b=>(match okKey P k with | some kk=>some (.delete kk a b) | none=>none)
  |_,_,_=>none
 |_,_,_=>none
def compOp (o:Oper):Option AOp :=
 match o.op with
 | .move x | .assign x=>match opd P x with | some a=>some (.mv a) | none=>none
 | .pick c a b=>match opd P c,opd P a,opd P b with | some c,some a,some b=>some (.pick c a b) | _,_,_=>none
 | .alloc t=>match zeroC P t with | some z=>some (.alloc z) | none=>none
 | .box t x=>match szOf P t,opd P x with | some n,some a=>some (.box n a) | _,_=>none
 | .build t ps=>match zeroC P t,P.underlying t with
  |some z,some (.struct fs)=>(match parts P (fun i=>match fs[i]? with | some f=>(match szOf P f.type with | some s=>some (f.offset,s) | none=>none) | none=>none) ps.toList with
   |some l=>if fs.all fun f=>(szOf P f.type).isSome then some (.build z l) else none
   |none=>none)
  |some z,some (.array _ e)=>(match szOf P e with
   |some s=>match parts P (fun i=>some (i*s,s)) ps.toList with | some l=>some (.build z l) | none=>none
   |none=>none)
  |_,_=>none
 | .buildSlice t len ps=>match P.underlying t with
  |some (.slice e)=>match szOf P e,zeroC P e with
   |some s,some z=>if len*s <= 2^24 /\ 0<s then (match parts P (fun i=>some (i*s,s)) ps.toList with | some l=>some (.mkSlice len s z l) | none=>none) else none
   |_,_=>none
  |_=>none
 | .load t a=>cLoad P t a
 | .store t a x=>match szOf P t,opd P a,opd P x with | some n,some a,some x=>some (.store n a x) | _,_,_=>none
 | .nilCheck x=>match opd P x with | some a=>some (.nilCheck a) | none=>none
 | .binOp op t x y _=>cBin P op t x y
 | .unOp op _ x=>match op,opd P x with
  | .neg,some a=>some (.neg a)
  | .not,some a=>some (.not a)
  | .xor,some a=>some (.compl a)
  |_,_=>none
 | .convert s d x=>match P.underlying s,P.underlying d,opd P x with
  |some (.int _),some (.int k),some a=>some (.conv k a)
  |_,_,_=>none
 | .makeSlice t l c=>match P.underlying t with
  |some (.slice e)=>match szOf P e,bytesOf P e,zeroC P e,opd P l,opd P c with
   |some s,some b,some z,some l,some c=>if 0<s then some (.makeSlice s b z l c) else none
   |_,_,_,_,_=>none
  |_=>none
 | .slice t x lo hi mx=>cSlice P t x lo hi mx
 | .fieldAddr s x i=>match P.underlying s,opd P x with
  |some (.struct fs),some a=>match fs[i]? with
   |some f=>(match szOf P f.type with | some n=>if n=0 then none else some (.faddr f.offset a) | none=>none)
   |none=>none
  |_,_=>none
 | .field t x i=>match P.underlying t,opd P x with
  |some (.struct fs),some a=>match fs[i]? with
   |some f=>match aggT P f.type,szOf P f.type with | some g,some n=>some (.part g f.offset n a) | _,_=>none
   |none=>none
  |_,_=>none
 | .indexAddr t x i=>match P.underlying t,opd P x,opd P i with
  |some (.slice e),some a,some b=>(match szOf P e with | some s=>some (.iaddrS s a b) | none=>none)
  |some (.array n e),some a,some b=>(match szOf P e with | some s=>some (.iaddrA n s a b) | none=>none)
  |_,_,_=>none
 | .index t x i=>match P.underlying t,opd P x,opd P i with
  |some (.array n e),some a,some b=>(match szOf P e,aggT P e with | some s,some g=>some (.indexA n s g a b) | _,_=>none)
  |some .string,some a,some b=>some (.indexS a b)
  |_,_,_=>none
 | .lookup t m k ok=>match P.underlying t,opd P m,opd P k with
  |some (.map kt e),some m,some k=>(match zeroV P e with | some z=>(match okKey P kt with | some kk=>some (.lookup kk z ok m k) | none=>none) | none=>none)
  |_,_,_=>none
 | .mapUpdate t m k v=>match P.underlying t,opd P m,opd P k,opd P v with
  |some (.map kt _),some m,some k,some v=>(match okKey P kt with | some kk=>some (.mapUpdate kk m k v) | none=>none)
  |_,_,_,_=>none
 | .makeMap _ none=>some .makeMap
 | .extract x i=>match opd P x with | some a=>some (.extract a i) | none=>none
 | .makeFunc (.func f) a c=>match opds P a.toList,opds P c.toList with | some a,some c=>some (.makeFunc f a c) | _,_=>none
 | .call c=>match c.callee with
  | .value f=>match opds P c.args.toList with
   |some xs=>(match f with
    | .func g=>some (.call g xs)
    |f=>match opd P f with | some a=>some (.callv a xs) | none=>none)
   |none=>none
  | .builtin b=>cBuiltin P b c.argTypes c.args.toList
  |_=>none
 | .defer c=>match c.callee with
  | .value f=>match opds P c.args.toList with
   |some xs=>(match f with
    | .func g=>some (.defer g xs)
    |f=>match opd P f with | some a=>some (.deferv a xs) | none=>none)
   |none=>none
  |_=>none
 |_=>none
def dstOk (n:Nat):Option Nat -> Bool
 |some d=>decide (d<n)
 |none=>true
def compOper (n:Nat) (ops:Array Oper) (o:Oper):Option AOper :=
 if dstOk n o.dst=true then
  match compOp P o with
  |none=>none
  |some a=>match o.guard with
   |none=>some ⟨o.dst,a,none⟩
   |some (j,b)=>match (ops[j]?).bind (·.dst) with
    |some t=>some ⟨o.dst,a,some (t,b)⟩
    |none=>none
 else none
def compOpers (n:Nat) (ops:Array Oper):List Oper -> Option (List AOper)
 | []=>some []
 |o :: r=>match compOper P n ops o,compOpers n ops r with
  |some a,some b=>some (a :: b)
  |_,_=>none
def maskOf (acc:List Nat) (es:List Edge):Nat :=
 es.foldl (fun s e=>if Region.binds .any e then s ||| 2^e.on ||| acc.getD e.on 0 else s) 0
def befs (acc:List Nat):List Oper -> List Nat
 | []=>acc
 |o :: r=>befs (acc++[maskOf acc o.after.toList]) r
def Opd.tmps:Opd -> List Nat
 | .tmp t=>[t]
 |_=>[]
def oTmps:Option Opd -> List Nat
 |some x=>x.tmps
 |none=>[]
def pTmps (l:List (Nat × Nat × Opd)):List Nat:=l.flatMap fun p=>p.2.2.tmps
def lTmps (l:List Opd):List Nat:=l.flatMap (·.tmps)
def AOp.tmps:AOp -> List Nat
 | .mv x | .box _ x | .load _ _ x | .nilCheck x | .neg x | .not x | .compl x | .conv _ x | .part _ _ _ x | .faddr _ x | .extract x _ | .lenS x | .lenM x | .clearS _ x | .clearM x=>x.tmps
 | .pick c a b=>c.tmps++a.tmps++b.tmps
 | .alloc _ | .lenArr _ | .recover | .makeMap | .bad _=>[]
 | .build _ ps | .mkSlice _ _ _ ps=>pTmps ps
 | .store _ a x | .bin _ a x | .eq1 _ _ a x | .eqs _ _ a x | .makeSlice _ _ _ a x | .iaddrS _ a x | .iaddrA _ _ a x | .indexA _ _ _ a x | .indexS a x | .append _ _ a x | .appendZ _ _ _ a x | .copy _ a x
 | .lookup _ _ _ a x | .delete _ a x=>a.tmps++x.tmps
 | .sliceOf _ x lo hi | .sliceArr _ _ x lo hi=>x.tmps++oTmps lo++oTmps hi
 | .maxmin _ xs=>lTmps xs
 | .makeFunc _ a c=>lTmps a++lTmps c
 | .mapUpdate _ m k v=>m.tmps++k.tmps++v.tmps
 | .call _ xs | .defer _ xs=>lTmps xs
 | .callv f xs | .deferv f xs=>f.tmps++lTmps xs
def AOper.names (o:AOper):List Nat:=o.op.tmps++o.dst.toList++(match o.guard with | some (t,_)=>[t] | none=>[])
def notOp:AOp -> Bool
 | .recover | .bad _=>false
 |_=>true
def drawOk (B:List Nat) (l:List AOper):Bool :=
 l.zipIdx.all fun (o,j) =>
  notOp o.op && (!isAlloc o.op || o.guard.isNone) &&
  l.zipIdx.all fun (p,i) =>
   (!(isEff o.op && isEff p.op && i<j) || (B.getD j 0).testBit i) &&
   (i == j || (match p.dst with | some t=>!(o.names.contains t) || (B.getD (max i j) 0).testBit (min i j) | none=>true))
def cntP (p:Nat -> Bool):Nat -> Nat
 | 0=>0
 |k+1=>cntP p k+(if p k then 1 else 0)
def effAt (l:List AOper) (i:Nat):Bool:=match l[i]? with
 |some p=>isEff p.op
 |none=>false
def loOf (B:List Nat) (l:List AOper) (j:Nat):Nat:=cntP (fun i=>effAt l i && (B.getD j 0).testBit i) l.length
def hiOf (B:List Nat) (l:List AOper) (j:Nat):Nat:=cntP (fun i=>effAt l i && !(B.getD i 0).testBit j) l.length
def edgesOk:Nat -> List Oper -> Bool
 |_,[]=>true
 |j,o :: r=>(o.after.toList.all fun e=>!Region.binds .any e || decide (e.on<j)) && edgesOk (j+1) r
def compDraw (n:Nat) (ops:Array Oper):Option (List DOper) :=
 match compOpers P n ops ops.toList with
 |none=>none
 |some l =>
  if drawOk (befs [] ops.toList) l && edgesOk 0 ops.toList then
   some (l.zipIdx.map fun (o,j)=>⟨o,loOf (befs [] ops.toList) l j,hiOf (befs [] ops.toList) l j⟩)
  else none
def isRecover (o:Oper):Bool:=match o.op with
 | .call c=>(match c.callee with | .builtin .recover=>true | _=>false)
 |_=>false
def comp (n:Nat):Code -> AC
 | .skip=>.skip
 | .region _ ops d => if d then (match compDraw P n ops with | some l => .draw l | none => .bad "draw")
  else (match ops.toList with
   |o :: r => if isRecover o = true /\ o.guard.isNone = true /\ dstOk n o.dst = true then (match compOpers P n ops r with | some l => .regionR o.dst l | none => .bad "region")
    else (match compOpers P n ops (o :: r) with | some l => .region l | none => .bad "region")
   | []=>.region [])
 | .seq a b=>.seq (comp n a) (comp n b)
 | .cond c a b => match opd P c with | some c => .cond c (comp n a) (comp n b) | none => .bad "cond"
 | .block id b=>.block id (comp n b)
 | .loop b=>.loop (comp n b)
 | .rangeFunc .. => .bad "rangeFunc"
 | .exit id=>.exit id
 | .scope b=>.scope (comp n b)
 | .label l=>.label l
 | .goto l=>.goto l
 | .ret=>.ret
 | .refuse w=>.bad w
def compRes:List ResultVar -> Option (List Res)
 | []=>some []
 | .tmp t :: r=>match compRes r with | some l=>some (.tmp t :: l) | none=>none
 | .cell a t :: r=>match compRes r,aggT P t,szOf P t with | some l,some g,some n=>some (.cell a g n :: l) | _,_,_=>none
def compFn (fn:Func):Option AFunc :=
 if fn.name = "runtime.NumGoroutine" then none else
 match fn.body with
 |none=>none
 |some b=>match compRes P fn.results.toList with
  |some rs=>some ⟨rs,comp P fn.ntmps b⟩
  |none=>none
end
end AM
namespace AM
open Go Go.RowKit
abbrev Phi:=Nat -> Option (Nat × Nat)
def Phi.le (φ ψ:Phi):Prop:=∀ a x,φ a=some x -> ψ a=some x
theorem Phi.le.refl (φ:Phi):φ.le φ:=fun _ _ h=>h
theorem Phi.le.trans {φ ψ χ:Phi} (h:φ.le ψ) (k:ψ.le χ):φ.le χ:=fun a x hx=>k a x (h a x hx)
def Phi.upd (φ:Phi) (a:Nat) (x:Nat × Nat):Phi:=fun b=>if b=a then some x else φ b
theorem Phi.upd_same (φ:Phi) (a:Nat) (x:Nat × Nat):φ.upd a x a=some x:=by simp [Phi.upd]
theorem Phi.upd_ne (φ:Phi) {a b:Nat} (x:Nat × Nat) (h:b≠a):φ.upd a x b=φ b:=by simp [Phi.upd,h]
theorem Phi.le_upd (φ:Phi) {a:Nat} (x:Nat × Nat) (h:φ a=none):φ.le (φ.upd a x):=by
 intro b y hy
 by_cases e:b=a
 ·subst e;rw [h] at hy;cases hy
 ·rw [Phi.upd_ne φ x e];exact hy
mutual
def VR (φ:Phi):V -> Value -> Prop
 | .bool b,v=>v=.bool b
 | .int k n,v=>v=.int k n
 | .str s,v=>∃ bs:ByteArray,v=.string bs /\ bs.data.toList.map (·.toNat)=s
 | .ptr none,v=>v=.pointer none
 | .ptr (some (a,o)),v=>∃ b n,φ a=some (b,n) /\ v=.pointer (some ⟨b,o,none⟩)
 | .slice none l _,v=>l=0 /\ v=.slice none 0 0
 | .slice (some (a,o)) l e,v=>(∃ b n o' cap,φ a=some (b,n) /\ v=.slice (some ⟨b,o',none⟩) l cap /\ l <= cap /\ o'+cap*e <= n /\ (o'=o \/ (l=0 /\ cap=0))) \/ (l=0 /\ 0<o /\ ∃ ad,v=.slice (some ad) 0 0)
 | .map none,v=>v=.map none
 | .map (some a),v=>∃ b n,φ a=some (b,n) /\ v=.map (some b)
 | .func f x c,v=>∃ X C,v=.func (.func f) X C /\ LR φ x X.toList /\ LR φ c C.toList
 | .nilFunc,v=>v=.nilFunc
 | .iface t x,v=>∃ y,v=.iface t y /\ VR φ x y
 | .nilIface,v=>v=.nilIface
 | .agg cs,v=>∃ C,v=.agg C /\ LR φ cs C.toList
 | .tuple cs,v=>∃ C,v=.tuple C /\ LR φ cs C.toList
def LR (φ:Phi):List V -> List Value -> Prop
 | [],m=>m=[]
 |a :: r,m=>∃ b s,m=b :: s /\ VR φ a b /\ LR φ r s
end
theorem LR.nil {φ:Phi}:LR φ [] []:=rfl
theorem LR.cons {φ:Phi} {a:V} {b:Value} {r:List V} {s:List Value} (h:VR φ a b) (k:LR φ r s):LR φ (a :: r) (b :: s):=⟨b,s,rfl,h,k⟩
mutual
theorem VR.mono {φ ψ:Phi} (h:φ.le ψ):∀ (v:V) (x:Value),VR φ v x -> VR ψ v x
 | .bool b,v,hv=>hv
 | .int k n,v,hv=>hv
 | .str s,v,hv=>hv
 | .ptr none,v,hv=>hv
 | .ptr (some (a,o)),v,⟨b,n,ha,hv⟩=>⟨b,n,h _ _ ha,hv⟩
 | .slice none l e,v,hv=>hv
 | .slice (some (a,o)) l e,v,.inl ⟨b,n,o',cap,ha,hv⟩=>.inl ⟨b,n,o',cap,h _ _ ha,hv⟩
 | .slice (some (a,o)) l e,v,.inr hv=>.inr hv
 | .map none,v,hv=>hv
 | .map (some a),v,⟨b,n,ha,hv⟩=>⟨b,n,h _ _ ha,hv⟩
 | .func f x c,v,⟨X,C,hv,hx,hc⟩=>⟨X,C,hv,LR.mono h x _ hx,LR.mono h c _ hc⟩
 | .nilFunc,v,hv=>hv
 | .iface t x,v,⟨y,hv,hx⟩=>⟨y,hv,VR.mono h x y hx⟩
 | .nilIface,v,hv=>hv
 | .agg cs,v,⟨C,hv,hx⟩=>⟨C,hv,LR.mono h cs _ hx⟩
 | .tuple cs,v,⟨C,hv,hx⟩=>⟨C,hv,LR.mono h cs _ hx⟩
theorem LR.mono {φ ψ:Phi} (h:φ.le ψ):∀ (l:List V) (m:List Value),LR φ l m -> LR ψ l m
 | [],m,hm=>hm
 |a :: r,m,⟨b,s,hm,ha,hr⟩=>⟨b,s,hm,VR.mono h a b ha,LR.mono h r s hr⟩
end
theorem LR.length {φ:Phi}:∀ {l:List V} {m:List Value},LR φ l m -> m.length=l.length
 | [],m,h=>by cases h;rfl
 |a :: r,m,⟨b,s,hm,ha,hr⟩=>by subst hm;simp [LR.length hr]
theorem LR.get {φ:Phi}:∀ {l:List V} {m:List Value},LR φ l m -> ∀ (i:Nat) (v:V),l[i]?=some v -> ∃ x,m[i]?=some x /\ VR φ v x
 | [],m,h,i,v,hi=>by simp at hi
 |a :: r,m,⟨b,s,hm,ha,hr⟩,i,v,hi=>by
  subst hm
  cases i with
  |zero=>simp at hi;subst hi;exact ⟨b,rfl,ha⟩
  |succ i=>simpa using LR.get hr i v (by simpa using hi)
theorem LR.of_get {φ:Phi}:∀ {l:List V} {m:List Value},m.length=l.length -> (∀ (i:Nat) (v:V),l[i]?=some v -> ∃ x,m[i]?=some x /\ VR φ v x) -> LR φ l m
 | [],m,hl,h=>by cases m with | nil=>rfl | cons a b=>simp at hl
 |a :: r,m,hl,h=>by
  cases m with
  |nil=>simp at hl
  |cons b s =>
   obtain ⟨x,hx,hv⟩:=h 0 a rfl
   simp at hx;subst hx
   exact ⟨b,s,rfl,hv,LR.of_get (by simpa using hl) fun i v hi=>by simpa using h (i+1) v (by simpa using hi)⟩
theorem LR.append {φ:Phi}:∀ {l:List V} {m:List Value} {l':List V} {m':List Value},LR φ l m -> LR φ l' m' -> LR φ (l++l') (m++m')
 | [],m,l',m',h,h'=>by cases h;exact h'
 |a :: r,m,l',m',⟨b,s,hm,ha,hr⟩,h'=>by subst hm;exact ⟨b,_,rfl,ha,LR.append hr h'⟩
theorem LR.take {φ:Phi}:∀ {l:List V} {m:List Value} (n:Nat),LR φ l m -> LR φ (l.take n) (m.take n)
 |l,m,0,h=>by simp;exact LR.nil
 | [],m,n+1,h=>by cases h;exact LR.nil
 |a :: r,m,n+1,⟨b,s,hm,ha,hr⟩=>by subst hm;exact ⟨b,_,rfl,ha,LR.take n hr⟩
theorem LR.drop {φ:Phi}:∀ {l:List V} {m:List Value} (n:Nat),LR φ l m -> LR φ (l.drop n) (m.drop n)
 |l,m,0,h=>by simpa using h
 | [],m,n+1,h=>by cases h;exact LR.nil
 |a :: r,m,n+1,⟨b,s,hm,ha,hr⟩=>by subst hm;simpa using LR.drop n hr
theorem VR.agg {φ:Phi} {cs:List V} {C:Array Value} (h:LR φ cs C.toList):VR φ (.agg cs) (.agg C):=⟨C,rfl,h⟩
theorem VR.undef {φ:Phi}:VR φ .undef Go.undef:=⟨#[],rfl,rfl⟩
theorem VR.cells {φ:Phi} {v:V} {x:Value} (h:VR φ v x):LR φ v.cells x.cells.toList:=by
 cases v with
 |agg cs=>obtain ⟨C,rfl,hc⟩:=h;exact hc
 |tuple cs=>obtain ⟨C,rfl,hc⟩:=h;exact LR.cons ⟨C,rfl,hc⟩ LR.nil
 |bool b=>cases h;exact LR.cons rfl LR.nil
 |int k n=>cases h;exact LR.cons rfl LR.nil
 |str s=>obtain ⟨bs,rfl,hb⟩:=h;exact LR.cons ⟨bs,rfl,hb⟩ LR.nil
 |ptr a =>
  cases a with
  |none=>cases h;exact LR.cons rfl LR.nil
  |some a=>obtain ⟨b,n,ha,rfl⟩:=h;exact LR.cons ⟨b,n,ha,rfl⟩ LR.nil
 |slice a l e =>
  cases a with
  |none=>obtain ⟨hl,rfl⟩:=h;exact LR.cons ⟨hl,rfl⟩ LR.nil
  |some a =>
   rcases h with ⟨b,n,o',cap,ha,rfl,hr⟩ | ⟨h0,h1,ad,rfl⟩
   ·exact LR.cons (.inl ⟨b,n,o',cap,ha,rfl,hr⟩) LR.nil
   ·exact LR.cons (.inr ⟨h0,h1,ad,rfl⟩) LR.nil
 |map r =>
  cases r with
  |none=>cases h;exact LR.cons rfl LR.nil
  |some a=>obtain ⟨b,n,ha,rfl⟩:=h;exact LR.cons ⟨b,n,ha,rfl⟩ LR.nil
 |func f x c=>obtain ⟨X,C,rfl,hr⟩:=h;exact LR.cons ⟨X,C,rfl,hr⟩ LR.nil
 |nilFunc=>cases h;exact LR.cons rfl LR.nil
 |iface t y=>obtain ⟨z,rfl,hz⟩:=h;exact LR.cons ⟨z,rfl,hz⟩ LR.nil
 |nilIface=>cases h;exact LR.cons rfl LR.nil
theorem VR.oneCell {φ:Phi} {v:V} {x:Value} (h:VR φ v x) (hf:v.flat=true):x.oneCell'=true:=by
 cases v with
 |agg cs=>simp [V.flat] at hf
 |tuple cs=>simp [V.flat] at hf
 |bool b=>cases h;rfl
 |int k n=>cases h;rfl
 |str s=>obtain ⟨bs,rfl,hb⟩:=h;rfl
 |ptr a =>
  cases a with
  |none=>cases h;rfl
  |some a=>obtain ⟨b,n,ha,rfl⟩:=h;rfl
 |slice a l e =>
  cases a with
  |none=>obtain ⟨hl,rfl⟩:=h;rfl
  |some a=>rcases h with ⟨b,n,o',cap,ha,rfl,hr⟩ | ⟨h0,h1,ad,rfl⟩ <;> rfl
 |map r =>
  cases r with
  |none=>cases h;rfl
  |some a=>obtain ⟨b,n,ha,rfl⟩:=h;rfl
 |func f x c=>obtain ⟨X,C,rfl,hr⟩:=h;rfl
 |nilFunc=>cases h;rfl
 |iface t y=>obtain ⟨z,rfl,hz⟩:=h;rfl
 |nilIface=>cases h;rfl
mutual
theorem toV_rel (φ:Phi):∀ (x:Value) (v:V),toV x=some v -> VR φ v x
 | .bool b,v,h=>by simp [toV] at h;subst h;rfl
 | .int k n,v,h=>by simp [toV] at h;subst h;rfl
 | .string s,v,h=>by simp [toV] at h;subst h;exact ⟨s,rfl,rfl⟩
 | .pointer none,v,h=>by simp [toV] at h;subst h;rfl
 | .pointer (some a),v,h=>by simp [toV] at h
 | .slice none l c,v,h=>by simp [toV] at h;obtain ⟨⟨rfl,rfl⟩,rfl⟩:=h;exact ⟨rfl,rfl⟩
 | .slice (some a) l c,v,h=>by simp [toV] at h
 | .map none,v,h=>by simp [toV] at h;subst h;rfl
 | .map (some r),v,h=>by simp [toV] at h
 | .nilFunc,v,h=>by simp [toV] at h;subst h;rfl
 | .nilIface,v,h=>by simp [toV] at h;subst h;rfl
 | .agg ⟨cs⟩,v,h=>by
  simp only [toV] at h
  split at h
  ·rename_i l hl;simp at h;subst h;exact ⟨⟨cs⟩,rfl,toVs_rel φ cs l hl⟩
  ·cases h
 | .tuple ⟨cs⟩,v,h=>by
  simp only [toV] at h
  split at h
  ·rename_i l hl;simp at h;subst h;exact ⟨⟨cs⟩,rfl,toVs_rel φ cs l hl⟩
  ·cases h
 | .float _ _,v,h=>by simp [toV] at h
 | .complex _ _ _,v,h=>by simp [toV] at h
 | .chan _,v,h=>by simp [toV] at h
 | .func _ _ _,v,h=>by simp [toV] at h
 | .iface _ _,v,h=>by simp [toV] at h
theorem toVs_rel (φ:Phi):∀ (x:List Value) (v:List V),toVs x=some v -> LR φ v x
 | [],v,h=>by simp [toVs] at h;subst h;rfl
 |a :: r,v,h=>by
  simp only [toVs] at h
  split at h
  ·rename_i x y hx hy;simp at h;subst h;exact ⟨a,r,rfl,toV_rel φ a x hx,toVs_rel φ r y hy⟩
  ·cases h
end
def ER (φ:Phi) (l:List (V × V)) (m:List MapEntry):Prop :=
 m.length=l.length /\ ∀ (i:Nat) k v,l[i]?=some (k,v) -> ∃ e,m[i]?=some e /\ VR φ k e.key /\ VR φ v e.val
def Obj.live:Obj -> Bool
 | .dead=>false
 |_=>true
def Obj.mut:Obj -> Bool
 | .cells ro _ _ _ _=>!ro
 | .map _=>true
 | .dead=>false
def Obj.grp:Obj -> Nat
 | .cells _ g _ _ _=>g
 |_=>0
def ObjR (φ:Phi) (B b n:Nat) (w:World):Obj -> Prop
 | .cells ro _ k z t=>∃ C E fz,w.heap[b]?=some (.cells C E fz) /\ C.size=n /\ (ro=false -> fz=(0,0) /\ B <= b) /\ k <= n ∧
   ∀ i v,cellOf k z t i=some v -> ∃ x,C[i]?=some x /\ VR φ v x
 | .map es=>B <= b /\ ∃ m clock,w.heap[b]?=some (.map m clock) /\ ER φ es m.toList
 | .dead=>True
structure Base where
 w:World
 X:Nat -> Prop
structure Rel (G B:Nat) (w0:Base) (φ:Phi) (σ:St) (w:World):Prop where
 below:Below B w0.w w
 B_le:B <= w.heap.size
 dom:∀ a b n,φ a=some (b,n) -> a<σ.next /\ b<w.heap.size
 glob:∀ g,g<G -> g<σ.next /\ ∃ n,φ g=some (g,n)
 obj:∀ a o b n,σ.objs.get a=some o -> φ a=some (b,n) -> ObjR φ B b n w o
 fresh:∀ a,σ.next <= a -> σ.objs.get a=none
 sep:∀ a a' o o' b n n',a≠a' -> σ.objs.get a=some o -> σ.objs.get a'=some o' -> o.mut=true -> o'.live=true →
  φ a=some (b,n) -> φ a'=some (b,n') -> o.grp≠0 /\ o.grp=o'.grp
 grp:∀ a o,σ.objs.get a=some o -> o.grp≠0 -> o.grp<σ.next /\ a∈(σ.grps.get o.grp).getD []
 gfresh:∀ g,σ.next <= g -> σ.grps.get g=none
 pend:∀ a,w0.X a -> φ a=none /\ a<σ.next
variable {G B:Nat} {w0:Base} {φ:Phi} {σ:St} {w:World}
theorem ER.mono {φ ψ:Phi} (h:φ.le ψ) {l:List (V × V)} {m:List MapEntry} (k:ER φ l m):ER ψ l m :=
 ⟨k.1,fun i a v hi=>let ⟨e,he,ha,hv⟩:=k.2 i a v hi;⟨e,he,VR.mono h _ _ ha,VR.mono h _ _ hv⟩⟩
theorem ObjR.mono {φ ψ:Phi} (h:φ.le ψ) {B b n:Nat} {w:World} {o:Obj} (k:ObjR φ B b n w o):ObjR ψ B b n w o:=by
 cases o with
 |cells ro g k z t =>
  obtain ⟨C,E,fz,h1,h2,h3,h4,h5⟩:=k
  exact ⟨C,E,fz,h1,h2,h3,h4,fun i v hi=>let ⟨x,hx,hv⟩:=h5 i v hi;⟨x,hx,VR.mono h _ _ hv⟩⟩
 |map es=>obtain ⟨hB,m,clock,h1,h2⟩:=k;exact ⟨hB,m,clock,h1,h2.mono h⟩
 |dead=>trivial
theorem ObjR.of_block {φ:Phi} {B b n:Nat} {w w':World} {o:Obj} (k:ObjR φ B b n w o) (h:w'.heap[b]?=w.heap[b]?):ObjR φ B b n w' o:=by
 cases o with
 |cells ro g k z t=>obtain ⟨C,E,fz,h1,h2⟩:=k;exact ⟨C,E,fz,h.trans h1,h2⟩
 |map es=>obtain ⟨hB,m,clock,h1,h2⟩:=k;exact ⟨hB,m,clock,h.trans h1,h2⟩
 |dead=>trivial
theorem Rel.drew (h:Rel G B w0 φ σ w):Rel G B w0 φ σ w.drew :=
 ⟨h.below.drew,h.B_le,h.dom,h.glob,fun a o b n ho ha=>(h.obj a o b n ho ha).of_block rfl,h.fresh,h.sep,h.grp,h.gfresh,h.pend⟩
theorem Rel.lt (h:Rel G B w0 φ σ w) {a:Nat} {o:Obj} (ho:σ.objs.get a=some o):a<σ.next:=by
 rcases Nat.lt_or_ge a σ.next with k | k
 ·exact k
 ·rw [h.fresh a k] at ho;cases ho
theorem Rel.cell (h:Rel G B w0 φ σ w) {id off b n:Nat} {v:V} (hc:σ.cell id off=some v) (ha:φ id=some (b,n)) :
  ∃ x,w.cell? ⟨b,off,none⟩=some x /\ VR φ v x:=by
 unfold St.cell at hc
 split at hc
 ·rename_i ro g k z t ho
  obtain ⟨C,E,fz,h1,h2,h3,h4,h5⟩:=h.obj id _ b n ho ha
  obtain ⟨x,hx,hv⟩:=h5 off v hc
  exact ⟨x,by simp [World.cell?,h1,hx],hv⟩
 ·cases hc
theorem loadN_get {n:Nat} {z:List V} {t:T V}:∀ {k off:Nat} {l:List V},loadN n z t off k=some l -> l.length=k /\ ∀ i v,l[i]?=some v -> cellOf n z t (off+i)=some v
 | 0,off,l,h=>by simp [loadN] at h;subst h;simp
 |k+1,off,l,h=>by
  simp only [loadN] at h
  split at h
  ·rename_i v hv
   split at h
   ·rename_i r hr
    simp at h;subst h
    obtain ⟨hl,hg⟩:=loadN_get hr
    refine ⟨by simp [hl],fun i u hi=>?_⟩
    cases i with
    |zero=>simp at hi;subst hi;exact hv
    |succ i=>have:=hg i u (by simpa using hi);rwa [show off+(i+1)=off+1+i by omega]
   ·cases h
  ·cases h
theorem St.load_get {σ:St} {id off k:Nat} {l:List V} (h:σ.load id off k=some l):l.length=k /\ ∀ i v,l[i]?=some v -> σ.cell id (off+i)=some v:=by
 unfold St.load at h
 split at h
 ·rename_i ro g n z t ho
  obtain ⟨h1,h2⟩:=loadN_get h
  exact ⟨h1,fun i v hi=>by unfold St.cell;rw [ho];exact h2 i v hi⟩
 ·cases h
theorem add_none (b o j:Nat):(⟨b,o,none⟩:Addr).add j=⟨b,o+j,none⟩:=by
 unfold Addr.add;split <;> simp_all
theorem Rel.load (h:Rel G B w0 φ σ w) {id off k b n:Nat} {l:List V} (hl:σ.load id off k=some l) (ha:φ id=some (b,n)) :
  ∃ xs:List Value,LR φ l xs /\ xs.length=k /\ ∀ j v,xs[j]?=some v -> w.cell? ((⟨b,off,none⟩:Addr).add j)=some v:=by
 obtain ⟨hlen,hget⟩:=St.load_get hl
 have:∀ i,i<l.length -> ∃ x,w.cell? ⟨b,off+i,none⟩=some x /\ ∀ v,l[i]?=some v -> VR φ v x:=by
  intro i hi
  obtain ⟨x,hx,hv⟩:=h.cell (hget i l[i] (by simp [hi])) ha
  exact ⟨x,hx,fun v hv'=>by simp [hi] at hv';subst hv';exact hv⟩
 refine ⟨(List.range k).map fun i=>(w.cell? ⟨b,off+i,none⟩).getD Go.undef,?_,by simp,?_⟩
 ·refine LR.of_get (by simp [hlen]) fun i v hi=>?_
  have hil:i<l.length:=by
   rcases Nat.lt_or_ge i l.length with k | k
   ·exact k
   ·rw [List.getElem?_eq_none k] at hi;cases hi
  obtain ⟨x,hx,hv⟩:=this i hil
  refine ⟨x,?_,hv v hi⟩
  have:i<k:=by omega
  simp [this,hx]
 ·intro j v hj
  have hjk:j<k:=by
   rcases Nat.lt_or_ge j k with q | q
   ·exact q
   ·rw [List.getElem?_eq_none (by simpa using q)] at hj;cases hj
  obtain ⟨x,hx,_⟩:=this j (by omega)
  simp [hjk,hx] at hj
  subst hj
  rw [add_none];exact hx
theorem Rel.new (h:Rel G B w0 φ σ w) (o:Obj) (O:Go.Obj) (n:Nat) (hg:o.grp=0) (hB:o.mut=true \/ True)
  (ho:ObjR (φ.upd σ.next (w.heap.size,n)) B w.heap.size n (w.alloc O) o) :
  Rel G B w0 (φ.upd σ.next (w.heap.size,n)) (σ.new o) (w.alloc O) /\ φ.le (φ.upd σ.next (w.heap.size,n)):=by
 have hn:φ σ.next=none:=by
  cases hc:φ σ.next with
  |none=>rfl
  |some x=>obtain ⟨b,m⟩:=x;have:=(h.dom _ _ _ hc).1;omega
 have hle:=φ.le_upd (a:=σ.next) (w.heap.size,n) hn
 refine ⟨⟨h.below.alloc h.B_le O,by simp;have:=h.B_le;omega,?_,?_,?_,?_,?_,?_,?_,?_⟩,hle⟩
 ·intro a b m ha
  by_cases e:a=σ.next
  ·subst e;rw [Phi.upd_same] at ha;simp at ha;obtain ⟨rfl,rfl⟩:=ha;simp [St.new]
  ·rw [Phi.upd_ne φ _ e] at ha;obtain ⟨h1,h2⟩:=h.dom a b m ha;simp [St.new];omega
 ·intro g hg'
  obtain ⟨h1,m,hm⟩:=h.glob g hg'
  exact ⟨by simp [St.new];omega,m,hle _ _ hm⟩
 ·intro a o' b m ho' ha
  simp only [St.new,T.get_set] at ho'
  by_cases e:a=σ.next
  ·subst e
   rw [if_pos rfl] at ho';simp at ho';subst ho'
   rw [Phi.upd_same] at ha;simp at ha;obtain ⟨rfl,rfl⟩:=ha
   exact ho
  ·rw [if_neg e] at ho'
   rw [Phi.upd_ne φ _ e] at ha
   refine ((h.obj a o' b m ho' ha).mono hle).of_block ?_
   exact Below.heap_alloc w O b (h.dom a b m ha).2
 ·intro a ha
  simp only [St.new,T.get_set] at ha ⊢
  rw [if_neg (by omega)];exact h.fresh a (by omega)
 ·intro a a' o1 o2 b m m' hne h1 h2 hm hl ha ha'
  simp only [St.new,T.get_set] at h1 h2
  by_cases e:a=σ.next
  ·subst e
   rw [Phi.upd_same] at ha;simp at ha;obtain ⟨rfl,rfl⟩:=ha
   rw [Phi.upd_ne φ _ (Ne.symm hne)] at ha'
   have:=(h.dom _ _ _ ha').2;omega
  ·by_cases e':a'=σ.next
   ·subst e'
    rw [Phi.upd_same] at ha';simp at ha';obtain ⟨rfl,rfl⟩:=ha'
    rw [Phi.upd_ne φ _ e] at ha
    have:=(h.dom _ _ _ ha).2;omega
   ·rw [if_neg e] at h1;rw [if_neg e'] at h2
    rw [Phi.upd_ne φ _ e] at ha;rw [Phi.upd_ne φ _ e'] at ha'
    exact h.sep a a' o1 o2 b m m' hne h1 h2 hm hl ha ha'
 ·intro a o1 h1 hg1
  simp only [St.new,T.get_set] at h1 ⊢
  by_cases e:a=σ.next
  ·rw [if_pos e] at h1;simp at h1;subst h1;exact (hg1 hg).elim
  ·rw [if_neg e] at h1
   obtain ⟨k1,k2⟩:=h.grp a o1 h1 hg1
   exact ⟨by omega,k2⟩
 ·intro g hg';simp only [St.new] at hg' ⊢;exact h.gfresh g (by omega)
 ·intro a hX
  obtain ⟨p1,p2⟩:=h.pend a hX
  exact ⟨by rw [Phi.upd_ne φ _ (by omega)];exact p1,by simp [St.new];omega⟩
end AM
namespace AM
open Go Go.RowKit
variable {G B:Nat} {w0:Base} {φ:Phi} {σ:St} {w:World} {P:Program}
theorem putN_get (vs:List V):∀ (t:T V) (off i:Nat),(putN t off vs).get i=if off <= i /\ i<off+vs.length then vs[i-off]? else t.get i:=by
 induction vs with
 |nil=>intro t off i;simp [putN];omega
 |cons v r ih =>
  intro t off i
  simp only [putN,ih,T.get_set,List.length_cons]
  by_cases h:i=off
  ·subst h;rw [if_neg (by omega),if_pos rfl,if_pos (by omega)];simp
  ·by_cases h1:off+1 <= i /\ i<off+1+r.length
   ·rw [if_pos h1,if_pos (by omega)]
    obtain ⟨j,rfl⟩:∃ j,i=off+1+j:=⟨i-off-1,by omega⟩
    rw [show off+1+j-(off+1)=j by omega,show off+1+j-off=j+1 by omega];simp
   ·rw [if_neg h1,if_neg h,if_neg (by omega)]
theorem ofList_get (vs:List V) (i:Nat):(ofList vs).get i=vs[i]?:=by
 unfold ofList
 rw [putN_get]
 by_cases h:i<vs.length
 ·rw [if_pos (by omega)];simp
 ·rw [if_neg (by omega),List.getElem?_eq_none (by omega)];rfl
theorem cellOf_ofList (vs:List V) (i:Nat):cellOf vs.length [] (ofList vs) i=vs[i]?:=by
 unfold cellOf
 rw [ofList_get]
 by_cases h:i<vs.length
 ·rw [if_pos h];simp [h]
 ·rw [if_neg h,List.getElem?_eq_none (by omega)]
theorem Rel.newCells (h:Rel G B w0 φ σ w) (vs:List V) (xs rest:List Value) (E:TypeId) (hr:LR φ vs xs) :
  Rel G B w0 (φ.upd σ.next (w.heap.size,(xs++rest).length)) (σ.newCells vs) (w.alloc (.cells (xs++rest).toArray E)) ∧
   φ.le (φ.upd σ.next (w.heap.size,(xs++rest).length)):=by
 refine h.new (.cells false 0 vs.length [] (ofList vs)) (.cells (xs++rest).toArray E) _ rfl (.inr trivial) ?_
 have hn:φ σ.next=none:=by
  cases hc:φ σ.next with
  |none=>rfl
  |some x=>obtain ⟨b,m⟩:=x;have:=(h.dom _ _ _ hc).1;omega
 refine ⟨(xs++rest).toArray,E,(0,0),heap_alloc_new w _,by simp,fun _=>⟨rfl,h.B_le⟩,by have:=hr.length;simp;omega,?_⟩
 intro i v hi
 rw [cellOf_ofList] at hi
 obtain ⟨x,hx,hv⟩:=hr.get i v hi
 have hlt:i<xs.length:=by
  rcases Nat.lt_or_ge i xs.length with k | k
  ·exact k
  ·rw [List.getElem?_eq_none k] at hx;cases hx
 refine ⟨x,?_,VR.mono (φ.le_upd _ hn) _ _ hv⟩
 simp only [List.getElem?_toArray]
 rw [List.getElem?_append_left hlt];exact hx
theorem Rel.newZero (h:Rel G B w0 φ σ w) (n:Nat) (z:List V) (zs:List Value) (C:Array Value) (E:TypeId) (hz:LR φ z zs) (hC:C.size=n)
  (hc:∀ i,i<n -> C[i]?=zs[i%zs.length]?) :
  Rel G B w0 (φ.upd σ.next (w.heap.size,n)) (σ.new (.cells false 0 n z .nil)) (w.alloc (.cells C E)) /\ φ.le (φ.upd σ.next (w.heap.size,n)):=by
 refine h.new (.cells false 0 n z .nil) (.cells C E) n rfl (.inr trivial) ?_
 have hn:φ σ.next=none:=by
  cases hc:φ σ.next with
  |none=>rfl
  |some x=>obtain ⟨b,m⟩:=x;have:=(h.dom _ _ _ hc).1;omega
 refine ⟨C,E,(0,0),heap_alloc_new w _,hC,fun _=>⟨rfl,h.B_le⟩,Nat.le_refl _,?_⟩
 intro i v hi
 unfold cellOf at hi
 split at hi
 ·rename_i hlt
  simp only [T.get_nil] at hi
  obtain ⟨x,hx,hv⟩:=hz.get _ v hi
  exact ⟨x,by rw [hc i hlt,hz.length];exact hx,VR.mono (φ.le_upd _ hn) _ _ hv⟩
 ·cases hi
def Less (o o':Obj):Prop :=
 o=o' \/ o=.dead \/ ∃ ro g n z t n',o'=.cells ro g n z t /\ o=.cells ro g n' z t /\ n' <= n
theorem Less.refl (o:Obj):Less o o:=.inl rfl
theorem Less.trans {a b c:Obj} (h:Less a b) (k:Less b c):Less a c:=by
 rcases h with rfl | rfl | ⟨ro,g,n,z,t,n',rfl,rfl,hn⟩
 ·exact k
 ·exact .inr (.inl rfl)
 ·rcases k with rfl | k | ⟨ro',g',m,z',t',m',rfl,k,hm⟩
  ·exact .inr (.inr ⟨_,_,_,_,_,_,rfl,rfl,hn⟩)
  ·cases k
  ·cases k;exact .inr (.inr ⟨_,_,_,_,_,_,rfl,rfl,by omega⟩)
theorem Less.live {o o':Obj} (h:Less o o') (hl:o.live=true):o'.live=true /\ o.mut=o'.mut /\ o.grp=o'.grp:=by
 rcases h with rfl | rfl | ⟨ro,g,n,z,t,n',rfl,rfl,hn⟩
 ·exact ⟨hl,rfl,rfl⟩
 ·simp [Obj.live] at hl
 ·exact ⟨rfl,rfl,rfl⟩
theorem Obj.mut_live {o:Obj} (h:o.mut=true):o.live=true:=by cases o <;> simp_all [Obj.mut,Obj.live]
theorem cellOf_mono {n n':Nat} {z:List V} {t:T V} {i:Nat} {v:V} (hn:n' <= n) (h:cellOf n' z t i=some v):cellOf n z t i=some v:=by
 unfold cellOf at h ⊢
 split at h
 ·rw [if_pos (by omega)];exact h
 ·cases h
theorem Less.objR {o o':Obj} (h:Less o o') {b n:Nat} (k:ObjR φ B b n w o'):ObjR φ B b n w o:=by
 rcases h with rfl | rfl | ⟨ro,g,n,z,t,n',rfl,rfl,hn⟩
 ·exact k
 ·trivial
 ·obtain ⟨C,E,fz,h1,h2,h3,h4,h5⟩:=k
  exact ⟨C,E,fz,h1,h2,h3,by omega,fun i v hi=>h5 i v (cellOf_mono hn hi)⟩
theorem cutOthers_get (x i:Nat) (l:List Nat):∀ (o:T Obj) (a:Nat),
  ((cutOthers x i l o).get a=o.get a \/ ∃ p q,(cutOthers x i l o).get a=some p /\ o.get a=some q /\ Less p q) ∧
  (a=x -> (cutOthers x i l o).get a=o.get a) ∧
  (a∈l -> a≠x -> ∀ ro g n z t,(cutOthers x i l o).get a=some (.cells ro g n z t) -> n <= i):=by
 induction l with
 |nil=>intro o a;exact ⟨.inl rfl,fun _=>rfl,fun h=>by cases h⟩
 |cons m r ih =>
  intro o a
  simp only [cutOthers]
  by_cases hm:m=x
  ·rw [if_pos hm]
   obtain ⟨h1,h2,h3⟩:=ih o a
   exact ⟨h1,h2,fun ha hne=>h3 (by rcases List.mem_cons.1 ha with e | e;exact (hne (e.trans hm)).elim;exact e) hne⟩
  ·rw [if_neg hm]
   split
   ·rename_i ro g n z t hmo
    obtain ⟨h1,h2,h3⟩:=ih (o.set m (.cells ro g (min n i) z t)) a
    refine ⟨?_,?_,?_⟩
    ·by_cases ham:a=m
     ·subst ham
      rw [T.get_set,if_pos rfl] at h1
      right
      rcases h1 with h1 | ⟨p,q,hp,hq,hpq⟩
      ·exact ⟨_,_,h1,hmo,.inr (.inr ⟨_,_,_,_,_,_,rfl,rfl,Nat.min_le_left _ _⟩)⟩
      ·simp at hq;subst hq
       exact ⟨p,_,hp,hmo,hpq.trans (.inr (.inr ⟨_,_,_,_,_,_,rfl,rfl,Nat.min_le_left _ _⟩))⟩
     ·rw [T.get_set,if_neg ham] at h1;exact h1
    ·intro e;rw [h2 e,T.get_set,if_neg (fun k=>hm (k.symm.trans e))]
    ·intro ha hne ro' g' n' z' t' hres
     by_cases ham:a=m
     ·subst ham
      rw [T.get_set,if_pos rfl] at h1
      rcases h1 with h1 | ⟨p,q,hp,hq,hpq⟩
      ·rw [h1] at hres;cases hres;exact Nat.min_le_right _ _
      ·simp at hq;subst hq
       rw [hp] at hres;cases hres
       rcases hpq with hpq | hpq | ⟨_,_,_,_,_,_,hq,hp',hle⟩
       ·cases hpq;exact Nat.min_le_right _ _
       ·cases hpq
       ·cases hq;cases hp';exact Nat.le_trans hle (Nat.min_le_right _ _)
     ·exact h3 (by rcases List.mem_cons.1 ha with e | e;exact (ham e).elim;exact e) hne ro' g' n' z' t' hres
   ·obtain ⟨h1,h2,h3⟩:=ih o a
    refine ⟨h1,h2,fun ha hne ro' g' n' z' t' hres=>?_⟩
    by_cases har:a∈r
    ·exact h3 har hne ro' g' n' z' t' hres
    ·have ham:a=m:=by rcases List.mem_cons.1 ha with e | e;exact e;exact (har e).elim
     subst ham
     rename_i hno
     rcases h1 with h1 | ⟨p,q,hp,hq,hpq⟩
     ·rw [hres] at h1;exact (hno _ _ _ _ _ h1.symm).elim
     ·rw [hp] at hres;cases hres
      rcases hpq with hpq | hpq | ⟨_,_,_,_,_,_,hq',hp',hle⟩
      ·rw [hq, <- hpq] at hno;exact (hno _ _ _ _ _ rfl).elim
      ·cases hpq
      ·rw [hq,hq'] at hno;exact (hno _ _ _ _ _ rfl).elim
theorem below_setRow {a w:World} (h:Below B a w) {g:Nat} (hg:B <= g) (C:Array Value):Below B a (w.setRow g C) :=
 h.trans ⟨rfl,rfl,rfl,by simp,fun k hk=>setRow_other w g k C (by omega)⟩
theorem Rel.store (h:Rel G B w0 φ σ w) {id off b n:Nat} {vs:List V} {xs:List Value} {σ':St} (hs:σ.store id off vs=some σ') (ha:φ id=some (b,n)) (hr:LR φ vs xs) :
  ∃ w',(storeCells ⟨b,off,none⟩ xs).run P w=.ok () w' /\ Rel G B w0 φ σ' w':=by
 unfold St.store at hs
 split at hs
 ·rename_i g k z t ho
  split at hs
  ·rename_i hcond
   obtain ⟨hle,hflat⟩:=hcond
   simp only [Option.some.injEq] at hs
   obtain ⟨C,E,fz,h1,h2,h3,h4,h5⟩:=h.obj id _ b n ho ha
   obtain ⟨rfl,hBb⟩:=h3 rfl
   have hlen:=hr.length
   have hone:∀ x∈xs,x.oneCell'=true:=by
    intro x hx
    obtain ⟨i,hi,rfl⟩:=List.getElem_of_mem hx
    have hil:i<vs.length:=by omega
    obtain ⟨y,hy,hv⟩:=hr.get i vs[i] (by simp [hil])
    simp [hi] at hy;subst hy
    exact hv.oneCell (by simpa using List.all_eq_true.1 hflat vs[i] (by simp))
   have hrun:=run_storeCells_at P b off E xs 0 C w h1 (by omega) hone
   simp only [Nat.add_zero] at hrun
   refine ⟨_,hrun,?_⟩
   generalize hC':(C.toList.take off++xs++C.toList.drop (off+xs.length)).toArray=C'
   have hCsz:C'.size=C.size:=by rw [<- hC'];simp;omega
   have hget:∀ i,C'[i]?=if off <= i /\ i<off+xs.length then xs[i-off]? else C[i]?:=by
    intro i
    rw [<- hC']
    simp only [List.getElem?_toArray]
    by_cases c1:i<off
    ·rw [if_neg (by omega),List.append_assoc,List.getElem?_append_left (by simp;omega),List.getElem?_take];simp [c1]
    ·by_cases c2:i<off+xs.length
     ·rw [if_pos (by omega),List.append_assoc,List.getElem?_append_right (by simp;omega),List.getElem?_append_left (by simp;omega)]
      simp only [List.length_take,Array.length_toList]
      rw [show min off C.size=off by omega]
     ·rw [if_neg (by omega),List.getElem?_append_right (by simp;omega)]
      simp only [List.length_append,List.length_take,Array.length_toList,List.getElem?_drop,Array.getElem?_toList]
      congr 1;omega
   have hblk:(w.setRow b C').heap[b]?=some (.cells C' E (0,0)):=setRow_heap w b C C' E _ h1
   have key:∀ a o',σ'.objs.get a=some o' →
     (a=id /\ o'=.cells false g k z (putN t off vs)) ∨
     (a≠id /\ ∃ q,σ.objs.get a=some q /\ Less o' q /\ (q.grp=g -> g≠0 -> ∀ ro g' n' z' t',o'=.cells ro g' n' z' t' -> n' <= off)):=by
    intro a o' ho'
    rw [<- hs] at ho'
    simp only at ho'
    by_cases hg0:g=0
    ·rw [if_pos hg0,T.get_set] at ho'
     by_cases e:a=id
     ·rw [if_pos e] at ho';simp at ho';exact .inl ⟨e,ho'.symm⟩
     ·rw [if_neg e] at ho';exact .inr ⟨e,o',ho',Less.refl _,fun _ hg=>(hg hg0).elim⟩
    ·rw [if_neg hg0] at ho'
     obtain ⟨k1,k2,k3⟩:=cutOthers_get id off ((σ.grps.get g).getD []) (σ.objs.set id (.cells false g k z (putN t off vs))) a
     by_cases e:a=id
     ·rw [k2 e,T.get_set,if_pos e] at ho';simp at ho';exact .inl ⟨e,ho'.symm⟩
     ·rw [T.get_set,if_neg e] at k1
      right
      refine ⟨e,?_⟩
      rcases k1 with k1 | ⟨p,q,hp,hq,hpq⟩
      ·rw [k1] at ho'
       refine ⟨o',ho',Less.refl _,fun hgq hg ro g' n' z' t' he=>?_⟩
       subst he
       have hmem:=(h.grp a _ ho' (by rw [hgq];exact hg)).2
       rw [hgq] at hmem
       exact k3 hmem e ro g' n' z' t' (by rw [k1];exact ho')
      ·rw [hp] at ho';cases ho'
       refine ⟨q,hq,hpq,fun hgq hg ro g' n' z' t' he=>?_⟩
       subst he
       have hmem:=(h.grp a _ hq (by rw [hgq];exact hg)).2
       rw [hgq] at hmem
       exact k3 hmem e ro g' n' z' t' hp
   have hnext:σ'.next=σ.next /\ σ'.grps=σ.grps:=by rw [<- hs];exact ⟨rfl,rfl⟩
   refine ⟨below_setRow h.below hBb C',by simp;exact h.B_le,?_,?_,?_,?_,?_,?_,?_,by intro a hX;rw [hnext.1];exact h.pend a hX⟩
   ·intro a b m hab;rw [hnext.1];simpa using h.dom a b m hab
   ·intro g hg;rw [hnext.1];exact h.glob g hg
   ·intro a o' b' m ho' ha'
    rcases key a o' ho' with ⟨rfl,rfl⟩ | ⟨hne,q,hq,hless,hcut⟩
    ·rw [ha] at ha';simp at ha';obtain ⟨rfl,rfl⟩:=ha'
     refine ⟨C',E,(0,0),hblk,by omega,fun _=>⟨rfl,hBb⟩,h4,?_⟩
     intro i v hi
     unfold cellOf at hi
     split at hi
     ·rename_i hik
      rw [putN_get] at hi
      rw [hget]
      by_cases c:off <= i /\ i<off+vs.length
      ·rw [if_pos c] at hi
       rw [if_pos (by omega)]
       have:vs[i-off]?=some v:=by
        cases hvi:vs[i-off]? with
        |none=>rw [List.getElem?_eq_none_iff] at hvi;omega
        |some u=>rw [hvi] at hi;simp at hi;rw [hi]
       exact hr.get _ v this
      ·rw [if_neg c] at hi
       rw [if_neg (by omega)]
       exact h5 i v (by unfold cellOf;rw [if_pos hik];exact hi)
     ·cases hi
    ·by_cases hb:b'=b
     ·subst hb
      cases hqm:o'.live with
      |false=>cases o' <;> simp_all [Obj.live,ObjR]
      |true =>
       obtain ⟨hql,_,hgq⟩:=hless.live hqm
       obtain ⟨hg0,hgg⟩:=h.sep id a _ q b' n m (Ne.symm hne) ho hq rfl hql ha ha'
       simp only [Obj.grp] at hg0 hgg
       have hk:=hless.objR (h.obj a q b' m hq ha')
       cases o' with
       |dead=>trivial
       |map es=>simp [Obj.grp] at hgq;omega
       |cells ro g' n' z' t' =>
        have hn':=hcut hgg.symm hg0 ro g' n' z' t' rfl
        obtain ⟨C2,E2,fz2,e1,e2,e3,e4,e5⟩:=hk
        rw [h1] at e1;simp at e1;obtain ⟨rfl,rfl,rfl⟩:=e1
        refine ⟨C',E,(0,0),hblk,by omega,e3,e4,?_⟩
        intro i v hi
        have hi':i<n':=by unfold cellOf at hi;split at hi;assumption;cases hi
        rw [hget,if_neg (by omega)]
        exact e5 i v hi
     ·refine (hless.objR (h.obj a q b' m hq ha')).of_block ?_
      exact setRow_other w b b' C' hb
   ·intro a hna
    rw [hnext.1] at hna
    cases hc:σ'.objs.get a with
    |none=>rfl
    |some o' =>
     rcases key a o' hc with ⟨rfl,_⟩ | ⟨_,q,hq,_⟩
     ·have:=h.lt ho;omega
     ·have:=h.lt hq;omega
   ·intro a a' o1 o2 b1 m m' hne k1 k2 hm hl ha1 ha2
    have f1:∃ q,σ.objs.get a=some q /\ q.mut=o1.mut /\ q.grp=o1.grp:=by
     rcases key a o1 k1 with ⟨rfl,rfl⟩ | ⟨_,q,hq,hless,_⟩
     ·exact ⟨_,ho,rfl,rfl⟩
     ·obtain ⟨e1,e2,e3⟩:=hless.live (Obj.mut_live hm);exact ⟨q,hq,e2.symm,e3.symm⟩
    have f2:∃ q,σ.objs.get a'=some q /\ q.live=true /\ q.grp=o2.grp:=by
     rcases key a' o2 k2 with ⟨rfl,rfl⟩ | ⟨_,q,hq,hless,_⟩
     ·exact ⟨_,ho,rfl,rfl⟩
     ·obtain ⟨e1,e2,e3⟩:=hless.live hl;exact ⟨q,hq,e1,e3.symm⟩
    obtain ⟨q1,hq1,hm1,hg1⟩:=f1
    obtain ⟨q2,hq2,hl2,hg2⟩:=f2
    obtain ⟨r1,r2⟩:=h.sep a a' q1 q2 b1 m m' hne hq1 hq2 (hm1.trans hm) hl2 ha1 ha2
    exact ⟨hg1▸r1,by rw [<- hg1, <- hg2];exact r2⟩
   ·intro a o1 k1 hg1
    rw [hnext.1,hnext.2]
    rcases key a o1 k1 with ⟨rfl,rfl⟩ | ⟨_,q,hq,hless,_⟩
    ·exact h.grp a (.cells false g k z t) ho hg1
    ·have hlive:o1.live=true:=by cases o1 <;> simp_all [Obj.grp,Obj.live]
     obtain ⟨e1,e2,e3⟩:=hless.live hlive
     rw [e3] at hg1 ⊢
     exact h.grp a q hq hg1
   ·intro g' hg';rw [hnext.1] at hg';rw [hnext.2];exact h.gfresh g' hg'
  ·cases hs
 ·cases hs
end AM
namespace AM
open Go Go.RowKit
variable {G B:Nat} {w0:Base} {φ:Phi} {σ:St} {w:World} {P:Program}
theorem grp_cells (ro:Bool) (g n:Nat) (z:List V) (t:T V):(Obj.cells ro g n z t).grp=g:=rfl
theorem killAll_get:∀ (l:List Nat) (o:T Obj) (a:Nat),
  ((killAll l o).get a=o.get a \/ ((killAll l o).get a=some .dead /\ (o.get a).isSome)) ∧
  (a∈l -> (killAll l o).get a=none \/ (killAll l o).get a=some .dead):=by
 intro l
 induction l with
 |nil=>intro o a;exact ⟨.inl rfl,fun h=>by cases h⟩
 |cons m r ih =>
  intro o a
  simp only [killAll]
  split
  ·rename_i q hq
   obtain ⟨h1,h2⟩:=ih (o.set m .dead) a
   by_cases e:a=m
   ·subst e
    rw [T.get_set,if_pos rfl] at h1
    have:(killAll r (o.set a Obj.dead)).get a=some .dead:=by rcases h1 with h1 | h1;exact h1;exact h1.1
    exact ⟨.inr ⟨this,by rw [hq];rfl⟩,fun _=>.inr this⟩
   ·rw [T.get_set,if_neg e] at h1
    exact ⟨h1,fun ha=>h2 (by rcases List.mem_cons.1 ha with k | k;exact (e k).elim;exact k)⟩
  ·rename_i hq
   obtain ⟨h1,h2⟩:=ih o a
   refine ⟨h1,fun ha=>?_⟩
   rcases List.mem_cons.1 ha with rfl | k
   ·rcases h1 with h1 | h1
    ·exact .inl (h1.trans hq)
    ·rw [hq] at h1;simp at h1
   ·exact h2 k
theorem Rel.appended (h : Rel G B w0 φ σ w) {id b n g nn e b' n' : Nat} {z : List V} {t : T V} {w' : World} {C C' : Array Value} {E E' : TypeId} {all : List V} {g' : Nat}
    (ho : σ.objs.get id = some (.cells false g nn z t)) (ha : φ id = some (b, n)) (hC : w.heap[b]? = some (.cells C E (0, 0)))
    (hg' : g' = if g = 0 then σ.next else g)
    (hbel : Below B w0.w w') (hsz : w.heap.size <= w'.heap.size) (hb' : (b' = b /\ n' = n) \/ (b' = w.heap.size /\ b' < w'.heap.size))
    (hblk : w'.heap[b']? = some (.cells C' E' (0, 0))) (hCn : C'.size = n') (hBb : B <= b') (hoth : ∀ k, k < w.heap.size -> k ≠ b' -> w'.heap[k]? = w.heap[k]?)
    (hpre : b' = b -> ∀ i : Nat, i < e -> C'[i]? = C[i]?) (hnew : ∀ (i : Nat) (v : V), all[i]? = some v -> ∃ x, C'[i]? = some x /\ VR φ v x) (hall : all.length <= n') :
    Rel G B w0 (φ.upd σ.next (b', n'))
      { next := σ.next + 1
        objs := T.set (killAll (if g = 0 then [] else ((σ.grps.get g).getD []).drop 8)
          (cutOthers id e (if g = 0 then [] else (σ.grps.get g).getD []) (σ.objs.set id (.cells false g' (min nn e) z t)))) σ.next (.cells false g' all.length [] (ofList all))
        grps := σ.grps.set g' (σ.next :: (if g = 0 then [id] else ((σ.grps.get g).getD []).take 8)) } w' /\ φ.le (φ.upd σ.next (b', n')) := by
  have hn : φ σ.next = none := by
    cases hc : φ σ.next with
    | none => rfl
    | some x => obtain ⟨b, m⟩ := x; have := (h.dom _ _ _ hc).1; omega
  have hle := φ.le_upd (a := σ.next) (b', n') hn
  have hid := h.lt ho
  have hidb := h.dom id b n ha
  have hg0 : g' ≠ 0 := by rw [hg']; split <;> omega
  have hggrp := h.grp id _ ho
  simp only [grp_cells] at hggrp
  generalize hmem : (if g = 0 then [] else (σ.grps.get g).getD []) = mem
  have hdrop : (if g = 0 then [] else ((σ.grps.get g).getD []).drop 8) = mem.drop 8 := by rw [<- hmem]; split <;> simp
  rw [hdrop]
  generalize hO : killAll (mem.drop 8) (cutOthers id e mem (σ.objs.set id (.cells false g' (min nn e) z t))) = O
  have key : ∀ a o', O.get a = some o' →
      (a = id /\ (o' = .dead \/ (o' = .cells false g' (min nn e) z t /\ a ∉ mem.drop 8))) ∨
      (a ≠ id /\ ∃ q, σ.objs.get a = some q /\ Less o' q /\ (o'.live = true -> a ∉ mem.drop 8) /\ (q.grp = g -> g ≠ 0 -> ∀ ro g1 n1 z1 t1, o' = .cells ro g1 n1 z1 t1 -> n1 <= e)) := by
    intro a o' ho'
    rw [<- hO] at ho'
    obtain ⟨k1, k2⟩ := killAll_get (mem.drop 8) (cutOthers id e mem (σ.objs.set id (.cells false g' (min nn e) z t))) a
    obtain ⟨c1, c2, c3⟩ := cutOthers_get id e mem (σ.objs.set id (.cells false g' (min nn e) z t)) a
    have hlive : o'.live = true -> a ∉ mem.drop 8 := by
      intro hl hm
      rcases k2 hm with k | k <;> rw [k] at ho' <;> simp at ho'
      subst ho'; simp [Obj.live] at hl
    by_cases e1 : a = id
    · left
      refine ⟨e1, ?_⟩
      rcases k1 with k1 | ⟨k1, _⟩
      · rw [k1, c2 e1, T.get_set, if_pos e1] at ho'
        simp at ho'; subst ho'
        exact .inr ⟨rfl, hlive rfl⟩
      · rw [k1] at ho'; simp at ho'; exact .inl ho'.symm
    · right
      refine ⟨e1, ?_⟩
      rw [T.get_set, if_neg e1] at c1
      have hq : ∃ q, σ.objs.get a = some q /\ Less o' q := by
        rcases k1 with k1 | ⟨k1, k1'⟩
        · rw [k1] at ho'
          rcases c1 with c1 | ⟨p, q, hp, hq, hpq⟩
          · rw [c1] at ho'; exact ⟨o', ho', Less.refl _⟩
          · rw [hp] at ho'; simp at ho'; subst ho'; exact ⟨q, hq, hpq⟩
        · rw [k1] at ho'; simp at ho'
          rcases c1 with c1 | ⟨p, q, hp, hq, hpq⟩
          · rw [c1] at k1'
            obtain ⟨q, hq⟩ := Option.isSome_iff_exists.1 k1'
            exact ⟨q, hq, .inr (.inl ho'.symm)⟩
          · exact ⟨q, hq, .inr (.inl ho'.symm)⟩
      obtain ⟨q, hq, hless⟩ := hq
      refine ⟨q, hq, hless, hlive, fun hgq hg ro g1 n1 z1 t1 he => ?_⟩
      subst he
      have hm := (h.grp a q hq (by rw [hgq]; exact hg)).2
      rw [hgq] at hm
      have hm' : a ∈ mem := by rw [<- hmem, if_neg hg]; exact hm
      refine c3 hm' e1 ro g1 n1 z1 t1 ?_
      rcases k1 with k1 | ⟨k1, _⟩
      · rw [<- k1]; exact ho'
      · rw [k1] at ho'; cases ho'
  have hO_next : O.get σ.next = none \/ True := .inr trivial
  have hlt : ∀ a o', O.get a = some o' -> a < σ.next := by
    intro a o' ho'
    rcases key a o' ho' with ⟨rfl, _⟩ | ⟨_, q, hq, _⟩
    · exact hid
    · exact h.lt hq
  have hgrp : ∀ a o', O.get a = some o' -> o'.live = true -> ∃ q, σ.objs.get a = some q /\ q.live = true /\ q.mut = o'.mut /\ ((a = id /\ o'.grp = g' /\ q.grp = g) \/ (a ≠ id /\ o'.grp = q.grp)) := by
    intro a o' ho' hl
    rcases key a o' ho' with ⟨rfl, k | ⟨k, _⟩⟩ | ⟨hne, q, hq, hless, _⟩
    · subst k; simp [Obj.live] at hl
    · subst k; exact ⟨_, ho, rfl, rfl, .inl ⟨rfl, rfl, rfl⟩⟩
    · obtain ⟨r1, r2, r3⟩ := hless.live hl; exact ⟨q, hq, r1, r2.symm, .inr ⟨hne, r3⟩⟩
  have hb'ne : ∀ a m, φ a = some (b', m) -> b' = b := by
    intro a m hm
    rcases hb' with ⟨k, _⟩ | ⟨k, _⟩
    · exact k
    · have := (h.dom a b' m hm).2; omega
  refine ⟨⟨hbel, by have := h.B_le; omega, ?_, ?_, ?_, ?_, ?_, ?_, ?_, ?_⟩, hle⟩
  · intro a b1 m hab
    by_cases e1 : a = σ.next
    · subst e1; rw [Phi.upd_same] at hab; simp at hab; obtain ⟨rfl, rfl⟩ := hab
      exact ⟨by simp, by rcases hb' with ⟨k, _⟩ | ⟨_, k⟩ <;> omega⟩
    · rw [Phi.upd_ne φ _ e1] at hab; obtain ⟨r1, r2⟩ := h.dom a b1 m hab; exact ⟨by simp; omega, by omega⟩
  · intro g1 hg1
    obtain ⟨r1, m, hm⟩ := h.glob g1 hg1
    exact ⟨by simp; omega, m, hle _ _ hm⟩
  · intro a o' b1 m ho' hab
    simp only [T.get_set] at ho'
    by_cases e1 : a = σ.next
    · rw [if_pos e1] at ho'; simp at ho'; subst ho'
      subst e1; rw [Phi.upd_same] at hab; simp at hab; obtain ⟨rfl, rfl⟩ := hab
      refine ⟨C', E', (0, 0), hblk, hCn, fun _ => ⟨rfl, hBb⟩, hall, ?_⟩
      intro i v hi
      rw [cellOf_ofList] at hi
      obtain ⟨x, hx, hv⟩ := hnew i v hi
      exact ⟨x, hx, VR.mono hle _ _ hv⟩
    · rw [if_neg e1] at ho'
      rw [Phi.upd_ne φ _ e1] at hab
      have hb1 := (h.dom a b1 m hab).2
      refine ObjR.mono hle ?_
      by_cases hbb : b1 = b'
      · subst hbb
        have hbb := hb'ne a m hab
        subst hbb
        cases hol : o'.live with
        | false => cases o' <;> simp_all [Obj.live, ObjR]
        | true =>
          rcases key a o' ho' with ⟨rfl, k | ⟨k, _⟩⟩ | ⟨hne, q, hq, hless, _, hcut⟩
          · subst k; trivial
          · subst k
            obtain ⟨C2, E2, fz2, d1, d2, d3, d4, d5⟩ := h.obj a _ b1 m ho hab
            rw [hC] at d1; simp at d1; obtain ⟨rfl, rfl, rfl⟩ := d1
            rw [ha] at hab; simp at hab; subst hab
            have hn'n : n' = n := by rcases hb' with ⟨_, k⟩ | ⟨k, _⟩; exact k; omega
            refine ⟨C', E', (0, 0), hblk, by omega, d3, by omega, ?_⟩
            intro i v hi
            have hi' : i < e := by unfold cellOf at hi; split at hi; omega; cases hi
            rw [hpre rfl i hi']
            exact d5 i v (cellOf_mono (Nat.min_le_left _ _) hi)
          · obtain ⟨r1, r2, r3⟩ := hless.live hol
            obtain ⟨s1, s2⟩ := h.sep id a _ q b1 n m (Ne.symm hne) ho hq rfl r1 ha hab
            simp only [grp_cells] at s1 s2
            have hk := hless.objR (h.obj a q b1 m hq hab)
            cases o' with
            | dead => trivial
            | map es => have hz : q.grp = 0 := r3.symm; exact (s1 (s2.trans hz)).elim
            | cells ro g1 n1 z1 t1 =>
              have hn1 := hcut s2.symm s1 ro g1 n1 z1 t1 rfl
              obtain ⟨C2, E2, fz2, d1, d2, d3, d4, d5⟩ := hk
              rw [hC] at d1; simp at d1; obtain ⟨rfl, rfl, rfl⟩ := d1
              have hmn : m = n' := by
                have q1 := (h.obj id _ b1 n ho ha)
                obtain ⟨C3, E3, fz3, f1, f2, _⟩ := q1
                rw [hC] at f1; simp at f1; obtain ⟨rfl, rfl, rfl⟩ := f1
                rcases hb' with ⟨_, k⟩ | ⟨k, _⟩ <;> omega
              refine ⟨C', E', (0, 0), hblk, by omega, d3, d4, ?_⟩
              intro i v hi
              have hi' : i < n1 := by unfold cellOf at hi; split at hi; assumption; cases hi
              rw [hpre rfl i (by omega)]
              exact d5 i v hi
      · have hsame := hoth b1 hb1 hbb
        rcases key a o' ho' with ⟨rfl, k | ⟨k, _⟩⟩ | ⟨hne, q, hq, hless, _⟩
        · subst k; trivial
        · subst k
          have hk := (h.obj a _ b1 m ho hab).of_block hsame
          obtain ⟨C2, E2, fz2, d1, d2, d3, d4, d5⟩ := hk
          exact ⟨C2, E2, fz2, d1, d2, d3, by omega, fun i v hi => d5 i v (cellOf_mono (Nat.min_le_left _ _) hi)⟩
        · exact (hless.objR (h.obj a q b1 m hq hab)).of_block hsame
  · intro a hna
    simp only at hna
    simp only [T.get_set]
    rw [if_neg (by omega)]
    cases hc : O.get a with
    | none => rfl
    | some o' => have := hlt a o' hc; omega
  · intro a a' o1 o2 b1 m m' hne k1 k2 hm hl ha1 ha2
    simp only [T.get_set] at k1 k2
    by_cases e1 : a = σ.next
    · rw [if_pos e1] at k1; simp at k1; subst k1
      subst e1; rw [Phi.upd_same] at ha1; simp at ha1; obtain ⟨rfl, rfl⟩ := ha1
      rw [if_neg (Ne.symm hne)] at k2
      rw [Phi.upd_ne φ _ (Ne.symm hne)] at ha2
      refine ⟨hg0, ?_⟩
      simp only [grp_cells]
      have hbb := hb'ne a' m' ha2
      subst hbb
      obtain ⟨q, hq, hql, hqm, hgr⟩ := hgrp a' o2 k2 hl
      rcases hgr with ⟨_, r, _⟩ | ⟨hne', r⟩
      · exact r.symm
      · obtain ⟨s1, s2⟩ := h.sep id a' _ q b' n m' (Ne.symm hne') ho hq rfl hql ha ha2
        simp only [grp_cells] at s1 s2
        rw [r, <- s2, hg', if_neg s1]
    · rw [if_neg e1] at k1
      rw [Phi.upd_ne φ _ e1] at ha1
      obtain ⟨q1, hq1, hq1l, hq1m, hgr1⟩ := hgrp a o1 k1 (Obj.mut_live hm)
      by_cases e2 : a' = σ.next
      · rw [if_pos e2] at k2; simp at k2; subst k2
        subst e2; rw [Phi.upd_same] at ha2; simp at ha2; obtain ⟨rfl, rfl⟩ := ha2
        simp only [grp_cells]
        have hbb := hb'ne a m ha1
        subst hbb
        rcases hgr1 with ⟨_, r, _⟩ | ⟨hne', r⟩
        · exact ⟨by omega, r⟩
        · obtain ⟨s1, s2⟩ := h.sep a id q1 _ b' m n hne' hq1 ho (hq1m.trans hm) rfl ha1 ha
          simp only [grp_cells] at s1 s2
          have : g ≠ 0 := by omega
          refine ⟨by rw [r]; exact s1, by rw [r, s2, hg', if_neg this]⟩
      · rw [if_neg e2] at k2
        rw [Phi.upd_ne φ _ e2] at ha2
        obtain ⟨q2, hq2, hq2l, hq2m, hgr2⟩ := hgrp a' o2 k2 hl
        obtain ⟨s1, s2⟩ := h.sep a a' q1 q2 b1 m m' hne hq1 hq2 (hq1m.trans hm) hq2l ha1 ha2
        rcases hgr1 with ⟨i1, r1, r1'⟩ | ⟨i1, r1⟩ <;> rcases hgr2 with ⟨i2, r2, r2'⟩ | ⟨i2, r2⟩
        · exact (hne (i1.trans i2.symm)).elim
        · have : g ≠ 0 := by omega
          exact ⟨by omega, by rw [r1, r2, <- s2, r1', hg', if_neg this]⟩
        · have : g ≠ 0 := by omega
          exact ⟨by omega, by rw [r1, r2, s2, r2', hg', if_neg this]⟩
        · exact ⟨by omega, by omega⟩
  · intro a o1 k1 hg1
    simp only [T.get_set] at k1 ⊢
    by_cases e1 : a = σ.next
    · rw [if_pos e1] at k1; simp at k1; subst k1
      simp only [grp_cells]
      rw [if_pos trivial]
      exact ⟨by rw [hg']; split; omega; rename_i hgz; have := (hggrp hgz).1; omega, by simp [e1]⟩
    · rw [if_neg e1] at k1
      have hl1 : o1.live = true := by cases o1 <;> simp_all [Obj.grp, Obj.live]
      have hmem8 : a ∈ mem -> a ∈ mem.take 8 := by
        intro hm
        have hnd : a ∉ mem.drop 8 := by
          rcases key a o1 k1 with ⟨_, k | ⟨_, k⟩⟩ | ⟨_, q, _, _, k, _⟩
          · subst k; simp [Obj.live] at hl1
          · exact k
          · exact k hl1
        rw [<- List.take_append_drop 8 mem] at hm
        rcases List.mem_append.1 hm with k | k
        · exact k
        · exact (hnd k).elim
      obtain ⟨q, hq, hql, hqm, hgr⟩ := hgrp a o1 k1 hl1
      rcases hgr with ⟨rfl, r, r'⟩ | ⟨hne, r⟩
      · rw [r, if_pos rfl]
        refine ⟨by rw [hg']; split; omega; rename_i hgz; have := (hggrp hgz).1; omega, ?_⟩
        simp only [Option.getD_some, List.mem_cons]
        right
        by_cases hgz : g = 0
        · simp [hgz]
        · rw [if_neg hgz]
          have := hmem8 (by rw [<- hmem, if_neg hgz]; exact (hggrp hgz).2)
          rw [<- hmem, if_neg hgz] at this
          exact this
      · rw [r] at hg1 ⊢
        obtain ⟨s1, s2⟩ := h.grp a q hq hg1
        refine ⟨by omega, ?_⟩
        by_cases hgq : q.grp = g'
        · rw [if_pos hgq]
          have hgz : g ≠ 0 := by
            intro hgz; rw [hg', if_pos hgz] at hgq; omega
          have hgg : g' = g := by rw [hg', if_neg hgz]
          simp only [Option.getD_some, List.mem_cons]
          right
          rw [if_neg hgz]
          have := hmem8 (by rw [<- hmem, if_neg hgz, <- hgg, <- hgq]; exact s2)
          rw [<- hmem, if_neg hgz] at this
          exact this
        · rw [if_neg hgq]; exact s2
  · intro x hx
    simp only at hx
    simp only [T.get_set]
    have : x ≠ g' := by
      rw [hg']; split
      · omega
      · rename_i hgz; have := (hggrp hgz).1; omega
    rw [if_neg this]
    exact h.gfresh x (by omega)
  · intro a hX
    obtain ⟨p1, p2⟩ := h.pend a hX
    exact ⟨by rw [Phi.upd_ne φ _ (by omega)]; exact p1, by simp; omega⟩
end AM
namespace AM
open Go Go.RowKit
variable {P:Program} {φ:Phi} {tm:T V} {a:Act} {w:World}
def TR (φ:Phi) (tm:T V) (a:Act) (ts:List Nat):Prop:=∀ t∈ts,VR φ ((tm.get t).getD .undef) (a.tmps.getD t Go.undef)
def GR (P:Program) (φ:Phi):Prop:=∀ g,g<P.globals.size -> ∃ n,φ g=some (g,n)
theorem TR.left {l m:List Nat} (h:TR φ tm a (l++m)):TR φ tm a l:=fun t ht=>h t (List.mem_append.2 (.inl ht))
theorem TR.right {l m:List Nat} (h:TR φ tm a (l++m)):TR φ tm a m:=fun t ht=>h t (List.mem_append.2 (.inr ht))
theorem opd_rel (hG:GR P φ) {y:Operand} {x:Opd} (h:opd P y=some x) (ht:TR φ tm a x.tmps):VR φ (x.eval tm) (a.eval y):=by
 cases y with
 |tmp t=>simp [opd] at h;subst h;exact ht t (by simp [Opd.tmps])
 |const v =>
  simp only [opd] at h
  split at h
  ·rename_i u hu;simp at h;subst h;exact toV_rel φ v u hu
  ·cases h
 |global g =>
  simp only [opd] at h
  split at h
  ·rename_i hg;simp at h;subst h;obtain ⟨n,hn⟩:=hG g hg;exact ⟨g,n,hn,rfl⟩
  ·cases h
 |func f=>simp [opd] at h;subst h;exact ⟨#[], #[],rfl,LR.nil,LR.nil⟩
theorem opds_rel (hG:GR P φ):∀ {ys:List Operand} {xs:List Opd},opds P ys=some xs -> TR φ tm a (lTmps xs) -> LR φ (xs.map (·.eval tm)) (ys.map a.eval)
 | [],xs,h,ht=>by simp [opds] at h;subst h;exact LR.nil
 |y :: r,xs,h,ht=>by
  simp only [opds] at h
  split at h
  ·rename_i x s hx hs
   simp at h;subst h
   have ht':TR φ tm a (x.tmps++lTmps s):=by simpa [lTmps] using ht
   exact LR.cons (opd_rel hG hx ht'.left) (opds_rel hG hs ht'.right)
  ·cases h
theorem oopd_rel (hG:GR P φ) {y:Option Operand} {x:Option Opd} (h:oopd P y=some x) (ht:TR φ tm a (oTmps x)) :
  (x=none /\ y=none) \/ ∃ x' y',x=some x' /\ y=some y' /\ VR φ (x'.eval tm) (a.eval y'):=by
 cases y with
 |none=>simp [oopd] at h;exact .inl ⟨h.symm,rfl⟩
 |some y =>
  simp only [oopd] at h
  split at h
  ·rename_i z hz;simp at h;subst h;exact .inr ⟨z,y,rfl,rfl,opd_rel hG hz ht⟩
  ·cases h
def PR (φ:Phi) (place:Nat -> Option (Nat × Nat)):List (Nat × Nat × V) -> List (Nat × Value) -> Prop
 | [],m=>m=[]
 |(o,s,v) :: r,m=>∃ i x q,m=(i,x) :: q /\ place i=some (o,s) /\ VR φ v x /\ PR φ place r q
theorem parts_rel (hG:GR P φ) {place:Nat -> Option (Nat × Nat)}:∀ {ps:List (Nat × Operand)} {l:List (Nat × Nat × Opd)},parts P place ps=some l -> TR φ tm a (pTmps l) →
  PR φ place (evalParts tm l) (ps.map fun p=>(p.1,a.eval p.2))
 | [],l,h,ht=>by simp [parts] at h;subst h;rfl
 |(i,y) :: r,l,h,ht=>by
  simp only [parts] at h
  split at h
  ·rename_i o s x q hp hx hq
   simp at h;subst h
   have ht':TR φ tm a (x.tmps++pTmps q):=by simpa [pTmps] using ht
   exact ⟨i,a.eval y,_,rfl,hp,opd_rel hG hx ht'.left,parts_rel hG hq ht'.right⟩
  ·cases h
theorem fold_set (off:Nat):∀ (xs:List Value) (j:Nat) (cs:Array Value),off+j+xs.length <= cs.size →
  (xs.zipIdx j).foldl (fun cs (c:Value × Nat)=>cs.setIfInBounds (off+c.2) c.1) cs=(cs.toList.take (off+j)++xs++cs.toList.drop (off+j+xs.length)).toArray
 | [],j,cs,h=>by simp
 |x :: r,j,cs,h=>by
  simp only [List.zipIdx_cons,List.foldl_cons]
  rw [fold_set off r (j+1) _ (by simp at h ⊢;omega)]
  have e:=list_seg_step cs.toList (off+j) x r (by simp at h ⊢;omega)
  simp only [Array.toList_setIfInBounds]
  congr 1
theorem fill_rel {place:Nat -> Option (Nat × Nat)}:∀ {ps:List (Nat × Nat × V)} {qs:List (Nat × Value)} {cells:List V} {C:Array Value} {cs:List V},
  PR φ place ps qs -> LR φ cells C.toList -> fillP cells ps=some cs -> ∃ D,Instr.fill place C qs=some D /\ LR φ cs D.toList
 | [],qs,cells,C,cs,h,hC,hf=>by
  simp [PR] at h;subst h;simp [fillP] at hf;subst hf;exact ⟨C,rfl,hC⟩
 |(o,s,v) :: r,qs,cells,C,cs,h,hC,hf=>by
  obtain ⟨i,x,q,rfl,hp,hv,hr⟩:=h
  simp only [fillP] at hf
  split at hf
  ·rename_i hc
   have hvc:=hv.cells
   have hl:=hvc.length
   have hCl:=hC.length
   simp only [Instr.fill,hp]
   have e1:¬ (x.cells.size≠s \/ C.size<o+x.cells.size):=by simp at hl hCl ⊢;omega
   have e2:(decide (x.cells.size≠s) || decide (o+x.cells.size > C.size))=false:=by simp at e1 ⊢;omega
   simp only [e2]
   have hfold:=fold_set o x.cells.toList 0 C (by simp at hl hCl ⊢;omega)
   simp only [Nat.add_zero] at hfold
   have hfold':x.cells.zipIdx.foldl (fun cs (c,j)=>cs.setIfInBounds (o+j) c) C=(C.toList.take o++x.cells.toList++C.toList.drop (o+x.cells.toList.length)).toArray:=by
    rw [<- Array.foldl_toList,Array.toList_zipIdx];exact hfold
   rw [if_neg (by simp)]
   rw [hfold']
   refine fill_rel hr ?_ hf
   simp only []
   rw [hl,hc.1]
   exact LR.append (LR.append (LR.take o hC) hvc) (LR.drop _ hC)
  ·cases hf
theorem run_underlying' {t:TypeId} {d:TypeDesc} (h:P.underlying t=some d):(underlying t).run P w=.ok d w:=by
 simp [underlying,h]
theorem run_sizeOf' {t:TypeId} {n:Nat} (h:szOf P t=some n):(Go.sizeOf t).run P w=.ok n w:=by
 unfold szOf at h
 cases hi:P.info? t with
 |none=>rw [hi] at h;cases h
 |some i=>rw [hi] at h;simp only [Option.map_some,Option.some.injEq] at h;simp [Go.sizeOf,typeInfo,hi,h]
theorem run_isAgg' {t:TypeId} {g:Bool} (h:aggT P t=some g):(isAgg t).run P w=.ok g w:=by
 unfold aggT at h
 cases hd:P.underlying t with
 |none=>rw [hd] at h;cases h
 |some d =>
  rw [hd] at h
  simp only [isAgg,Sem.run_bind,run_underlying' hd,Result.andThen_ok]
  cases d <;> simp at h ⊢ <;> simp [h]
theorem run_zeroValue' {t:TypeId} {z:V} (h:zeroV P t=some z):∃ x,(∀ w,(zeroValue t).run P w=.ok x w) /\ toV x=some z:=by
 unfold zeroV at h
 cases hi:P.info? t with
 |none=>simp [hi] at h
 |some i =>
  rw [hi] at h
  simp only [Option.bind_some,Option.bind_eq_some_iff] at h
  obtain ⟨x,hx,hz⟩:=h
  exact ⟨x,fun w=>by simp [zeroValue,typeInfo,hi,hx],hz⟩
theorem zeroC_spec {t:TypeId} {z:List V} (h:zeroC P t=some z):∃ x,(∀ w,(zeroValue t).run P w=.ok x w) /\ (∀ φ,LR φ z x.cells.toList) /\ szOf P t=some z.length /\ x.cells.size=z.length:=by
 unfold zeroC at h
 split at h
 ·rename_i z' n hz hn
  split at h
  ·rename_i hl
   simp at h;subst h
   obtain ⟨x,hx,hzx⟩:=run_zeroValue' hz
   have hr:∀ φ,LR φ z'.cells x.cells.toList:=fun φ=>(toV_rel φ x z' hzx).cells
   exact ⟨x,hx,hr,by rw [hn,hl],by have:=(hr (fun _=>none)).length;simpa using this⟩
  ·cases h
 ·cases h
theorem bn_shift {op:BinOp}:(bn op=.shl↔op=.shl) /\ (bn op=.shr↔op=.shr):=by cases op <;> simp [bn]
theorem run_bin {op:BinOp} {t:TypeId} {x y:V} {X Y:Value} {v:V} (hv:bin (bn op) x y=some v) (hx:VR φ x X) (hy:VR φ y Y) :
  ∃ z,(Go.binOp op t X Y).run P w=.ok z w /\ VR φ v z:=by
 unfold bin at hv
 split at hv
 ·rename_i k n k' m
  have hx:X=.int k n:=hx
  have hy:Y=.int k' m:=hy
  subst hx;subst hy
  split at hv
  ·rename_i hs
   unfold shiftI at hv
   split at hv
   ·cases hv
   ·rename_i hneg
    have hb:=@bn_shift op
    rcases hs with hs | hs
    ·have:=hb.1.1 hs;subst this
     simp [bn] at hv;subst hv
     exact ⟨_,by simp [Go.binOp,Op.shift,hneg],rfl⟩
    ·have:=hb.2.1 hs;subst this
     simp [bn] at hv;subst hv
     exact ⟨_,by simp [Go.binOp,Op.shift,hneg],rfl⟩
  ·rename_i hs
   split at hv
   ·rename_i hk
    subst hk
    cases op <;> simp [bn] at hs hv ⊢ <;> simp only [binI] at hv <;> (try (split at hv)) <;> (try (cases hv;done)) <;> (try (simp at hv)) <;> (try subst hv) <;>
     first
     |(refine ⟨_,?_,rfl⟩;simp [Go.binOp,Op.intArith,Op.intDiv,Op.intBits,Op.intCmp, *];done)
     |(cases hv)
   ·cases hv
 ·cases hv
end AM
namespace AM
open Go Go.RowKit
variable {P:Program} {φ:Phi} {tm:T V} {a:Act} {w:World}
theorem szOf_info {t:TypeId} {n:Nat} (h:szOf P t=some n):∃ i,P.info? t=some i /\ i.size=n:=by
 unfold szOf at h
 cases hi:P.info? t with
 |none=>simp [hi] at h
 |some i=>simp [hi] at h;exact ⟨i,rfl,h⟩
def dAgg:TypeDesc -> Bool
 | .struct _ | .array _ _=>true
 |_=>false
theorem aggT_of {t:TypeId} {d:TypeDesc} (h:P.underlying t=some d):aggT P t=some (dAgg d):=by
 unfold aggT;rw [h];cases d <;> rfl
theorem scalarK_spec {t:TypeId} {k:Bool} (h:scalarK P t=some k):szOf P t=some 1 /\ aggT P t=some false /\ ((k=false /\ P.underlying t=some .bool) \/ (k=true /\ ∃ i,P.underlying t=some (.int i))):=by
 unfold scalarK at h
 split at h
 ·rename_i hs
  refine ⟨hs,?_⟩
  split at h
  ·rename_i hu;cases h;exact ⟨aggT_of hu,.inl ⟨rfl,hu⟩⟩
  ·rename_i i hu;cases h;exact ⟨aggT_of hu,.inr ⟨rfl,i,hu⟩⟩
  ·cases h
 ·cases h
theorem eqPlain_run {t:TypeId} {k:Bool} (hk:scalarK P t=some k) {x y:V} {X Y:Value} {r:Bool} (h:eqPlain k x y=some r) (hx:VR φ x X) (hy:VR φ y Y) (d:Nat) :
  (Op.equalIn (d+1) t X Y).run P w=.ok r w:=by
 obtain ⟨_,_,hu⟩:=scalarK_spec hk
 unfold eqPlain at h
 split at h
 ·rename_i p q
  have hx:X=.bool p:=hx
  have hy:Y=.bool q:=hy
  subst hx;subst hy
  rcases hu with ⟨_,hu⟩ | ⟨hk',_⟩
  ·simp at h;subst h;simp [Op.equalIn,run_underlying' hu]
  ·cases hk'
 ·rename_i k1 p k2 q
  have hx:X=.int k1 p:=hx
  have hy:Y=.int k2 q:=hy
  subst hx;subst hy
  rcases hu with ⟨hk',_⟩ | ⟨_,i,hu⟩
  ·cases hk'
  ·split at h
   ·rename_i he;subst he;simp at h;subst h;simp [Op.equalIn,run_underlying' hu]
   ·cases h
 ·cases h
theorem part_one {t:TypeId} (hagg:aggT P t=some false) {C:Array Value} {off:Nat} {X:Value} (h:C[off]?=some X):(part t C off).run P w=.ok X w:=by
 simp [part,run_isAgg' hagg,h]
theorem eqCells_append:∀ {l m:List Bool} {xs ys:List V} {r:Bool},eqCells (l++m) xs ys=some r →
  (eqCells l (xs.take l.length) (ys.take l.length)=some false /\ r=false) ∨
  (eqCells l (xs.take l.length) (ys.take l.length)=some true /\ eqCells m (xs.drop l.length) (ys.drop l.length)=some r)
 | [],m,xs,ys,r,h=>by right;simpa [eqCells] using h
 |k :: l,m,[],ys,r,h=>by simp [eqCells] at h
 |k :: l,m,x :: xs,[],r,h=>by simp [eqCells] at h
 |k :: l,m,x :: xs,y :: ys,r,h=>by
  simp only [List.cons_append,eqCells] at h
  simp only [List.length_cons,List.take_succ_cons,List.drop_succ_cons,eqCells]
  split at h
  ·simp at h;exact .inl ⟨by simp,h⟩
  ·exact eqCells_append h
  ·cases h
theorem eqArr_run {e:TypeId} {k:Bool} (hk:scalarK P e=some k) (d:Nat) (C D:Array Value):∀ (n off:Nat) (xs ys:List V) (r:Bool),
  LR φ xs (C.toList.drop off) -> LR φ ys (D.toList.drop off) -> eqCells (List.replicate n k) (xs.take n) (ys.take n)=some r →
  (forIn (m:=Sem) (List.range' off n) ((none,()):Option Bool × Unit) (fun i _=>do
    let r <- Op.equalIn (d+1) e (<- part e C (i*1)) (<- part e D (i*1))
    if (!r)=true then pure (ForInStep.done (some false,())) else pure (ForInStep.yield (none,())))).run P w =
   .ok (if r then (none,()) else (some false,())) w
 | 0,off,xs,ys,r,hx,hy,h=>by simp [eqCells] at h;subst h;simp
 |n+1,off,xs,ys,r,hx,hy,h=>by
  obtain ⟨hs1,hagg,hu⟩:=scalarK_spec hk
  cases xs with
  |nil=>simp [List.replicate_succ,eqCells] at h
  |cons x xs =>
   cases ys with
   |nil=>simp [List.replicate_succ,eqCells] at h
   |cons y ys =>
    obtain ⟨X,s,hX,hxX,hxs⟩:=hx
    obtain ⟨Y,s',hY,hyY,hys⟩:=hy
    have hCX:C[off]?=some X:=by have:=congrArg (·[0]?) hX;simpa using this
    have hDY:D[off]?=some Y:=by have:=congrArg (·[0]?) hY;simpa using this
    have hC':C.toList.drop (off+1)=s:=by rw [<- List.drop_drop,hX];rfl
    have hD':D.toList.drop (off+1)=s':=by rw [<- List.drop_drop,hY];rfl
    simp only [List.replicate_succ,List.take_succ_cons,eqCells] at h
    simp only [List.range'_succ,List.forIn_cons,Sem.run_bind,Nat.mul_one,part_one hagg hCX,part_one hagg hDY,Result.andThen_ok]
    split at h
    ·rename_i hp
     simp at h;subst h
     rw [eqPlain_run hk hp hxX hyY];simp
    ·rename_i hp
     rw [eqPlain_run hk hp hxX hyY]
     simp only [Result.andThen_ok,Bool.not_true,Bool.false_eq_true,if_false,Sem.run_pure]
     have:=eqArr_run hk d C D n (off+1) xs ys r (by rw [hC'];exact hxs) (by rw [hD'];exact hys) h
     simpa using this
    ·cases h
theorem eqField_run {t:TypeId} {l:List Bool} (hl:fieldK P t=some l) (d:Nat) {C D:Array Value} {off:Nat} {xs ys:List V} {r:Bool}
  (hx:LR φ xs (C.toList.drop off)) (hy:LR φ ys (D.toList.drop off)) (h:eqCells l (xs.take l.length) (ys.take l.length)=some r) :
  ∃ X Y,(part t C off).run P w=.ok X w /\ (part t D off).run P w=.ok Y w /\ (Op.equalIn (d+2) t X Y).run P w=.ok r w:=by
 unfold fieldK at hl
 split at hl
 ·rename_i n e hu
  split at hl
  ·rename_i hsz
   split at hl
   ·rename_i k hk
    simp at hl;subst hl
    obtain ⟨hs1,hagg,_⟩:=scalarK_spec hk
    have hagt:aggT P t=some true:=aggT_of hu
    refine ⟨.agg (C.extract off (off+n)),.agg (D.extract off (off+n)),?_,?_,?_⟩
    ·simp [part,run_isAgg' hagt,run_sizeOf' hsz]
    ·simp [part,run_isAgg' hagt,run_sizeOf' hsz]
    ·simp only [List.length_replicate] at h
     have hx':LR φ (xs.take n) ((C.extract off (off+n)).toList.drop 0):=by
      simpa [Array.toList_extract,List.extract_eq_take_drop] using LR.take n hx
     have hy':LR φ (ys.take n) ((D.extract off (off+n)).toList.drop 0):=by
      simpa [Array.toList_extract,List.extract_eq_take_drop] using LR.take n hy
     have:=eqArr_run (w:=w) hk d _ _ n 0 _ _ r hx' hy' (by rw [List.take_take,List.take_take,Nat.min_self];exact h)
     rw [Op.equalIn]
     simp only [Sem.run_bind,run_underlying' hu,Result.andThen_ok,run_sizeOf' hs1]
     rw [Std.Legacy.Range.forIn_eq_forIn_range']
     simp only [Std.Legacy.Range.size,Nat.sub_zero,Nat.add_sub_cancel,Nat.div_one] at this ⊢
     rw [this]
     cases r <;> rfl
   ·cases hl
  ·cases hl
 ·split at hl
  ·rename_i k hk
   simp at hl;subst hl
   obtain ⟨hs1,hagg,_⟩:=scalarK_spec hk
   cases xs with
   |nil=>simp [eqCells] at h
   |cons x xs =>
    cases ys with
    |nil=>simp [eqCells] at h
    |cons y ys =>
     obtain ⟨X,s,hX,hxX,hxs⟩:=hx
     obtain ⟨Y,s',hY,hyY,hys⟩:=hy
     have hCX:C[off]?=some X:=by have:=congrArg (·[0]?) hX;simpa using this
     have hDY:D[off]?=some Y:=by have:=congrArg (·[0]?) hY;simpa using this
     refine ⟨X,Y,part_one hagg hCX,part_one hagg hDY,?_⟩
     simp [eqCells] at h
     have:eqPlain k x y=some r:=by
      split at h
      ·rename_i hp;simp at h;subst h;exact hp
      ·rename_i hp;simp at h;subst h;exact hp
      ·cases h
     exact eqPlain_run hk this hxX hyY _
  ·cases hl
theorem eqFields_run (d:Nat) {C D:Array Value}:∀ {fs:List Field} {l:List Bool} {off:Nat} {xs ys:List V} {r:Bool},fieldsK P fs off=some l →
  LR φ xs (C.toList.drop off) -> LR φ ys (D.toList.drop off) -> eqCells l (xs.take l.length) (ys.take l.length)=some r -> (Op.eqFields (d+2) C D fs).run P w=.ok r w
 | [],l,off,xs,ys,r,hf,hx,hy,h=>by
  simp [fieldsK] at hf;subst hf;simp [eqCells] at h;subst h;rfl
 |f :: fs,l,off,xs,ys,r,hf,hx,hy,h=>by
  simp only [fieldsK] at hf
  split at hf
  ·rename_i hc
   split at hf
   ·rename_i l1 hl1
    split at hf
    ·rename_i m hm
     simp at hf;subst hf
     obtain ⟨hoff,hname⟩:=hc
     simp only [Op.eqFields]
     rw [if_pos hname]
     simp only [Sem.run_bind,hoff]
     have key:∀ {u v:List V},eqCells l1 ((u.take (l1++m).length).take l1.length) ((v.take (l1++m).length).take l1.length)=eqCells l1 (u.take l1.length) (v.take l1.length):=by
      intro u v
      rw [List.take_take,List.take_take];simp
     rcases eqCells_append h with ⟨h1,rfl⟩ | ⟨h1,h2⟩
     ·rw [key] at h1
      obtain ⟨X,Y,e1,e2,e3⟩:=eqField_run (w:=w) hl1 d hx hy h1
      rw [e1];simp only [Result.andThen_ok];rw [e2];simp only [Result.andThen_ok];rw [e3];simp
     ·rw [key] at h1
      obtain ⟨X,Y,e1,e2,e3⟩:=eqField_run (w:=w) hl1 d hx hy h1
      rw [e1];simp only [Result.andThen_ok];rw [e2];simp only [Result.andThen_ok];rw [e3]
      simp only [Result.andThen_ok,Bool.not_true,Bool.false_eq_true,if_false]
      refine eqFields_run d hm (by have:=LR.drop l1.length hx;rwa [List.drop_drop] at this) (by have:=LR.drop l1.length hy;rwa [List.drop_drop] at this) ?_
      have:∀ u:List V,(u.take (l1++m).length).drop l1.length=(u.drop l1.length).take m.length:=by
       intro u;rw [List.drop_take];simp
      rw [this,this] at h2;exact h2
    ·cases hf
   ·cases hf
  ·cases hf
theorem eqCells_take:∀ {l:List Bool} {xs ys:List V} {r:Bool},eqCells l xs ys=some r -> eqCells l (xs.take l.length) (ys.take l.length)=some r
 | [],[],[],r,h=>by simpa using h
 | [],x :: xs,ys,r,h=>by simp [eqCells] at h
 | [],[],y :: ys,r,h=>by simp [eqCells] at h
 |k :: l,[],ys,r,h=>by simp [eqCells] at h
 |k :: l,x :: xs,[],r,h=>by simp [eqCells] at h
 |k :: l,x :: xs,y :: ys,r,h=>by
  simp only [eqCells,List.length_cons,List.take_succ_cons] at h ⊢
  split at h
  ·exact h
  ·exact eqCells_take h
  ·cases h
theorem eqs_run {t:TypeId} {ks:List Bool} (hk:kindsOf P t=some ks) {xs ys:List V} {C D:Array Value} {r:Bool} (hx:LR φ xs C.toList) (hy:LR φ ys D.toList)
  (h:eqCells ks xs ys=some r):(Op.equal t (.agg C) (.agg D)).run P w=.ok r w:=by
 unfold kindsOf at hk
 split at hk
 ·rename_i fs hu
  split at hk
  ·rename_i hst
   have hfo:P.fieldsOf t=fs:=by simp [Program.fieldsOf,hu]
   unfold Op.equal Op.maxDepth
   rw [show (10000:Nat)=9999+1 from rfl,run_equalIn_struct w 9999 t C D (by rw [hfo];exact hu) hst,hfo]
   exact eqFields_run 9997 hk (by simpa using hx) (by simpa using hy) (eqCells_take h)
  ·cases hk
 ·cases hk
end AM
namespace AM
open Go Go.RowKit
variable {P:Program} {φ:Phi} {tm:T V} {a:Act} {w:World}
def Tells (P:Program) (a:Act) (o:Oper) (φ:Phi) (v:V) (w:World):Prop :=
 ∃ x,(execOp a.eval o).run P w=.ok (.value x) w /\ VR φ v x
def EkIs (P:Program) (t:TypeId) (x y:Operand):Ek -> Prop
 | .bool=>P.underlying t=some .bool
 | .ptr=>∃ e,P.underlying t=some (.pointer e)
 | .slice=>∃ e,P.underlying t=some (.slice e)
 | .map=>∃ k e,P.underlying t=some (.map k e)
 | .func=>∃ ps rs v,P.underlying t=some (.func ps rs v)
 | .iface=>(∃ ms,P.underlying t=some (.interface ms)) /\ (isC x || isC y)=true
theorem ekOf_spec {t:TypeId} {x y:Operand} {k:Ek} (h:ekOf P t x y=some k):EkIs P t x y k:=by
 unfold ekOf at h
 split at h
 ·rename_i hu;cases h;exact hu
 ·rename_i e hu;cases h;exact ⟨e,hu⟩
 ·rename_i e hu;cases h;exact ⟨e,hu⟩
 ·rename_i k e hu;cases h;exact ⟨k,e,hu⟩
 ·rename_i ps rs v hu;cases h;exact ⟨ps,rs,v,hu⟩
 ·rename_i ms hu
  split at h
  ·rename_i hc;cases h;exact ⟨⟨ms,hu⟩,hc⟩
  ·cases h
 ·cases h
theorem eqGuard_plain (op:BinOp) (t:TypeId) (x y:Operand) (X Y:Value) (h1:∀ c,X≠.agg c) (h2:X=.nilIface -> Y=.nilIface -> (isC x || isC y)=true) :
  (eqGuard op t x y X Y).run P w=.ok () w:=by
 unfold eqGuard
 cases X <;> cases Y <;> (try (cases op <;> simp;done)) <;> (try (exact (h1 _ rfl).elim))
 have hc:=h2 rfl rfl
 cases op <;> cases x <;> cases y <;> simp_all [isC]
theorem run_eql_of {t:TypeId} {X Y:Value} {r:Bool} {op:BinOp} (hop:op=.eql \/ op=.neq) (h:(Op.equal t X Y).run P w=.ok r w)
  (hX:∀ k n,X≠.int k n) (hs:∀ s,X≠.string s) (hf:∀ k b,X≠.float k b) (hc:∀ k b c,X≠.complex k b c) :
  (Go.binOp op t X Y).run P w=.ok (.bool (if (op == .neq) then !r else r)) w:=by
 rcases hop with rfl | rfl
 ·unfold Go.binOp
  split <;> simp_all
 ·unfold Go.binOp
  split <;> simp_all
theorem ekRun {op:BinOp} (hop:op=.eql \/ op=.neq) {t:TypeId} {x y:Operand} {k:Ek} (hk:ekOf P t x y=some k) {u v:V} {X Y:Value} {r:Bool} (h:eqV k u v=some r) (hx:VR φ u X) (hy:VR φ v Y) :
  (do eqGuard op t x y X Y;Go.binOp op t X Y:Sem Value).run P w=.ok (.bool (if (op == .neq) then !r else r)) w:=by
 have hs:=ekOf_spec hk
 have fin:(∀ c,X≠.agg c) -> (X=.nilIface -> Y=.nilIface -> (isC x || isC y)=true) -> (∀ d,(Op.equalIn (d+1) t X Y).run P w=.ok r w) →
   (∀ k n,X≠.int k n) -> (∀ s,X≠.string s) -> (∀ k b,X≠.float k b) -> (∀ k b c,X≠.complex k b c) →
   (do eqGuard op t x y X Y;Go.binOp op t X Y:Sem Value).run P w=.ok (.bool (if (op == .neq) then !r else r)) w:=by
  intro h1 h2 h3 h4 h5 h6 h7
  simp only [Sem.run_bind,eqGuard_plain op t x y X Y h1 h2,Result.andThen_ok]
  exact run_eql_of hop (h3 9999) h4 h5 h6 h7
 unfold eqV at h
 split at h
 ·rename_i p q
  have hx:X=.bool p:=hx
  have hy:Y=.bool q:=hy
  subst hx;subst hy;simp at h;subst h
  have hs:P.underlying t=some .bool:=hs
  exact fin (by simp) (by simp) (fun d=>by simp [Op.equalIn,run_underlying' hs]) (by simp) (by simp) (by simp) (by simp)
 ·rename_i q
  obtain ⟨e,hs⟩:=hs
  have hx:X=.pointer none:=hx
  subst hx;simp at h;subst h
  cases q with
  |none=>have hy:Y=.pointer none:=hy;subst hy;exact fin (by simp) (by simp) (fun d=>by simp [Op.equalIn,run_underlying' hs]) (by simp) (by simp) (by simp) (by simp)
  |some q=>obtain ⟨b,n,_,hy⟩:=hy;subst hy;exact fin (by simp) (by simp) (fun d=>by simp [Op.equalIn,run_underlying' hs]) (by simp) (by simp) (by simp) (by simp)
 ·rename_i p
  obtain ⟨e,hs⟩:=hs
  obtain ⟨b,n,_,hx⟩:=hx
  have hy:Y=.pointer none:=hy
  subst hx;subst hy;simp at h;subst h
  exact fin (by simp) (by simp) (fun d=>by simp [Op.equalIn,run_underlying' hs]) (by simp) (by simp) (by simp) (by simp)
 ·rename_i q l2 e2
  obtain ⟨e,hs⟩:=hs
  obtain ⟨_,hx⟩:=hx
  subst hx;simp at h;subst h
  cases q with
  |none=>obtain ⟨_,hy⟩:=hy;subst hy;exact fin (by simp) (by simp) (fun d=>by simp [Op.equalIn,run_underlying' hs]) (by simp) (by simp) (by simp) (by simp)
  |some q =>
   rcases hy with ⟨b,n,o',cap,_,hy,_⟩ | ⟨_,_,ad,hy⟩
   ·subst hy;exact fin (by simp) (by simp) (fun d=>by simp [Op.equalIn,run_underlying' hs]) (by simp) (by simp) (by simp) (by simp)
   ·subst hy;exact fin (by simp) (by simp) (fun d=>by simp [Op.equalIn,run_underlying' hs]) (by simp) (by simp) (by simp) (by simp)
 ·obtain ⟨e,hs⟩:=hs
  obtain ⟨_,hy⟩:=hy
  rcases hx with ⟨b,n,o',cap,_,hx,_⟩ | ⟨_,_,ad,hx⟩
  ·subst hx;subst hy;simp at h;subst h
   exact fin (by simp) (by simp) (fun d=>by simp [Op.equalIn,run_underlying' hs]) (by simp) (by simp) (by simp) (by simp)
  ·subst hx;subst hy;simp at h;subst h
   exact fin (by simp) (by simp) (fun d=>by simp [Op.equalIn,run_underlying' hs]) (by simp) (by simp) (by simp) (by simp)
 ·rename_i q
  obtain ⟨kk,e,hs⟩:=hs
  have hx:X=.map none:=hx
  subst hx;simp at h;subst h
  cases q with
  |none=>have hy:Y=.map none:=hy;subst hy;exact fin (by simp) (by simp) (fun d=>by simp [Op.equalIn,run_underlying' hs]) (by simp) (by simp) (by simp) (by simp)
  |some q=>obtain ⟨b,n,_,hy⟩:=hy;subst hy;exact fin (by simp) (by simp) (fun d=>by simp [Op.equalIn,run_underlying' hs]) (by simp) (by simp) (by simp) (by simp)
 ·obtain ⟨kk,e,hs⟩:=hs
  obtain ⟨b,n,_,hx⟩:=hx
  have hy:Y=.map none:=hy
  subst hx;subst hy;simp at h;subst h
  exact fin (by simp) (by simp) (fun d=>by simp [Op.equalIn,run_underlying' hs]) (by simp) (by simp) (by simp) (by simp)
 ·obtain ⟨ps,rs,vv,hs⟩:=hs
  have hx:X=.nilFunc:=hx
  have hy:Y=.nilFunc:=hy
  subst hx;subst hy;simp at h;subst h
  exact fin (by simp) (by simp) (fun d=>by simp [Op.equalIn,run_underlying' hs]) (by simp) (by simp) (by simp) (by simp)
 ·obtain ⟨ps,rs,vv,hs⟩:=hs
  have hx:X=.nilFunc:=hx
  obtain ⟨XX,CC,hy,_⟩:=hy
  subst hx;subst hy;simp at h;subst h
  exact fin (by simp) (by simp) (fun d=>by simp [Op.equalIn,run_underlying' hs]) (by simp) (by simp) (by simp) (by simp)
 ·obtain ⟨ps,rs,vv,hs⟩:=hs
  have hy:Y=.nilFunc:=hy
  obtain ⟨XX,CC,hx,_⟩:=hx
  subst hx;subst hy;simp at h;subst h
  exact fin (by simp) (by simp) (fun d=>by simp [Op.equalIn,run_underlying' hs]) (by simp) (by simp) (by simp) (by simp)
 ·obtain ⟨⟨ms,hs⟩,hc⟩:=hs
  have hx:X=.nilIface:=hx
  have hy:Y=.nilIface:=hy
  subst hx;subst hy;simp at h;subst h
  exact fin (by simp) (fun _ _=>hc) (fun d=>by simp [Op.equalIn,run_underlying' hs]) (by simp) (by simp) (by simp) (by simp)
 ·obtain ⟨⟨ms,hs⟩,hc⟩:=hs
  have hx:X=.nilIface:=hx
  obtain ⟨yy,hy,_⟩:=hy
  subst hx;subst hy;simp at h;subst h
  exact fin (by simp) (by simp) (fun d=>by simp [Op.equalIn,run_underlying' hs]) (by simp) (by simp) (by simp) (by simp)
 ·obtain ⟨⟨ms,hs⟩,hc⟩:=hs
  have hy:Y=.nilIface:=hy
  obtain ⟨yy,hx,_⟩:=hx
  subst hx;subst hy;simp at h;subst h
  exact fin (by simp) (by simp) (fun d=>by simp [Op.equalIn,run_underlying' hs]) (by simp) (by simp) (by simp) (by simp)
 ·cases h
theorem bound_rel {x:V} {X:Value} {y y' n:Nat} (h:boundB x y=some n) (hx:VR φ x X) (hy:y <= y') (c:BoundsCode):(Instr.sliceBound X y' c).run P w=.ok n w /\ n <= y:=by
 unfold boundB at h
 split at h
 ·rename_i k i
  have hx:X=.int k i:=hx
  subst hx
  split at h
  ·rename_i hr
   simp at h;subst h
   refine ⟨?_,by omega⟩
   simp only [Instr.sliceBound,asIntOf,pure_bind]
   rw [if_pos ⟨hr.1,by omega⟩];rfl
  ·cases h
 ·cases h
def OR (φ:Phi) (x:Option V) (X:Option Value):Prop:=(x=none /\ X=none) \/ ∃ u U,x=some u /\ X=some U /\ VR φ u U
theorem sliceB_rel {lo hi:Option V} {LO HI:Option Value} {len cap cap' l h:Nat} (hc:cap <= cap') (hb:sliceB lo hi len cap=some (l,h)) (hlo:OR φ lo LO) (hhi:OR φ hi HI) (b:Bool) :
  (Instr.sliceBounds b len cap' LO HI none).run P w=.ok (l,h,cap') w /\ l <= h /\ (h <= cap \/ h=len):=by
 have low:∀ {h0:Nat},loB lo h0=some (l,h) -> h=h0 /\ l <= h /\ ∀ w:World,
   (match LO with | some v=>Instr.sliceBound v h0 .sliceB | none=>(pure 0:Sem Nat)).run P w=.ok l w:=by
  intro h0 hh
  rcases hlo with ⟨rfl,rfl⟩ | ⟨u,U,rfl,rfl,hu⟩
  ·simp [loB] at hh;obtain ⟨rfl,rfl⟩:=hh;exact ⟨rfl,by omega,fun w=>rfl⟩
  ·simp only [loB] at hh
   split at hh
   ·rename_i l0 hl0
    simp at hh;obtain ⟨rfl,rfl⟩:=hh
    have:=bound_rel (P:=P) (w:=w) hl0 hu (Nat.le_refl _) .sliceB
    exact ⟨rfl,this.2,fun w=>(bound_rel (P:=P) (w:=w) hl0 hu (Nat.le_refl _) .sliceB).1⟩
   ·cases hh
 rcases hhi with ⟨rfl,rfl⟩ | ⟨u,U,rfl,rfl,hu⟩
 ·obtain ⟨rfl,hl,hrun⟩:=low hb
  refine ⟨?_,hl,.inr rfl⟩
  have:=hrun w
  cases LO <;> simp_all [Instr.sliceBounds]
 ·simp only [sliceB] at hb
  split at hb
  ·cases hb
  ·rename_i h0 hh0
   obtain ⟨rfl,hl,hrun⟩:=low hb
   have e:=bound_rel (P:=P) (w:=w) hh0 hu hc (if b then .sliceAcap else .sliceAlen)
   refine ⟨?_,hl,.inl e.2⟩
   have:=hrun w
   cases LO <;> simp_all [Instr.sliceBounds]
end AM
