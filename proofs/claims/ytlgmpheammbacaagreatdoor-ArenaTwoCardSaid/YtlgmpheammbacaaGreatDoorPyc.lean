import Derived.Test.YtlgmpheammbacaaGreatDoorPyb
import Derived.Scope
import Derived.Laws.LoneSync
set_option linter.all false
namespace AM
open Go Go.RowKit
variable {P:Program} {φ:TF} {tm:T V} {a:Act} {w:World} {w0:lK} {σ σ':St} {G B:Nat} {call:iB}
def DR(φ:TF):T4->List Deferred->Prop
 | [],m=>m=[]
 |(g,xs) ::r,m=>∃(a A:Array Value) (s:List Deferred),m={ target:=.fn (.func g) a,args:=A } ::s∧LR φ xs (A++a).toList∧DR φ r s
def DR.mono{φ a:TF}(h:φ.le a):∀{l:T4} {m:List Deferred},DR φ l m->DR a l m
 | [],m,k=>k
 |(g,xs) ::r,m,⟨cap,A,s,h1,h2,h3⟩=>⟨cap,A,s,h1,LR.mono h _ _ h2,DR.mono h h3⟩
structure FR (n:Nat) (φ:TF) (fr:Fr) (a:Act):Prop where
 ts:∀ t,VR φ ((fr.tmps.get t).getD .undef) (a.tmps.getD t Go.undef)
 size:n≤a.tmps.size
 ds:DR φ fr.defers a.defers
def FR.mono{n:Nat}{φ b:TF}(h:φ.le b){fr:Fr}{a:Act}(k:FR n φ fr a):FR n b fr a:=
 ⟨fun t=>VR.mono h _ _ (k.ts t),k.size,k.ds.mono h⟩
def FR.tr{n:Nat}{fr:Fr}(k:FR n φ fr a)(l:List Nat):TR φ fr.tmps a l:=fun t _=>k.ts t
def FN(n:Nat)(d:Option Nat):Prop:=∀t,d=some t->t<n
def FR.put{n:Nat}{fr:Fr}(k:FR n φ fr a){d:Option Nat}(hd:FN n d){v:V}{x:Value}(hv:VR φ v x){ds:T4}{b:List Deferred}(c:DR φ ds b):
  FR n φ ⟨gI fr.tmps d v,ds⟩ (({ a with defers:=b }:Act).put d x):=by
 cases d with
 |none=>exact⟨k.ts,k.size,c⟩
 |some d=>
  have f:d<a.tmps.size:=YY (hd d rfl) k.size;refine⟨fun t=>?_,by simp[Act.put];exact k.size,c⟩;simp only[gI,T.aJ,Act.put];by_cases e:t=d
  .subst e;rw[Ti rfl];have:(a.tmps.setIfInBounds t x).getD t Go.undef=x:=by simp[Array.getD,f]
   rw[this];exact hv
  rw[Tg e];have:(a.tmps.setIfInBounds d x).getD t Go.undef=a.tmps.getD t Go.undef:=by rw[ZD,ZD,abU (U2 e)]
  rw[this];exact k.ts t
def vD(G B:Nat)(w0:lK)(φ:TF)(σ':St)(v:V)(e:Ending)(w':World):Prop:=
 ∃a x,e=.returned x∧φ.le a∧T2 G B w0 a σ' w'∧VR a v x
structure iY (P:Program) (G:Nat) (call:iB):Prop where
 plain:∀ g xs σ v σ',call g xs σ=some (v,σ') -> ∀ B w0 φ w (args:Array Value),T2 G B w0 φ σ w -> LR φ xs args.toList →
  ((callFunc g args).run P w=.ok (.enter g args) w∧Calls P g args w (vD G B w0 φ σ' v)) ∨
  ∃ x w' φ',(callFunc g args).run P w=.ok (.value x) w'∧φ.le φ'∧T2 G B w0 φ' σ' w'∧VR φ' v x
structure BU (P:Program) (G:Nat) (call:iB):Prop where
 enter:∀ g xs σ v σ',call g xs σ=some (v,σ') -> ∀ args w,(callFunc g args).run P w=.ok (.enter g args) w
 acd:∀ g xs σ v σ',call g xs σ=some (v,σ') -> ∀ B w0 φ w (args:Array Value),T2 G B w0 φ σ w -> LR φ xs args.toList →
  CallsD P g args .returning w fun e u w'=>u=.returning∧vD G B w0 φ σ' v e w'
def Oper.lY{o:Oper}{x:Value}{w':World}{next:Act->World->Prop}{Q:Exit->Act->World->Prop}(h:(execOp a.eval o).run P w=.ok (.value x) w')(k:next (a.put o.dst x) w'):o.wp P a w next Q:=by unfold Oper.wp;rw[h];exact k
def Oper.acF{o:Oper}{w':World}{next:Act->World->Prop}{Q:Exit->Act->World->Prop}(h:(execOp a.eval o).run P w=.ok .skip w')(k:next (a.put o.dst Go.undef) w'):o.wp P a w next Q:=by unfold Oper.wp;rw[h];exact k
def Oper.Dc{o:Oper}{g:FuncId}{args:Array Value}{w':World}{next:Act->World->Prop}{Q:Exit->Act->World->Prop}(h:(execOp a.eval o).run P w=.ok (.enter g args) w'){v:V}(j:Calls P g args w' (vD G B w0 φ σ' v))(k:∀b x c,φ.le b->T2 G B w0 b σ' c->VR b v x->next (a.put o.dst x) c):o.wp P a w next Q:=by unfold Oper.wp;rw[h];refine Calls.mono j ?_;rintro e c ⟨b,x,rfl,d,f,i⟩;exact k b x c d f i
def Od(op:TL):Prop:=(∃g xs,op=.call g xs)∨(∃g xs,op=.YK g xs)∨(∃g xs,op=.defer g xs)∨(∃g xs,op=.Zx g xs)
def pD:TL->Bool
 | .call ..| .YK ..| .defer ..| .Zx ..=>true
 |_=>false
def Od.b{op:TL}(h:Od op):pD op=true:=by rcases h with⟨g,xs,rfl⟩|⟨g,xs,rfl⟩|⟨g,xs,rfl⟩|⟨g,xs,rfl⟩ <;> rfl
def ln{b:Builtin}{a:Array TypeId}{args:List Operand}{op:TL}(hg:Od op)(h:iJ P b a args=some op):False:=by
 have hg:=hg.b;unfold iJ at h
 repeat' (split at h)
 all_goals (first|(cases h;done)|(cases h;simp[pD]at hg))
def o7{dst:Option Tmp}{type:TypeId}{pos:String}{after:Array Edge}{guard:Option (Nat×Bool)}{o:Op}{op:TL}(hg:Od op)(e:∀c,o≠.call c)(f:∀c,o≠.defer c)(h:aN P ⟨dst,o,type,pos,after,guard⟩=some op):False:=by
 have hg:=hg.b;cases o with
 |call c=>exact e c rfl
 |defer c=>exact f c rfl
 |load t x=>simp only[aN,vz]at h;split at h <;> cases h;simp[pD]at hg
 |binOp op t x y j=>
  simp only[aN,Ea]at h
  repeat' (split at h)
  all_goals (first|(cases h;done)|(cases h;simp[pD]at hg))
 |slice t x lo hi g=>
  simp only[aN,qd]at h
  repeat' (split at h)
  all_goals (first|(cases h;done)|(cases h;simp[pD]at hg))
 |makeMap t r=>cases r <;> simp only[aN]at h <;> cases h;simp[pD]at hg
 |makeFunc a x c=>cases a <;> simp only[aN]at h <;> (try (cases h;done));split at h <;> cases h;simp[pD]at hg
 |move x=>simp only[aN]at h;split at h <;> cases h;simp[pD]at hg
 |assign x=>simp only[aN]at h;split at h <;> cases h;simp[pD]at hg
 |alloc t|box t x|build t ps|buildSlice t l ps|store t x y|nilCheck x|unOp u t x|convert s d x|makeSlice t l c|fieldAddr s x i|field t x i|indexAddr t x i|index t x i|lookup t m k ok|mapUpdate t m k x|extract x i|pick c x y=>
  simp only[aN]at h
  repeat' (split at h)
  all_goals (first|(cases h;done)|(cases h;simp[pD]at hg))
 |_=>simp[aN]at h
def uc{op:TL}{r:V×St}(h:bp op tm σ=some r):fp op=true:=by cases op <;> first|rfl|(simp[bp]at h)
def qy(E:iY P G call){o:Oper}{op:TL}{ds U:T4}{v:V}(e:aN P o=some op)(hv:Uh call op tm ds σ=some (v,U,σ'))(ap:G=P.globals.size)(M:TR φ tm a op.tmps)(I:DR φ ds a.defers)(L:T2 G B w0 φ σ w){next:Act->World->Prop}{Q:Exit->Act->World->Prop}(k:∀l x w' al,φ.le l->T2 G B w0 l σ' w'->VR l v x->DR l U al->next (({ a with defers:=al }:Act).put o.dst x) w'):o.wp P a w next Q:=by
 have K:GR P φ:=fun g hg=>(L.Xn g acG).2
 unfold Uh at hv;split at hv
 .rename_i hp;split at hv
  .rename_i u hu;simp only[TC,TU]at hv;obtain⟨rfl,rfl,rfl⟩:=hv;obtain⟨x,hx,t⟩:=Ep (w:=w) e hp hu K M;exact Oper.lY hx (k φ x w a.defers (TF.le.refl _) L t I)
  cases hv
 split at hv
 .rename_i hp;split at hv
  .rename_i u hu;simp only[TC,TU]at hv;obtain⟨rfl,rfl,rfl⟩:=hv;obtain⟨x,hx,t⟩:=EJ (w:=w) e hp hu K M L;exact Oper.lY hx (k φ x w a.defers (TF.le.refl _) L t I)
  cases hv
 have R:fp op=true->∀{r},bp op tm σ=some r->some (r.1,ds,r.2)=some (v,U,σ')->o.wp P a w next Q:=by
  intro hw r O J;simp only[TC,TU]at J;obtain⟨rfl,rfl,rfl⟩:=J;obtain⟨x,w',l,n,N,am,t⟩:=Dt (w:=w) e hw O K M L;rcases n with n|⟨n,rfl⟩
  .exact Oper.lY n (k l x w' a.defers N am t (I.mono N))
  exact Oper.acF n (k l Go.undef w' a.defers N am t (I.mono N))
 obtain⟨dst,p,S,pos,A,guard⟩:=o;split at hv
 ·
  rename_i g xs _ _;split at hv
  .rename_i u ao Z;simp only[TC,TU]at hv;obtain⟨rfl,rfl,rfl⟩:=hv;have j:∃d:Array Operand, ∃i,p=.call ⟨.value (.func g),d,i⟩∧XE P d.toList=some xs:=by
    cases p with
    |call c=>
     obtain⟨h,d,i⟩:=c;cases h with
     |value f=>
      simp only[aN]at e;split at e
      .rename_i ys s;split at e
       .cases e;exact⟨d,i,rfl,s⟩
       split at e <;> cases e
      cases e
     |invoke r m=>simp[aN]at e
     |builtin b=>simp only[aN]at e;exact(ln (.inl ⟨g,xs,rfl⟩) e).elim
    |defer c=>
     obtain⟨h,d,i⟩:=c;cases h with
     |value f=>
      simp only[aN]at e;split at e
      .split at e
       .cases e
       split at e <;> cases e
      cases e
     |invoke r m=>simp[aN]at e
     |builtin b=>simp[aN]at e
    |_=>exact(o7 (.inl ⟨g,xs,rfl⟩) Y Y e).elim
   obtain⟨d,i,rfl,q⟩:=j;have O:=jo (tm:=tm) (a:=a) K q M;have ad:LR φ (xs.map (·.eval tm)) (d.map a.eval).toList:=by simpa using O
   rcases E.plain g _ σ _ _ Z B w0 φ w _ L ad with⟨J,ac⟩|⟨x,w',l,J,D,W,X⟩
   .refine Oper.Dc (g:=g) (args:=d.map a.eval) (w':=w) ?_ ac (fun l x ah D W X=>k l x ah a.defers D W X (I.mono D));simp[execOp,resolve,Deferred.ofValue,Act.eval,invoke,J]
   refine Oper.lY (x:=x) (w':=w') ?_ (k l x w' a.defers D W X (I.mono D));simp[execOp,resolve,Deferred.ofValue,Act.eval,invoke,J]
  cases hv
 ·
  rename_i g xs _ _;split at hv
  .rename_i f first T hf;split at hv
   .rename_i u ao Z;simp only[TC,TU]at hv;obtain⟨rfl,rfl,rfl⟩:=hv;have j:∃(y:Operand) (d:Array Operand), ∃i,p=.call ⟨.value y,d,i⟩∧UT P y=some g∧XE P d.toList=some xs:=by
     cases p with
     |call c=>
      obtain⟨h,d,i⟩:=c;cases h with
      |value y=>
       simp only[aN]at e;split at e
       .rename_i ys s;split at e
        .cases e
        split at e
        .rename_i z hz;cases e;exact⟨y,d,i,rfl,hz,s⟩
        cases e
       cases e
      |invoke r m=>simp[aN]at e
      |builtin b=>simp only[aN]at e;exact(ln (.inr (.inl ⟨g,xs,rfl⟩)) e).elim
     |defer c=>
      obtain⟨h,d,i⟩:=c;cases h with
      |value f=>
       simp only[aN]at e;split at e
       .split at e
        .cases e
        split at e <;> cases e
       cases e
      |invoke r m=>simp[aN]at e
      |builtin b=>simp[aN]at e
     |_=>exact(o7 (.inr (.inl ⟨g,xs,rfl⟩)) Y Y e).elim
    obtain⟨y,d,i,rfl,hy,q⟩:=j;have H:=bE (tm:=tm) (a:=a) K hy M.left;have O:=jo (tm:=tm) (a:=a) K q M.right;rw[hf]at H;obtain⟨F,C,hF,ag,af⟩:=H;have ad:LR φ (first++xs.map (·.eval tm)++T) (F++d.map a.eval++C).toList:=by simp only[Array.toList_append,aau];exact LR.append (LR.append ag O) af
    rcases E.plain f _ σ _ _ Z B w0 φ w _ L ad with⟨J,ac⟩|⟨x,w',l,J,D,W,X⟩
    .refine Oper.Dc (g:=f) (args:=F++d.map a.eval++C) (w':=w) ?_ ac (fun l x ah D W X=>k l x ah a.defers D W X (I.mono D));simp only[execOp,resolve,Deferred.ofValue,hF,invoke,Wn,Ys,VQ];exact J
    refine Oper.lY (x:=x) (w':=w') ?_ (k l x w' a.defers D W X (I.mono D));simp only[execOp,resolve,Deferred.ofValue,hF,invoke,Wn,Ys,VQ];exact J
   cases hv
  cases hv
 ·
  rename_i g xs _ _;simp only[TC,TU]at hv;obtain⟨rfl,rfl,rfl⟩:=hv;have j:∃d:Array Operand, ∃i,p=.defer ⟨.value (.func g),d,i⟩∧XE P d.toList=some xs:=by
   cases p with
   |defer c=>
    obtain⟨h,d,i⟩:=c;cases h with
    |value f=>
     simp only[aN]at e;split at e
     .rename_i ys s;split at e
      .cases e;exact⟨d,i,rfl,s⟩
      split at e <;> cases e
     cases e
    |invoke r m=>simp[aN]at e
    |builtin b=>simp[aN]at e
   |call c=>
    obtain⟨h,d,i⟩:=c;cases h with
    |value f=>
     simp only[aN]at e;split at e
     .split at e
      .cases e
      split at e <;> cases e
     cases e
    |invoke r m=>simp[aN]at e
    |builtin b=>simp only[aN]at e;exact(ln (.inr (.inr (.inl ⟨g,xs,rfl⟩))) e).elim
   |_=>exact(o7 (.inr (.inr (.inl ⟨g,xs,rfl⟩))) Y Y e).elim
  obtain⟨d,i,rfl,q⟩:=j;have O:=jo (tm:=tm) (a:=a) K q M;have hd:DR φ ((g,xs.map (·.eval tm)) ::ds) ({ target:=.fn (.func g) #[],args:=d.map a.eval } ::a.defers):=
   ⟨#[],d.map a.eval,a.defers,rfl,by simpa using O,I⟩
  unfold Oper.wp;have:(execOp a.eval ⟨dst,.defer ⟨.value (.func g),d,i⟩,S,pos,A,guard⟩).run P w=.ok (.defer { target:=.fn (.func g) #[],args:=d.map a.eval }) w:=by simp[execOp,resolve,Deferred.ofValue,Act.eval]
  rw[this];exact k φ Go.undef w _ (TF.le.refl _) L VR.undef hd
 ·
  rename_i g xs _ _;split at hv
  .rename_i f first T hf;simp only[TC,TU]at hv;obtain⟨rfl,rfl,rfl⟩:=hv;have j:∃(y:Operand) (d:Array Operand), ∃i,p=.defer ⟨.value y,d,i⟩∧UT P y=some g∧XE P d.toList=some xs:=by
    cases p with
    |defer c=>
     obtain⟨h,d,i⟩:=c;cases h with
     |value y=>
      simp only[aN]at e;split at e
      .rename_i ys s;split at e
       .cases e
       split at e
       .rename_i z hz;cases e;exact⟨y,d,i,rfl,hz,s⟩
       cases e
      cases e
     |invoke r m=>simp[aN]at e
     |builtin b=>simp[aN]at e
    |call c=>
     obtain⟨h,d,i⟩:=c;cases h with
     |value y=>
      simp only[aN]at e;split at e
      .split at e
       .cases e
       split at e <;> cases e
      cases e
     |invoke r m=>simp[aN]at e
     |builtin b=>simp only[aN]at e;exact(ln (.inr (.inr (.inr ⟨g,xs,rfl⟩))) e).elim
    |_=>exact(o7 (.inr (.inr (.inr ⟨g,xs,rfl⟩))) Y Y e).elim
   obtain⟨y,d,i,rfl,hy,q⟩:=j;have H:=bE (tm:=tm) (a:=a) K hy M.left;have O:=jo (tm:=tm) (a:=a) K q M.right;rw[hf]at H;obtain⟨F,C,hF,ag,af⟩:=H;have hd:DR φ ((f,first++xs.map (·.eval tm)++T) ::ds) ({ target:=.fn (.func f) C,args:=F++d.map a.eval } ::a.defers):=
    ⟨C,F++d.map a.eval,a.defers,rfl,by simp only[Array.toList_append,aau];exact LR.append (LR.append ag O) af,I⟩
   unfold Oper.wp;have:(execOp a.eval ⟨dst,.defer ⟨.value y,d,i⟩,S,pos,A,guard⟩).run P w=.ok (.defer { target:=.fn (.func f) C,args:=F++d.map a.eval }) w:=by simp[execOp,resolve,Deferred.ofValue,hF]
   rw[this];exact k φ Go.undef w _ (TF.le.refl _) L VR.undef hd
  cases hv
 rename_i op ar as av ax;split at hv
 .rename_i u ao hw;refine R ?_ hw (by simpa using hv);exact uc hw
 cases hv
def xA{n:Nat}{ops:Array Oper}{o:Oper}{z:eY}(r:kQ P n ops o=some z)(ht:∀t∈(match z.guard with|some (t,_)=>[t]|none=>[]),VR φ ((tm.get t).getD .undef) (a.tmps.getD t Go.undef)):
  Region.wanted o (yielded ops a.tmps)=eJ z.guard tm:=by
 unfold kQ at r;split at r
 .split at r
  .cases r
  split at r
  .rename_i hg;cases r;simp[Region.wanted,hg,eJ]
  rename_i j b hg;split at r
  .rename_i t D;cases r;have g:=ht t Y;simp only[Region.wanted,hg,eJ,yielded,D,Option.bind_some];have p:∀c,a.tmps[t]?=some (.bool c)↔tm.get t=some (.bool c):=by
    intro c;constructor
    .intro h;have A:a.tmps.getD t Go.undef=.bool c:=by rw[ZD,h];rfl
     rw[A]at g;cases i:tm.get t with
     |none=>rw[i]at g;obtain⟨C,B,_⟩:=g;cases B
     |some u=>
      rw[i]at g;simp only[Xc]at g;cases u with
      |bool d=>have:Value.bool c=Value.bool d:=g;cases this;rfl
      |int k m=>cases g
      |WJ s=>obtain⟨E,h,_⟩:=g;cases h
      |ptr q=>cases q with|none=>cases g|some q=>obtain⟨_,_,_,h⟩:=g;cases h
      |slice q l e=>cases q with|none=>cases g.2|some q=>(rcases g with⟨_,_,_,_,_,h,_⟩|⟨_,_,_,h⟩ <;> cases h)
      |map q=>cases q with|none=>cases g|some q=>obtain⟨_,_,_,h⟩:=g;cases h
      |func f x y=>obtain⟨_,_,h,_⟩:=g;cases h
      |nilFunc=>cases g
      |iface t v=>obtain⟨_,h,_⟩:=g;cases h
      |nilIface=>cases g
      |agg cs=>obtain⟨_,h,_⟩:=g;cases h
      |tuple cs=>obtain⟨_,h,_⟩:=g;cases h
    intro h;rw[h]at g;have g:a.tmps.getD t Go.undef=.bool c:=g;rw[ZD]at g;cases w:a.tmps[t]? with
    |none=>rw[w]at g;simp[Go.undef]at g
    |some u=>rw[w]at g;simp at g;rw[g]
   cases i:tm.get t with
   |none=>
    have:∀c,a.tmps[t]?≠some (.bool c):=fun c h=>by have:=(p c).1 h;rw[i]at this;cases this
    cases w:a.tmps[t]? with
    |none=>simp
    |some u=>cases u <;> simp_all
   |some u=>
    cases u with
    |bool c=>rw[(p c).2 i];simp
    |_=>
     have:∀c,a.tmps[t]?≠some (.bool c):=fun c h=>by have:=(p c).1 h;rw[i]at this;cases this
     cases w:a.tmps[t]? with
     |none=>simp
     |some u=>cases u <;> simp_all
  cases r
 cases r
end AM
namespace AM
open Go Go.RowKit
variable {P:Program} {φ:TF} {tm:T V} {a:Act} {w:World} {w0:lK} {σ σ':St} {G B:Nat} {call:iB}
def pH{n:Nat}{ops:Array Oper}{o:Oper}{d:eY}(a:kQ P n ops o=some d):aN P o=some d.op∧d.dst=o.dst∧FN n o.dst:=by
 unfold kQ at a;split at a
 .rename_i hd;have b:FN n o.dst:=by intro t ht;rw[ht]at hd;simpa [BZ]using hd
  split at a
  .cases a
  rename_i op c;split at a
  .cases a;exact⟨c,rfl,b⟩
  split at a
  .cases a;exact⟨c,rfl,b⟩
  cases a
 cases a
def kq(b:iY P G call)(g:G=P.globals.size){n:Nat}{ops:Array Oper}:∀(l:List Oper) (al:List eY),fI P n ops l=some al->∀{fr Tw:Fr} {σ σ':St},fM call al fr σ=some (Tw,σ') →
  ∀{φ:TF} {a:Act} {w:World},T2 G B w0 φ σ w->FR n φ fr a->∀{Q:Exit->Act->World->Prop},(∀e m w',φ.le e->T2 G B w0 e σ' w'->FR n e Tw m->Q .normal m w')->wpList P ops Q l a w
 | [],al,hc,fr,Tw,σ,σ',hr,φ,a,w,hR,hF,Q,hQ=>by simp[fI]at hc;subst hc;simp[fM]at hr;obtain⟨rfl,rfl⟩:=hr;exact hQ φ a w (TF.le.refl _) hR hF
 |o ::r,al,hc,fr,Tw,σ,σ',hr,φ,a,w,hR,hF,Q,hQ=>by
  simp only[fI]at hc;split at hc
  .rename_i H h A k;simp at hc;subst hc;obtain⟨D,y,z⟩:=pH A;have hw:=xA (tm:=fr.tmps) (a:=a) A (fun t _=>hF.ts t);simp only[fM]at hr;unfold wpList;rw[hw];split at hr
   .rename_i c;rw[Ti c];left;split at hr
    .rename_i v ds E s;refine qy b D s g (hF.tr _) hF.ds hR ?_;intro F x I C i p u q;have f:=(hF.mono i).put (d:=o.dst) z u q;rw[y]at hr;exact kq b g r h k hr p f (fun e m w' j=>hQ e m w' (i.trans j))
    cases hr
   rename_i c;rw[Tg c];have f:=hF.put (d:=o.dst) z VR.undef hF.ds;rw[y]at hr;exact kq b g r h k hr hR f hQ
  cases hc
def Jo:Ex->Exit
 | .normal=>.normal
 | .exit id=>.exit id
 | .goto l=>.goto l
 | .ret=>.ret
def Zs(b:Frame)(cs:List Frame):Prop:=∀fr:Frame,fr.kind=b.kind->tryRecover fr cs=none
def iF(P:Program)(G B:Nat)(w0:lK)(n:Nat)(φ:TF)(ex:Ex)(Tw:Fr)(σ':St)(m:Machine)(b:Frame)(k:List Item)(cs:List Frame):Prop:=
 ∃c d a,φ.le a∧T2 G B w0 a σ' d∧FR n a Tw c∧Arrives P m b k cs (Jo ex) c d
def iF.of_steps{n:Nat}{ex:Ex}{Tw:Fr}{m d:Machine}{b:Frame}{k:List Item}{cs:List Frame}(h:Steps P m d)(c:iF P G B w0 n φ ex Tw σ' d b k cs):iF P G B w0 n φ ex Tw σ' m b k cs:=by obtain⟨e,l,a,f,g,i,j⟩:=c;exact⟨e,l,a,f,g,i,Arrives.of_steps h j⟩
def iF.mono{n:Nat}{d:TF}{ex:Ex}{Tw:Fr}{m:Machine}{b:Frame}{k:List Item}{cs:List Frame}(h:φ.le d)(c:iF P G B w0 n d ex Tw σ' m b k cs):iF P G B w0 n φ ex Tw σ' m b k cs:=by obtain⟨e,i,a,f,g⟩:=c;exact⟨e,i,a,h.trans f,g⟩
def iF.pass{n:Nat}{ex:Ex}{Tw:Fr}{m:Machine}{b:Frame}{x:Item}{k:List Item}{cs:List Frame}(hx:x.plain=true)(i:ex≠.normal)(c:iF P G B w0 n φ ex Tw σ' m b (x ::k) cs):iF P G B w0 n φ ex Tw σ' m b k cs:=by obtain⟨d,j,a,e,f,g,h⟩:=c;exact⟨d,j,a,e,f,g,Arrives.pass hx (fun _ _=>.inl (by cases ex <;> simp_all[Jo])) h⟩
def pS{n:Nat}{c:Code}{Tw:Fr}(h:c.wp P (fun e f w'=>e=.normal∧∃d,φ.le d∧T2 G B w0 d σ' w'∧FR n d Tw f) a w)(b:Frame)(k:List Item)(cs:List Frame):
  iF P G B w0 n φ .normal Tw σ' (lone (b.at a (.code c ::k)) cs w) b k cs:=by
 obtain⟨e,f,w',⟨rfl,d,g,i,j⟩,l⟩:=h b k cs;exact⟨f,w',d,g,i,j,l⟩
def kI(n:Nat):∀(c:Code) (l:Nat),findLabel (comp P n c) l=(Go.findLabel c l).map (comp P n)
 | .seq x y,l=>by simp only[comp,findLabel,Go.findLabel,kI n x l,kI n y l];cases Go.findLabel x l <;> simp[comp]
 | .label l',l=>by simp only[comp,findLabel,Go.findLabel];split <;> simp[comp]
 | .region id ops d,l=>by
  simp only[comp,Go.findLabel]
  repeat' (split)
  all_goals simp[findLabel]
 | .cond c x y,l=>by simp only[comp,Go.findLabel];split <;> simp[findLabel]
 | .skip,l| .block _ _,l| .loop _,l| .rangeFunc ..,l| .exit _,l| .scope _,l| .goto _,l| .ret,l| .refuse _,l=>by simp[comp,findLabel,Go.findLabel]
end AM
namespace AM
open Go Go.RowKit
variable {P:Program} {φ:TF} {tm:T V} {a:Act} {w:World} {w0:lK} {σ σ':St} {G B:Nat} {call:iB} {L:List pG}
def pd(P:Program)(G:Nat)(call:iB):Prop:=
 ∀n id c d,rM P n c=some d->∀fr Tw σ σ',jM call d fr σ=some (Tw,σ')->∀B w0 φ a w,T2 G B w0 φ σ w->FR n φ fr a →
  (Code.region id c true).wp P (fun e f g=>e=.normal∧∃b,φ.le b∧T2 G B w0 b σ' g∧FR n b Tw f) a w
def Ar{ops:Array Oper}{o:Oper}{rest:List Nat}{b:Frame}{k:List Item}{cs:List Frame}(l:ops[0]?=some o)(f:pa o=true)(hg:o.guard.isNone=true)(m:Zs b cs):
  step P (lone (b.at a (.inRegion ops (0 ::rest) ::k)) cs w)=.next (lone (b.at (a.put o.dst .nilIface) (.inRegion ops rest ::k)) cs w):=by
 have hw:Region.wanted o (yielded ops a.tmps)=true:=by
  have:o.guard=none:=by cases h:o.guard <;> simp_all
  simp[Region.wanted,this]
 have g:(execOp a.eval o).run P w=.ok .recover w:=by
  unfold pa at f;split at f
  .rename_i c n;split at f
   .rename_i d;simp[execOp,n,resolve,d,invoke,builtin]
   cases f
  cases f
 have j:=stepG_op (P:=P) (b:=b) (a:=a) (k:=k) (cs:=cs) (w:=w) (rest:=rest) l hw;have i:tryRecover (b.at a (.inRegion ops (0 ::rest) ::k)) cs=none:=m _ rfl;have e:(b.at a (.inRegion ops (0 ::rest) ::k)).finish .nilIface=b.at (a.put o.dst .nilIface) (.inRegion ops rest ::k):=by rw[Frame.finish_at,l];rfl
 refine step_lone_go ?_;rw[j, <- e];simp only[Frame.at]at i⊢;simp[stepG.apply,g,i]
def xY(g:iY P G call)(y:G=P.globals.size){n:Nat}{id:Nat}{ops:Array Oper}{o:Oper}{r:List Oper}{al:List eY}(f:ops.toList=o ::r)(K:pa o=true)(hg:o.guard.isNone=true)(hd:BZ n o.dst=true)(I:fI P n ops r=some al){fr Tw:Fr}(l:fM call al ⟨gI fr.tmps o.dst .nilIface,fr.defers⟩ σ=some (Tw,σ'))(F:T2 G B w0 φ σ w)(D:FR n φ fr a){b:Frame}{k:List Item}{cs:List Frame}(H:Zs b cs):iF P G B w0 n φ .normal Tw σ' (lone (b.at a (.code (.region id ops false) ::k)) cs w) b k cs:=by
 have C:ops.size=r.length+1:=by have:=Uj List.length f;simpa using this
 have J:ops[0]?=some o:=by have:=Uj (·[0]?) f;simpa using this
 have A:FN n o.dst:=by intro t ht;rw[ht]at hd;simpa [BZ]using hd
 have u:=D.put (d:=o.dst) A (v:=.nilIface) (x:=.nilIface) rfl D.ds;have m:=kq g y (ops:=ops) r al I l F u (Q:=fun e h i=>e=.normal∧∃c,φ.le c∧T2 G B w0 c σ' i∧FR n c Tw h) (fun c h i p q s=>⟨rfl,c,p,q,s⟩);have z:=wpOps_eq_wpList (P:=P) (ops:=ops) (Q:=fun e h i=>e=.normal∧∃c,φ.le c∧T2 G B w0 c σ' i∧FR n c Tw h) r 1 (fun j=>by
  have:=Uj (·[j+1]?) f;simp at this;rw[aaI 1 j,this])
 rw[<- z]at m;obtain⟨e,h,i,⟨rfl,c,p,q,s⟩,E⟩:=wp_ops (P:=P) _ _ _ m b k cs;refine⟨h,i,c,p,q,s,?_⟩;refine Arrives.of_steps (.one step_region) ?_;rw[List.range_eq_range',C,Ya];exact Arrives.of_steps (.one (Ar J K hg H)) E
def CU{n:Nat}{c:Code}{fuel:Nat}(F:∀(y:Code) {ex:Ex} {fr Tw:Fr} {σ σ':St},T7 call L fuel (comp P n y) fr σ=some (ex,Tw,σ')->∀{φ:TF} {a:Act} {w:World},T2 G B w0 φ σ w->FR n φ fr a →
   ∀{b:Frame} {k:List Item} {cs:List Frame},Zs b cs->iF P G B w0 n φ ex Tw σ' (lone (b.at a (.code y ::k)) cs w) b k cs):
  ∀(m l:Nat) {ex:Ex} {fr Tw:Fr} {σ σ':St},T7.scopeLoop (T7 call L fuel) (comp P n c) m l fr σ=some (ex,Tw,σ')->∀{φ:TF} {a:Act} {w:World},T2 G B w0 φ σ w->FR n φ fr a →
   ∀{b:Frame} {k:List Item} {cs:List Frame},Zs b cs->∀M:Machine,(∀q,gotoIn l (.inScope c ::k)=some q->Steps P M (lone (b.at a q) cs w)) →
    iF P G B w0 n φ ex Tw σ' M b k cs:=by
 intro m;induction m with
 |zero=>intro l ex fr Tw σ σ' h;simp[T7.scopeLoop]at h
 |succ m v=>
  intro l ex fr Tw σ σ' h φ a w C z b k cs D M A;simp only[T7.scopeLoop,kI]at h;cases o:Go.findLabel c l with
  |none=>
   rw[o]at h;simp at h;obtain⟨rfl,rfl,rfl⟩:=h;refine⟨a,w,φ,TF.le.refl _,C,z,?_⟩;intro q f;exact A q (by simp[gotoIn,o,f])
  |some g=>
   rw[o]at h;simp only[Xd]at h;have d:=A (.code g :: .inScope c ::k) (by simp[gotoIn,o]);cases hx:T7 call L fuel (comp P n g) fr σ with
   |none=>rw[hx]at h;cases h
   |some Wl=>
    obtain⟨u,E,I⟩:=Wl;rw[hx]at h;obtain⟨t,x,r,p,j,i,e⟩:=F g hx C z (b:=b) (k:=.inScope c ::k) D;cases u with
    |goto H=>
     simp only at h;exact iF.mono p (v H h j i D M (fun q f=>d.trans (e q f)))
    |normal=>
     simp at h;obtain⟨rfl,rfl,rfl⟩:=h;exact⟨t,x,r,p,j,i,d.trans (ZP e (.one step_inScope))⟩
    |exit id=>
     simp at h;obtain⟨rfl,rfl,rfl⟩:=h;exact⟨t,x,r,p,j,i,fun q f=>d.trans (e q (by simp[exitTo,f]))⟩
    |ret=>
     simp at h;obtain⟨rfl,rfl,rfl⟩:=h;obtain⟨s,hs⟩:=e;exact⟨t,x,r,p,j,i,s,d.trans hs⟩
def lZ{d:Type}{f:d->d->Bool}(c:∀a b,f a b=true->a=b):∀(x y:T d),pK f x y=true->x=y
 | .nil,y,h=>by cases y <;> simp_all[pK]
 | .node v l r,y,h=>by
  cases y with
  |nil=>simp[pK]at h
  |node m j k=>
   simp only[pK,Vs]at h;obtain⟨⟨e,g⟩,i⟩:=h;rw[lZ c l j g,lZ c r k i];cases v <;> cases m <;> simp_all
   exact c _ _ e
def Cl:∀(x y:List (V×V)),yU x y=true->x=y
 | [],y,h=>by cases y <;> simp_all[yU]
 |(a,b) ::r,y,h=>by
  cases y with
  |nil=>simp[yU]at h
  |cons c s=>
   obtain⟨c,d⟩:=c;simp only[yU,Vs]at h;rw[jX a c h.1.1,jX b d h.1.2,Cl r s h.2]
def Cr:∀(x y:List Nat),yW x y=true->x=y
 | [],y,h=>by cases y <;> simp_all[yW]
 |a ::r,y,h=>by
  cases y with
  |nil=>simp[yW]at h
  |cons c s=>
   simp only[yW,Vs,Zv]at h;rw[h.1,Cr r s h.2]
def DD(x y:Obj)(h:Gp x y=true):x=y:=by
 cases x <;> cases y <;> simp[Gp]at h
 .obtain⟨⟨⟨⟨rfl,rfl⟩,rfl⟩,a⟩,b⟩:=h;rw[jr _ _ a,lZ jX _ _ b]
 .rw[Cl _ _ h]
 rfl
def yJ(x y:St)(h:Ap x y=true):x=y:=by obtain⟨a,b,c⟩:=x;obtain⟨f,g,i⟩:=y;simp only[Ap,Vs,Zv]at h;obtain⟨⟨rfl,d⟩,e⟩:=h;rw[lZ DD _ _ d,lZ Cr _ _ e]
def JI(P:Program)(G:Nat)(m:pG):Prop:=
 ∀n (x:Code),comp P n x=m.b->∀B w0 φ a w,T2 G B w0 φ m.σ w->FR n φ m.fr a->∀(b:Frame) (k:List Item) (cs:List Frame),Zs b cs →
  iF P G B w0 n φ m.ex m.Tw m.σ' (lone (b.at a (.code x :: .inLoop x ::k)) cs w) b k cs
def mR(P:Program)(G:Nat)(L:List pG):Prop:=∀m∈L,JI P G m
def yS:∀(x y:T4),sQ x y=true->x=y
 | [],y,h=>by cases y <;> simp_all[sQ]
 |(f,a) ::r,y,h=>by
  cases y with
  |nil=>simp[sQ]at h
  |cons c s=>
   obtain⟨g,b⟩:=c;simp only[sQ,Vs,Zv]at h;rw[h.1.1,jr a b h.1.2,yS r s h.2]
def GK(x y:Fr)(h:D6 x y=true):x=y:=by obtain⟨a,b⟩:=x;obtain⟨c,d⟩:=y;simp only[D6,Vs]at h;rw[lZ jX _ _ h.1,yS _ _ h.2]
def wg:∀{L:List pG} {b:AC} {fr Tw:Fr} {σ σ':St} {ex:Ex},mR P G L->ki L b fr σ=some (ex,Tw,σ')->JI P G ⟨b,fr,σ,ex,Tw,σ'⟩
 | [],b,fr,Tw,σ,σ',ex,hL,h=>by simp[ki]at h
 |m ::r,b,fr,Tw,σ,σ',ex,hL,h=>by
  simp only[ki]at h;split at h
  .rename_i a;simp only[Vs,Xg]at a;obtain⟨_,c,d,e⟩:=a;simp at h;obtain⟨rfl,rfl,rfl⟩:=h;rw[<- e, <- GK _ _ c, <- yJ _ _ d];exact hL m Y
  exact wg (fun m f=>hL m (by simp[f])) h
def EI(F:iY P G call)(hL:mR P G L)(U:pd P G call)(W:G=P.globals.size){n:Nat}:∀(f:Nat) (c:Code) {ex:Ex} {fr Tw:Fr} {σ σ':St},T7 call L f (comp P n c) fr σ=some (ex,Tw,σ') →
  ∀{φ:TF} {a:Act} {w:World},T2 G B w0 φ σ w->FR n φ fr a->∀{b:Frame} {k:List Item} {cs:List Frame},Zs b cs->iF P G B w0 n φ ex Tw σ' (lone (b.at a (.code c ::k)) cs w) b k cs:=by
 intro f;induction f using Nat.strongRecOn with
 |_ f S=>
  intro c ex fr Tw σ σ' h φ a w u s b k cs K;cases f with
  |zero=>simp[T7]at h
  |succ f=>
   cases c with
   |skip=>
    simp[comp,T7]at h;obtain⟨rfl,rfl,rfl⟩:=h;exact⟨a,w,φ,TF.le.refl _,u,s,.one step_skip⟩
   |label l=>
    simp[comp,T7]at h;obtain⟨rfl,rfl,rfl⟩:=h;exact⟨a,w,φ,TF.le.refl _,u,s,.one step_label⟩
   |exit id=>
    simp[comp,T7]at h;obtain⟨rfl,rfl,rfl⟩:=h;exact⟨a,w,φ,TF.le.refl _,u,s,fun R O=>.one (step_exit O)⟩
   |goto l=>
    simp[comp,T7]at h;obtain⟨rfl,rfl,rfl⟩:=h;exact⟨a,w,φ,TF.le.refl _,u,s,fun R O=>.one (step_goto O)⟩
   |ret=>
    simp[comp,T7]at h;obtain⟨rfl,rfl,rfl⟩:=h;exact⟨a,w,φ,TF.le.refl _,u,s,_,.one step_ret⟩
   |refuse ap=>simp[comp,T7]at h
   |rangeFunc f' ps as bd=>simp[comp,T7]at h
   |region id V d=>
    simp only[comp]at h;cases d with
    |true=>
     simp only[TT]at h;split at h
     .rename_i dl af;simp only[T7]at h;split at h
      .rename_i A C H;simp at h;obtain⟨rfl,rfl,rfl⟩:=h;exact pS (U n id V dl af fr A σ C H B w0 φ a w u s) b k cs
      cases h
     simp[T7]at h
    |false=>
     simp only[U5,Ul]at h;split at h
     .rename_i o r D;split at h
      .rename_i T;obtain⟨h1,h2,h3⟩:=T;split at h
       .rename_i al M;simp only[T7]at h;split at h
        .rename_i A C H;simp at h;obtain⟨rfl,rfl,rfl⟩:=h;exact xY F W D h1 h2 h3 M H u s K
        cases h
       simp[T7]at h
      split at h
      .rename_i al M;simp only[T7]at h;split at h
       .rename_i A C H;simp at h;obtain⟨rfl,rfl,rfl⟩:=h;rw[<- D]at M;exact pS (wp_region_list (kq F W (ops:=V) V.toList al M H u s (fun ao a' w' h1 h2 h3=>⟨rfl,ao,h1,h2,h3⟩))) b k cs
       cases h
      simp[T7]at h
     rename_i D;simp[T7,fM]at h;obtain⟨rfl,rfl,rfl⟩:=h;refine pS (wp_region_list ?_) b k cs;rw[D];exact⟨rfl,φ,TF.le.refl _,u,s⟩
   |seq x y=>
    simp only[comp,T7]at h;cases hx:T7 call L f (comp P n x) fr σ with
    |none=>rw[hx]at h;cases h
    |some Wl=>
     obtain⟨z,A,C⟩:=Wl;rw[hx]at h;have v:=S f Q x hx u s (b:=b) (k:=.code y ::k) K;cases z with
     |normal=>
      simp only at h;obtain⟨E,J,q,p,j,i,e⟩:=v;have ad:=S f Q y h j i (b:=b) (k:=k) K;exact iF.of_steps (.head step_seq e) (iF.mono p ad)
     |exit id=>
      simp at h;obtain⟨rfl,rfl,rfl⟩:=h;exact iF.of_steps (.one step_seq) (iF.pass rfl Y v)
     |goto l=>
      simp at h;obtain⟨rfl,rfl,rfl⟩:=h;exact iF.of_steps (.one step_seq) (iF.pass rfl Y v)
     |ret=>
      simp at h;obtain⟨rfl,rfl,rfl⟩:=h;exact iF.of_steps (.one step_seq) (iF.pass rfl Y v)
   |cond c x y=>
    simp only[comp]at h;split at h
    .rename_i c' ac;simp only[T7]at h;split at h
     .rename_i t ht;have hG:GR P φ:=fun g hg=>(u.Xn g Q).2
      have Z:=bE (tm:=fr.tmps) (a:=a) hG ac (s.tr _);rw[ht]at Z;have Z:a.eval c=.bool t:=Z;refine iF.of_steps (.one (step_cond Z)) ?_;cases t with
      |true=>simp only[TT]at h⊢;exact S f Q x h u s K
      |false=>simp only[U5,Ul]at h⊢;exact S f Q y h u s K
     cases h
    simp[T7]at h
   |block id x=>
    simp only[comp,T7]at h;cases hx:T7 call L f (comp P n x) fr σ with
    |none=>rw[hx]at h;cases h
    |some Wl=>
     obtain⟨z,A,C⟩:=Wl;rw[hx]at h;obtain⟨E,J,q,p,j,i,e⟩:=S f Q x hx u s (b:=b) (k:=.inBlock id ::k) K;cases z with
     |normal=>
      simp at h;obtain⟨rfl,rfl,rfl⟩:=h;exact⟨E,J,q,p,j,i,.head step_block (ZP e (.one step_inBlock))⟩
     |exit X=>
      simp only at h;by_cases N:X=id
      .rw[Ti N]at h;simp at h;obtain⟨rfl,rfl,rfl⟩:=h;exact⟨E,J,q,p,j,i,.head step_block (e k (by simp[exitTo,N]))⟩
      rw[Tg N]at h;simp at h;obtain⟨rfl,rfl,rfl⟩:=h;refine⟨E,J,q,p,j,i,fun R O=>.head step_block (e R ?_)⟩;have:(id ==X)=false:=by simp;exact fun h=>N h.symm
      simp[exitTo,this,O]
     |goto l=>
      simp at h;obtain⟨rfl,rfl,rfl⟩:=h;exact⟨E,J,q,p,j,i,fun R O=>.head step_block (e R (by simp[gotoIn,O]))⟩
     |ret=>
      simp at h;obtain⟨rfl,rfl,rfl⟩:=h;obtain⟨I,hs⟩:=e;exact⟨E,J,q,p,j,i,I,.head step_block hs⟩
   |scope x=>
    simp only[comp,T7]at h;cases hx:T7 call L f (comp P n x) fr σ with
    |none=>rw[hx]at h;cases h
    |some Wl=>
     obtain⟨z,A,C⟩:=Wl;rw[hx]at h;obtain⟨E,J,q,p,j,i,e⟩:=S f Q x hx u s (b:=b) (k:=.inScope x ::k) K;cases z with
     |normal=>
      simp at h;obtain⟨rfl,rfl,rfl⟩:=h;exact⟨E,J,q,p,j,i,.head step_scope (ZP e (.one step_inScope))⟩
     |exit id=>
      simp at h;obtain⟨rfl,rfl,rfl⟩:=h;exact⟨E,J,q,p,j,i,fun R O=>.head step_scope (e R (by simp[exitTo,O]))⟩
     |goto l=>
      simp only at h;exact iF.mono p (CU (c:=x) (fun c' {_} {_} {_} {_} {_} hx=>S f Q c' hx) f l h j i K _ (fun R ag=>.head step_scope (e R ag)))
     |ret=>
      simp at h;obtain⟨rfl,rfl,rfl⟩:=h;obtain⟨I,hs⟩:=e;exact⟨E,J,q,p,j,i,I,.head step_scope hs⟩
   |loop x=>
    have am:∀(m:Nat),m≤f+1->∀{ex:Ex} {fr Tw:Fr} {σ σ':St},T7 call L m (.loop (comp P n x)) fr σ=some (ex,Tw,σ')->∀{φ:TF} {a:Act} {w:World},T2 G B w0 φ σ w->FR n φ fr a →
      iF P G B w0 n φ ex Tw σ' (lone (b.at a (.code x :: .inLoop x ::k)) cs w) b k cs:=by
     intro m;induction m with
     |zero=>intro _ ex fr Tw σ σ' h;simp[T7]at h
     |succ m ah=>
      intro hm ex fr Tw σ σ' h φ a w u s;simp only[T7]at h;cases hg:ki L (comp P n x) fr σ with
      |some Wl=>
       obtain⟨z,A,C⟩:=Wl;rw[hg]at h;simp at h;obtain⟨rfl,rfl,rfl⟩:=h;exact wg hL hg n x rfl B w0 φ a w u s b k cs K
      |none=>
       rw[hg]at h;simp only at h;cases hx:T7 call L m (comp P n x) fr σ with
       |none=>rw[hx]at h;cases h
       |some Wl=>
        obtain⟨z,A,C⟩:=Wl;rw[hx]at h;have v:=S m Q x hx u s (b:=b) (k:=.inLoop x ::k) K;cases z with
        |normal=>
         simp only at h;obtain⟨E,J,q,p,j,i,e⟩:=v;exact iF.of_steps (ZP e (.one step_inLoop)) (iF.mono p (ah Q h j i))
        |exit id=>
         simp at h;obtain⟨rfl,rfl,rfl⟩:=h;exact iF.pass rfl Y v
        |goto l=>
         simp at h;obtain⟨rfl,rfl,rfl⟩:=h;exact iF.pass rfl Y v
        |ret=>
         simp at h;obtain⟨rfl,rfl,rfl⟩:=h;exact iF.pass rfl Y v
    simp only[comp]at h;exact iF.of_steps (.one step_loop) (am (f+1) (Tx _) h u s)
end AM
namespace AM
open Go Go.RowKit
variable {P:Program} {φ:TF} {tm:T V} {a:Act} {w:World} {w0:lK} {σ σ':St} {G B:Nat} {call:iB}
def Kl(tmps:Array Value):ResultVar->Sem Value
 | .tmp t=>pure (tmps.getD t Go.undef)
 | .cell b t=>do loadVar t (<- asAddr (tmps.getD b Go.undef))
def mF{n:Nat}{fr:Fr}(o:FR n φ fr a)(p:T2 G B w0 φ σ w):∀{l:List ResultVar} {k:List VH} {vs:List V},jL P l=some k->bR fr.tmps σ k=some vs →
  ∃xs:List Value,(l.mapM (Kl a.tmps)).run P w=.ok xs w∧LR φ vs xs
 | [],k,vs,hc,hr=>by simp[jL]at hc;subst hc;simp[bR]at hr;subst hr;exact⟨[],rfl,LR.nil⟩
 | .tmp t ::r,k,vs,hc,hr=>by
  simp only[jL]at hc;split at hc
  .rename_i l s;simp at hc;subst hc;simp only[bR]at hr;split at hr
   .rename_i l2 e;simp at hr;subst hr;obtain⟨xs,hx,c⟩:=mF o p s e;exact⟨a.tmps.getD t Go.undef ::xs,by simp only[List.mapM_cons,Kl,Wn,Ys,VQ,hx],LR.cons (o.ts t) c⟩
   cases hr
  cases hc
 | .cell b t ::r,k,vs,hc,hr=>by
  simp only[jL]at hc;split at hc
  .rename_i l g m s hg F;simp at hc;subst hc;simp only[bR]at hr;split at hr
   .rename_i id z q;split at hr
    .cases hr
    rename_i l2 e;obtain⟨xs,hx,c⟩:=mF o p s e;have A:=o.ts b;rw[q]at A;obtain⟨D,J,f,j⟩:=A;cases g with
    |true=>
     simp only[TT]at hr;split at hr
     .rename_i I x;simp at hr;subst hr;obtain⟨C,y,i,d⟩:=p.load x f;have h:=run_loadCells_list (P:=P) w ⟨D,z,none⟩ C d;rw[i]at h;refine⟨.agg C.toArray ::xs,?_,LR.cons (VR.agg (by simpa using y)) c⟩;simp only[List.mapM_cons,Kl,Wn,j,asAddr,Ys,VQ,loadVar,ia hg,TT,cG F,h,hx]
     cases hr
    |false=>
     simp only[U5,Ul]at hr;split at hr
     .rename_i v H;simp at hr;subst hr;obtain⟨X,E,u⟩:=p.cell H f;refine⟨X ::xs,?_,LR.cons u c⟩;simp only[List.mapM_cons,Kl,Wn,j,asAddr,Ys,VQ,loadVar,ia hg,U5,Ul,run_load,E,hx]
     cases hr
   cases hr
  cases hc
def yx{n:Nat}{fr:Fr}(i:FR n φ fr a)(j:T2 G B w0 φ σ w){c:Func}{g:List VH}{vs:List V}(k:jL P c.results.toList=some g)(l:bR fr.tmps σ g=some vs):
  ∃x,(results c a.tmps).run P w=.ok x w∧VR φ (Dj vs) x:=by
 obtain⟨xs,hx,b⟩:=mF i j k l;have m:=b.length;have e:(results c a.tmps).run P w=.ok (if h:xs.toArray.size=1 then xs.toArray[0]else .tuple xs.toArray) w:=by
  have d:results c a.tmps=(do
    let vs <- c.results.mapM (Kl a.tmps)
    pure (if h:vs.size=1 then vs[0]else .tuple vs)):=by
   unfold results;congr 1
  rw[d,Array.mapM_eq_mapM_toList];simp only[Wn,Sem.run_map];rw[hx];rfl
 refine⟨_,e,?_⟩;cases vs with
 |nil=>cases b;exact⟨#[],rfl,LR.nil⟩
 |cons v vs=>
  obtain⟨x,s,rfl,f,hs⟩:=b;cases vs with
  |nil=>cases hs;exact f
  |cons u vs=>
   obtain⟨y,s,rfl,hu,hs⟩:=hs;rw[dif_neg Y];exact⟨_,rfl,LR.cons f (LR.cons hu hs)⟩
def qR(a:BU P G call){m:Func}{tmps:Array Value}{R:Ending->World->Prop}:∀(ds:T4) (b:List Deferred) {σ σ':St} {φ:TF} {w:World},fH call ds σ=some σ'->DR φ ds b->T2 G B w0 φ σ w →
  (∀c w',φ.le c->T2 G B w0 c σ' w'->∃v,(results m tmps).run P w'=.ok v w'∧R (.returned v) w')->Leaves P m tmps R b .returning w
 | [],b,σ,σ',φ,w,hr,hD,hR,hk=>by simp[fH]at hr;subst hr;have:b=[]:=hD;subst this;exact hk φ w (TF.le.refl _) hR
 |(g,xs) ::r,b,σ,σ',φ,w,hr,hD,hR,hk=>by
  obtain⟨d,A,s,rfl,k,hs⟩:=hD;simp only[fH]at hr;split at hr
  .rename_i v n f;refine⟨Y,.func g,d,g,A++d,rfl,?_,?_⟩
   .have:=a.enter g _ σ _ _ f (A++d) w
    simpa [invoke]using this
   refine CallsD.mono (a.acd g _ σ _ _ f B w0 φ w _ hR k) ?_;rintro e u w' ⟨rfl,o,x,rfl,h,j,p⟩;exact qR a r s hr (hs.mono h) j (fun c l i=>hk c l (h.trans i))
  cases hr
def xU{y:Func}{tmps:Array Value}{R:Ending->World->Prop}:∀(ds:List Deferred) (u:FrameMode) (w:World) (fr:Frame)
  (cs:List Frame),fr.mode=u->fr.defers=ds->fr.tmps=tmps->P.funcs[fr.fn]?=some y->fr.kind=.deferred->Leaves P y tmps R ds u w →
  ∃e w' Tw,R e w'∧Comes P (lone fr cs w) (lone Tw cs w') e∧Tw.kind=.deferred∧Tw.going P w' e:=by
 intro ds;induction ds with
 |nil=>
  intro u w fr cs hu hd ht q o h;cases u with
  |run=>exact h.elim
  |returning=>
   obtain⟨v,H,p⟩:=h;exact⟨.returned v,w,fr,p,Steps.refl P _,o,hu,hd,y,q,ht▸H⟩
  |panicking a=>exact⟨.panicked a,w,fr,h,Steps.refl P _,o,hu,hd,y,q⟩
 |cons d ds E=>
  intro u w fr cs hu hd ht q o h;obtain⟨t,I,F,f,D,x,s,k⟩:=h;have A:=step_defer (cs:=cs) (hu▸t) hd x s;obtain⟨e,i,w',G,p,b,C,r⟩:=k { fr with defers:=ds } cs hu;cases e with
  |returned v=>
   have B:=step_going_returned (c:={ { fr with defers:=ds }with mode:=i }) (cs:=cs) C r;obtain⟨z,n,Tw,j,m,g,l⟩:=E (settle i) w' { { { fr with defers:=ds }with mode:=i }with mode:=settle i } cs rfl rfl ht q o p;exact⟨z,n,Tw,j,Comes.of_steps (.head A (ZP b (.one B))) m,g,l⟩
  |panicked a=>
   have B:=step_going_panicked (c:={ { fr with defers:=ds }with mode:=i }) (cs:=cs) r;obtain⟨z,n,Tw,j,m,g,l⟩:=E (raised i a) w' { { { fr with defers:=ds }with mode:=i }with mode:=raised i a } cs rfl rfl ht q o p;exact⟨z,n,Tw,j,Comes.of_steps (.head A (ZP b (.one B))) m,g,l⟩
  |outgrown=>exact⟨.outgrown,w',fr,p,Outgrown.of_steps (.one A) b,o,trivial⟩
def mA(P:Program)(G:Nat)(g:FuncId)(xs:List V)(σ:St)(v:V)(σ':St):Prop:=
 ∀B w0 φ w (a:Array Value),T2 G B w0 φ σ w->LR φ xs a.toList →
  ((callFunc g a).run P w=.ok (.enter g a) w∧Calls P g a w (vD G B w0 φ σ' v))∨
  ∃x c b,(callFunc g a).run P w=.ok (.value x) c∧φ.le b∧T2 G B w0 b σ' c∧VR b v x
def DH(P:Program)(G:Nat)(g:FuncId)(xs:List V)(σ:St)(v:V)(σ':St):Prop:=
 (∀a w,(callFunc g a).run P w=.ok (.enter g a) w)∧
  ∀B w0 φ w (a:Array Value),T2 G B w0 φ σ w->LR φ xs a.toList->CallsD P g a .returning w fun e u b=>u=.returning∧vD G B w0 φ σ' v e b
structure gh (P:Program) (G:Nat) (Γ:T AF):Prop where
 code:∀ g fn,Γ.get g=some (.code fn) -> ∃ f,P.funcs[g]?=some f∧mW P f=some fn
 ext:∀ g e xs σ v σ',Γ.get g=some (.ext e) -> dA e xs σ=some (v,σ') -> mA P G g xs σ v σ'∧(e=.unlock -> DH P G g xs σ v σ')
def wV(P:Program)(G:Nat)(m:fK):Prop:=mA P G m.g m.xs m.at m.v m.σ'∧DH P G m.g m.xs m.at m.v m.σ'
def yY{n:Nat}:∀{l:List (Nat×Obj)} {a:Nat} {o:Obj},(pC n l).Tq.get a=some o->(a,o)∈l
 | [],a,o,h=>by simp[pC,T.get]at h
 |p ::r,a,o,h=>by
  have b:(T.set (pC n r).Tq p.1 p.2).get a=some o:=h;rw[T.aJ]at b;by_cases e:a=p.1
  .rw[Ti e]at b;have c:p.2=o:=XP b;subst e;subst c;exact VY
  rw[Tg e]at b;exact VO _ (yY b)
def T2.acg(h:T2 G B w0 φ σ w){n:Nat}{l:List (Nat×Obj)}(hn:σ.next≤n)(x:∀p∈l,σ.Tq.get p.1=some p.2∧p.2.TG=0):T2 G B w0 φ (pC n l) w:=by
 have c:∀a o,(pC n l).Tq.get a=some o->σ.Tq.get a=some o∧o.TG=0:=fun a o d=>x _ (yY d)
 have k:(pC n l).next=n:=rfl;refine⟨h.below,h.WU,?_,?_,fun a o b n d ha=>h.VM a o b n (c a o d).1 ha,?_,?_,?_,?_,?_⟩
 .intro a b m f;have:=h.V6 a b m f;exact⟨Q,this.2⟩
 .intro g hg;have:=h.Xn g hg;exact⟨Q,this.2⟩
 .intro a ha;cases v:(pC n l).Tq.get a with
  |none=>rfl
  |some o=>have:=h.lt (c a o v).1;omega
 .intro a q o r b m z j s t y i ha e;exact h.VX a q o r b m z j (c a o s).1 (c q r t).1 y i ha e
 .intro a o d hg;exact(hg (c a o d).2).elim
 .intro g _;simp[pC,T.get]
 intro a u;have:=h.XF a u;exact⟨this.1,Q⟩
def Fh{l:List (Nat×Obj)}{n:Nat}(h:IQ l n σ=true):σ.next≤n∧∀p∈l,σ.Tq.get p.1=some p.2∧p.2.TG=0:=by
 simp only[IQ,Vs,Xg,X8]at h;refine⟨h.1,fun p e=>?_⟩;obtain⟨c,a⟩:=h.2 p e;split at a
 .rename_i o d;rw[d, <- DD _ _ a];refine⟨rfl,?_⟩;split at c
  .rename_i b;rw[b];rfl
  .rename_i b;rw[b];rfl
  cases c
 cases a
def fK.GS{m:fK}(h:m.Vd σ=true):(m.at=σ)∨∃l,m.TJ=some l∧m.at=pC m.σ.next l∧σ.next≤m.σ.next∧∀p∈l,σ.Tq.get p.1=some p.2∧p.2.TG=0:=by
 unfold fK.Vd at h;unfold fK.at
 cases a:m.TJ with
 |none=>rw[a]at h;simp only[Vs]at h;exact .inl (yJ _ _ h.2)
 |some l=>rw[a]at h;obtain⟨b,c⟩:=Fh h;exact .inr ⟨l,rfl,rfl,b,c⟩
def vm:∀{M:List fK} {g:FuncId} {xs:List V} {σ σ':St} {v:V},(∀m∈M,wV P G m)->jm M g xs σ=some (v,σ')->mA P G g xs σ v σ'∧DH P G g xs σ v σ'
 | [],g,xs,σ,σ',v,hM,h=>by simp[jm]at h
 |m ::r,g,xs,σ,σ',v,hM,h=>by
  simp only[jm]at h;split at h
  .rename_i f;simp only[Vs,Zv]at f;obtain⟨rfl,j,k⟩:=f;simp at h;obtain⟨rfl,rfl⟩:=h;rw[<- jr _ _ j];have b:=hM m Y;rcases fK.GS k with e|⟨l,_,e,hn,i⟩
   .rw[<- e];exact b
   rw[wV,e]at b;exact⟨fun B w0 φ w a d c=>b.1 B w0 φ w a (d.acg hn i) c,b.2.1,fun B w0 φ w a d c=>b.2.2 B w0 φ w a (d.acg hn i) c⟩
  exact vm (fun m b=>hM m (by simp[b])) h
def Fj{n:Nat}{xs:List V}{args:Array Value}(h:LR φ xs args.toList):FR n φ (enter xs) { tmps:=args++Array.replicate (n-args.size) Go.undef,defers:=[] }:=by
 have a:=h.length;refine⟨fun t=>?_,by simp;omega,rfl⟩;simp only[enter,mK,ZD];by_cases c:t<xs.length
 .obtain⟨x,hx,b⟩:=h.get t xs[t] (by simp[c]);rw[Array.getElem?_append_left (by simp at a;omega)];have:args[t]?=some x:=by simpa using hx
  rw[this];simp[c];exact b
 rw[Xk Q];have:(args++Array.replicate (n-args.size) Go.undef)[t]?.getD Go.undef=Go.undef:=by rw[Array.getElem?_append_right (by simp at a;omega),Array.getElem?_replicate];split <;> rfl
 rw[this];exact VR.undef
def DC{f : Func}{a : jj}(h : mW P f = some a): f.name ≠ "runtime.NumGoroutine" /\ ∃ b, f.body = some b /\ a.body = comp P f.ntmps b /\ jL P f.results.toList = some a.results := by
 unfold mW at h;split at h
 .cases h
 rename_i hn;split at h
 .cases h
 rename_i b d;split at h
 .rename_i e c;cases h;exact⟨hn,b,d,rfl,c⟩
 cases h
def nV{g : FuncId}{f : Func}{b : Code}(c : P.funcs[g]? = some f)(hn : f.name ≠ "runtime.NumGoroutine")(a : f.body = some b)(args : Array Value)(w : World):
  (callFunc g args).run P w=.ok (.enter g args) w:=by
 simp[callFunc,c,hn,a]
def rT{Γ:T AF}{M:List fK}{L:List pG}{g:FuncId}{xs:List V}{σ:St}{r:V×St}(h:fj Γ (eF Γ M L 0) g xs σ=some r):False:=by simp only[fj,eF]at h;split at h <;> cases h
theorem tH(Γ:T AF)(M:List fK)(L:List pG)(hLo:mR P G L)(hΓ:gh P G Γ)(hM:∀m∈M,wV P G m)(hGP:G=P.globals.size)(hdraw:∀call,iY P G call->pd P G call):∀f,iY P G (eF Γ M L f)∧BU P G (fj Γ (eF Γ M L f))
 | 0=>⟨⟨fun _ _ _ _ _ h=>by simp[eF]at h⟩,⟨fun _ _ _ _ _ h=>(rT h).elim,fun _ _ _ _ _ h=>(rT h).elim⟩⟩
 |f+1=>by
  obtain⟨ih,ihD⟩:=tH Γ M L hLo hΓ hM hGP hdraw f;have body:∀{g xs σ v σ'},eF Γ M L (f+1) g xs σ=some (v,σ')->(mA P G g xs σ v σ'∧DH P G g xs σ v σ')∨(∃e,Γ.get g=some (.ext e)∧dA e xs σ=some (v,σ'))∨
    ∃ (fn : Func) (c : Code), P.funcs[g]? = some fn /\ fn.name ≠ "runtime.NumGoroutine" /\ fn.body = some c ∧
     ∀B w0 φ w (args:Array Value),T2 G B w0 φ σ w->LR φ xs args.toList->∀(b:Frame) (cs:List Frame),Zs b cs →
      ∃a' w' todo,Steps P (lone (b.at { tmps:=args++Array.replicate (fn.ntmps-args.size) Go.undef,defers:=[] } [.code c]) cs w) (lone { b.at a' todo with mode:=.returning } cs w')∧
       Leaves P fn a'.tmps (fun e w'=>vD G B w0 φ σ' v e w') a'.defers .returning w':=by
   intro g xs σ v σ' h;simp only[eF]at h;split at h
   .rename_i r hr;simp at h;subst h;exact .inl (vm hM hr)
   right;split at h
   .rename_i e he;exact .inl ⟨e,he,h⟩
   .rename_i fn hfn;right;obtain⟨fn',hf,hcf⟩:=hΓ.code g fn hfn;obtain⟨hn,c,hb,hbody,hres⟩:=DC hcf;refine⟨fn',c,hf,hn,hb,?_⟩;intro B w0 φ w args hR hL b cs hok;rw[hbody]at h;split at h
    .rename_i ex fr1 σ1 hex;split at h
     .rename_i hexn;split at h
      .rename_i σ2 hrd;split at h
       .rename_i vs hvs;simp at h;obtain⟨rfl,rfl⟩:=h;obtain⟨a',w',φ',hle,hR',hF',harr⟩:=EI ih hLo (hdraw _ ih) hGP f c hex hR (Fj (n:=fn'.ntmps) hL) (b:=b) (k:=[]) (cs:=cs) hok;have hleave:Leaves P fn' a'.tmps (fun e w'=>vD G B w0 φ σ2 (Dj vs) e w') a'.defers .returning w':=by refine qR ihD fr1.defers a'.defers hrd hF'.ds hR' ?_;intro φ2 w2 hle2 hR2;obtain⟨x,hx,hvx⟩:=yx (hF'.mono hle2) hR2 hres hvs;exact⟨x,hx,φ2,x,rfl,hle.trans hle2,hR2,hvx⟩
        rcases hexn with rfl|rfl
        .exact⟨a',w',[],ZP harr (.one step_end),hleave⟩
        obtain⟨todo,hs⟩:=harr;exact⟨a',w',todo,hs,hleave⟩
       cases h
      cases h
     cases h
    cases h
   cases h
  have def1:∀{g xs σ v σ'},eF Γ M L (f+1) g xs σ=some (v,σ')->(∀e,Γ.get g=some (.ext e)->e=.unlock)->DH P G g xs σ v σ':=by
   intro g xs σ v σ' h hg;rcases body h with⟨_,hd⟩|⟨e,he,hx⟩|⟨fn,c,hf,hn,hb,hrun⟩
   .exact hd
   .exact(hΓ.ext g e xs σ v σ' he hx).2 (hg e he)
   refine⟨fun args w=>nV hf hn hb args w,?_⟩;intro B w0 φ w args hR hL c0 cs hu
   let b:Frame:={ (default:Frame)with fn:=g,kind:=.deferred }
   have henter:Frame.enter P g args .deferred=b.at { tmps:=args++Array.replicate (fn.ntmps-args.size) Go.undef,defers:=[] } [.code c]:=by simp[Frame.enter,Frame.at,hf,hb,b]
   obtain⟨a',w',todo,hs,hleave⟩:=hrun B w0 φ w args hR hL b (c0 ::cs) (by intro fr hk;have:fr.kind=.deferred:=hk;simp[tryRecover,this,hu]);rw[<- henter]at hs;obtain⟨e',w'',Tw,hR',hs',hk',hg'⟩:=xU a'.defers .returning w' { b.at a' todo with mode:=.returning } (c0 ::cs) rfl rfl rfl hf rfl hleave;have hc0:({ c0 with mode:=.returning }:Frame)=c0:=by rw[<- hu]
   exact⟨e',.returning,w'',Tw,⟨rfl,hR'⟩,by rw[hc0];exact Comes.of_steps hs hs',hk',hg'⟩
  refine⟨⟨?_⟩,⟨?_,?_⟩⟩
  .intro g xs σ v σ' h;rcases body h with⟨hp,_⟩|⟨e,he,hx⟩|⟨fn,c,hf,hn,hb,hrun⟩
   .exact hp
   .exact(hΓ.ext g e xs σ v σ' he hx).1
   intro B w0 φ w args hR hL;refine .inl ⟨nV hf hn hb args w,?_⟩;intro cs
   let b:Frame:={ (default:Frame)with fn:=g,kind:=.normal }
   have henter:Frame.enter P g args .normal=b.at { tmps:=args++Array.replicate (fn.ntmps-args.size) Go.undef,defers:=[] } [.code c]:=by simp[Frame.enter,Frame.at,hf,hb,b]
   obtain⟨a',w',todo,hs,hleave⟩:=hrun B w0 φ w args hR hL b cs (by intro fr hk;have:fr.kind=.normal:=hk;simp[tryRecover,this]);rw[<- henter]at hs;obtain⟨e',w'',Tw,hR',hs',hfn',hl'⟩:=leaves_steps a'.defers .returning w' { b.at a' todo with mode:=.returning } cs rfl rfl rfl hf rfl hleave;exact⟨e',w'',Tw,hR',Comes.of_steps hs hs',hfn',hl'⟩
  .intro g xs σ v σ' h;refine(def1 (xs:=xs) (σ:=σ) (v:=v) (σ':=σ') ?_ ?_).1
   .simp only[fj]at h;split at h <;> first|exact h|cases h
   intro e he;simp only[fj,he]at h;cases e <;> first|rfl|cases h
  intro g xs σ v σ' h;refine(def1 (xs:=xs) (σ:=σ) (v:=v) (σ':=σ') ?_ ?_).2
  .simp only[fj]at h;split at h <;> first|exact h|cases h
  intro e he;simp only[fj,he]at h;cases e <;> first|rfl|cases h
def MV(Γ:T AF)(M:List fK)(L:List pG)(c:mR P G L)(d:gh P G Γ)(k:∀m∈M,wV P G m)(b:G=P.globals.size)(a:∀call,iY P G call->pd P G call){f:Nat}{m:fK}{i:jj}(hg:Γ.get m.g=some (.code i))(h:eF Γ M L f m.g m.xs m.at=some (m.v,m.σ')):wV P G m:=by
 obtain⟨j,e⟩:=tH Γ M L c d k b a f;have hd:fj Γ (eF Γ M L f) m.g m.xs m.at=some (m.v,m.σ'):=by simp only[fj,hg];exact h
 exact⟨j.plain _ _ _ _ _ h,e.enter _ _ _ _ _ hd,e.acd _ _ _ _ _ hd⟩
end AM
namespace AM
open Go Go.RowKit
variable {P:Program} {φ:TF} {tm:T V} {a:Act} {w:World} {w0:lK} {σ σ':St} {G B:Nat} {call:iB}
def iE:List dY->Nat
 | []=>0
 |d ::r=>(if bh d.o.op then 1 else 0)+iE r
def T2.acw(h:T2 G B w0 φ σ w)(z:List V)(n:Nat):T2 G B w0 φ (σ.new (.cells false 0 n z .nil)) w:=by
 have a:∀x c,(σ.Tq.set σ.next (.cells false 0 n z .nil)).get x=some c->(x=σ.next∧c=.cells false 0 n z .nil)∨(x≠σ.next∧σ.Tq.get x=some c):=by
  intro x c hx;rw[T.aJ]at hx;by_cases e:x=σ.next
  .rw[Ti e]at hx;simp at hx;exact .inl ⟨e,hx.symm⟩
  rw[Tg e]at hx;exact .inr ⟨e,hx⟩
 have i:=h.Hf;refine⟨h.below,h.WU,fun x b m hx=>?_,fun g hg=>?_,?_,?_,?_,?_,?_,?_⟩
 .obtain⟨p,q⟩:=h.V6 x b m hx;exact⟨by simp[St.new];omega,q⟩
 .obtain⟨p,q⟩:=h.Xn g hg;exact⟨by simp[St.new];omega,q⟩
 .intro x c b m hx d;rcases a x c hx with⟨rfl,_⟩|⟨_,f⟩
  .rw[i]at d;cases d
  exact h.VM x c b m f d
 .intro x hx;simp only[St.new]at hx⊢;rw[T.aJ,Tg Q];exact h.VS x Q
 .intro x y s t b m D l A C v u j k;rcases a x s A with⟨rfl,_⟩|⟨_,o⟩
  .rw[i]at j;cases j
  rcases a y t C with⟨rfl,_⟩|⟨_,r⟩
  .rw[i]at k;cases k
  exact h.VX x y s t b m D l o r v u j k
 .intro x c hx hg;rcases a x c hx with⟨_,rfl⟩|⟨_,f⟩
  .exact(hg rfl).elim
  obtain⟨p,q⟩:=h.TG x c f hg;exact⟨by simp[St.new];omega,q⟩
 .intro g hg;simp only[St.new]at hg⊢;exact h.Y7 g Q
 intro x hx;obtain⟨p,q⟩:=h.XF x hx;exact⟨p,by simp[St.new];omega⟩
def T2.Qb(h:T2 G B w0 φ σ w){d n:Nat}{z:List V}{zs:List Value}{C:Array Value}{E:TypeId}(F:σ.Tq.get d=some (.cells false 0 n z .nil))(A:φ d=none)(H:LR φ z zs)(I:C.size=n)(K:∀i,i<n->C[i]?=zs[i%zs.length]?){X':Nat->Prop}(J:∀x,X' x->w0.X x∧x≠d):
  T2 G B ⟨w0.w,X'⟩ (φ.TN d (w.heap.size,n)) σ (w.alloc (.cells C E))∧φ.le (φ.TN d (w.heap.size,n)):=by
 have f:=φ.xd (a:=d) (w.heap.size,n) A;have l:=h.lt F;refine⟨⟨h.below.alloc h.WU _,by simp;have:=h.WU;omega,?_,?_,?_,h.VS,?_,h.TG,h.Y7,?_⟩,f⟩
 .intro x b m c;by_cases e:x=d
  .subst e;rw[TF.an]at c;simp at c;obtain⟨rfl,rfl⟩:=c;exact⟨l,Y⟩
  rw[TF.ae φ _ e]at c;obtain⟨p,q⟩:=h.V6 x b m c;exact⟨p,by simp;omega⟩
 .intro g hg;obtain⟨p,m,u⟩:=h.Xn g hg;exact⟨p,m,f _ _ u⟩
 .intro x o b m hx c;by_cases e:x=d
  .subst e;rw[F]at hx;simp at hx;subst hx;rw[TF.an]at c;simp at c;obtain⟨rfl,rfl⟩:=c;refine⟨C,E,(0,0),aaZ w _,I,fun _=>⟨rfl,h.WU⟩,Tx _,?_⟩;intro i v hi;unfold Vw at hi;split at hi
   .rename_i l;simp only[T.Xm]at hi;obtain⟨y,hy,M⟩:=H.get _ v hi;exact⟨y,by rw[K i l,H.length];exact hy,VR.mono f _ _ M⟩
   cases hi
  rw[TF.ae φ _ e]at c;exact((h.VM x o b m hx c).mono f).kD (Below.heap_alloc w _ b (h.V6 x b m c).2)
 .intro x y Q R b m P t N O u L j k;by_cases e:x=d
  .subst e;rw[TF.an]at j;simp at j;obtain⟨rfl,rfl⟩:=j;rw[TF.ae φ _ (U2 t)]at k;have:=(h.V6 _ _ _ k).2;omega
  by_cases D:y=d
  .subst D;rw[TF.an]at k;simp at k;obtain⟨rfl,rfl⟩:=k;rw[TF.ae φ _ e]at j;have:=(h.V6 _ _ _ j).2;omega
  rw[TF.ae φ _ e]at j;rw[TF.ae φ _ D]at k;exact h.VX x y Q R b m P t N O u L j k
 intro x hx;obtain⟨p,q⟩:=J x hx;obtain⟨r,s⟩:=h.XF x p;exact⟨by rw[TF.ae φ _ q];exact r,s⟩
def T2.aa8{a:lK}(h:T2 G B w0 φ σ w)(hw:a.w=w0.w)(b:∀x,a.X x->φ x=none∧x<σ.next):T2 G B a φ σ w:=
 ⟨by rw[hw];exact h.below,h.WU,h.V6,h.Xn,h.VM,h.VS,h.VX,h.TG,h.Y7,b⟩
def kP:∀(a:List dY) (σ:St),(Vx a σ).next=σ.next+iE a∧
  (∀(σ:St) {w0:lK} {φ:TF} {w:World},T2 G B w0 φ σ w->T2 G B w0 φ (Vx a σ) w)
 | [],σ=>⟨by simp[Vx,iE],fun σ _ _ _ h=>h⟩
 |d ::r,σ=>by
  refine⟨?_,?_⟩
  .simp only[Vx,iE];split
   .rename_i z b;rw[(kP r _).1];simp[St.new,bh,b];omega
   rename_i b;rw[(kP r _).1];have:bh d.o.op=false:=by unfold bh;split <;> simp_all
   simp[this]
  intro σ w0 φ w h;simp only[Vx];split
  .rename_i z b;exact(kP r σ).2 _ (h.acw z z.length)
  exact(kP r σ).2 _ h
def kM:List dY->Nat
 | []=>0
 |d ::r=>(if cM d.o.op then 1 else 0)+kM r
noncomputable def tmOf (tm0:T V) (dst:Nat -> Option Nat) (val:Nat -> V) (L:Nat -> Bool):Nat -> T V
 | 0=>tm0
 |j+1=>if L j then gI (tmOf tm0 dst val L j) (dst j) (val j) else tmOf tm0 dst val L j
def vM(tm0:T V)(dst:Nat->Option Nat)(val:Nat->V):∀j,tmOf tm0 dst val (fun _=>true) (j+1)=tmOf (gI tm0 (dst 0) (val 0)) (fun j=>dst (j+1)) (fun j=>val (j+1)) (fun _=>true) j
 | 0=>rfl
 |j+1=>by rw[tmOf,vM tm0 dst val j];rfl
def pZ(call:iB)(d:dY)(h:Nat)(tm:T V)(v:V)(a b:T4×St):Prop:=
 if eJ d.o.guard tm=true then
  if bh d.o.op=true then v=.ptr (some (h,0))∧b=a
  else Uh call d.o.op tm a.1 a.2=some (v,b.1,b.2)
 else bh d.o.op=false∧v=.undef∧b=a
def qP{op:TL}{ds a:T4}{v:V}(h:Uh call op tm ds σ=some (v,a,σ'))(d:cM op=false)(ha:bh op=false):a=ds∧σ'=σ:=by
 unfold Uh at h;split at h
 .split at h
  .simp only[TC,TU]at h;exact⟨h.2.1.symm,h.2.2.symm⟩
  cases h
 rename_i b;split at h
 .split at h
  .simp only[TC,TU]at h;exact⟨h.2.1.symm,h.2.2.symm⟩
  cases h
 rename_i c;simp[cM,b,c,ha]at d
def jy(a:List dY)(j:Nat):Option Nat:=(a[j]?).bind (·.o.dst)
def V8(a:List (T V×V))(j:Nat):V:=(a[j]?.map (·.2)).getD .undef
def zt:∀(l:List dY) {h:Nat} {fr Tw:Fr} {σ:St} {f:List (T V×V)} {es:List (T4×St)},lJ call l h fr σ=some (Tw,f,es) →
  f.length=l.length∧es.length=kM l∧
  (∀j d,l[j]?=some d->∃i A,f[j]?=some (tmOf fr.tmps (jy l) (V8 f) (fun _=>true) j,V8 f j)∧
   ((fr.defers,σ) ::es)[kM (l.take j)]?=some i∧((fr.defers,σ) ::es)[kM (l.take (j+1))]?=some A∧
   pZ call d (h+iE (l.take j)) (tmOf fr.tmps (jy l) (V8 f) (fun _=>true) j) (V8 f j) i A)∧
  ∃e,((fr.defers,σ) ::es)[kM l]?=some e∧Tw=⟨tmOf fr.tmps (jy l) (V8 f) (fun _=>true) l.length,e.1⟩∧gW σ es=e.2
 | [],h,fr,Tw,σ,f,es,hr=>by simp[lJ]at hr;obtain⟨rfl,rfl,rfl⟩:=hr;exact⟨rfl,rfl,fun j d hd=>by simp at hd,(fr.defers,σ),rfl,rfl,rfl⟩
 |d ::r,h,fr,Tw,σ,f,es,hr=>by
  have s:∀(F:Nat) (v:V) (i:T4×St) (b:List (T V×V)) (c:List (T4×St)),lJ call r F ⟨gI fr.tmps d.o.dst v,i.1⟩ i.2=some (Tw,b,c) →
    F=h+(if bh d.o.op then 1 else 0)->f=(fr.tmps,v) ::b->es=(if cM d.o.op then i ::c else c)->(cM d.o.op=false->i=(fr.defers,σ)) →
    pZ call d h fr.tmps v (fr.defers,σ) i →
    f.length=(d ::r).length∧es.length=kM (d ::r)∧
    (∀j E,(d ::r)[j]?=some E->∃i A,f[j]?=some (tmOf fr.tmps (jy (d ::r)) (V8 f) (fun _=>true) j,V8 f j)∧
     ((fr.defers,σ) ::es)[kM ((d ::r).take j)]?=some i∧((fr.defers,σ) ::es)[kM ((d ::r).take (j+1))]?=some A∧
     pZ call E (h+iE ((d ::r).take j)) (tmOf fr.tmps (jy (d ::r)) (V8 f) (fun _=>true) j) (V8 f j) i A)∧
    ∃e,((fr.defers,σ) ::es)[kM (d ::r)]?=some e∧Tw=⟨tmOf fr.tmps (jy (d ::r)) (V8 f) (fun _=>true) (d ::r).length,e.1⟩∧gW σ es=e.2:=by
   intro F v i b c a O p y n z;obtain⟨P,Q,R,e,S,U,W⟩:=zt r a;have u:(fun j=>V8 f (j+1))=V8 b:=by funext j;rw[p];simp[V8]
   have q:V8 f 0=v:=by rw[p];rfl
   have B:(fun j=>jy (d ::r) (j+1))=jy r:=by funext j;simp[jy]
   have w:jy (d ::r) 0=d.o.dst:=rfl;have g:∀j,tmOf fr.tmps (jy (d ::r)) (V8 f) (fun _=>true) (j+1)=tmOf (gI fr.tmps d.o.dst v) (jy r) (V8 b) (fun _=>true) j:=by intro j;rw[vM,u,B,q,w]
   have k:∀m,((fr.defers,σ) ::es)[(if cM d.o.op then 1 else 0)+m]?=((i.1,i.2) ::c)[m]?:=by
    intro m;rw[y];cases x:cM d.o.op with
    |true=>simp only[TT];rw[aaI];rfl
    |false=>simp only[U5,Ul,Vk];rw[n x]
   refine⟨by rw[p];simp[P],?_,?_,e,?_,?_,?_⟩
   .rw[y];simp only[kM];split <;> simp[Q];omega
   .intro j E t;cases j with
    |zero=>
     simp at t;subst t;refine⟨(fr.defers,σ),i,?_,rfl,?_,?_⟩
     .rw[p];simp[tmOf,V8]
     .have:=k 0;simp only[X2,aaA]at this;simp only[Wa,VU,kM,X2];exact this
     simp only[VU,iE,X2,tmOf,q];exact z
    |succ j=>
     simp only[ZF]at t;obtain⟨J,K,L,M,N,I⟩:=R j E t;have D:V8 f (j+1)=V8 b j:=congrFun u j;refine⟨J,K,?_,?_,?_,?_⟩
     .rw[g,D,p];simpa using L
     .simp only[Wa,kM];rw[k];exact M
     .simp only[Wa,kM];rw[k];exact N
     rw[g,D];simp only[Wa,iE];rw[O]at I;rw[<- Yb];exact I
   .simp only[kM];rw[k];exact S
   .rw[U];simp only[TH];rw[g]
   rw[y, <- W];cases x:cM d.o.op with
   |true=>rfl
   |false=>simp only[U5,Ul];rw[n x]
  simp only[lJ]at hr;split at hr
  .rename_i hw;split at hr
   .rename_i ha;split at hr
    .rename_i H b c a;simp at hr;obtain⟨rfl,rfl,rfl⟩:=hr;have x:cM d.o.op=false:=by simp[cM,ha]
     exact s (h+1) _ (fr.defers,σ) b c a (by simp[ha]) rfl (by simp[x]) (fun _=>rfl) (by unfold pZ;rw[Ti hw,Ti ha];exact⟨rfl,rfl⟩)
    cases hr
   rename_i ha;split at hr
   .rename_i v ds G C;split at hr
    .rename_i H b c a;simp at hr;obtain⟨rfl,rfl,rfl⟩:=hr;refine s h v (ds,G) b c a (by simp[ha]) rfl rfl (fun x=>?_) (by unfold pZ;rw[Ti hw,Tg ha];exact C);obtain⟨X,Y⟩:=qP C x (by simpa using ha);rw[X,Y]
    cases hr
   cases hr
  rename_i hw;split at hr
  .cases hr
  rename_i ha;split at hr
  .rename_i H b c a;simp at hr;obtain⟨rfl,rfl,rfl⟩:=hr;exact s h .undef (fr.defers,σ) b c a (by simp[ha]) rfl rfl (fun _=>rfl) (by unfold pZ;rw[Tg hw];exact⟨by simpa using ha,rfl,rfl⟩)
  cases hr
def lW{p q:Nat->Bool}:∀{k:Nat},(∀j,j<k->p j=q j)->eM p k=eM q k
 | 0,_=>rfl
 |k+1,h=>by simp only[eM];rw[lW (k:=k) (fun j a=>h j Q),h k Q]
def wN{p q:Nat->Bool}:∀{k:Nat},(∀j,j<k->p j=true->q j=true)->eM p k≤eM q k
 | 0,_=>Tx _
 |k+1,h=>by
  have:=wN (p:=p) (q:=q) (k:=k) (fun j c=>h j Q);have a:=h k Q;simp only[eM];cases b:p k with
  |false=>simp;omega
  |true=>rw[a b];simp;omega
def KU{p:Nat->Bool}:∀{k:Nat},eM p k≤k
 | 0=>Tx _
 |k+1=>by have:=KU (p:=p) (k:=k);simp only[eM];split <;> omega
def B7{p:Nat->Bool}:∀{k:Nat},eM p k=k->∀j,j<k->p j=true
 | 0,_,j,hj=>Q
 |k+1,h,j,hj=>by
  have b:=KU (p:=p) (k:=k);simp only[eM]at h;cases a:p k with
  |false=>rw[a]at h;simp at h;omega
  |true=>
   rw[a]at h;simp at h;by_cases e:j=k
   .rw[e];exact a
   exact B7 h j Q
def Bb{p q:Nat->Bool}{i:Nat}(a:p i=false)(b:q i=true):∀{k:Nat},(∀j,j<k->j≠i->q j=p j)->eM q k=eM p k+(if i<k then 1 else 0)
 | 0,_=>by simp[eM]
 |k+1,h=>by
  have c:=Bb (p:=p) (q:=q) a b (k:=k) (fun j d=>h j Q);simp only[eM];by_cases e:k=i
  .subst e;rw[c,a,b];simp
  rw[c,h k Q e];have:(if i<k then 1 else 0:Nat)=(if i<k+1 then 1 else 0):=by split <;> split <;> omega
  omega
def KJ{p q:Nat->Bool}{i:Nat}{k:Nat}(a:q i=p i)(h:∀j,j<k->j≠i->q j=p j):eM q k=eM p k:=
 lW (fun j b=>by by_cases e:j=i;rw[e,a];exact h j b e)
def xc{p q:Nat->Bool}{i:Nat}:∀{k:Nat},i≤k->(∀j,j<k->p j=(q j && decide (j<i)))->eM p k=eM q i
 | 0,h,_=>by have:i=0:=Q;subst this;rfl
 |k+1,h,hp=>by
  by_cases e:i=k+1
  .subst e;exact lW (fun j a=>by rw[hp j a];simp[a])
  simp only[eM];rw[hp k Q,xc (p:=p) (q:=q) (i:=i) (k:=k) Q (fun j a=>hp j Q)];have:decide (k<i)=false:=by simp;omega
  simp[this]
def HG(a:List dY):∀j,kM (a.take j)=eM (fun i=>(a[i]?).any (fun d=>cM d.o.op)) (min j a.length):=by
 induction a with
 |nil=>intro j;simp[kM,eM]
 |cons d r e=>
  intro j;cases j with
  |zero=>simp[kM,eM]
  |succ j=>
   have hs:∀k,eM (fun i=>((d ::r)[i]?).any (fun d=>cM d.o.op)) (k+1)=(if cM d.o.op then 1 else 0)+eM (fun i=>(r[i]?).any (fun d=>cM d.o.op)) k:=by
    intro k;induction k with
    |zero=>simp[eM]
    |succ k b=>rw[eM,b,eM];simp;omega
   have c:min (j+1) (d ::r).length=min j r.length+1:=by simp[Nat.add_min_add_right]
   rw[Wa,kM,e,c,hs]
def Fb(a:List Nat)(i:Nat):∀(es:List Edge),(sa a es).testBit i=true↔∃e∈es,Region.binds .any e=true∧(i=e.on∨(a.getD e.on 0).testBit i=true):=by
 intro es;have b:∀(es:List Edge) (s:Nat),(es.foldl (fun s e=>if Region.binds .any e then s |||2^e.on |||a.getD e.on 0 else s) s).testBit i=true ↔
   s.testBit i=true∨∃e∈es,Region.binds .any e=true∧(i=e.on∨(a.getD e.on 0).testBit i=true):=by
  intro es;induction es with
  |nil=>intro s;simp
  |cons e r c=>
   intro s;simp only[List.foldl_cons,c,U8,exists_eq_or_imp];cases d:Region.binds .any e with
   |false=>simp
   |true=>
    simp only[TT,Nat.testBit_or,abb,aac,Xg,WK];constructor
    .rintro(((h|h)|h)|h)
     .exact .inl h
     .exact .inr (.inl (.inl h.symm))
     .exact .inr (.inl (.inr h))
     exact .inr (.inr h)
    rintro(h|(h|h)|h)
    .exact .inl (.inl (.inl h))
    .exact .inl (.inl (.inr h.symm))
    .exact .inl (.inr h)
    exact .inr h
 have:=b es 0
 simpa [sa]using this
def zC:∀(l:List Oper) (a:List Nat),(Xf a l).length=a.length+l.length∧(∀j,j<a.length->(Xf a l)[j]?=a[j]?)∧
  ∀j o,l[j]?=some o->(Xf a l)[a.length+j]?=some (sa ((Xf a l).take (a.length+j)) o.after.toList)
 | [],a=>⟨by simp[Xf],fun j d=>rfl,fun j o h=>by simp at h⟩
 |x ::r,a=>by
  obtain⟨f,e,g⟩:=zC r (a++[sa a x.after.toList]);simp only[Xf];refine⟨by rw[f];simp;omega,fun j d=>by rw[e j (by simp;omega),Wh d],fun j o d=>?_⟩;cases j with
  |zero=>
   simp at d;subst d;have b:(Xf (a++[sa a x.after.toList]) r).take (a.length+0)=a:=by
    apply List.ext_getElem?;intro i;rw[YD];by_cases c:i<a.length
    .rw[Ti Q,e i (by simp;omega),Wh c]
    rw[Tg Q,Xk Q]
   rw[b,e _ Y];simp
  |succ j=>
   have:=g j o (by simpa using d);simp only[UN,TH,TK]at this;rw[(Q:a.length+(j+1)=a.length+(0+1)+j)];exact this
def wm{ops:List Oper}{L:Nat->Bool}(h:∀j o,L j=true->ops[j]?=some o->∀e∈o.after.toList,Region.binds .any e=true->L e.on=true):
  ∀(j i:Nat) (o:Oper),ops[j]?=some o->(∀e∈o.after.toList,Region.binds .any e=true->L e.on=true)->((Xf [] ops).getD j 0).testBit i=true->L i=true:=by
 intro j;induction j using Nat.strongRecOn with
 |_ j t=>
  intro i o l s a;obtain⟨u,_,p⟩:=zC ops [];have m:=p j o l;simp only[TK,Vk]at m;have n:j<ops.length:=by
   rcases Vm j ops.length with k|k
   .exact k
   rw[Xk k]at l;cases l
  rw[U7,m,Xc,Fb]at a;obtain⟨e,r,q,b⟩:=a;have d:=s e r q;rcases b with rfl|a
  .exact d
  by_cases c:e.on<j
  .rw[U7,YD,Ti c]at a;obtain⟨g,f⟩:∃g,ops[e.on]?=some g:=⟨ops[e.on],Y⟩
   exact t e.on c i g f (h e.on g d f) (by rw[U7];exact a)
  rw[U7,YD,Tg c]at a;simp at a
def qW:∀(l:List Oper) (k:Nat),qw k l=true->∀j o,l[j]?=some o->∀e∈o.after.toList,Region.binds .any e=true->e.on<k+j
 | [],k,h,j,o,hj=>by simp at hj
 |x ::r,k,h,j,o,hj=>by
  simp only[qw,Vs,X8,abb,aav,Xg]at h;intro e b a;cases j with
  |zero=>
   simp at hj;subst hj;rcases h.1 e b with q|q
   .rw[q]at a;cases a
   exact q
  |succ j=>have:=qW r (k+1) h.2 j o (by simpa using hj) e b a;omega
def tV{op:TL}{v:V}{lo hi:Nat}:∀(E:List (T4×St)) (a:Nat),fG op tm v lo hi a E=true->∀m e,E[m]?=some e->lo≤a+m->a+m≤hi->eT op tm e.2=some v
 | [],a,h,m,e,he=>by simp at he
 |(d,s) ::r,a,h,m,e,he=>by
  intro b c;simp only[fG,Vs]at h;cases m with
  |zero=>
   simp at he;subst he;have h:=h.1;rw[Ti ⟨Q,Q⟩]at h;split at h
   .rename_i u hu;rw[hu,jX u v h]
   cases h
  |succ m=>exact tV r (a+1) h.2 m e (by simpa using he) Q Q
def tU{b:Nat}{z:List V}{hi:Nat}:∀(E:List (T4×St)) (a:Nat),eN b z hi a E=true->∀m e,E[m]?=some e->a+m≤hi->e.2.Tq.get b=some (.cells false 0 z.length z .nil)
 | [],a,h,m,e,he=>by simp at he
 |(d,s) ::r,a,h,m,e,he=>by
  intro g;simp only[eN,Vs]at h;cases m with
  |zero=>
   simp at he;subst he;have h:=h.1;rw[Ti Q]at h;split at h
   .rename_i n f c;simp only[Vs,Zv]at h;rw[c,h.1,jr f z h.2]
   cases h
  |succ m=>exact tU r (a+1) h.2 m e (by simpa using he) Q
def og{E:List (T4×St)}:∀(f:List dY) (b:Nat) (e:List (T V×V)),dP E f b e=true->∀j d tm v,f[j]?=some d->e[j]?=some (tm,v) →
  (bQ d.o.op=true->eJ d.o.guard tm=true->fG d.o.op tm v d.lo d.hi 0 E=true)∧(∀z,d.o.op=.alloc z->eN (b+iE (f.take j)) z d.hi 0 E=true)
 | [],b,e,h,j,d,tm,v,hd,ht=>by simp at hd
 |x ::r,b,[],h,j,d,tm,v,hd,ht=>by simp at ht
 |x ::r,b,(tm0,v0) ::e,h,j,d,tm,v,hd,ht=>by
  simp only[dP,Vs]at h;cases j with
  |zero=>
   simp at hd ht;subst hd;obtain⟨rfl,rfl⟩:=ht;refine⟨fun k l=>?_,fun z c=>?_⟩
   .have:=h.1;rw[k,l]at this;simpa using this
   have:=h.2;rw[c]at this;simp only[Vs]at this
   simpa [iE]using this.1
  |succ j=>
   simp only[ZF]at hd ht;have a:dP E r (b+(if bh x.o.op then 1 else 0)) e=true:=by
    have:=h.2;split at this
    .rename_i z c;simp only[Vs]at this;simpa [bh,c]using this.2
    rename_i c;have:bh x.o.op=false:=by unfold bh;split <;> simp_all
    simpa [this]
   obtain⟨g,i⟩:=og r _ e a j d tm v hd ht;refine⟨g,fun z c=>?_⟩;have:=i z c;simp only[Wa,iE];rw[<- Yb];exact this
def pI{n:Nat}{ops:Array Oper}:∀{l:List Oper} {al:List eY},fI P n ops l=some al->al.length=l.length∧∀(j:Nat) (o:Oper),l[j]?=some o->∃d,al[j]?=some d∧kQ P n ops o=some d
 | [],al,h=>by simp[fI]at h;subst h;exact⟨rfl,fun j o c=>by simp at c⟩
 |x ::r,al,h=>by
  simp only[fI]at h;split at h
  .rename_i a b ha g;simp at h;subst h;obtain⟨e,f⟩:=pI g;refine⟨by simp[e],fun j o c=>?_⟩;cases j with
   |zero=>simp at c;subst c;exact⟨a,rfl,ha⟩
   |succ j=>simpa using f j o (by simpa using c)
  cases h
def tD{a:List Nat}{l:List eY}(h:Br a l=true){j:Nat}{o:eY}(g:l[j]?=some o):
  OO o.op=true∧(bh o.op=true->o.guard=none)∧∀i p,l[i]?=some p →
   (cM o.op=true->cM p.op=true->i<j->(a.getD j 0).testBit i=true)∧
   (i≠j->∀t,p.dst=some t->t∈o.Ym->(a.getD (max i j) 0).testBit (min i j)=true):=by
 unfold Br at h;rw[X8]at h;have c:=h (o,j) (by rw[List.mem_zipIdx_iff_getElem?];exact g);simp only[Vs,abb,aav,X8]at c;obtain⟨⟨n,r⟩,s⟩:=c;refine⟨n,fun ha=>?_,fun i p hi=>?_⟩
 .rcases r with q|q
  .rw[ha]at q;cases q
  cases hg:o.guard <;> simp_all
 have d:=s (p,i) (by rw[List.mem_zipIdx_iff_getElem?];exact hi);simp only[Bool.and_eq_false_iff,decide_eq_false_iff_not,Zv]at d;obtain⟨k,m⟩:=d;refine⟨fun e f u=>?_,fun b t ht hn=>?_⟩
 .rcases k with((q|q)|q)|q
  .rw[e]at q;cases q
  .rw[f]at q;cases q
  .omega
  exact q
 rcases m with q|q
 .exact(b q).elim
 rw[ht]at q;simp only[abb,aav,List.contains_eq_mem,decide_eq_false_iff_not]at q;rcases q with q|q
 .exact(q hn).elim
 exact q
def nU(tm:T V)(d:Option Nat)(v:V)(t:Nat):(gI tm d v).get t=if d=some t then some v else tm.get t:=by
 cases d with
 |none=>simp[gI]
 |some d=>
  simp only[gI,T.aJ,TC];by_cases c:t=d
  .rw[Ti c,Ti c.symm]
  rw[Tg c,Tg (U2 c)]
def rV{tm0:T V}{dst:Nat->Option Nat}{val:Nat->V}{L L2:Nat->Bool}{t:Nat}:∀(k:Nat),(∀j,j<k->dst j=some t->L j=L2 j)->(tmOf tm0 dst val L k).get t=(tmOf tm0 dst val L2 k).get t
 | 0,_=>rfl
 |k+1,h=>by
  have a:=rV (L:=L) (L2:=L2) (t:=t) (tm0:=tm0) (dst:=dst) (val:=val) k (fun j b=>h j Q);simp only[tmOf];by_cases c:dst k=some t
  .rw[h k Q c];split
   .rw[nU,nU,Ti c,Ti c]
   exact a
  split <;> split <;> simp[nU,c,a]
def va{tm0:T V}{dst:Nat->Option Nat}{val:Nat->V}{L:Nat->Bool}{t i:Nat}:∀(k:Nat),i≤k->(∀j,i≤j->j<k->dst j=some t->L j=false)->(tmOf tm0 dst val L k).get t=(tmOf tm0 dst val L i).get t
 | 0,h,_=>by have:i=0:=Q;subst this;rfl
 |k+1,h,hl=>by
  by_cases e:i=k+1
  .subst e;rfl
  have a:=va (L:=L) (t:=t) (i:=i) (tm0:=tm0) (dst:=dst) (val:=val) k Q (fun j b d=>hl j b Q);simp only[tmOf];by_cases c:dst k=some t
  .rw[hl k Q Q c];simpa using a
  split
  .rw[nU,Tg c];exact a
  exact a
def tA{a:List dY}{j:Nat}{d:dY}(b:a[j]?=some d)(ha:bh d.o.op=true):∀{i:Nat},j<i->iE (a.take j)<iE (a.take i):=by
 induction a generalizing j with
 |nil=>simp at b
 |cons x r c=>
  intro i hi;cases i with
  |zero=>omega
  |succ i=>
   cases j with
   |zero=>simp at b;subst b;simp[iE,ha];omega
   |succ j=>
    have:=c (by simpa using b) (i:=i) Q;simp[iE];omega
end AM
namespace AM
open Go Go.RowKit
variable {P:Program} {φ:TF} {tm:T V} {a:Act} {w:World} {w0:lK} {σ σ':St} {G B:Nat} {call:iB}
def J7{t:TypeId}{x:Operand}{z:List V}:vz P t x≠some (.alloc z):=by
 intro h;unfold vz at h;repeat' (split at h)
 all_goals cases h
def Hi{t:TypeId}{x:Operand}{lo hi a:Option Operand}{z:List V}:qd P t x lo hi a≠some (.alloc z):=by
 intro h;unfold qd at h;repeat' (split at h)
 all_goals cases h
def Ok{op:BinOp}{t:TypeId}{x y:Operand}{z:List V}:Ea P op t x y≠some (.alloc z):=by
 intro h;unfold Ea at h;repeat' (split at h)
 all_goals cases h
def B0{b:Builtin}{ts:Array TypeId}{args:List Operand}{z:List V}:iJ P b ts args≠some (.alloc z):=by
 intro h;unfold iJ at h;repeat' (split at h)
 all_goals cases h
def A6{o:Oper}{z:List V}(h:aN P o=some (.alloc z)):∃t,o.op=.alloc t∧nQ P t=some z:=by
 unfold aN at h;split at h
 all_goals (first|(exact(J7 h).elim)|(exact(Hi h).elim)|(exact(Ok h).elim)|skip)
 case h_4=>
  split at h
  .cases h;exact⟨_,by assumption,by assumption⟩
  cases h
 all_goals (repeat' (split at h))
 all_goals (first|(exact(B0 h).elim)|cases h)
def wP(db:P.follows .mixedOrders=true)(dz:G=P.globals.size)(cf:iY P G call):pd P G call:=by
 intro n id g O ac fr Tw σ σ' V B w0 φ a w hR hF;unfold rM at ac;split at ac
 .cases ac
 rename_i l hl;split at ac
 rotate_left
 .cases ac
 rename_i dm;simp only[Vs]at dm;obtain⟨b8,b0⟩:=dm;simp only[TC]at ac;unfold jM at V;split at V
 rotate_left
 .cases V
 rename_i aM tr es b4;split at V
 rotate_left
 .cases V
 rename_i b6;simp only[TC,TU]at V;obtain⟨rfl,rfl⟩:=V;obtain⟨c5,c0⟩:=pI hl;have hN:l.length=g.size:=by simpa using c5
 obtain⟨bx,b2⟩:=kP (G:=G) (B:=B) O σ;have dF:=b2 σ hR;generalize ej:Vx O σ=am at *;obtain⟨ei,eg,b5,ed,cl,b1,cp⟩:=zt O b4;generalize ct:Xf [] g.toList=Bf at *;have I:∀(j:Nat) (A:eY),l[j]?=some A->O[j]?=some ⟨A,Kq Bf l j,Kd Bf l j⟩:=by intro j A F;rw[<- ac];simp[F]
 have ad:O.length=g.size:=by rw[<- ac];simp[hN]
 have cS:∀j,(O[j]?).any (fun d=>cM d.o.op)=eG l j:=by
  intro j;unfold eG;cases F:l[j]? with
  |none=>
   have:O[j]?=none:=by rw[<- ac];simp[F]
   rw[this];rfl
  |some A=>rw[I j A F];rfl
 have av:∀j,kM (O.take j)=eM (eG l) (min j g.size):=by intro j;rw[HG,ad];exact lW (fun i _=>cS i)
 generalize hE:(fr.defers,am) ::es=E at *;generalize d7:(fun(L:Nat->Bool) (j:Nat)=>tmOf fr.tmps (jy O) (V8 tr) L j)=R;have M:∀L j,tmOf fr.tmps (jy O) (V8 tr) L j=R L j:=fun L j=>by rw[<- d7]
 let Hh:Nat->Nat:=fun j=>σ.next+iE (O.take j)
 let XL:(Nat->Bool)->Nat->Prop:=fun L x=>w0.X x∨∃j A,L j=false∧l[j]?=some A∧bh A.op=true∧x=Hh j
 have J:∀j,j<g.size->∃o A,g[j]?=some o∧g.toList[j]?=some o∧l[j]?=some A∧kQ P n g o=some A:=by
  intro j F;have ho:g.toList[j]?=some g[j]:=by simp[F]
  obtain⟨A,h1,h2⟩:=c0 j _ ho;exact⟨g[j],A,by simp[F],ho,h1,h2⟩
 have ay:∀j A,l[j]?=some A->jy O j=A.dst:=by intro j A F;unfold jy;rw[I j A F];rfl
 have bv:O.take g.size=O:=by rw[<- ad];exact ZI
 have co:kM O=eM (eG l) g.size:=by have:=av g.size;rw[bv,Nat.min_self]at this;exact this
 have b9:∀(L:Nat->Bool) (a:Act) (w:World),(∀j,j<g.size->L j=true) →
   (∃s e,φ.le s∧E[eM (fun j=>eG l j && L j) g.size]?=some e∧T2 G B ⟨w0.w,XL L⟩ s e.2 w∧DR s e.1 a.defers∧n≤a.tmps.size∧
    ∀t,VR s (((R L g.size).get t).getD .undef) (a.tmps.getD t Go.undef)) →
   ∃D,φ.le D∧T2 G B w0 D (gW am es) w∧FR n D aM a:=by
  intro L a w S ⟨s,e,hle,U,af,bd,aL,be⟩;have hm:eM (fun j=>eG l j && L j) g.size=kM O:=by rw[co];exact lW (fun j F=>by rw[S j F];simp)
  rw[hm,cl]at U;simp at U;subst U;refine⟨s,hle,?_,?_⟩
  .rw[cp];exact af.aa8 rfl (fun x hx=>af.XF x (.inl hx))
  rw[b1];refine⟨fun t=>?_,aL,bd⟩;have dI:(R L g.size).get t=(R (fun _=>true) O.length).get t:=by rw[ad, <- M, <- M];exact rV _ (fun j F _=>S j F)
  have:=be t;rw[dI]at this;simp only;rw[M];exact this
 refine wp_region_any db ?_;have du:∀(H:Nat) (f:Array Bool) (a:Act) (w:World),f.size=g.size →
   (∀j o,f.getD j false=true->g.toList[j]?=some o->∀e∈o.after.toList,Region.binds .any e=true->f.getD e.on false=true) →
   (H+1)+eM (fun j=>f.getD j false) g.size=g.size →
   (∃s e,φ.le s∧E[eM (fun j=>eG l j && f.getD j false) g.size]?=some e∧T2 G B ⟨w0.w,XL (fun j=>f.getD j false)⟩ s e.2 w∧DR s e.1 a.defers∧n≤a.tmps.size∧
    ∀t,VR s (((R (fun j=>f.getD j false) g.size).get t).getD .undef) (a.tmps.getD t Go.undef)) →
   ∀i∈Region.ready .any g f,
   (∀(f:Array Bool) (a:Act) (w:World),f.size=g.size →
    (∀j o,f.getD j false=true->g.toList[j]?=some o->∀e∈o.after.toList,Region.binds .any e=true->f.getD e.on false=true) →
    H+eM (fun j=>f.getD j false) g.size=g.size →
    (∃s e,φ.le s∧E[eM (fun j=>eG l j && f.getD j false) g.size]?=some e∧T2 G B ⟨w0.w,XL (fun j=>f.getD j false)⟩ s e.2 w∧DR s e.1 a.defers∧n≤a.tmps.size∧
     ∀t,VR s (((R (fun j=>f.getD j false) g.size).get t).getD .undef) (a.tmps.getD t Go.undef)) →
    wpAny P .any g (fun e a' w'=>e=.normal∧∃D,φ.le D∧T2 G B w0 D (gW am es) w'∧FR n D aM a') H f a w) →
   wpOp P g (fun e a' w'=>e=.normal∧∃D,φ.le D∧T2 G B w0 D (gW am es) w'∧FR n D aM a') i
    (wpAny P .any g (fun e a' w'=>e=.normal∧∃D,φ.le D∧T2 G B w0 D (gW am es) w'∧FR n D aM a') H (f.setIfInBounds i true)) a w:=by
  intro H f a w al bi bl W i hi ih;obtain⟨h0,o,ho,ck⟩:=mem_ready.1 hi;have ag:i<g.size:=(aas.1 ho).1;obtain⟨o',A,de,df,Z,bs⟩:=J i ag;have:o'=o:=by rw[ho]at de;cases de;rfl
  subst this;obtain⟨bu,cg,cO⟩:=pH bs;obtain⟨s,e,c4,U,af,bd,aL,be⟩:=W;generalize hL:(fun j=>f.getD j false)=L at *;have d0:∀j,f.getD j false=L j:=fun j=>congrFun hL j
  simp only[d0]at U;have aP:L i=false:=by rw[<- hL];simp[Array.getD,al,ag]at h0⊢;exact h0
  have cv:(fun j=>(f.setIfInBounds i true).getD j false)=fun j=>if j=i then true else L j:=by
   funext j
   by_cases c:j=i
   .subst c;simp[Array.getD,al,ag]
   rw[Tg c, <- hL];simp only;rw[getD_set_ne false (U2 c)]
  have bk:∀j o,L j=true->g.toList[j]?=some o->∀e∈o.after.toList,Region.binds .any e=true->L e.on=true:=by rw[<- hL];exact bi
  have aB:∀e∈o'.after.toList,Region.binds .any e=true->L e.on=true:=by rw[<- hL];intro e U hb;exact ck e (by simpa using U) hb
  have T:∀j,(Bf.getD i 0).testBit j=true->L j=true:=by intro j F;rw[<- ct]at F;exact wm bk i j o' df aB F
  have N:∀j,j<g.size->(Bf.getD j 0).testBit i=true->L j=false:=by
   intro j F hb;cases hc:L j with
   |false=>rfl
   |true=>
    obtain⟨oj,_,_,ba,_,_⟩:=J j F;rw[<- ct]at hb;have:=wm bk j i oj ba (fun e U dL=>bk j oj hc ba e U dL) hb;rw[aP]at this;cases this
  obtain⟨eh,dy,aJ⟩:=tD b8 Z;have cP:jy O i=A.dst:=ay i A Z;have b3:∀t∈A.Ym,(R L g.size).get t=(R (fun _=>true) i).get t:=by
   intro t ht;have h1:(R L g.size).get t=(R L i).get t:=by
    rw[<- M, <- M];refine va g.size Q (fun j d1 bw hd=>?_);by_cases c:j=i
    .subst c;exact aP
    obtain⟨oj,K,_,_,u,_⟩:=J j bw;rw[ay j K u]at hd;have:=(aJ j K u).2 c t hd ht;rw[ZN Q,Nat.min_eq_right Q]at this;exact N j bw this
   have h2:(R L i).get t=(R (fun _=>true) i).get t:=by rw[<- M, <- M];refine rV i (fun j F hd=>?_);obtain⟨oj,K,_,_,u,_⟩:=J j Q;rw[ay j K u]at hd;have:=(aJ j K u).2 Q t hd ht;rw[aaO Q,Xb Q]at this;exact T j this
   exact h1.trans h2
  have cy:∀t∈A.Ym,VR s (((R (fun _=>true) i).get t).getD .undef) (a.tmps.getD t Go.undef):=by intro t ht;rw[<- b3 t ht];exact be t
  have cE:TR s (R (fun _=>true) i) a A.op.tmps:=fun t ht=>cy t (by simp[eY.Ym,ht])
  have cs:=xA (tm:=R (fun _=>true) i) (a:=a) bs (fun t ht=>cy t (by simp only[eY.Ym,VJ];exact .inr ht));obtain⟨e1,e2,bN,aS,bY,r⟩:=b5 i _ (I i A Z);rw[M]at bN r;have da:kM (O.take i)=eM (eG l) i:=by rw[av,Xb Q]
  have cc:kM (O.take (i+1))=eM (eG l) i+(if eG l i then 1 else 0):=by rw[av,Xb Q];rfl
  have as:eG l i=cM A.op:=by unfold eG;rw[Z]
  have dn:(f.setIfInBounds i true).size=g.size:=by simpa using al
  have cL:∀j o,(f.setIfInBounds i true).getD j false=true->g.toList[j]?=some o->∀e∈o.after.toList,Region.binds .any e=true->(f.setIfInBounds i true).getD e.on false=true:=by
   intro j oj F ba e U hb;refine getD_set_true ?_;by_cases c:j=i
   .subst c;rw[df]at ba;cases ba;have:=aB e U hb;rw[<- hL]at this;exact this
   rw[getD_set_ne false (U2 c)]at F;exact bi j oj F ba e U hb
  have ch:H+eM (fun j=>(f.setIfInBounds i true).getD j false) g.size=g.size:=by rw[cv];have:=Bb (p:=L) (q:=fun j=>if j=i then true else L j) aP Y (k:=g.size) (fun j _ ax=>by simp[ax]);rw[this,Ti ag];omega
  have dQ:eM (fun j=>eG l j && (fun j=>if j=i then true else L j) j) g.size=eM (fun j=>eG l j && L j) g.size+(if eG l i then 1 else 0):=by
   cases hc:eG l i with
   |true=>
    have:=Bb (p:=fun j=>eG l j && L j) (q:=fun j=>eG l j && (fun j=>if j=i then true else L j) j) (i:=i) (by simp[aP]) (by simp[hc]) (k:=g.size) (fun j _ ax=>by simp[ax]);rw[this,Ti ag];rfl
   |false=>
    have:=KJ (p:=fun j=>eG l j && L j) (q:=fun j=>eG l j && (fun j=>if j=i then true else L j) j) (i:=i) (k:=g.size) (by simp[hc]) (fun j _ ax=>by simp[ax]);rw[this];rfl
  have cx:∀t,(R (fun j=>if j=i then true else L j) g.size).get t=(if A.dst=some t then some (V8 tr i)else(R L g.size).get t):=by
   intro t;by_cases c:A.dst=some t
   .rw[Ti c];have d8:t∈A.Ym:=by simp[eY.Ym,c]
    have h1:(R (fun j=>if j=i then true else L j) g.size).get t=(R (fun j=>if j=i then true else L j) (i+1)).get t:=by rw[<- M, <- M];refine va g.size Q (fun j d1 bw hd=>?_);have cj:j≠i:=Q;obtain⟨oj,K,_,_,u,_⟩:=J j bw;rw[ay j K u]at hd;have:=(aJ j K u).2 cj t hd d8;rw[ZN Q,Nat.min_eq_right Q]at this;simp only[cj,Ul];exact N j bw this
    rw[h1, <- M,tmOf];simp only[TT];rw[nU,cP,Ti c]
   rw[Tg c, <- M, <- M];refine rV g.size (fun j F hd=>?_);by_cases cj:j=i
   .subst cj;rw[cP]at hd;exact(c hd).elim
   simp[cj]
  have ar:∀(ap:TF) (x:Value) (w2:World) (bb:List Deferred) (ee:T4×St),s.le ap->E[eM (fun j=>eG l j && L j) g.size+(if eG l i then 1 else 0)]?=some ee →
    T2 G B ⟨w0.w,XL (fun j=>if j=i then true else L j)⟩ ap ee.2 w2->VR ap (V8 tr i) x->DR ap ee.1 bb →
    wpAny P .any g (fun e a' w'=>e=.normal∧∃D,φ.le D∧T2 G B w0 D (gW am es) w'∧FR n D aM a') H (f.setIfInBounds i true) (({ a with defers:=bb }:Act).put o'.dst x) w2:=by
   intro ap x w2 bb ee ah aU bT bS ci;refine ih _ _ w2 dn cL ch ?_;have dU:∀j,(f.setIfInBounds i true).getD j false=(if j=i then true else L j):=fun j=>congrFun cv j
   simp only[dU];refine⟨ap,ee,c4.trans ah,by rw[dQ];exact aU,bT,?_,?_,fun t=>?_⟩
   .cases o'.dst <;> exact ci
   .cases dk:o'.dst <;> simp[Act.put,aL]
   rw[cx t,cg];cases dk:o'.dst with
   |none=>simp only[Act.put];simpa using VR.mono ah _ _ (be t)
   |some d=>
    have cR:d<a.tmps.size:=YY (cO d dk) aL;simp only[Act.put];by_cases c:d=t
    .subst c;have:(a.tmps.setIfInBounds d x).getD d Go.undef=x:=by simp[Array.getD,cR]
     rw[this];simpa using bS
    have:(a.tmps.setIfInBounds d x).getD t Go.undef=a.tmps.getD t Go.undef:=by rw[ZD,ZD,abU c]
    rw[this];have ax:¬(some d=some t):=by simpa using c
    rw[Tg ax];exact VR.mono ah _ _ (be t)
  have cJ:∀x,bh A.op=false->XL (fun j=>if j=i then true else L j) x->XL L x:=by
   rintro x ek (hx|⟨j,K,F,u,ha,rfl⟩)
   .exact .inl hx
   refine .inr ⟨j,K,?_,u,ha,rfl⟩;by_cases c:j=i
   .subst c;simp at F
   simpa [c]using F
  have d2:Kq Bf l i≤eM (fun j=>eG l j && L j) g.size:=by unfold Kq;rw[hN];refine wN (fun j F h=>?_);simp only[Vs]at h⊢;exact⟨h.1,T j h.2⟩
  have c3:eM (fun j=>eG l j && L j) g.size≤Kd Bf l i:=by
   unfold Kd;rw[hN];refine wN (fun j F h=>?_);simp only[Vs,aav]at h⊢;refine⟨h.1,?_⟩;cases hb:(Bf.getD j 0).testBit i with
   |false=>rfl
   |true=>have:=N j F hb;rw[h.2]at this;cases this
  have aC:cM A.op=true->eM (fun j=>eG l j && L j) g.size=eM (eG l) i:=by
   intro hE;refine xc Q (fun j F=>?_);obtain⟨oj,K,_,_,u,_⟩:=J j F;have dS:eG l j=cM K.op:=by unfold eG;rw[u]
   cases hc:eG l j with
   |false=>simp
   |true=>
    rw[dS]at hc;simp only[WL];by_cases c:j<i
    .have:=(aJ j K u).1 hE hc c;rw[T j this];simp[c]
    by_cases c':j=i
    .subst c';rw[aP];simp
    obtain⟨_,_,cr⟩:=tD b8 u;have:=(cr i A Z).1 hc hE Q;rw[N j F this];simp[c]
  unfold wpOp;rw[ho];simp only;rw[cs];unfold pZ at r;simp only at r;by_cases hw:eJ A.guard (R (fun _=>true) i)=true
  .rw[Ti hw]at r⊢;left;by_cases ha:bh A.op=true
   .rw[Ti ha]at r;obtain⟨hv,aU⟩:=r;have hE:cM A.op=false:=by simp[cM,ha]
    cases cq:A.op with
    |alloc z=>
     obtain⟨_,c2⟩:=og O σ.next tr b6 i _ _ _ (I i A Z) bN;have dh:=tU _ 0 (c2 z cq) _ e U (by simpa using c3);have ea:s (Hh i)=none:=(af.XF (Hh i) (.inr ⟨i,A,aP,Z,ha,rfl⟩)).1;rw[cq]at bu;obtain⟨t,d5,hz⟩:∃t,o'.op=.alloc t∧nQ P t=some z:=A6 bu;obtain⟨X,hX,hr,hs,dH⟩:=gC hz;have bC:=af.Qb (X':=XL (fun j=>if j=i then true else L j)) (zs:=X.cells.toList) (C:=X.cells) (E:=t) dh ea (hr s) dH (fun k hk=>by rw[WR (by simp;omega)];simp) (by
      rintro x (hx|⟨j,K,F,u,cK,rfl⟩)
      .refine⟨.inl hx,?_⟩;have:=(hR.XF x hx).2;omega
      have cj:j≠i:=by rintro rfl;simp at F
      refine⟨.inr ⟨j,K,by simpa [cj]using F,u,cK,rfl⟩,?_⟩;simp only[Hh];rcases aaN cj with c|c
      .have:=tA (I j K u) cK c;omega
      have:=tA (I i A Z) ha c;omega)
     refine Oper.lY (x:=.pointer (some ⟨w.heap.size,0,none⟩)) (w':=w.alloc (.cells X.cells t)) ?_ ?_
     .simp[execOp,d5,Instr.alloc,hX,newVar,newRow]
     refine ar _ _ _ a.defers e bC.2 (by rw[as,hE];simpa using U) bC.1 ?_ (DR.mono bC.2 bd);rw[hv];exact⟨w.heap.size,z.length,TF.an _ _ _,rfl⟩
    |_=>rw[cq]at ha;cases ha
   rw[Tg ha]at r;have ce:bh A.op=false:=by simpa using ha
   have cm:∃ee:T4×St,Uh call A.op (R (fun _=>true) i) e.1 e.2=some (V8 tr i,ee.1,ee.2)∧E[eM (fun j=>eG l j && L j) g.size+(if eG l i then 1 else 0)]?=some ee:=by
    cases hE:cM A.op with
    |true=>
     rw[da]at aS;have hm:=aC hE;rw[hm]at U;rw[U]at aS;cases aS;rw[cc]at bY;exact⟨e2,r,by rw[hm];exact bY⟩
    |false=>
     rw[as,hE];refine⟨e,?_,by simpa using U⟩;obtain⟨q1,q2⟩:=qP r hE ce;unfold Uh at r⊢;by_cases hp:cD A.op=true
     .rw[Ti hp]at r⊢;split at r
      .rename_i v hv;simp only[TC,TU]at r⊢;simp[r.1]
      cases r
     rw[Tg hp]at r⊢;have b4:bQ A.op=true:=by
      have d6:cD A.op=false:=by simpa using hp
      simpa [cM,d6,ce]using hE
     rw[Ti b4];obtain⟨c1,_⟩:=og O σ.next tr b6 i _ _ _ (I i A Z) bN;have:=tV _ 0 (c1 b4 hw) _ e U (by simpa using d2) (by simpa using c3);rw[this]
   obtain⟨ee,cm,aU⟩:=cm;refine qy (w0:=⟨w0.w,XL L⟩) cf bu cm dz cE bd af ?_;intro ap x w2 bb ah bT bS ci;refine ar ap x w2 bb ee ah aU (bT.aa8 rfl (fun y hy=>bT.XF y (cJ y ce hy))) bS ci
  rw[Tg hw]at r⊢;obtain⟨ha,hv,aU⟩:=r;have cn:∃ee:T4×St,e=ee∧E[eM (fun j=>eG l j && L j) g.size+(if eG l i then 1 else 0)]?=some ee:=by
   cases hE:cM A.op with
   |true=>
    rw[da]at aS;have hm:=aC hE;rw[hm]at U;rw[U]at aS;cases aS;rw[cc,aU]at bY;exact⟨e,rfl,by rw[hm];exact bY⟩
   |false=>rw[as,hE];exact⟨e,rfl,by simpa using U⟩
  obtain⟨_,rfl,cn⟩:=cn;have bS:VR s (V8 tr i) Go.undef:=by rw[hv];exact VR.undef
  exact ar s Go.undef w a.defers e (TF.le.refl _) cn (af.aa8 rfl (fun y hy=>af.XF y (cJ y ha hy))) bS bd
 have dq:∀(H:Nat) (f:Array Bool) (a:Act) (w:World),f.size=g.size →
   (∀j o,f.getD j false=true->g.toList[j]?=some o->∀e∈o.after.toList,Region.binds .any e=true->f.getD e.on false=true) →
   H+eM (fun j=>f.getD j false) g.size=g.size →
   (∃s e,φ.le s∧E[eM (fun j=>eG l j && f.getD j false) g.size]?=some e∧T2 G B ⟨w0.w,XL (fun j=>f.getD j false)⟩ s e.2 w∧DR s e.1 a.defers∧n≤a.tmps.size∧
    ∀t,VR s (((R (fun j=>f.getD j false) g.size).get t).getD .undef) (a.tmps.getD t Go.undef)) →
   wpAny P .any g (fun e a' w'=>e=.normal∧∃D,φ.le D∧T2 G B w0 D (gW am es) w'∧FR n D aM a') H f a w:=by
  intro H;induction H with
  |zero=>
   intro f a w al bi bl W;have S:∀j,j<g.size->f.getD j false=true:=B7 Q;refine⟨?_,?_⟩
   .rw[List.eq_nil_iff_forall_not_mem];intro j F;obtain⟨h0,o,ho,_⟩:=mem_ready.1 F;have ca:j<g.size:=(aas.1 ho).1;have h1:=S j ca;simp[Array.getD,al,ca]at h0 h1;rw[h0]at h1;cases h1
   exact⟨rfl,b9 _ a w S W⟩
  |succ H ih=>
   intro f a w al bi bl W;refine⟨fun dd=>?_,fun i hi=>?_⟩
   .have S:∀j,j<g.size->f.getD j false=true:=by
     intro j;induction j using Nat.strongRecOn with
     |_ j eb=>
      intro F;cases hc:f.getD j false with
      |true=>rfl
      |false=>
       obtain⟨o,A,ho,d4,_,_⟩:=J j F;have cb:j∈Region.ready .any g f:=by
        refine mem_ready.2 ⟨?_,o,ho,fun e U hb=>?_⟩
        .simp[Array.getD,al,F]at hc⊢;exact hc
        have:=qW g.toList 0 b0 j o d4 e (by simpa using U) hb;exact eb e.on Q Q
       rw[dd]at cb;cases cb
    exact⟨rfl,b9 _ a w S W⟩
   exact du H f a w al bi bl W i hi ih
 refine dq g.size _ a w.drew Y ?_ ?_ ?_
 .intro j o F;simp[Array.getD]at F
 .have:eM (fun j=>(Array.replicate g.size false).getD j false) g.size=0:=by
   have:∀k,eM (fun j=>(Array.replicate g.size false).getD j false) k=0:=by
    intro k;induction k with
    |zero=>rfl
    |succ k ih=>simp only[eM,ih];simp[Array.getD]
   exact this _
  omega
 have cw:∀j,(Array.replicate g.size false).getD j false=false:=by intro j;simp[Array.getD]
 have dO:eM (fun j=>eG l j && (Array.replicate g.size false).getD j false) g.size=0:=by
  have:∀k,eM (fun j=>eG l j && (Array.replicate g.size false).getD j false) k=0:=by
   intro k;induction k with
   |zero=>rfl
   |succ k ih=>simp only[eM];rw[ih];simp[cw]
  exact this _
 refine⟨φ,(fr.defers,am),TF.le.refl _,by rw[dO, <- hE];rfl,dF.drew.aa8 rfl ?_,hF.ds,hF.size,?_⟩
 .rintro x (hx|⟨j,A,_,F,ha,rfl⟩)
  .obtain⟨p,q⟩:=hR.XF x hx;exact⟨p,by rw[bx];omega⟩
  have d3:=tA (I j A F) ha (i:=O.length) (by
   have:j<l.length:=by
    rcases Vm j l.length with k|k
    .exact k
    rw[Xk k]at F;cases F
   omega)
  rw[ZI]at d3;refine⟨?_,by rw[bx];simp only[Hh];omega⟩;cases hc:φ (Hh j)with
  |none=>rfl
  |some y=>obtain⟨b,m⟩:=y;have:=(hR.V6 _ _ _ hc).1;simp only[Hh]at this;omega
 intro t;have d9:(R (fun j=>(Array.replicate g.size false).getD j false) g.size).get t=fr.tmps.get t:=by rw[<- M];have:=va (tm0:=fr.tmps) (dst:=jy O) (val:=V8 tr) (L:=fun j=>(Array.replicate g.size false).getD j false) (t:=t) (i:=0) g.size Q (fun j _ _ _=>cw j);rw[this];rfl
 rw[d9];exact hF.ts t
end AM
namespace AM
open Go Go.RowKit Go.Conc.Locks
variable {P:Program} {φ:TF} {w:World} {w0:lK} {σ σ':St} {G B:Nat}
theorem T2.D8(h:T2 G B w0 φ σ w){id off b n:Nat}{u v:V}{x:Value}(hc:σ.cell id off=some u)(hs:σ.store id off [v]=some σ')(ha:φ id=some (b,n))(hv:VR φ v x)(hx:x.oneCell'=true):
  w.frozen? ⟨b,off,none⟩=false∧T2 G B w0 φ σ' (w.setCell ⟨b,off,none⟩ x):=by
 obtain⟨y,hy,_⟩:=h.cell hc ha;obtain⟨w',hrun,hR⟩:=h.store (P:=(default:Program)) hs ha (LR.cons hv LR.nil);have h0:(⟨b,off,none⟩:Addr).add 0=⟨b,off,none⟩:=jg b off 0;simp only[storeCells,h0,Wn,Ys]at hrun;rw[run_store (default:Program) w ⟨b,off,none⟩ x .plain hx,hy]at hrun;cases hf:w.frozen? ⟨b,off,none⟩with
 |true=>rw[hf]at hrun;simp[Result.andThen]at hrun
 |false=>
  rw[hf]at hrun;simp[Result.andThen]at hrun;subst hrun;exact⟨rfl,hR⟩
def LR.one{v:V}{l:List Value}(h:LR φ [v] l):∃x,l=[x]∧VR φ v x:=by obtain⟨x,s,rfl,a,b⟩:=h;cases b;exact⟨x,rfl,a⟩
def LR.Xi{u v:V}{l:List Value}(h:LR φ [u,v] l):∃x y,l=[x,y]∧VR φ u x∧VR φ v y:=by obtain⟨x,s,rfl,a,b⟩:=h;obtain⟨y,rfl,c⟩:=LR.one b;exact⟨x,y,rfl,a,c⟩
def rS{id off:Nat}{x:Value}(h:VR φ (.ptr (some (id,off))) x):∃b n,φ id=some (b,n)∧x=.pointer (some ⟨b,off,none⟩):=h
def lr:VR φ (.tuple []) (.tuple #[]):=⟨#[],rfl,rfl⟩
def Ol{L:MuLink}(H:MuLib P L){xs:List V}{v:V}(h:dA .lock xs σ=some (v,σ')):mA P G L.lock xs σ v σ':=by
 intro B w0 φ w a j m;unfold dA at h;split at h
 .rename_i id d o;split at h
  .rename_i l;obtain⟨⟨⟩⟩:=o;cases c:σ.store id d [.int .i32 1]with
   |none=>rw[c]at h;simp at h
   |some r=>
    rw[c]at h;simp at h;obtain⟨rfl,rfl⟩:=h;obtain⟨x,hx,p⟩:=LR.one m;obtain⟨b,n,k,rfl⟩:=rS p;obtain⟨y,hy,i⟩:=j.cell l k;cases i;obtain⟨q,g⟩:=j.D8 (x:=.int .i32 1) l c k rfl rfl;have f:a=#[.pointer (some ⟨b,d,none⟩)]:=by cases a;simpa using hx
    subst f;left;refine⟨ab5 (P:=P) H.f_lock (by kernel_rfl) rfl _ w,?_⟩;refine(MuLone.lock_free H ⟨b,d,none⟩ w hy q).mono ?_;rintro e s ⟨rfl,rfl⟩;exact⟨φ,_,rfl,TF.le.refl _,g,lr⟩
  cases h
 all_goals (first|contradiction|cases h)
def zy{L:MuLink}(H:MuLib P L){xs:List V}{v:V}(h:dA .unlock xs σ=some (v,σ')):mA P G L.unlock xs σ v σ'∧DH P G L.unlock xs σ v σ':=by
 have l:∀B w0 φ w (c:Array Value),T2 G B w0 φ σ w->LR φ xs c.toList->∃a,c=#[.pointer (some a)]∧w.cell? a=some (.int .i32 1)∧w.frozen? a=false∧v=.tuple []∧T2 G B w0 φ σ' (w.setCell a (.int .i32 0)):=by
  intro B w0 φ w c g j;unfold dA at h;split at h
  .contradiction
  .rename_i id o q;split at h
   .rename_i i;obtain⟨⟨⟩⟩:=q;cases f:σ.store id o [.int .i32 0]with
    |none=>rw[f]at h;simp at h
    |some t=>
     rw[f]at h;simp at h;obtain⟨rfl,rfl⟩:=h;obtain⟨x,hx,r⟩:=LR.one j;obtain⟨b,n,p,rfl⟩:=rS r;obtain⟨y,hy,m⟩:=g.cell i p;cases m;obtain⟨k,d⟩:=g.D8 (x:=.int .i32 0) i f p rfl rfl;exact⟨_,by cases c;simpa using hx,hy,k,rfl,d⟩
   cases h
  all_goals (first|contradiction|cases h)
 refine⟨?_,fun c w=>ab5 (P:=P) H.f_unlock (by kernel_rfl) rfl _ w,?_⟩
 .intro B w0 φ w c g j;obtain⟨a,rfl,i,k,rfl,d⟩:=l B w0 φ w c g j;left;refine⟨ab5 (P:=P) H.f_unlock (by kernel_rfl) rfl _ w,?_⟩;refine(MuLone.unlock_held H a w i k).mono ?_;rintro e s ⟨rfl,rfl⟩;exact⟨φ,_,rfl,TF.le.refl _,d,lr⟩
 intro B w0 φ w c g j;obtain⟨a,rfl,i,k,rfl,d⟩:=l B w0 φ w c g j;refine(MuLone.unlock_deferred H a .returning w i k).mono ?_;rintro e u s ⟨rfl,rfl,rfl⟩;exact⟨rfl,φ,_,rfl,TF.le.refl _,d,lr⟩
def DV{g : FuncId}{d : Func}(r : P.funcs[g]? = some d)(c : (d.name == "runtime.NumGoroutine") = false)(o : d.body.isNone = true)(hn : Extern.findNext d = none)(q:Extern.find d=some (Extern.Atomic.loadT (.int .u32))){xs:List V}{v:V}(h:dA .aal xs σ=some (v,σ')):mA P G g xs σ v σ':=by
 intro B w0 φ w a l m;unfold dA at h;split at h
 .contradiction
 .contradiction
 .rename_i id j hx;split at h
  .rename_i k p;obtain⟨⟨⟩⟩:=hx;simp at h;obtain⟨rfl,rfl⟩:=h;obtain⟨x,hx,s⟩:=LR.one m;obtain⟨b,n,f,rfl⟩:=rS s;obtain⟨y,hy,i⟩:=l.cell p f;cases i;have e:a=#[.pointer (some ⟨b,j,none⟩)]:=by cases a;simpa using hx
   subst e;exact .inr ⟨_,w,φ,run_call_load r c o hn .u32 q hy,TF.le.refl _,l,rfl⟩
  cases h
 all_goals (first|contradiction|cases h)
def tL{g : FuncId}{e : Func}(u : P.funcs[g]? = some e)(c : (e.name == "runtime.NumGoroutine") = false)(s : e.body.isNone = true)(hn : Extern.findNext e = none)(t:Extern.find e=some Extern.Atomic.storeT){xs:List V}{v:V}(h:dA .aap xs σ=some (v,σ')):mA P G g xs σ v σ':=by
 intro B w0 φ w a p r;unfold dA at h;split at h
 .contradiction
 .contradiction
 .contradiction
 .rename_i id j m hx;split at h
  .rename_i k q;obtain⟨⟨⟩⟩:=hx;cases d:σ.store id j [.int .u32 m]with
   |none=>rw[d]at h;simp at h
   |some E=>
    rw[d]at h;simp at h;obtain⟨rfl,rfl⟩:=h;obtain⟨x,y,o,z,A⟩:=LR.Xi r;cases A;obtain⟨b,n,i,rfl⟩:=rS z;obtain⟨y,hy,C⟩:=p.cell q i;obtain⟨D,l⟩:=p.D8 (x:=.int .u32 m) q d i rfl rfl;have f:a=#[.pointer (some ⟨b,j,none⟩),.int .u32 m]:=by cases a;simpa using o
    subst f;exact .inr ⟨_,_,φ,run_call_store u c s hn t hy D,TF.le.refl _,l,lr⟩
  cases h
 all_goals (first|contradiction|cases h)
#print axioms tL
#print axioms wP
end AM
