import Derived.Test.YtlgmpheammbacaaGreatDoorPye
set_option linter.all false
namespace AM
open Go
noncomputable section
variable {Γ:T AF} {M:List fK}
def mk{b:Sort _}(a:b):b:=a
def acz{b:Sort _}(a:b):mk a=a:=WY (Eq.refl a) (Eq.refl a)
def ef{b:Type}(o:Option b)(K:b->Prop):Prop:=match o with
 |some a=>K a
 |none=>False
theorem Ck{b:Type}{a:b}{K:b->Prop}:ef (some a) K=K a:=(rfl)
@[congr] theorem MT{b:Type}{o a:Option b}{K:b->Prop}(h:mk o=a):ef o K=ef a K:=by rw[<- h];rfl
def WC(t:Bool)(p q:Prop):Prop:=if t=true then p else q
theorem Dn{p q:Prop}:WC true p q=p:=(rfl)
theorem yK{p q:Prop}:WC false p q=q:=(rfl)
@[congr] theorem QD{t a:Bool}{p q:Prop}(h:mk t=a):WC t p q=WC a p q:=by rw[<- h];rfl
def asBool(v:V)(K:Bool->Prop):Prop:=match v with
 | .bool b=>K b
 |_=>False
theorem Dz{b:Bool}{K:Bool->Prop}:asBool (.bool b) K=K b:=(rfl)
@[congr] theorem Ns{v a:V}{K:Bool->Prop}(h:mk v=a):asBool v K=asBool a K:=by rw[<- h];rfl
def asInt(v:V)(K:IntKind->Int->Prop):Prop:=match v with
 | .int k n=>K k n
 |_=>False
theorem Is{k:IntKind}{n:Int}{K:IntKind->Int->Prop}:asInt (.int k n) K=K k n:=(rfl)
@[congr] theorem O7{v a:V}{K:IntKind->Int->Prop}(h:mk v=a):asInt v K=asInt a K:=by rw[<- h];rfl
def nz(v:V)(K:Nat->Nat->Prop):Prop:=match v with
 | .ptr (some p)=>K p.1 p.2
 |_=>False
theorem H6{a o:Nat}{K:Nat->Nat->Prop}:nz (.acK a o) K=K a o:=(rfl)
@[congr] theorem OQ{v a:V}{K:Nat->Nat->Prop}(h:mk v=a):nz v K=nz a K:=by rw[<- h];rfl
def ZR(v:V)(K:Option (Nat×Nat)->Nat->Nat->Prop):Prop:=match v with
 | .slice a l e=>K a l e
 |_=>False
theorem xQ{a:Option (Nat×Nat)}{l e:Nat}{K:Option (Nat×Nat)->Nat->Nat->Prop}:ZR (.slice a l e) K=K a l e:=(rfl)
@[congr] theorem LS{v a:V}{K:Option (Nat×Nat)->Nat->Nat->Prop}(h:mk v=a):ZR v K=ZR a K:=by rw[<- h];rfl
def asAgg(v:V)(K:List V->Prop):Prop:=match v with
 | .agg l=>K l
 |_=>False
theorem Ir{l:List V}{K:List V->Prop}:asAgg (.agg l) K=K l:=(rfl)
@[congr] theorem O9{v a:V}{K:List V->Prop}(h:mk v=a):asAgg v K=asAgg a K:=by rw[<- h];rfl
def aad(v:V)(K:List V->Prop):Prop:=match v with
 | .tuple l=>K l
 |_=>False
theorem yh{l:List V}{K:List V->Prop}:aad (.tuple l) K=K l:=(rfl)
@[congr] theorem LQ{v a:V}{K:List V->Prop}(h:mk v=a):aad v K=aad a K:=by rw[<- h];rfl
def vr(v:V)(K:FuncId->List V->List V->Prop):Prop:=match v with
 | .func f a c=>K f a c
 |_=>False
theorem Cg{f:FuncId}{a c:List V}{K:FuncId->List V->List V->Prop}:vr (.func f a c) K=K f a c:=(rfl)
@[congr] theorem On{v a:V}{K:FuncId->List V->List V->Prop}(h:mk v=a):vr v K=vr a K:=by rw[<- h];rfl
def NY(v:V)(K:V->Prop):Prop:=match v with
 | .ptr (some a)=>K (.ptr (some a))
 | .func f a b=>K (.func f a b)
 |_=>False
theorem II{a:Nat×Nat}{K:V->Prop}:NY (.ptr (some a)) K=K (.ptr (some a)):=(rfl)
@[congr] theorem PN{v a:V}{K:V->Prop}(h:mk v=a):NY v K=NY a K:=by rw[<- h];rfl
section
variable {k k':IntKind} {a b:Int}
def MQ:UU .add (.int k a) (.int k b)=some (.int k (k.wrap (a+b))):=by simp[UU,mj]
def Mp:UU .sub (.int k a) (.int k b)=some (.int k (k.wrap (a-b))):=by simp[UU,mj]
def OF:UU .mul (.int k a) (.int k b)=some (.int k (k.wrap (a*b))):=by simp[UU,mj]
def bc(h:b≠0):UU .quo (.int k a) (.int k b)=some (.int k (k.wrap (a.tdiv b))):=by simp[UU,mj,h]
def aZ(h:b≠0):UU .rem (.int k a) (.int k b)=some (.int k (a.tmod b)):=by simp[UU,mj,h]
def Ki(k:IntKind)(a b:Int):Int:=k.wrap (BitVec.ofInt k.bits a &&& BitVec.ofInt k.bits b).toNat
def orI(k:IntKind)(a b:Int):Int:=k.wrap (BitVec.ofInt k.bits a |||BitVec.ofInt k.bits b).toNat
def Fo(k:IntKind)(a b:Int):Int:=k.wrap (BitVec.ofInt k.bits a ^^^BitVec.ofInt k.bits b).toNat
def mX(k:IntKind)(a b:Int):Int:=k.wrap (BitVec.ofInt k.bits a &&& ~~~ BitVec.ofInt k.bits b).toNat
def jc(k:IntKind)(a b:Int):Int:=k.wrap (a*2^(min b.toNat k.bits))
def nE(k:IntKind)(a b:Int):Int:=a.fdiv (2^(min b.toNat k.bits))
def FU:UU .and (.int k a) (.int k b)=some (.int k (Ki k a b)):=by simp[UU,mj,Ki]
def PO:UU .or (.int k a) (.int k b)=some (.int k (orI k a b)):=by simp[UU,mj,orI]
def ME:UU .xor (.int k a) (.int k b)=some (.int k (Fo k a b)):=by simp[UU,mj,Fo]
def DQ:UU .andNot (.int k a) (.int k b)=some (.int k (mX k a b)):=by simp[UU,mj,mX]
def NR:UU .eql (.int k a) (.int k b)=some (.bool (decide (a=b))):=by simp[UU,mj,BEq.beq]
def MJ:UU .neq (.int k a) (.int k b)=some (.bool (decide (a≠b))):=by simp[UU,mj,bne,BEq.beq]
def Oe:UU .lss (.int k a) (.int k b)=some (.bool (decide (a<b))):=by simp[UU,mj]
def Ox:UU .leq (.int k a) (.int k b)=some (.bool (decide (a≤b))):=by simp[UU,mj]
def Ob:UU .gtr (.int k a) (.int k b)=some (.bool (decide (b<a))):=by simp[UU,mj]
def LU:UU .geq (.int k a) (.int k b)=some (.bool (decide (b≤a))):=by simp[UU,mj]
def aT(h:0≤b):UU .shl (.int k a) (.int k' b)=some (.int k (jc k a b)):=by simp[UU,Bo,jc,(Q:¬b<0)]
def bA(h:0≤b):UU .shr (.int k a) (.int k' b)=some (.int k (nE k a b)):=by simp[UU,Bo,nE,(Q:¬b<0)]
end
@[congr] theorem QV{c:AC}{fr Tw:Fr}{σ σ':St}{K:fA}(h:mk fr=Tw)(k:σ=σ'):wp Γ M c fr σ K=wp Γ M c Tw σ' K:=by rw[<- h,k];rfl
@[congr] theorem OJ{c:List eY}{fr Tw:Fr}{σ σ':St}{K:Fr->St->Prop}(h:mk fr=Tw)(k:σ=σ'):wpOps Γ M c fr σ K=wpOps Γ M c Tw σ' K:=by rw[<- h,k];rfl
@[congr] theorem QC{c:List dY}{n:Nat}{fr Tw:Fr}{σ σ':St}{b a:List (T V×V)}{es es':List (T4×St)}{K:Fr->List (T V×V)->List (T4×St)->Prop}(h:mk fr=Tw)(k:σ=σ')(ht:b=a)(d:es=es'):Wy Γ M c n fr σ b es K=Wy Γ M c n Tw σ' a es' K:=by rw[<- h,k,ht,d];rfl
@[congr] theorem Ph{op:TL}{tm b:T V}{ds a:T4}{σ σ':St}{K:V->T4->St->Prop}(h:mk tm=b)(c:ds=a)(k:σ=σ'):wpOp Γ M op tm ds σ K=wpOp Γ M op b a σ' K:=by rw[<- h,c,k];rfl
@[congr] theorem Qo{g:FuncId}{xs a:List V}{σ σ':St}{Q:V->St->Prop}(h:mk xs=a)(k:σ=σ'):au Γ M g xs σ Q=au Γ M g a σ' Q:=by rw[<- h,k];rfl
theorem Ow{fr:Fr}{σ:St}{K:fA}:wp Γ M .skip fr σ K=K .normal fr σ:=(rfl)
theorem Ia{ops:List eY}{fr:Fr}{σ:St}{K:fA}:wp Γ M (.region ops) fr σ K=wpOps Γ M ops fr σ fun fr σ=>K .normal fr σ:=(rfl)
theorem Ef{d:Option Nat}{ops:List eY}{fr:Fr}{σ:St}{K:fA}:wp Γ M (.YS d ops) fr σ K=wpOps Γ M ops ⟨gI fr.tmps d .nilIface,fr.defers⟩ σ fun fr σ=>K .normal fr σ:=(rfl)
def Og{ops:List dY}{fr:Fr}{σ:St}{K:fA}:wp Γ M (.Yh ops) fr σ K=Wy Γ M ops σ.next fr (Vx ops σ) [] [] fun Tw a es=>dP ((fr.defers,Vx ops σ) ::YT es []) ops σ.next (YT a [])=true∧K .normal Tw (gW (Vx ops σ) (YT es [])):=by rw[Jy];simp only[ack,Wr,List.reverse_reverse];rfl
theorem LV{b:Type}{a:List b}:YT [] a=a:=(rfl)
theorem I4{c:Type}{a:c}{l b:List c}:YT (a ::l) b=YT l (a ::b):=(rfl)
theorem PK{a b:AC}{fr:Fr}{σ:St}{K:fA}:wp Γ M (.seq a b) fr σ K=wp Γ M a fr σ fun ex fr σ=>match ex with
  | .normal=>wp Γ M b fr σ K
  |ex=>K ex fr σ:=(rfl)
theorem Nw{c:Tt}{a b:AC}{fr:Fr}{σ:St}{K:fA}:wp Γ M (.cond c a b) fr σ K=asBool (c.eval fr.tmps) fun t=>WC t (wp Γ M a fr σ K) (wp Γ M b fr σ K):=(rfl)
theorem IN{id:Nat}{b:AC}{fr:Fr}{σ:St}{K:fA}:wp Γ M (.block id b) fr σ K=wp Γ M b fr σ fun ex fr σ=>match ex with
  | .exit i=>if i=id then K .normal fr σ else K (.exit i) fr σ
  |ex=>K ex fr σ:=(rfl)
theorem MF{id:Nat}{fr:Fr}{σ:St}{K:fA}:wp Γ M (.exit id) fr σ K=K (.exit id) fr σ:=(rfl)
theorem Qm{fr:Fr}{σ:St}{K:fA}:wp Γ M .ret fr σ K=K .ret fr σ:=(rfl)
theorem Jg{l:Nat}{fr:Fr}{σ:St}{K:fA}:wp Γ M (.label l) fr σ K=K .normal fr σ:=(rfl)
theorem Mf{l:Nat}{fr:Fr}{σ:St}{K:fA}:wp Γ M (.goto l) fr σ K=K (.goto l) fr σ:=(rfl)
theorem De{b:AC}{fr:Fr}{σ:St}{K:fA}:wp Γ M (.scope b) fr σ K=wp Γ M b fr σ fun ex fr σ=>match ex with
  | .goto l=>∃n,XV Γ M b n l fr σ K
  |ex=>K ex fr σ:=(rfl)
def ai{g:FuncId}{a:List VH}{body:AC}{xs:List V}{σ:St}{Q:V->St->Prop}(hg:Γ.get g=some (.code ⟨a,body⟩))(b:jm M g xs σ=none)(h:wp Γ M body (enter xs) σ fun ex fr σ=>ZS ex (iL Γ M fr.defers σ fun σ=>xm a fr.tmps σ Q)):au Γ M g xs σ Q:=Ib hg b h
theorem Bc{σ:St}{K:St->Prop}:iL Γ M [] σ K=K σ:=(rfl)
theorem b7{g:FuncId}{xs:List V}{r:T4}{σ:St}{K:St->Prop}:iL Γ M ((g,xs) ::r) σ K=(((∃a,Γ.get g=some (.code a))∨Γ.get g=some (.ext .unlock))∧au Γ M g xs σ fun _ σ=>iL Γ M r σ K):=rfl
theorem LX{tm:T V}{σ:St}:bR tm σ []=some []:=(rfl)
def Mm{tm:T V}{σ:St}{t:Nat}{r:List VH}:bR tm σ (.tmp t ::r)=(bR tm σ r).map (fun l=>(tm.get t).getD .undef ::l):=by simp only[bR];cases bR tm σ r <;> rfl
def uU(x:V)(σ:St)(r:Option (List V)):Option (List V):=match x with
 | .ptr (some (id,off))=>(match r with
  |none=>none
  |some l=>match σ.cell id off with|some v=>some (v ::l)|none=>none)
 |_=>none
def zY{id off:Nat}{σ:St}{l:List V}:uU (.acK id off) σ (some l)=(σ.cell id off).map (· ::l):=by simp only[uU];cases σ.cell id off <;> rfl
def Jh{tm:T V}{σ:St}{t n:Nat}{r:List VH}:bR tm σ (.cell t false n ::r)=uU ((tm.get t).getD .undef) σ (bR tm σ r):=by
 simp only[bR,uU,U5,Ul];cases (tm.get t).getD .undef with
 |ptr p=>cases p with
  |none=>rfl
  |some p=>obtain⟨id,a⟩:=p;cases bR tm σ r <;> rfl
 |_=>rfl
def uZ(x:V)(n:Nat)(σ:St)(r:Option (List V)):Option (List V):=match x with
 | .ptr (some (id,off))=>(match r with
  |none=>none
  |some l=>match σ.load id off n with|some v=>some (.agg v ::l)|none=>none)
 |_=>none
def Ay{id off n:Nat}{σ:St}{l:List V}:uZ (.acK id off) n σ (some l)=(σ.load id off n).map (fun v=>.agg v ::l):=by simp only[uZ];cases σ.load id off n <;> rfl
def K1{tm:T V}{σ:St}{t n:Nat}{r:List VH}:bR tm σ (.cell t true n ::r)=uZ ((tm.get t).getD .undef) n σ (bR tm σ r):=by
 simp only[bR,uZ,TT];cases (tm.get t).getD .undef with
 |ptr p=>cases p with
  |none=>rfl
  |some p=>obtain⟨id,a⟩:=p;cases bR tm σ r <;> rfl
 |_=>rfl
theorem Jf{v:V}:Dj [v]=v:=(rfl)
theorem HR:Dj []=.tuple []:=(rfl)
theorem HT{a b:V}{r:List V}:Dj (a ::b ::r)=.tuple (a ::b ::r):=(rfl)
def IP{a:List VH}{tm:T V}{σ:St}{Q:V->St->Prop}:xm a tm σ Q=ef (bR tm σ a) fun vs=>Q (Dj vs) σ:=by unfold xm;cases bR tm σ a <;> rfl
theorem zT{p:Prop}:ZS .normal p=p:=(rfl)
theorem IA{p:Prop}:ZS .ret p=p:=(rfl)
theorem Px{fr:Fr}{σ:St}{K:Fr->St->Prop}:wpOps Γ M [] fr σ K=K fr σ:=(rfl)
theorem NV{d:Option Nat}{op:TL}{r:List eY}{fr:Fr}{σ:St}{K:Fr->St->Prop}:
  wpOps Γ M (⟨d,op,none⟩ ::r) fr σ K=wpOp Γ M op fr.tmps fr.defers σ fun v ds σ=>wpOps Γ M r ⟨gI fr.tmps d v,ds⟩ σ K:=(rfl)
theorem Lm{d:Option Nat}{op:TL}{t:Nat}{b:Bool}{r:List eY}{fr:Fr}{σ:St}{K:Fr->St->Prop}:
  wpOps Γ M (⟨d,op,some (t,b)⟩ ::r) fr σ K=WC (eJ (some (t,b)) fr.tmps) (wpOp Γ M op fr.tmps fr.defers σ fun v ds σ=>wpOps Γ M r ⟨gI fr.tmps d v,ds⟩ σ K)
   (wpOps Γ M r ⟨gI fr.tmps d .undef,fr.defers⟩ σ K):=(rfl)
def J5(x:Option V)(b:Bool):Bool:=match x with
 |some (.bool c)=>c ==b
 |_=>false
theorem En{c b:Bool}:J5 (some (.bool c)) b=(c ==b):=(rfl)
theorem Cb{b:Bool}:J5 (some .undef) b=false:=(rfl)
theorem Av{t:Nat}{b:Bool}{tm:T V}:eJ (some (t,b)) tm=J5 (tm.get t) b:=(rfl)
theorem QS:(false ==true)=false:=(rfl)
theorem Q8:(true ==false)=false:=(rfl)
theorem GI{tm:T V}{d:Nat}{v:V}:gI tm (some d) v=tm.set d v:=(rfl)
theorem Ih{tm:T V}{v:V}:gI tm none v=tm:=(rfl)
theorem K3{tm:T V}{t:Nat}:(Tt.tmp t).eval tm=(tm.get t).getD .undef:=(rfl)
theorem acf{tm:T V}{v:V}:(Tt.const v).eval tm=v:=(rfl)
theorem Hm{tm:T V}{g:Nat}:(Tt.Xn g).eval tm=.acK g 0:=(rfl)
def IB{xs:List V}{i:Nat}:(enter xs).tmps.get i=xs[i]?:=mK xs i
theorem AV{xs:List V}:(enter xs).defers=[]:=(rfl)
theorem QP{a:Tt}:bh (TL.mv a)=false:=(rfl)
theorem Ri{a:Tt}:bQ (TL.mv a)=false:=(rfl)
theorem Rn{a:Tt}:cM (TL.mv a)=false:=(rfl)
theorem M9{a:Tt}{b:Tt}{c:Tt}:bh (TL.pick a b c)=false:=(rfl)
theorem MS{a:Tt}{b:Tt}{c:Tt}:bQ (TL.pick a b c)=false:=(rfl)
theorem MW{a:Tt}{b:Tt}{c:Tt}:cM (TL.pick a b c)=false:=(rfl)
theorem QB{a:Nat}{b:Tt}:bh (TL.box a b)=false:=(rfl)
theorem Py{a:Nat}{b:Tt}:bQ (TL.box a b)=false:=(rfl)
theorem Qr{a:Nat}{b:Tt}:cM (TL.box a b)=true:=(rfl)
theorem IL{a:List V}{b:List (Nat×Nat×Tt)}:bh (TL.build a b)=false:=(rfl)
theorem JB{a:List V}{b:List (Nat×Nat×Tt)}:bQ (TL.build a b)=false:=(rfl)
theorem Ks{a:List V}{b:List (Nat×Nat×Tt)}:cM (TL.build a b)=false:=(rfl)
theorem ES{a:Nat}{b:Nat}{c:List V}{d:List (Nat×Nat×Tt)}:bh (TL.Yx a b c d)=false:=(rfl)
theorem DM{a:Nat}{b:Nat}{c:List V}{d:List (Nat×Nat×Tt)}:bQ (TL.Yx a b c d)=false:=(rfl)
theorem DS{a:Nat}{b:Nat}{c:List V}{d:List (Nat×Nat×Tt)}:cM (TL.Yx a b c d)=true:=(rfl)
theorem NS{a:Bool}{b:Nat}{c:Tt}:bh (TL.load a b c)=false:=(rfl)
theorem Oc{a:Bool}{b:Nat}{c:Tt}:bQ (TL.load a b c)=true:=(rfl)
theorem OC{a:Bool}{b:Nat}{c:Tt}:cM (TL.load a b c)=false:=(rfl)
theorem K4{a:Nat}{b:Tt}{c:Tt}:bh (TL.store a b c)=false:=(rfl)
theorem LN{a:Nat}{b:Tt}{c:Tt}:bQ (TL.store a b c)=false:=(rfl)
theorem Jb{a:Nat}{b:Tt}{c:Tt}:cM (TL.store a b c)=true:=(rfl)
theorem Di{a:Tt}:bh (TL.nilCheck a)=false:=(rfl)
theorem CW{a:Tt}:bQ (TL.nilCheck a)=false:=(rfl)
theorem Cm{a:Tt}:cM (TL.nilCheck a)=false:=(rfl)
theorem PJ{a:Bn}{b:Tt}{c:Tt}:bh (TL.UU a b c)=false:=(rfl)
theorem PV{a:Bn}{b:Tt}{c:Tt}:bQ (TL.UU a b c)=false:=(rfl)
theorem Qj{a:Bn}{b:Tt}{c:Tt}:cM (TL.UU a b c)=false:=(rfl)
theorem Pq{a:Bool}{b:List Bool}{c:Tt}{d:Tt}:bh (TL.Y5 a b c d)=false:=(rfl)
theorem Qw{a:Bool}{b:List Bool}{c:Tt}{d:Tt}:bQ (TL.Y5 a b c d)=false:=(rfl)
theorem Pw{a:Bool}{b:List Bool}{c:Tt}{d:Tt}:cM (TL.Y5 a b c d)=false:=(rfl)
theorem Pp{a:Tt}:bh (TL.not a)=false:=(rfl)
theorem PE{a:Tt}:bQ (TL.not a)=false:=(rfl)
theorem Pv{a:Tt}:cM (TL.not a)=false:=(rfl)
theorem Oi{a:IntKind}{b:Tt}:bh (TL.conv a b)=false:=(rfl)
theorem OI{a:IntKind}{b:Tt}:bQ (TL.conv a b)=false:=(rfl)
theorem MA{a:IntKind}{b:Tt}:cM (TL.conv a b)=false:=(rfl)
theorem Ak{a:Nat}{b:Nat}{c:List V}{d:Tt}{e:Tt}:bh (TL.makeSlice a b c d e)=false:=(rfl)
theorem zQ{a:Nat}{b:Nat}{c:List V}{d:Tt}{e:Tt}:bQ (TL.makeSlice a b c d e)=false:=(rfl)
theorem At{a:Nat}{b:Nat}{c:List V}{d:Tt}{e:Tt}:cM (TL.makeSlice a b c d e)=true:=(rfl)
theorem ET{a:Nat}{b:Tt}{c:Option Tt}{d:Option Tt}:bh (TL.Zi a b c d)=false:=(rfl)
theorem DG{a:Nat}{b:Tt}{c:Option Tt}{d:Option Tt}:bQ (TL.Zi a b c d)=false:=(rfl)
theorem DI{a:Nat}{b:Tt}{c:Option Tt}{d:Option Tt}:cM (TL.Zi a b c d)=false:=(rfl)
theorem IG{a:Nat}{b:Tt}:bh (TL.Y6 a b)=false:=(rfl)
theorem I9{a:Nat}{b:Tt}:bQ (TL.Y6 a b)=false:=(rfl)
theorem KN{a:Nat}{b:Tt}:cM (TL.Y6 a b)=false:=(rfl)
theorem G3{a:Nat}{b:Tt}{c:Tt}:bh (TL.Zb a b c)=false:=(rfl)
theorem HW{a:Nat}{b:Tt}{c:Tt}:bQ (TL.Zb a b c)=false:=(rfl)
theorem Ij{a:Nat}{b:Tt}{c:Tt}:cM (TL.Zb a b c)=false:=(rfl)
theorem Ip{a:Nat}{b:Nat}{c:Tt}{d:Tt}:bh (TL.Za a b c d)=false:=(rfl)
theorem GQ{a:Nat}{b:Nat}{c:Tt}{d:Tt}:bQ (TL.Za a b c d)=false:=(rfl)
theorem Iz{a:Nat}{b:Nat}{c:Tt}{d:Tt}:cM (TL.Za a b c d)=false:=(rfl)
theorem Fi{a:Tt}{b:Nat}:bh (TL.extract a b)=false:=(rfl)
theorem DY{a:Tt}{b:Nat}:bQ (TL.extract a b)=false:=(rfl)
theorem EF{a:Tt}{b:Nat}:cM (TL.extract a b)=false:=(rfl)
theorem NP{a:Tt}:bh (TL.Zd a)=false:=(rfl)
theorem LY{a:Tt}:bQ (TL.Zd a)=false:=(rfl)
theorem OA{a:Tt}:cM (TL.Zd a)=false:=(rfl)
theorem HX{a:Nat}{b:Nat}{c:Tt}{d:Tt}:bh (TL.append a b c d)=false:=(rfl)
theorem GJ{a:Nat}{b:Nat}{c:Tt}{d:Tt}:bQ (TL.append a b c d)=false:=(rfl)
theorem Hs{a:Nat}{b:Nat}{c:Tt}{d:Tt}:cM (TL.append a b c d)=true:=(rfl)
theorem DF{a:Nat}{b:Nat}{c:List V}{d:Tt}{e:Tt}:bh (TL.gT a b c d e)=false:=(rfl)
theorem EW{a:Nat}{b:Nat}{c:List V}{d:Tt}{e:Tt}:bQ (TL.gT a b c d e)=false:=(rfl)
theorem Ee{a:Nat}{b:Nat}{c:List V}{d:Tt}{e:Tt}:cM (TL.gT a b c d e)=true:=(rfl)
theorem MX{a:Nat}{b:Tt}{c:Tt}:bh (TL.copy a b c)=false:=(rfl)
theorem NM{a:Nat}{b:Tt}{c:Tt}:bQ (TL.copy a b c)=false:=(rfl)
theorem Mb{a:Nat}{b:Tt}{c:Tt}:cM (TL.copy a b c)=true:=(rfl)
theorem HP{a:Bool}{b:List Tt}:bh (TL.XA a b)=false:=(rfl)
theorem GV{a:Bool}{b:List Tt}:bQ (TL.XA a b)=false:=(rfl)
theorem HJ{a:Bool}{b:List Tt}:cM (TL.XA a b)=false:=(rfl)
theorem A7{a:Kk}{b:Tt}{c:Tt}{d:Tt}:bh (TL.mapUpdate a b c d)=false:=(rfl)
theorem Bk{a:Kk}{b:Tt}{c:Tt}{d:Tt}:bQ (TL.mapUpdate a b c d)=false:=(rfl)
theorem zZ{a:Kk}{b:Tt}{c:Tt}{d:Tt}:cM (TL.mapUpdate a b c d)=true:=(rfl)
theorem Im{a:Kk}{b:Tt}{c:Tt}:bh (TL.delete a b c)=false:=(rfl)
theorem GX{a:Kk}{b:Tt}{c:Tt}:bQ (TL.delete a b c)=false:=(rfl)
theorem HY{a:Kk}{b:Tt}{c:Tt}:cM (TL.delete a b c)=true:=(rfl)
theorem OG{a:FuncId}{b:List Tt}:bh (TL.call a b)=false:=(rfl)
theorem Oq{a:FuncId}{b:List Tt}:bQ (TL.call a b)=false:=(rfl)
theorem Om{a:FuncId}{b:List Tt}:cM (TL.call a b)=true:=(rfl)
theorem Ja{a:FuncId}{b:List Tt}:bh (TL.defer a b)=false:=(rfl)
theorem Ku{a:FuncId}{b:List Tt}:bQ (TL.defer a b)=false:=(rfl)
theorem K7{a:FuncId}{b:List Tt}:cM (TL.defer a b)=true:=(rfl)
theorem PA{h:Nat}{fr:Fr}{σ:St}{a:List (T V×V)}{es:List (T4×St)}{K:Fr->List (T V×V)->List (T4×St)->Prop}:Wy Γ M [] h fr σ a es K=K fr a es:=(rfl)
def M3{d:Option Nat}{op:TL}{lo hi:Nat}{r:List dY}{h:Nat}{fr:Fr}{σ:St}{a:List (T V×V)}{es:List (T4×St)}{K:Fr->List (T V×V)->List (T4×St)->Prop}(ha:bh op=false):
  Wy Γ M (⟨⟨d,op,none⟩,lo,hi⟩ ::r) h fr σ a es K =
   wpOp Γ M op fr.tmps fr.defers σ fun v ds σ'=>Wy Γ M r h ⟨gI fr.tmps d v,ds⟩ σ' ((fr.tmps,v) ::a) (if cM op=true then(ds,σ') ::es else es) K:=by
 simp only[Wy,eJ,ha,TT,Ul,U5]
theorem Kz{d:Option Nat}{z:List V}{lo hi:Nat}{r:List dY}{h:Nat}{fr:Fr}{σ:St}{a:List (T V×V)}{es:List (T4×St)}{K:Fr->List (T V×V)->List (T4×St)->Prop}:
  Wy Γ M (⟨⟨d,.alloc z,none⟩,lo,hi⟩ ::r) h fr σ a es K =
   Wy Γ M r (h+1) ⟨gI fr.tmps d (.acK h 0),fr.defers⟩ σ ((fr.tmps,.acK h 0) ::a) es K:=(rfl)
def Kg{d:Option Nat}{op:TL}{t:Nat}{b:Bool}{lo hi:Nat}{r:List dY}{h:Nat}{fr:Fr}{σ:St}{a:List (T V×V)}{es:List (T4×St)}{K:Fr->List (T V×V)->List (T4×St)->Prop}(ha:bh op=false):
  Wy Γ M (⟨⟨d,op,some (t,b)⟩,lo,hi⟩ ::r) h fr σ a es K =
   WC (eJ (some (t,b)) fr.tmps)
    (wpOp Γ M op fr.tmps fr.defers σ fun v ds σ'=>Wy Γ M r h ⟨gI fr.tmps d v,ds⟩ σ' ((fr.tmps,v) ::a) (if cM op=true then(ds,σ') ::es else es) K)
   (Wy Γ M r h ⟨gI fr.tmps d .undef,fr.defers⟩ σ ((fr.tmps,.undef) ::a) (if cM op=true then(fr.defers,σ) ::es else es) K):=by
 simp only[Wy,ha,WC,Ul,U5]
theorem G9{σ:St}:Vx [] σ=σ:=(rfl)
theorem Cy{d:Option Nat}{z:List V}{g:Option (Nat×Bool)}{lo hi:Nat}{r:List dY}{σ:St}:Vx (⟨⟨d,.alloc z,g⟩,lo,hi⟩ ::r) σ=Vx r (σ.new (.acM z.length z .nil)):=(rfl)
def wH{d:Option Nat}{op:TL}{g:Option (Nat×Bool)}{lo hi:Nat}{r:List dY}{σ:St}(ha:bh op=false):Vx (⟨⟨d,op,g⟩,lo,hi⟩ ::r) σ=Vx r σ:=by cases op <;> first|rfl|cases ha
def Pz{es:List (T4×St)}{n:Nat}{a:List (T V×V)}:dP es [] n a=true:=by cases a <;> rfl
def FB{es:List (T4×St)}{d:Option Nat}{op:TL}{g:Option (Nat×Bool)}{lo hi:Nat}{r:List dY}{n:Nat}{tm:T V}{v:V}{a:List (T V×V)}(ha:bh op=false)(b:bQ op=false):
  dP es (⟨⟨d,op,g⟩,lo,hi⟩ ::r) n ((tm,v) ::a)=dP es r n a:=by
 simp only[dP,b,Zk,U5,Ul,WL];cases op <;> first|rfl|cases ha
def Gd{es:List (T4×St)}{d:Option Nat}{op:TL}{lo hi:Nat}{r:List dY}{n:Nat}{tm:T V}{v:V}{b:List (T V×V)}(a:bQ op=true):
  dP es (⟨⟨d,op,none⟩,lo,hi⟩ ::r) n ((tm,v) ::b)=(fG op tm v lo hi 0 es && dP es r n b):=by
 simp only[dP,a,eJ,WL,TT];cases op <;> first|rfl|cases a
def Dl{es:List (T4×St)}{d:Option Nat}{op:TL}{t:Nat}{b:Bool}{lo hi:Nat}{r:List dY}{n:Nat}{tm:T V}{v:V}{c:List (T V×V)}(a:bQ op=true):
  dP es (⟨⟨d,op,some (t,b)⟩,lo,hi⟩ ::r) n ((tm,v) ::c)=((!(eJ (some (t,b)) tm) ||fG op tm v lo hi 0 es) && dP es r n c):=by
 simp only[dP,a,WL];cases eJ (some (t,b)) tm <;> (cases op <;> first|rfl|cases a)
def CX{es:List (T4×St)}{d:Option Nat}{z:List V}{g:Option (Nat×Bool)}{lo hi:Nat}{r:List dY}{n:Nat}{tm:T V}{v:V}{a:List (T V×V)}:
  dP es (⟨⟨d,.alloc z,g⟩,lo,hi⟩ ::r) n ((tm,v) ::a)=(eN n z hi 0 es && dP es r (n+1) a):=by
 simp only[dP,bQ,Zk,U5,Ul,WL]
def o6(op:TL)(tm:T V)(σ:St)(v:V):Bool:=match eT op tm σ with
 |some u=>eE u v
 |none=>false
theorem Pe{op:TL}{tm:T V}{v:V}{lo hi m:Nat}:fG op tm v lo hi m []=true:=(rfl)
def Nj{op:TL}{tm:T V}{v:V}{lo hi m:Nat}{d:T4}{σ:St}{r:List (T4×St)}:fG op tm v lo hi m ((d,σ) ::r)=((!(decide (lo≤m) && decide (m≤hi)) ||o6 op tm σ v) && fG op tm v lo hi (m+1) r):=by simp only[fG,o6];by_cases a:lo≤m <;> by_cases b:m≤hi <;> simp[a,b] <;> (cases eT op tm σ <;> rfl)
def wo(p:V)(σ:St)(v:V):Bool:=match p with
 | .ptr (some (id,off))=>(match σ.cell id off with|some u=>eE u v|none=>false)
 |_=>false
def JO{n:Nat}{a:Tt}{tm:T V}{σ:St}{v:V}:o6 (.load false n a) tm σ v=wo (a.eval tm) σ v:=by
 simp only[o6,eT,wo];cases a.eval tm with
 |ptr p=>cases p with
  |none=>rfl
  |some p=>obtain⟨id,b⟩:=p;rfl
 |_=>rfl
theorem Po{id off:Nat}{σ:St}{v:V}:wo (.acK id off) σ v=(match σ.cell id off with|some u=>eE u v|none=>false):=(rfl)
def tb(p:V)(n:Nat)(σ:St)(v:V):Bool:=match p with
 | .ptr (some (id,off))=>(match σ.load id off n with|some a=>eE (.agg a) v|none=>false)
 |_=>false
def I6{n:Nat}{a:Tt}{tm:T V}{σ:St}{v:V}:o6 (.load true n a) tm σ v=tb (a.eval tm) n σ v:=by
 simp only[o6,eT,tb];cases a.eval tm with
 |ptr p=>cases p with
  |none=>rfl
  |some p=>obtain⟨id,b⟩:=p;simp only[TT];cases σ.load id b n <;> rfl
 |_=>rfl
theorem Nk{id off n:Nat}{σ:St}{v:V}:tb (.acK id off) n σ v=(match σ.load id off n with|some us=>eE (.agg us) v|none=>false):=(rfl)
theorem Eb{σ:St}:gW σ []=σ:=(rfl)
theorem C9{σ σ':St}{d:T4}{r:List (T4×St)}:gW σ ((d,σ') ::r)=gW σ' r:=(rfl)
def RV{op:TL}{tm:T V}{v:V}{d:T4}{σ:St}{es:List (T4×St)}(h:eT op tm σ=some v):fG op tm v 0 0 0 ((d,σ) ::es)=true:=by
 have b:∀m (l:List (T4×St)),0<m->fG op tm v 0 0 m l=true:=by
  intro m l;induction l generalizing m with
  |nil=>intro _;rfl
  |cons a l c=>
   intro f;obtain⟨e,σ'⟩:=a;simp only[fG];rw[Tg Q];exact c (m+1) Q
 simp only[fG,Tx,Us,TT,h,dD,WL];exact b 1 es Q
section
variable {tm:T V} {ds:T4} {σ:St} {K:V -> T4 -> St -> Prop}
theorem QK{x:Tt}:wpOp Γ M (.mv x) tm ds σ K=K (x.eval tm) ds σ:=(rfl)
def Md{c a b:Tt}:wpOp Γ M (.pick c a b) tm ds σ K=asBool (c.eval tm) fun t=>K (if t=true then a.eval tm else b.eval tm) ds σ:=by show(match Uh _ _ tm ds σ with|some (v,ds,σ)=>K v ds σ|none=>False)=_;simp only[Uh,cD,cN,TT];cases c.eval tm <;> rfl
theorem JD{z:List V}:wpOp Γ M (.alloc z) tm ds σ K=K (.acK σ.next 0) ds (σ.new (.acM z.length z .nil)):=(rfl)
def Qd{n:Nat}{x:Tt}:wpOp Γ M (.box n x) tm ds σ K=WC (decide ((x.eval tm).cells.length=n)) (K (.acK σ.next 0) ds (σ.ag (x.eval tm).cells)) False:=by
 show(match Uh _ _ tm ds σ with|some (v,ds,σ)=>K v ds σ|none=>False)=_;simp only[Uh,cD,bQ,bp,Ul,U5];by_cases h:(x.eval tm).cells.length=n
 .simp only[h,TT,decide_true,WC]
 simp only[h,Ul,decide_false,WC,U5]
def LC{z:List V}{ps:List (Nat×Nat×Tt)}:wpOp Γ M (.build z ps) tm ds σ K=ef (bZ z (aG tm ps)) fun cs=>K (.agg cs) ds σ:=by show(match Uh _ _ tm ds σ with|some (v,ds,σ)=>K v ds σ|none=>False)=_;simp only[Uh,cD,cN,TT];cases bZ z (aG tm ps) <;> rfl
def Fq{len esz:Nat}{z:List V}{ps:List (Nat×Nat×Tt)}:wpOp Γ M (.Yx len esz z ps) tm ds σ K=ef (bZ (bL z len) (aG tm ps)) fun cs=>K (.acL σ.next 0 len esz) ds (σ.ag cs):=by show(match Uh _ _ tm ds σ with|some (v,ds,σ)=>K v ds σ|none=>False)=_;simp only[Uh,cD,bQ,bp,Ul,U5];cases bZ (bL z len) (aG tm ps) <;> rfl
def I0{n:Nat}{a:Tt}:wpOp Γ M (.load false n a) tm ds σ K=nz (a.eval tm) fun id off=>ef (σ.cell id off) fun v=>K v ds σ:=by
 show(match Uh _ _ tm ds σ with|some (v,ds,σ)=>K v ds σ|none=>False)=_;simp only[Uh,cD,bQ,eT,TT,Ul,U5];cases a.eval tm with
 |ptr p=>cases p with
  |none=>rfl
  |some p=>obtain⟨id,off⟩:=p;simp only[nz];cases b:σ.cell id off <;> rfl
 |_=>rfl
def KS{n:Nat}{a:Tt}:wpOp Γ M (.load true n a) tm ds σ K=nz (a.eval tm) fun id off=>ef (σ.load id off n) fun vs=>K (.agg vs) ds σ:=by
 show(match Uh _ _ tm ds σ with|some (v,ds,σ)=>K v ds σ|none=>False)=_;simp only[Uh,cD,bQ,eT,TT,Ul,U5];cases a.eval tm with
 |ptr p=>cases p with
  |none=>rfl
  |some p=>obtain⟨id,off⟩:=p;simp only[nz];cases b:σ.load id off n <;> rfl
 |_=>rfl
def KA{n:Nat}{a x:Tt}:wpOp Γ M (.store n a x) tm ds σ K=nz (a.eval tm) fun id off=>WC (decide ((x.eval tm).cells.length=n)) (ef (σ.store id off (x.eval tm).cells) fun σ=>K .undef ds σ) False:=by
 show(match Uh _ _ tm ds σ with|some (v,ds,σ)=>K v ds σ|none=>False)=_;simp only[Uh,cD,bQ,bp,TT,Ul,U5];cases a.eval tm with
 |ptr p=>cases p with
  |none=>rfl
  |some p=>
   obtain⟨id,off⟩:=p;simp only[nz];by_cases h:(x.eval tm).cells.length=n
   .simp only[h,TT,decide_true,WC];cases σ.store id off (x.eval tm).cells <;> rfl
   simp only[h,Ul,decide_false,WC,U5]
 |_=>rfl
def CH{x:Tt}:wpOp Γ M (.nilCheck x) tm ds σ K=NY (x.eval tm) fun v=>K v ds σ:=by
 show(match Uh _ _ tm ds σ with|some (v,ds,σ)=>K v ds σ|none=>False)=_;simp only[Uh,cD,cN,TT];cases x.eval tm with
 |ptr p=>cases p <;> rfl
 |_=>rfl
def QA{op:Bn}{x y:Tt}:wpOp Γ M (.UU op x y) tm ds σ K=ef (UU op (x.eval tm) (y.eval tm)) fun v=>K v ds σ:=by show(match Uh _ _ tm ds σ with|some (v,ds,σ)=>K v ds σ|none=>False)=_;simp only[Uh,cD,cN,TT];cases UU op (x.eval tm) (y.eval tm) <;> rfl
theorem I1{a b:Bool}:Y4 .bool (.bool a) (.bool b)=some (a ==b):=(rfl)
theorem Fe:Y4 .iface .nilIface .nilIface=some true:=(rfl)
def Qa{neg:Bool}{k:Ek}{x y:Tt}:wpOp Γ M (.eq1 neg k x y) tm ds σ K=ef (Y4 k (x.eval tm) (y.eval tm)) fun b=>K (.bool (if neg=true then !b else b)) ds σ:=by show(match Uh _ _ tm ds σ with|some (v,ds,σ)=>K v ds σ|none=>False)=_;simp only[Uh,cD,cN,TT];cases Y4 k (x.eval tm) (y.eval tm) <;> rfl
def Qy{neg:Bool}{ks:List Bool}{x y:Tt}:wpOp Γ M (.Y5 neg ks x y) tm ds σ K=asAgg (x.eval tm) fun a=>asAgg (y.eval tm) fun b=>ef (cF ks a b) fun r=>K (.bool (if neg=true then !r else r)) ds σ:=by
 show(match Uh _ _ tm ds σ with|some (v,ds,σ)=>K v ds σ|none=>False)=_;simp only[Uh,cD,cN,TT];cases x.eval tm with
 |agg a=>cases y.eval tm with
  |agg b=>simp only[asAgg];cases cF ks a b <;> rfl
  |_=>rfl
 |_=>cases y.eval tm <;> rfl
def Pj{x:Tt}:wpOp Γ M (.not x) tm ds σ K=asBool (x.eval tm) fun b=>K (.bool (!b)) ds σ:=by show(match Uh _ _ tm ds σ with|some (v,ds,σ)=>K v ds σ|none=>False)=_;simp only[Uh,cD,cN,TT];cases x.eval tm <;> rfl
def MP{k:IntKind}{x:Tt}:wpOp Γ M (.conv k x) tm ds σ K=asInt (x.eval tm) fun _ n=>K (.int k (k.wrap n)) ds σ:=by show(match Uh _ _ tm ds σ with|some (v,ds,σ)=>K v ds σ|none=>False)=_;simp only[Uh,cD,cN,TT];cases x.eval tm <;> rfl
def Bz{esz bytes:Nat}{z:List V}{l c:Tt}:wpOp Γ M (.makeSlice esz bytes z l c) tm ds σ K=asInt (l.eval tm) fun _ a=>asInt (c.eval tm) fun _ b=>WC (decide (0≤a∧a≤b∧b.toNat*bytes≤aq∧b<9223372036854775808)) (K (.acL σ.next 0 a.toNat esz) ds (σ.new (.acM (b.toNat*esz) z .nil))) False:=by
 show(match Uh _ _ tm ds σ with|some (v,ds,σ)=>K v ds σ|none=>False)=_;simp only[Uh,cD,bQ,bp,TT,Ul,U5];cases l.eval tm with
 |int k a=>cases c.eval tm with
  |int k' b=>
   simp only[asInt];by_cases h:0≤a∧a≤b∧b.toNat*bytes≤aq∧b<9223372036854775808
   .rw[Ti h,UR h];rfl
   rw[Tg h,UK h];rfl
  |_=>rfl
 |_=>cases c.eval tm <;> rfl
def fE(esz:Nat)(x:V)(lo hi:Option V):Option V:=match x with
 | .slice a len e=>match sliceB lo hi len len with
  |some (l,h)=>match a with
   |none=>some (.slice none (h-l) e)
   |some (id,off)=>if e=esz then some (.acL id (off+l*esz) (h-l) e)else none
  |none=>none
 |_=>none
def kz{esz id off len:Nat}{k:IntKind}{i:Int}(a:0≤i)(b:i≤len):fE esz (.acL id off len esz) (some (.int k i)) none=some (.acL id (off+i.toNat*esz) (len-i.toNat) esz):=by simp[fE,sliceB,XW,lI,a,b]
def pt{esz id off len:Nat}{k:IntKind}{i:Int}(a:0≤i)(b:i≤len):fE esz (.acL id off len esz) none (some (.int k i))=some (.acL id off i.toNat esz):=by simp[fE,sliceB,XW,lI,a,b]
def Eg{esz:Nat}{x:Tt}{lo hi:Option Tt}:wpOp Γ M (.Zi esz x lo hi) tm ds σ K=ef (fE esz (x.eval tm) (lo.map (·.eval tm)) (hi.map (·.eval tm))) fun v=>K v ds σ:=by show(match Uh _ _ tm ds σ with|some (v,ds,σ)=>K v ds σ|none=>False)=_;simp only[Uh,cD,TT];show(match (match fE esz (x.eval tm) (lo.map (·.eval tm)) (hi.map (·.eval tm))with|some v=>some (v,ds,σ)|none=>none)with|some (v,ds,σ)=>K v ds σ|none=>False)=_;cases fE esz (x.eval tm) (lo.map (·.eval tm)) (hi.map (·.eval tm)) <;> rfl
def EB(σ:St)(n esz:Nat)(x:V)(lo hi:Option V):Option V:=match x with
 | .ptr (some (id,off))=>match sliceB lo hi n n with
  |some (l,h)=>if l=0∧h=n then(match σ.Tq.get id with
   |some (.cells _ _ k _ _)=>if off+n*esz≤k then some (.acL id off n esz)else none
   |_=>none)else none
  |none=>none
 |_=>none
def Ch{n esz:Nat}{x:Tt}{lo hi:Option Tt}:wpOp Γ M (.ZY n esz x lo hi) tm ds σ K=ef (EB σ n esz (x.eval tm) (lo.map (·.eval tm)) (hi.map (·.eval tm))) fun v=>K v ds σ:=by show(match Uh _ _ tm ds σ with|some (v,ds,σ)=>K v ds σ|none=>False)=_;simp only[Uh,cD,bQ,TT,Ul,U5];show(match (match EB σ n esz (x.eval tm) (lo.map (·.eval tm)) (hi.map (·.eval tm))with|some v=>some (v,ds,σ)|none=>none)with|some (v,ds,σ)=>K v ds σ|none=>False)=_;cases EB σ n esz (x.eval tm) (lo.map (·.eval tm)) (hi.map (·.eval tm)) <;> rfl
def M1{agg:Bool}{off n:Nat}{x:Tt}:wpOp Γ M (.part agg off n x) tm ds σ K=asAgg (x.eval tm) fun cs=>ef (if agg=true then(if off+n≤cs.length then some (.agg ((cs.drop off).take n))else none)else cs[off]?:Option V) fun v=>K v ds σ:=by
 show(match Uh _ _ tm ds σ with|some (v,ds,σ)=>K v ds σ|none=>False)=_;simp only[Uh,cD,cN,TT];cases x.eval tm with
 |agg cs=>
  simp only[asAgg];cases (if agg=true then(if off+n≤cs.length then some (.agg ((cs.drop off).take n))else none)else cs[off]?:Option V) <;> rfl
 |_=>rfl
def Ko{off:Nat}{x:Tt}:wpOp Γ M (.Y6 off x) tm ds σ K=nz (x.eval tm) fun id o=>K (.acK id (o+off)) ds σ:=by
 show(match Uh _ _ tm ds σ with|some (v,ds,σ)=>K v ds σ|none=>False)=_;simp only[Uh,cD,cN,TT];cases x.eval tm with
 |ptr p=>cases p <;> rfl
 |_=>rfl
def Hw{esz:Nat}{x i:Tt}:wpOp Γ M (.Zb esz x i) tm ds σ K=ZR (x.eval tm) fun a len _=>asInt (i.eval tm) fun _ n=>ef a fun p=>WC (decide (0≤n∧n<len)) (K (.acK p.1 (p.2+n.toNat*esz)) ds σ) False:=by
 show(match Uh _ _ tm ds σ with|some (v,ds,σ)=>K v ds σ|none=>False)=_;simp only[Uh,cD,cN,TT];cases x.eval tm with
 |slice a len e=>cases a with
  |none=>cases i.eval tm <;> rfl
  |some p=>cases i.eval tm with
   |int k n=>
    simp only[ZR,asInt,ef];by_cases h:0≤n∧n<(len:Int)
    .rw[Ti h,UR h];rfl
    rw[Tg h,UK h];rfl
   |_=>rfl
 |_=>cases i.eval tm <;> rfl
def G2{len esz:Nat}{x i:Tt}:wpOp Γ M (.Za len esz x i) tm ds σ K=nz (x.eval tm) fun id off=>asInt (i.eval tm) fun _ n=>WC (decide (0≤n∧n<len)) (K (.acK id (off+n.toNat*esz)) ds σ) False:=by
 show(match Uh _ _ tm ds σ with|some (v,ds,σ)=>K v ds σ|none=>False)=_;simp only[Uh,cD,cN,TT];cases x.eval tm with
 |ptr a=>cases a with
  |none=>cases i.eval tm <;> rfl
  |some p=>cases i.eval tm with
   |int k n=>
    simp only[nz,asInt];by_cases h:0≤n∧n<(len:Int)
    .rw[Ti h,UR h];rfl
    rw[Tg h,UK h];rfl
   |_=>rfl
 |_=>cases i.eval tm <;> rfl
def EG{x:Tt}{i:Nat}:wpOp Γ M (.extract x i) tm ds σ K=aad (x.eval tm) fun vs=>ef vs[i]? fun v=>K v ds σ:=by
 show(match Uh _ _ tm ds σ with|some (v,ds,σ)=>K v ds σ|none=>False)=_;simp only[Uh,cD,cN,TT];cases x.eval tm with
 |tuple vs=>simp only[aad];cases vs[i]? <;> rfl
 |_=>rfl
def M5{x:Tt}:wpOp Γ M (.Zd x) tm ds σ K=ZR (x.eval tm) fun _ n _=>K (.i n) ds σ:=by show(match Uh _ _ tm ds σ with|some (v,ds,σ)=>K v ds σ|none=>False)=_;simp only[Uh,cD,cN,TT];cases x.eval tm <;> rfl
def G5{kk:Kk}{z:V}{ok:Bool}{m k:Tt}:wpOp Γ M (.lookup kk z ok m k) tm ds σ K=ef (eT (.lookup kk z ok m k) tm σ) fun v=>K v ds σ:=by show(match Uh _ _ tm ds σ with|some (v,ds,σ)=>K v ds σ|none=>False)=_;simp only[Uh,cD,bQ,TT,Ul,U5];cases eT (.lookup kk z ok m k) tm σ <;> rfl
def Ik{esz bytes:Nat}{x y:Tt}:wpOp Γ M (.append esz bytes x y) tm ds σ K=ef (dj σ esz bytes (x.eval tm) (y.eval tm)) fun p=>K p.1 ds p.2:=by show(match Uh _ _ tm ds σ with|some (v,ds,σ)=>K v ds σ|none=>False)=_;simp only[Uh,cD,bQ,bp,TT,Ul,U5];cases dj σ esz bytes (x.eval tm) (y.eval tm) <;> rfl
def DJ{esz bytes:Nat}{z:List V}{x y:Tt}:wpOp Γ M (.gT esz bytes z x y) tm ds σ K=ef (gH σ esz bytes z (x.eval tm) (y.eval tm)) fun p=>K p.1 ds p.2:=by show(match Uh _ _ tm ds σ with|some (v,ds,σ)=>K v ds σ|none=>False)=_;simp only[Uh,cD,bQ,bp,TT,Ul,U5];cases gH σ esz bytes z (x.eval tm) (y.eval tm) <;> rfl
def Iq{a:Bool}{xs:List Tt}:wpOp Γ M (.XA a xs) tm ds σ K=ef (cN (.XA a xs) tm) fun v=>K v ds σ:=by show(match Uh _ _ tm ds σ with|some (v,ds,σ)=>K v ds σ|none=>False)=_;simp only[Uh,cD,TT];cases cN (.XA a xs) tm <;> rfl
theorem CA{f:FuncId}{a c:List Tt}:wpOp Γ M (.makeFunc f a c) tm ds σ K=K (.func f (a.map (·.eval tm)) (c.map (·.eval tm))) ds σ:=(rfl)
theorem Er:wpOp Γ M .makeMap tm ds σ K=K (.map (some σ.next)) ds (σ.new (.map [])):=(rfl)
theorem OE{g:FuncId}{xs:List Tt}:wpOp Γ M (.call g xs) tm ds σ K=au Γ M g (xs.map (·.eval tm)) σ fun v σ'=>K v ds σ':=(rfl)
theorem Km{g:Tt}{xs:List Tt}:wpOp Γ M (.YK g xs) tm ds σ K=vr (g.eval tm) fun g first a=>au Γ M g (first++xs.map (·.eval tm)++a) σ fun v σ'=>K v ds σ':=(rfl)
theorem JW{g:FuncId}{xs:List Tt}:wpOp Γ M (.defer g xs) tm ds σ K=K .undef ((g,xs.map (·.eval tm)) ::ds) σ:=(rfl)
def GB{g:Tt}{xs:List Tt}:wpOp Γ M (.Zx g xs) tm ds σ K=vr (g.eval tm) fun g first a=>K .undef ((g,first++xs.map (·.eval tm)++a) ::ds) σ:=by show(match Uh _ _ tm ds σ with|some (v,ds,σ)=>K v ds σ|none=>False)=_;simp only[Uh,cD,bQ,Ul,U5];cases g.eval tm <;> rfl
def oE{op:TL}(b:cD op=false)(c:bQ op=false)(a:∀g xs,op≠.call g xs)(hv:∀g xs,op≠.YK g xs)(hd:∀g xs,op≠.defer g xs)(hw:∀g xs,op≠.Zx g xs):
  wpOp Γ M op tm ds σ K=ef (bp op tm σ) fun p=>K p.1 ds p.2:=by
 have:wpOp Γ M op tm ds σ K=match Uh (fun _ _ _=>none) op tm ds σ with
  |some (v,ds,σ)=>K v ds σ
  |none=>False:=by
  cases op <;> first|rfl|exact(a _ _ rfl).elim|exact(hv _ _ rfl).elim
 rw[this];have:Uh (fun _ _ _=>none) op tm ds σ=match bp op tm σ with|some (v,σ)=>some (v,ds,σ)|none=>none:=by cases op <;> first|rfl|exact(a _ _ rfl).elim|exact(hv _ _ rfl).elim|exact(hd _ _ rfl).elim|exact(hw _ _ rfl).elim|exact(Bool.noConfusion b)|exact(Bool.noConfusion c)
 rw[this];cases bp op tm σ <;> rfl
def YN(σ:St)(esz:Nat)(x y:V):Option (V×St):=match x,y with
 | .slice xa a _,.slice ya b _=>
  match (if min b a*esz=0 then some []else match ya with|none=>none|some (id,off)=>σ.load id off (min b a*esz):Option (List V)),xa with
  |some [],_=>some (.i (min b a:Nat),σ)
  |some vs,some (id,off)=>match σ.store id off vs with|some σ=>some (.i (min b a:Nat),σ)|none=>none
  |_,_=>none
 |_,_=>none
def Ez{esz xl xe ye:Nat}{a:Option (Nat×Nat)}{σ:St}:YN σ esz (.slice a xl xe) (.slice none 0 ye)=some (.i 0,σ):=by simp[YN]
def sU{esz ix ox iy oy xl yl xe ye:Nat}{σ σ':St}{vs:List V}(hn:min yl xl*esz≠0)(b:σ.load iy oy (min yl xl*esz)=some vs)(hs:σ.store ix ox vs=some σ'):
  YN σ esz (.acL ix ox xl xe) (.acL iy oy yl ye)=some (.i (min yl xl:Nat),σ'):=by
 simp only[YN,hn,Ul,b];cases vs with
 |nil=>
  have:=(St.B6 b).1;simp at this;omega
 |cons a r=>simp only[hs]
def M6{esz:Nat}{x y:Tt}:wpOp Γ M (.copy esz x y) tm ds σ K=ef (YN σ esz (x.eval tm) (y.eval tm)) fun p=>K p.1 ds p.2:=by
 have h:wpOp Γ M (.copy esz x y) tm ds σ K=ef (bp (.copy esz x y) tm σ) fun p=>K p.1 ds p.2:=oE rfl rfl (fun _ _ h=>by cases h) (fun _ _ h=>by cases h) (fun _ _ h=>by cases h) (fun _ _ h=>by cases h)
 rw[h];rfl
def AB(σ:St)(z:List V)(x:V):Option (V×St):=match x with
 | .slice none _ _=>some (.tuple [],σ)
 | .slice (some (id,off)) n _=>if n=0 then some (.tuple [],σ)else match σ.store id off (bL z n)with|some σ=>some (.tuple [],σ)|none=>none
 |_=>none
def HB{z:List V}{x:Tt}:wpOp Γ M (.YM z x) tm ds σ K=ef (AB σ z (x.eval tm)) fun p=>K p.1 ds p.2:=by
 have h:wpOp Γ M (.YM z x) tm ds σ K=ef (bp (.YM z x) tm σ) fun p=>K p.1 ds p.2:=oE rfl rfl (fun _ _ h=>by cases h) (fun _ _ h=>by cases h) (fun _ _ h=>by cases h) (fun _ _ h=>by cases h)
 rw[h];rfl
def GD{x:Tt}:wpOp Γ M (.YL x) tm ds σ K=ef (bp (.YL x) tm σ) (fun p=>K p.1 ds p.2):=oE rfl rfl (fun _ _ h=>by cases h) (fun _ _ h=>by cases h) (fun _ _ h=>by cases h) (fun _ _ h=>by cases h)
def BD{kk:Kk}{m k v:Tt}:wpOp Γ M (.mapUpdate kk m k v) tm ds σ K=ef (bp (.mapUpdate kk m k v) tm σ) (fun p=>K p.1 ds p.2):=oE rfl rfl (fun _ _ h=>by cases h) (fun _ _ h=>by cases h) (fun _ _ h=>by cases h) (fun _ _ h=>by cases h)
def Hc{kk:Kk}{m k:Tt}:wpOp Γ M (.delete kk m k) tm ds σ K=ef (bp (.delete kk m k) tm σ) (fun p=>K p.1 ds p.2):=oE rfl rfl (fun _ _ h=>by cases h) (fun _ _ h=>by cases h) (fun _ _ h=>by cases h) (fun _ _ h=>by cases h)
end
attribute [go_sem_proc] Nat.reduceEqDiff Nat.reduceLeDiff Nat.reduceAdd
attribute [go_sem_proc] Nat.reduceEqDiff Nat.reduceLeDiff Nat.reduceAdd
attribute [go_sem] I1 Fe acz Ck Dn yK Dz Is H6 xQ Ir yh Cg II MQ Mp OF FU PO ME DQ NR MJ Oe Ox Ob LU Ow Ia Ef Og PK Nw IN MF Qm Jg Mf De Bc zY Jh Ay K1 LX Mm Jf HR HT IP zT IA QS Q8 Px NV Lm Av En Cb GI Ih K3 acf Hm IB AV T.aJ PA M3 Kz Kg G9 Cy wH Pz FB Gd Dl CX Pe Nj JO Po I6 Nk Eb C9 LV I4 dD QK Md JD Qd LC Fq I0 KS KA CH QA Qa Qy Pj MP Bz Eg Ch M1 Ko Hw G2 EG M5 G5 Ik DJ Iq CA Er OE Km JW GB M6 HB GD BD Hc QP M9 QB IL ES NS K4 Di PJ Pq Pp Oi Ak ET IG G3 Ip Fi NP HX DF MX HP A7 Im OG Ja Ri MS Py JB DM Oc LN CW PV Qw PE OI zQ DG I9 HW GQ DY LY GJ EW NM GV Bk GX Oq Ku Rn MW Qr Ks DS OC Jb Cm Qj Pw Pv MA At DI KN Ij Iz EF OA Hs Ee Mb HJ zZ HY Om K7 YH Wr Xd ZO TT Ul Xc Option.getD_none aaA ZF Vk X2 WL Bool.and_true U5 XZ Z0 Bool.or_true aaw Bool.false_or Bool.or_false Zk Bool.and_false YJ WK Tx decide_true decide_false Xr List.map_nil aaV
end
end AM
namespace AM
open Go
noncomputable section
def St.row(σ:St)(g:Nat):List Nat:=(σ.TX.get g).getD []
structure GW (σ:St):Prop where
 pos:0<σ.next
 VS:∀ a,σ.next≤a -> σ.Tq.get a=none
 zero:σ.row 0=[]
 lt:∀ g a,a∈σ.row g -> a<σ.next
 TG:∀ g a o,a∈σ.row g -> σ.Tq.get a=some o -> o.Ty=true -> o.TG=g
 mem:∀ a o,σ.Tq.get a=some o -> o.TG≠0 -> a∈σ.row o.TG∧o.TG<σ.next
variable {σ σ':St}
def GW.UL(h:GW σ){a:Nat}{o:Obj}(ha:σ.Tq.get a=some o):a<σ.next:=by
 rcases Vm a σ.next with k|k
 .exact k
 rw[h.VS a k]at ha;cases ha
def Obj.Da{o:Obj}(h:o.TG≠0):o.Ty=true:=by cases o <;> simp_all[Obj.TG,Obj.Ty]
def GW.new(h:GW σ)(o:Obj)(d:o.TG=0):GW (σ.new o) where
 pos:=by simp[St.new]
 VS a ha:=by simp only[St.new]at ha⊢;rw[T.aJ,Tg Q];exact h.VS a Q
 zero:=h.zero
 lt g a ha:=by have:=h.lt g a ha;simp only[St.new];omega
 TG g a o1 ha h1 h2:=by have b:=h.lt g a ha;simp only[St.new]at h1;rw[T.aJ,Tg Q]at h1;exact h.TG g a o1 ha h1 h2
 mem a o1 h1 h2:=by
  simp only[St.new]at h1;rw[T.aJ]at h1;by_cases c:a=σ.next
  .rw[Ti c]at h1;simp at h1;subst h1;exact(h2 d).elim
  rw[Tg c]at h1;obtain⟨e,f⟩:=h.mem a o1 h1 h2;exact⟨e,by simp only[St.new];omega⟩
def GW.set(h:GW σ){id:Nat}{o d:Obj}(hg:σ.Tq.get id=some o)(b:d.TG=o.TG)(e:o.Ty=true):GW { σ with Tq:=σ.Tq.set id d } where
 pos:=h.pos
 VS a ha:=by have:=h.UL hg;simp only[T.aJ];rw[Tg (by simp only at ha;omega)];exact h.VS a ha
 zero:=h.zero
 lt:=h.lt
 TG g a o1 ha h1 h2:=by
  simp only[T.aJ]at h1;by_cases c:a=id
  .rw[Ti c]at h1;simp at h1;subst h1;rw[b];exact h.TG g id o (c▸ha) hg e
  rw[Tg c]at h1;exact h.TG g a o1 ha h1 h2
 mem a o1 h1 h2:=by
  simp only[T.aJ]at h1;by_cases c:a=id
  .rw[Ti c]at h1;simp at h1;subst h1;subst c;obtain⟨f,i⟩:=h.mem a o hg (b▸h2);exact⟨by rw[b];exact f,by rw[b];exact i⟩
  rw[Tg c]at h1;exact h.mem a o1 h1 h2
def GW.UC(h:GW σ){σ':St}(hn:σ'.next=σ.next)(d:σ'.TX=σ.TX)(e:∀a o,σ'.Tq.get a=some o->∃q,σ.Tq.get a=some q∧(o.Ty=true->q.Ty=true∧q.TG=o.TG)):GW σ' where
 pos:=by rw[hn];exact h.pos
 VS a ha:=by
  cases i:σ'.Tq.get a with
  |none=>rfl
  |some o=>obtain⟨q,b,_⟩:=e a o i;rw[h.VS a Q]at b;cases b
 zero:=by simp only[St.row,d];exact h.zero
 lt g a ha:=by simp only[St.row,d]at ha;rw[hn];exact h.lt g a ha
 TG g a o ha h1 h2:=by simp only[St.row,d]at ha;obtain⟨q,b,k⟩:=e a o h1;obtain⟨f,c⟩:=k h2;rw[<- c];exact h.TG g a q ha b f
 mem a o h1 h2:=by obtain⟨q,b,k⟩:=e a o h1;obtain⟨f,c⟩:=k (Obj.Da h2);obtain⟨j,l⟩:=h.mem a q b (c▸h2);simp only[St.row,d,hn];exact⟨c▸j,c▸l⟩
def tS{i:Nat}{o:Option Obj}{p:Obj}(h:gZ i o=some p):∃q,o=some q∧q.Ty=p.Ty∧q.TG=p.TG:=by
 cases o with
 |none=>cases h
 |some q=>cases q with
  |cells ro g n z t=>simp only[gZ,TC]at h;subst h;exact⟨_,rfl,rfl,rfl⟩
  |_=>simp only[gZ,TC]at h;subst h;exact⟨_,rfl,rfl,rfl⟩
def qK{id off:Nat}{vs:List V}(hs:σ.store id off vs=some σ'):∃g n z t,σ.Tq.get id=some (.cells false g n z t)∧off+vs.length≤n∧vs.all V.Tr=true∧σ'.next=σ.next∧σ'.TX=σ.TX∧
  ∀a,σ'.Tq.get a=if a=id then some (.cells false g n z (mf t off vs))else if g≠0∧a∈σ.row g then gZ off (σ.Tq.get a)else σ.Tq.get a:=by
 unfold St.store at hs;split at hs
 .rename_i g n z t hg;split at hs
  .rename_i d;simp only[TC]at hs;refine⟨g,n,z,t,hg,d.1,d.2,by rw[<- hs],by rw[<- hs],fun a=>?_⟩;rw[<- hs];simp only;by_cases b:g=0
   .rw[Ti b,T.aJ];by_cases c:a=id
    .rw[Ti c,Ti c]
    rw[Tg c,Tg c,Tg (fun k=>k.1 b)]
   rw[Tg b,dJ,T.aJ];by_cases c:a=id
   .rw[Ti c,Tg (fun k=>k.2 c)];rw[Ti c]
   simp only[c,Ul,TV,Ug,YJ,b,WK];rfl
  cases hs
 cases hs
def GW.store(h:GW σ){id off:Nat}{vs:List V}(hs:σ.store id off vs=some σ'):GW σ':=by
 obtain⟨g,n,z,t,hg,_,_,hn,f,d⟩:=qK hs;refine h.UC hn f fun a o b=>?_
 rw[d]at b;by_cases c:a=id
 .rw[Ti c]at b;simp only[TC]at b;subst b;subst c;exact⟨_,hg,fun _=>⟨rfl,rfl⟩⟩
 rw[Tg c]at b;split at b
 .obtain⟨q,e,i,j⟩:=tS b;exact⟨q,e,fun k=>⟨i.trans k,j⟩⟩
 exact⟨o,b,fun k=>⟨k,rfl⟩⟩
def kF{esz bytes k xl id:Nat}{vs:List V}{v:V}(hs:dc σ esz bytes k vs (some (id,0)) xl=some (v,σ')):∃g n z t TE,σ.Tq.get id=some (.cells false g n z t)∧qN n z t 0 (xl*esz)=some TE∧
  v=.acL σ.next 0 (xl+k) esz∧σ'.next=σ.next+1∧σ'.TX=σ.TX.set (if g=0 then σ.next else g) (σ.next ::(if g=0 then [id]else(σ.row g).take 8))∧
  ∀a,σ'.Tq.get a=if a=σ.next then some (.cells false (if g=0 then σ.next else g) (TE++vs).length [] (ofList (TE++vs)))
   else if g≠0∧a∈(σ.row g).drop 8 then(if a=id then some (.cells false g (min n (xl*esz)) z t)else if a∈σ.row g then gZ (xl*esz) (σ.Tq.get a)else σ.Tq.get a).map (fun _=>.Wu)
   else if a=id then some (.cells false (if g=0 then σ.next else g) (min n (xl*esz)) z t)
   else if g≠0∧a∈σ.row g then gZ (xl*esz) (σ.Tq.get a)else σ.Tq.get a:=by
 unfold dc at hs;split at hs
 .simp only[TT]at hs;split at hs
  .rename_i g n z t hg;split at hs
   .cases hs
   rename_i TE Ur;simp only[TC,TU]at hs;obtain⟨rfl,rfl⟩:=hs;refine⟨g,n,z,t,TE,hg,Ur,rfl,rfl,rfl,fun a=>?_⟩;simp only;rw[T.aJ];by_cases c:a=σ.next
   .rw[Ti c,Ti c]
   rw[Tg c,Tg c,iN];by_cases d:g=0
   .simp only[d,TT,Xa,Ul,TV,Uq,false_and,eB];rw[T.aJ]
   simp only[d,Ul,TV,Ug,WK,dJ,T.aJ,St.row];by_cases b:a=id
   .simp only[b,Uq,and_false,Ul,TT]
   simp only[b,Ug,YJ,Ul];rfl
  cases hs
 cases hs
def GW.dc(h:GW σ){esz bytes k xl:Nat}{vs:List V}{P:Option (Nat×Nat)}{v:V}(hs:dc σ esz bytes k vs P xl=some (v,σ')):GW σ':=by
 cases P with
 |none=>
  unfold AM.dc at hs;split at hs
  .simp only at hs;split at hs
   .simp only[TC,TU]at hs;obtain⟨_,rfl⟩:=hs;exact h.new _ rfl
   cases hs
  cases hs
 |some q=>
  obtain⟨id,J⟩:=q;by_cases b:J=0
  .subst b;obtain⟨g,n,z,t,TE,hg,Ur,_,hn,N,l⟩:=kF hs;have U:=h.UL hg;have M:=h.pos;obtain⟨G,A⟩:=acH ((if g=0 then σ.next else g));obtain⟨L,H⟩:=acH ((if g=0 then [id]else(σ.row g).take 8));rw[<- A, <- H]at N;simp only[<- A]at l;have x:g=0->G=σ.next∧L=[id]:=fun e=>⟨by rw[A,Ti e],by rw[H,Ti e]⟩
   have u:g≠0->G=g∧L=(σ.row g).take 8:=fun e=>⟨by rw[A,Tg e],by rw[H,Tg e]⟩
   have m:g≠0->id∈σ.row g∧g<σ.next:=fun e=>h.mem id _ hg e
   clear A H;have R:G≠0:=by by_cases e:g=0;rw[(x e).1];omega;rw[(u e).1];exact e
   have Z:G≤σ.next:=by by_cases e:g=0;rw[(x e).1];omega;rw[(u e).1];have:=(m e).2;omega
   have w:∀d,σ'.row d=if d=G then σ.next ::L else σ.row d:=by
    intro d;simp only[St.row,N,T.aJ];by_cases c:d=G
    .rw[Ti c,Ti c];rfl
    rw[Tg c,Tg c]
   have j:σ'.row G=σ.next ::L:=by rw[w,Ti rfl]
   have f:∀d,d≠G->σ'.row d=σ.row d:=fun d c=>by rw[w,Tg c]
   have B:∀a,a∈L->a<σ.next:=by
    intro a ha;by_cases e:g=0
    .rw[(x e).2]at ha;simp only[U8,Xa,or_false]at ha;omega
    rw[(u e).2]at ha;exact h.lt g a (X9 ha)
   have p:∀a o,a≠σ.next->σ'.Tq.get a=some o->o.Ty=true->¬(g≠0∧a∈(σ.row g).drop 8)∧((a=id∧o.TG=G)∨(a≠id∧∃q,σ.Tq.get a=some q∧q.Ty=true∧q.TG=o.TG)):=by
    intro a o ha b D;rw[l,Tg ha]at b;by_cases c:g≠0∧a∈(σ.row g).drop 8
    .rw[Ti c]at b;simp only[Y1]at b;obtain⟨_,_,rfl⟩:=b;cases D
    rw[Tg c]at b;refine⟨c,?_⟩;by_cases i:a=id
    .rw[Ti i]at b;simp only[TC]at b;subst b;exact .inl ⟨i,rfl⟩
    rw[Tg i]at b;right;refine⟨i,?_⟩;by_cases K:g≠0∧a∈σ.row g
    .rw[Ti K]at b;obtain⟨q,y,F,s⟩:=tS b;exact⟨q,y,F.trans D,s⟩
    rw[Tg K]at b;exact⟨o,b,D,rfl⟩
   refine⟨Q,?_,?_,?_,?_,?_⟩
   .intro a ha;rw[hn]at ha;have S:=h.VS a Q;have X:¬(g≠0∧a∈(σ.row g).drop 8):=fun k=>by have:=h.lt g a (YG k.2);omega
    have Y:¬(g≠0∧a∈σ.row g):=fun k=>by have:=h.lt g a k.2;omega
    rw[l,Tg Q,Tg X,Tg Q,Tg Y];exact S
   .rw[f 0 (U2 R)];exact h.zero
   .intro d a ha;rw[hn];by_cases c:d=G
    .rw[c,j]at ha;rcases U8.1 ha with rfl|ha
     .omega
     have:=B a ha;omega
    rw[f d c]at ha;have:=h.lt d a ha;omega
   .intro d a o ha b D;by_cases c:a=σ.next
    .rw[l,Ti c]at b;simp only[TC]at b;subst b;simp only[Obj.TG];by_cases i:d=G
     .exact i.symm
     rw[f d i]at ha;have:=h.lt d a ha;omega
    obtain⟨_,k⟩:=p a o c b D;rcases k with⟨rfl,s⟩|⟨E,q,y,F,s⟩
    .rw[s];by_cases i:d=G
     .exact i.symm
     rw[f d i]at ha;have:=h.TG d a _ ha hg rfl;simp only[Obj.TG]at this;subst this;by_cases e:g=0
     .rw[e,h.zero]at ha;exact(Xa ha).elim
     exact(i (u e).1.symm).elim
    rw[<- s];by_cases i:d=G
    .rw[i,j]at ha;rcases U8.1 ha with rfl|ha
     .exact(c rfl).elim
     by_cases e:g=0
     .rw[(x e).2]at ha;simp only[U8,Xa,or_false]at ha;exact(E ha).elim
     rw[(u e).2]at ha;rw[i,(u e).1];exact h.TG g a q (X9 ha) y F
    rw[f d i]at ha;exact h.TG d a q ha y F
   intro a o b C;by_cases c:a=σ.next
   .rw[l,Ti c]at b;simp only[TC]at b;subst b;simp only[Obj.TG];rw[j,hn];exact⟨by simp[c],Q⟩
   obtain⟨O,k⟩:=p a o c b (Obj.Da C);rcases k with⟨rfl,s⟩|⟨E,q,y,F,s⟩
   .rw[s,j,hn];refine⟨?_,Q⟩;by_cases e:g=0
    .rw[(x e).2];simp
    rw[(u e).2];have r:=(m e).1;rw[<- YI 8 (σ.row g)]at r;rcases VJ.1 r with r|r
    .exact VO _ r
    exact(O ⟨e,r⟩).elim
   obtain⟨I,W⟩:=h.mem a q y (s▸C);rw[s]at I W;rw[hn];refine⟨?_,Q⟩;by_cases i:o.TG=G
   .rw[i,j];by_cases e:g=0
    .have:=(x e).1;omega
    rw[(u e).2];rw[i,(u e).1, <- YI 8 (σ.row g)]at I;rcases VJ.1 I with r|r
    .exact VO _ r
    exact(O ⟨e,r⟩).elim
   rw[f _ i];exact I
  unfold AM.dc at hs;split at hs
  .simp only[b,Ul]at hs;cases hs
  cases hs
def GW.append(h:GW σ){esz bytes:Nat}{x y v:V}(hs:dj σ esz bytes x y=some (v,σ')):GW σ':=by
 unfold dj at hs;split at hs
 .split at hs
  .cases hs
  split at hs
  .simp only[TC,TU]at hs;obtain⟨_,rfl⟩:=hs;exact h
  split at hs
  .cases hs
  split at hs
  .cases hs
  exact h.dc hs
 cases hs
def GW.gT(h:GW σ){esz bytes:Nat}{z:List V}{x y v:V}(hs:gH σ esz bytes z x y=some (v,σ')):GW σ':=by
 unfold gH at hs;split at hs
 .split at hs
  .cases hs
  split at hs
  .exact h.dc hs
  cases hs
 cases hs
def GW.YB(h:GW σ){op:TL}{tm:T V}{v:V}(hs:bp op tm σ=some (v,σ')):GW σ':=by
 cases op with
 |alloc z=>simp only[bp,TC,TU]at hs;obtain⟨_,rfl⟩:=hs;exact h.new _ rfl
 |box n x=>
  simp only[bp]at hs;split at hs
  .simp only[TC,TU]at hs;obtain⟨_,rfl⟩:=hs;exact h.new _ rfl
  cases hs
 |Yx len b z f=>
  simp only[bp]at hs;split at hs
  .simp only[TC,TU]at hs;obtain⟨_,rfl⟩:=hs;exact h.new _ rfl
  cases hs
 |store n a x=>
  simp only[bp]at hs;split at hs
  .split at hs
   .split at hs
    .rename_i d;simp only[TC,TU]at hs;obtain⟨_,rfl⟩:=hs;exact h.store d
    cases hs
   cases hs
  cases hs
 |makeSlice b bytes z l c=>
  simp only[bp]at hs;split at hs
  .split at hs
   .simp only[TC,TU]at hs;obtain⟨_,rfl⟩:=hs;exact h.new _ rfl
   cases hs
  cases hs
 |append b bytes x y=>exact h.append hs
 |gT b bytes z x y=>exact h.gT hs
 |copy b x y=>
  rw[ace]at hs;split at hs
  .split at hs
   .simp only[TC,TU]at hs;obtain⟨_,rfl⟩:=hs;exact h
   .split at hs
    .rename_i d;simp only[TC,TU]at hs;obtain⟨_,rfl⟩:=hs;exact h.store d
    cases hs
   cases hs
  cases hs
 |YM z x=>
  simp only[bp]at hs;split at hs
  .simp only[TC,TU]at hs;obtain⟨_,rfl⟩:=hs;exact h
  .split at hs
   .simp only[TC,TU]at hs;obtain⟨_,rfl⟩:=hs;exact h
   split at hs
   .rename_i d;simp only[TC,TU]at hs;obtain⟨_,rfl⟩:=hs;exact h.store d
   cases hs
  cases hs
 |YL x=>
  simp only[bp]at hs;split at hs
  .simp only[TC,TU]at hs;obtain⟨_,rfl⟩:=hs;exact h
  .split at hs
   .rename_i hg;simp only[TC,TU]at hs;obtain⟨_,rfl⟩:=hs;exact h.set hg rfl rfl
   cases hs
  cases hs
 |makeMap=>simp only[bp,TC,TU]at hs;obtain⟨_,rfl⟩:=hs;exact h.new _ rfl
 |mapUpdate e m k v=>
  simp only[bp]at hs;split at hs
  .split at hs
   .rename_i hg;split at hs
    .cases hs
    .simp only[TC,TU]at hs;obtain⟨_,rfl⟩:=hs;exact h.set hg rfl rfl
    simp only[TC,TU]at hs;obtain⟨_,rfl⟩:=hs;exact h.set hg rfl rfl
   cases hs
  cases hs
 |delete e m k=>
  simp only[bp]at hs;split at hs
  .split at hs
   .rename_i hg;split at hs
    .cases hs
    .simp only[TC,TU]at hs;obtain⟨_,rfl⟩:=hs;exact h.set hg rfl rfl
    simp only[TC,TU]at hs;obtain⟨_,rfl⟩:=hs;exact h.set hg rfl rfl
   cases hs
  cases hs
 |_=>simp only[bp]at hs;cases hs
def QX:iC (fun s σ:St=>s=σ∧GW s) where
 ZA h e:=by obtain⟨rfl,_⟩:=h;exact e
 YB h e:=by obtain⟨rfl,h⟩:=h;exact⟨_,e,rfl,h.YB e⟩
 new ho h:=by obtain⟨rfl,h⟩:=h;exact⟨rfl,h.new _ ho⟩
 next h:=by obtain⟨rfl,_⟩:=h;rfl
 get h e:=by obtain⟨rfl,_⟩:=h;exact e
 Wl h e:=by obtain⟨rfl,_⟩:=h;exact e
def GW.ext(h:GW σ){e:TP}{xs:List V}{v:V}(a:dA e xs σ=some (v,σ')):GW σ':=by
 unfold dA at a;split at a
 .split at a
  .simp only[Y1]at a;obtain⟨d,c,b⟩:=a;simp only[TU]at b;obtain⟨_,rfl⟩:=b;exact h.store c
  cases a
 .split at a
  .simp only[Y1]at a;obtain⟨d,c,b⟩:=a;simp only[TU]at b;obtain⟨_,rfl⟩:=b;exact h.store c
  cases a
 .split at a
  .simp only[TC,TU]at a;obtain⟨_,rfl⟩:=a;exact h
  cases a
 .split at a
  .simp only[Y1]at a;obtain⟨d,c,b⟩:=a;simp only[TU]at b;obtain⟨_,rfl⟩:=b;exact h.store c
  cases a
 .split at a
  .simp only[TC,TU]at a;obtain⟨_,rfl⟩:=a;exact h
  cases a
 cases a
def V5.gw{Γ:T AF}{g:FuncId}{xs:List V}{v:V}(h:V5 Γ [] g xs σ v σ')(hw:GW σ):GW σ':=by obtain⟨a,c⟩:=h;obtain⟨d,f,i,b⟩:=pf QX (fun _ _ _ _ _ _ h e=>by obtain⟨rfl,h⟩:=h;exact⟨_,e,rfl,h.ext e⟩) (Γ':=Γ) (M:=[]) (fun _ _ h=>h) (fun _ h=>(Xa h).elim) a a (Tx _) _ _ _ _ _ _ ⟨rfl,hw⟩ (c a (Tx _));exact b
def au.gw{Γ:T AF}{g:FuncId}{xs:List V}{Q:V->St->Prop}(hw:GW σ)(h:au Γ [] g xs σ Q):au Γ [] g xs σ fun v σ'=>Q v σ'∧GW σ':=
 let ⟨v,σ',b,a⟩:=h;⟨v,σ',⟨b,a.gw hw⟩,a⟩
def Row(σ:St)(id n:Nat)(f:Nat->V):Prop:=∃g m z t,n≤m∧σ.Tq.get id=some (.cells false g m z t)∧∀i,i<n->Vw m z t i=some (f i)
def Tn(l:List V):Nat->V:=fun i=>l.getD i .undef
variable {id n:Nat} {f:Nat -> V}
def Row.cell(h:Row σ id n f){i:Nat}(hi:i<n):σ.cell id i=some (f i):=by obtain⟨g,m,z,t,c,b,a⟩:=h;simp only[St.cell,b];exact a i hi
def rB{m:Nat}{z:List V}{t:T V}{f:Nat->V}:∀(k off:Nat),(∀i,off≤i->i<off+k->Vw m z t i=some (f i))->qN m z t off k=some ((List.range k).map fun j=>f (off+j))
 | 0,off,h=>rfl
 |k+1,off,h=>by simp only[qN,h off (Tx _) Q,rB k (off+1) (fun i a b=>h i Q Q)];rw[List.range_succ_eq_map];simp only[Xr,List.map_map,X2];congr 2;apply ZH;intro j _;simp only[Function.comp,Nat.succ_eq_add_one];congr 1;omega
def Row.load(h:Row σ id n f){off k:Nat}(d:off+k≤n):σ.load id off k=some ((List.range k).map fun j=>f (off+j)):=by obtain⟨g,m,z,t,e,b,a⟩:=h;simp only[St.load,b];exact rB k off fun i _ c=>a i Q
def Row.congr(h:Row σ id n f){f':Nat->V}{n':Nat}(hn:n'≤n)(b:∀i,i<n'->f i=f' i):Row σ id n' f':=by obtain⟨g,m,z,t,d,c,a⟩:=h;exact⟨g,m,z,t,Q,c,fun i hi=>by rw[<- b i hi];exact a i Q⟩
def UO(f:Nat->V)(off:Nat)(vs:List V):Nat->V:=fun i=>if off≤i∧i<off+vs.length then vs.getD (i-off) .undef else f i
def abH(σ σ':St)(id:Nat):Prop:=∀a,a≠id->(∀o,σ.Tq.get id=some o->o.TG≠0->a∉σ.row o.TG)->σ'.Tq.get a=σ.Tq.get a
def Row.store(h:Row σ id n f){off:Nat}{vs:List V}(w:off+vs.length≤n)(r:vs.all V.Tr=true):
  ∃σ',σ.store id off vs=some σ'∧Row σ' id n (UO f off vs)∧σ'.next=σ.next∧σ'.TX=σ.TX∧abH σ σ' id∧(∀o,σ.Tq.get id=some o->∃p,σ'.Tq.get id=some p∧p.TG=o.TG):=by
 obtain⟨g,m,z,t,s,k,q⟩:=h;have hs:σ.store id off vs=some { σ with Tq:=if g=0 then σ.Tq.set id (.cells false g m z (mf t off vs))else eB id off ((σ.TX.get g).getD []) (σ.Tq.set id (.cells false g m z (mf t off vs))) }:=by unfold St.store;simp only[k];rw[Ti ⟨Q,r⟩]
 obtain⟨v,x,A,y,d,_,_,hn,u,b⟩:=qK hs;rw[k]at d;simp only[TC,Obj.cells.injEq]at d;obtain⟨_,rfl,rfl,rfl,rfl⟩:=d;refine⟨_,hs,⟨g,m,z,mf t off vs,s,by rw[b,Ti rfl],fun i hi=>?_⟩,hn,u,fun a ha l=>?_,fun o j=>?_⟩
 .unfold Vw;rw[Ti Q,lN];unfold UO;by_cases c:off≤i∧i<off+vs.length
  .have e:vs[i-off]?=some (vs.getD (i-off) .undef):=by rw[U7,UQ (Q:i-off<vs.length)];rfl
   rw[Ti c,Ti c,e]
  rw[Tg c,Tg c];have:=q i hi;unfold Vw at this;rw[Ti Q]at this;exact this
 .rw[b,Tg ha];by_cases c:g≠0∧a∈σ.row g
  .exact(l _ k c.1 c.2).elim
  rw[Tg c]
 rw[k]at j;simp only[TC]at j;subst j;exact⟨.cells false g m z (mf t off vs),by rw[b,Ti rfl],rfl⟩
structure aH (σ σ':St):Prop where
 next:σ.next≤σ'.next
 TX:σ'.TX=σ.TX
 TE:∀ a,a<σ.next -> σ'.Tq.get a=σ.Tq.get a
def aH.refl(σ:St):aH σ σ:=⟨Tx _,rfl,fun _ _=>rfl⟩
def aH.trans{b:St}(h:aH σ σ')(k:aH σ' b):aH σ b:=
 ⟨V4 h.next k.next,k.TX.trans h.TX,fun a ha=>(k.TE a (YY ha h.next)).trans (h.TE a ha)⟩
def aH.new(σ:St)(o:Obj):aH σ (σ.new o):=
 ⟨by simp[St.new],rfl,fun a ha=>by simp only[St.new];rw[T.aJ,Tg Q]⟩
def aH.row(h:aH σ σ')(hw:GW σ)(k:Row σ id n f):Row σ' id n f:=by obtain⟨g,m,z,t,c,a,b⟩:=k;exact⟨g,m,z,t,c,by rw[h.TE id (hw.UL a)];exact a,b⟩
def newRow(σ:St)(z:List V)(n:Nat)(a:z≠[]∨n=0):Row (σ.new (.acM n z .nil)) σ.next n (fun i=>z.getD (i%z.length) .undef):=by
 refine⟨0,n,z,.nil,Tx _,by simp only[St.new,T.aJ,TT],fun i hi=>?_⟩;unfold Vw;rw[Ti hi,T.Xm];have:0<z.length:=by rcases a with h|h;exact List.length_pos_iff.2 h;omega
 simp[UQ (Wt i this)]
def oh(σ:St)(vs:List V):Row (σ.ag vs) σ.next vs.length (Tn vs):=by refine⟨0,vs.length,[],ofList vs,Tx _,by simp only[St.ag,St.new,T.aJ,TT],fun i hi=>?_⟩;rw[cT];simp[Tn,hi]
end
end AM
