import Derived.Test.YtlgmpheammbacaaGreatDoorPyd
set_option linter.all false
namespace AM
open Go
noncomputable section
def V5(Γ:T AF)(M:List fK)(g:FuncId)(xs:List V)(σ:St)(v:V)(σ':St):Prop:=∃a, ∀f,a≤f->eF Γ M [] f g xs σ=some (v,σ')
def au(Γ:T AF)(M:List fK)(g:FuncId)(xs:List V)(σ:St)(Q:V->St->Prop):Prop:=∃v σ',Q v σ'∧V5 Γ M g xs σ v σ'
variable {Γ:T AF} {M:List fK}
def wpOp(Γ:T AF)(M:List fK)(op:TL)(tm:T V)(ds:T4)(σ:St)(K:V->T4->St->Prop):Prop:=
 match op with
 | .call g xs=>au Γ M g (xs.map (·.eval tm)) σ fun v σ'=>K v ds σ'
 | .YK g xs=>match g.eval tm with
  | .func g first a=>au Γ M g (first++xs.map (·.eval tm)++a) σ fun v σ'=>K v ds σ'
  |_=>False
 |op=>match Uh (fun _ _ _=>none) op tm ds σ with
  |some (v,ds,σ)=>K v ds σ
  |none=>False
def wpOps(Γ:T AF)(M:List fK):List eY->Fr->St->(Fr->St->Prop)->Prop
 | [],fr,σ,K=>K fr σ
 |o ::r,fr,σ,K=>
  if eJ o.guard fr.tmps=true then wpOp Γ M o.op fr.tmps fr.defers σ fun v ds σ=>wpOps Γ M r ⟨gI fr.tmps o.dst v,ds⟩ σ K
  else wpOps Γ M r ⟨gI fr.tmps o.dst .undef,fr.defers⟩ σ K
def XH(Γ:T AF)(M:List fK):List dY->Nat->Fr->St->(Fr->List (T V×V)->List (T4×St)->Prop)->Prop
 | [],_,fr,_,K=>K fr [] []
 |d ::r,h,fr,σ,K=>
  if eJ d.o.guard fr.tmps=true then
   if bh d.o.op=true then XH Γ M r (h+1) ⟨gI fr.tmps d.o.dst (.ptr (some (h,0))),fr.defers⟩ σ fun f' a es=>K f' ((fr.tmps,.ptr (some (h,0))) ::a) es
   else wpOp Γ M d.o.op fr.tmps fr.defers σ fun v ds σ'=>XH Γ M r h ⟨gI fr.tmps d.o.dst v,ds⟩ σ' fun f' a es=>K f' ((fr.tmps,v) ::a) (if cM d.o.op=true then(ds,σ') ::es else es)
  else if bh d.o.op=true then False
  else XH Γ M r h ⟨gI fr.tmps d.o.dst .undef,fr.defers⟩ σ fun f' a es=>K f' ((fr.tmps,.undef) ::a) (if cM d.o.op=true then(fr.defers,σ) ::es else es)
def AX(Γ:T AF)(M:List fK)(ops:List dY)(fr:Fr)(σ:St)(K:Fr->St->Prop):Prop:=
 XH Γ M ops σ.next fr (Vx ops σ) fun Tw b a=>dP ((fr.defers,Vx ops σ) ::a) ops σ.next b=true∧K Tw (gW (Vx ops σ) a)
def YT{b:Type}:List b->List b->List b
 | [],acc=>acc
 |a ::l,acc=>YT l (a ::acc)
def ack{c:Type}:∀(l b:List c),YT l b=l.reverse++b
 | [],b=>rfl
 |a ::l,b=>by rw[YT,ack l,List.reverse_cons,Xj];rfl
def Wy(Γ:T AF)(M:List fK):List dY->Nat->Fr->St->List (T V×V)->List (T4×St)->(Fr->List (T V×V)->List (T4×St)->Prop)->Prop
 | [],_,fr,_,tr,es,K=>K fr tr es
 |d ::r,h,fr,σ,tr,es,K=>
  if eJ d.o.guard fr.tmps=true then
   if bh d.o.op=true then Wy Γ M r (h+1) ⟨gI fr.tmps d.o.dst (.ptr (some (h,0))),fr.defers⟩ σ ((fr.tmps,.ptr (some (h,0))) ::tr) es K
   else wpOp Γ M d.o.op fr.tmps fr.defers σ fun v ds σ'=>Wy Γ M r h ⟨gI fr.tmps d.o.dst v,ds⟩ σ' ((fr.tmps,v) ::tr) (if cM d.o.op=true then(ds,σ') ::es else es) K
  else if bh d.o.op=true then False
  else Wy Γ M r h ⟨gI fr.tmps d.o.dst .undef,fr.defers⟩ σ ((fr.tmps,.undef) ::tr) (if cM d.o.op=true then(fr.defers,σ) ::es else es) K
def Jy:∀(ops:List dY) (h:Nat) (fr:Fr) (σ:St) (a:List (T V×V)) (es:List (T4×St)) (K:Fr->List (T V×V)->List (T4×St)->Prop),
  Wy Γ M ops h fr σ a es K=XH Γ M ops h fr σ fun f' t e=>K f' (t.reverse++a) (e.reverse++es)
 | [],h,fr,σ,a,es,K=>rfl
 |d ::r,h,fr,σ,a,es,K=>by
  have b:∀(c:Bool) (x:T4×St) (e:List (T4×St)),e.reverse++(if c=true then x ::es else es)=(if c=true then x ::e else e).reverse++es:=by
   intro c x e;cases c
   .rfl
   simp
  simp only[Wy,XH];simp only[Jy r,List.reverse_cons,Xj,List.singleton_append,b]
abbrev fA:=Ex->Fr->St->Prop
def Zu(Γ:T AF)(M:List fK)(c:AC)(fr:Fr)(σ:St)(K:fA):Prop:=
 ∃ex Tw σ',K ex Tw σ'∧∃b, ∀f a,b≤f->b≤a->T7 (eF Γ M [] a) [] f c fr σ=some (ex,Tw,σ')
def XV(Γ:T AF)(M:List fK)(b:AC):Nat->Nat->Fr->St->fA->Prop
 | 0,_,_,_,_=>False
 |n+1,l,fr,σ,K=>match findLabel b l with
  |none=>K (.goto l) fr σ
  |some r=>Zu Γ M r fr σ fun ex fr σ=>match ex with
   | .goto l=>XV Γ M b n l fr σ K
   |ex=>K ex fr σ
def Zh(B:Fr->St->fA->Prop):Nat->Fr->St->fA->Prop
 | 0,_,_,_=>False
 |n+1,fr,σ,K=>B fr σ fun ex fr σ=>match ex with
  | .normal=>Zh B n fr σ K
  |ex=>K ex fr σ
def wp(Γ:T AF)(M:List fK):AC->Fr->St->fA->Prop
 | .skip,fr,σ,K=>K .normal fr σ
 | .region ops,fr,σ,K=>wpOps Γ M ops fr σ fun fr σ=>K .normal fr σ
 | .YS d ops,fr,σ,K=>wpOps Γ M ops ⟨gI fr.tmps d .nilIface,fr.defers⟩ σ fun fr σ=>K .normal fr σ
 | .Yh ops,fr,σ,K=>AX Γ M ops fr σ fun fr σ=>K .normal fr σ
 | .seq a b,fr,σ,K=>wp Γ M a fr σ fun ex fr σ=>match ex with
  | .normal=>wp Γ M b fr σ K
  |ex=>K ex fr σ
 | .cond c a b,fr,σ,K=>match c.eval fr.tmps with
  | .bool t=>if t=true then wp Γ M a fr σ K else wp Γ M b fr σ K
  |_=>False
 | .block id b,fr,σ,K=>wp Γ M b fr σ fun ex fr σ=>match ex with
  | .exit i=>if i=id then K .normal fr σ else K (.exit i) fr σ
  |ex=>K ex fr σ
 | .loop b,fr,σ,K=>∃n,Zh (fun fr σ K=>wp Γ M b fr σ K) n fr σ K
 | .exit id,fr,σ,K=>K (.exit id) fr σ
 | .ret,fr,σ,K=>K .ret fr σ
 | .scope b,fr,σ,K=>wp Γ M b fr σ fun ex fr σ=>match ex with
  | .goto l=>∃n,XV Γ M b n l fr σ K
  |ex=>K ex fr σ
 | .label _,fr,σ,K=>K .normal fr σ
 | .goto l,fr,σ,K=>K (.goto l) fr σ
 | .Xe _,_,_,_=>False
def au.mono{g:FuncId}{xs:List V}{σ:St}{Q R:V->St->Prop}(h:au Γ M g xs σ Q)(k:∀v σ',Q v σ'->R v σ'):au Γ M g xs σ R:=
 let ⟨v,σ',a,b⟩:=h;⟨v,σ',k v σ' a,b⟩
def Gt{op:TL}{tm:T V}{ds:T4}{σ:St}{K:V->T4->St->Prop}(h:wpOp Γ M op tm ds σ K):
  ∃v a σ',K v a σ'∧∃b, ∀f,b≤f->Uh (eF Γ M [] f) op tm ds σ=some (v,a,σ'):=by
 have i:∀op,(∀c l:iB,Uh c op tm ds σ=Uh l op tm ds σ)->(match Uh (fun _ _ _=>none) op tm ds σ with
  |some (v,ds,σ)=>K v ds σ
  |none=>False)->∃v a σ',K v a σ'∧∃b, ∀f,b≤f->Uh (eF Γ M [] f) op tm ds σ=some (v,a,σ'):=by
  intro op hs d;split at d
  .rename_i v a σ' j;exact⟨v,a,σ',d,0,fun f _=>by rw[hs (eF Γ M [] f) (fun _ _ _=>none)];exact j⟩
  exact d.elim
 cases op with
 |call g xs=>
  obtain⟨v,σ',d,b,k⟩:=h;refine⟨v,ds,σ',d,b,fun f e=>?_⟩;simp only[Uh,cD,bQ,U5,Ul,k f e]
 |YK g xs=>
  simp only[wpOp]at h;split at h
  .rename_i n first m j;obtain⟨v,σ',d,b,k⟩:=h;refine⟨v,ds,σ',d,b,fun f e=>?_⟩;simp only[Uh,cD,bQ,U5,Ul,j,k f e]
  exact h.elim
 |_=>exact i _ (fun _ _=>rfl) h
def qG:∀{ops:List eY} {fr:Fr} {σ:St} {K:Fr->St->Prop},wpOps Γ M ops fr σ K →
  ∃Tw σ',K Tw σ'∧∃g, ∀f,g≤f->fM (eF Γ M [] f) ops fr σ=some (Tw,σ')
 | [],fr,σ,K,h=>⟨fr,σ,h,0,fun f _=>rfl⟩
 |o ::r,fr,σ,K,h=>by
  simp only[wpOps]at h;split at h
  .rename_i hw;obtain⟨v,ds,k,j,i,d⟩:=Gt h;obtain⟨Tw,σ',e,c,a⟩:=qG j;refine⟨Tw,σ',e,max i c,fun f b=>?_⟩;simp only[fM,hw,TT,d f Q,a f Q]
  rename_i hw;obtain⟨Tw,σ',e,c,a⟩:=qG h;refine⟨Tw,σ',e,c,fun f b=>?_⟩;simp only[fM,hw,U5,Ul,a f b]
def zM:∀{ops:List dY} {h:Nat} {fr:Fr} {σ:St} {K:Fr->List (T V×V)->List (T4×St)->Prop},XH Γ M ops h fr σ K →
  ∃Tw g es,K Tw g es∧∃j, ∀f,j≤f->lJ (eF Γ M [] f) ops h fr σ=some (Tw,g,es)
 | [],h,fr,σ,K,hh=>⟨fr,[],[],hh,0,fun f _=>rfl⟩
 |d ::r,h,fr,σ,K,hh=>by
  simp only[XH]at hh;split at hh
  .rename_i hw;split at hh
   .rename_i ha;obtain⟨Tw,g,es,e,c,a⟩:=zM hh;refine⟨Tw,_,es,e,c,fun f b=>?_⟩;simp only[lJ,hw,ha,TT,a f b]
   rename_i ha;obtain⟨v,ds,m,l,k,i⟩:=Gt hh;obtain⟨Tw,g,es,e,c,a⟩:=zM l;refine⟨Tw,_,_,e,max k c,fun f b=>?_⟩;simp only[lJ,hw,ha,TT,U5,Ul,i f Q,a f Q]
  rename_i hw;split at hh
  .exact hh.elim
  rename_i ha;obtain⟨Tw,g,es,e,c,a⟩:=zM hh;refine⟨Tw,_,_,e,c,fun f b=>?_⟩;simp only[lJ,hw,ha,U5,Ul,a f b]
def GA{ops:List dY}{fr:Fr}{σ:St}{K:Fr->St->Prop}(h:AX Γ M ops fr σ K):
  ∃Tw σ',K Tw σ'∧∃a, ∀f,a≤f->jM (eF Γ M [] f) ops fr σ=some (Tw,σ'):=by
 obtain⟨Tw,i,g,⟨c,e⟩,a,d⟩:=zM h;refine⟨Tw,_,e,a,fun f b=>?_⟩;simp only[jM,d f b,c,TT]
def Zu.mono{c:AC}{fr:Fr}{σ:St}{K a:fA}(h:Zu Γ M c fr σ K)(k:∀ex fr σ,K ex fr σ->a ex fr σ):Zu Γ M c fr σ a:=
 let ⟨ex,Tw,σ',d,b⟩:=h;⟨ex,Tw,σ',k _ _ _ d,b⟩
def zE{b:AC}{B:Fr->St->fA->Prop}(k:∀fr σ K,B fr σ K->Zu Γ M b fr σ K):∀{n:Nat} {fr:Fr} {σ:St} {K:fA},Zh B n fr σ K->Zu Γ M (.loop b) fr σ K
 | 0,fr,σ,K,h=>h.elim
 |n+1,fr,σ,K,h=>by
  obtain⟨ex,e,i,d,j,a⟩:=k _ _ _ h;cases ex with
  |normal=>
   obtain⟨ex,Tw,σ',p,l,g⟩:=zE k d;refine⟨ex,Tw,σ',p,max j l+1,fun f c d o=>?_⟩;obtain⟨f,rfl⟩:∃m,f=m+1:=⟨f-1,Q⟩
   simp only[T7,ki,a f c Q Q,g f c Q Q]
  |_=>
   refine⟨_,e,i,d,j+1,fun f c d o=>?_⟩;obtain⟨f,rfl⟩:∃m,f=m+1:=⟨f-1,Q⟩
   simp only[T7,ki,a f c Q Q]
def CL{b:AC}:∀{n l:Nat} {fr:Fr} {σ:St} {K:fA},XV Γ M b n l fr σ K →
  ∃ex Tw σ',K ex Tw σ'∧∃e, ∀f f' m,e≤f->e≤f'->e≤m->T7.scopeLoop (T7 (eF Γ M [] f') [] f) b m l fr σ=some (ex,Tw,σ')
 | 0,l,fr,σ,K,h=>h.elim
 |n+1,l,fr,σ,K,h=>by
  simp only[XV]at h;split at h
  .rename_i d;refine⟨_,fr,σ,h,1,fun f f' m _ _ u=>?_⟩;obtain⟨m,rfl⟩:∃k,m=k+1:=⟨m-1,Q⟩
   simp only[T7.scopeLoop,d]
  rename_i r d;obtain⟨ex,g,j,c,o,a⟩:=h;cases ex with
  |goto v=>
   obtain⟨ex,Tw,σ',t,p,i⟩:=CL c;refine⟨ex,Tw,σ',t,max o p+1,fun f f' m c q s=>?_⟩;obtain⟨m,rfl⟩:∃k,m=k+1:=⟨m-1,Q⟩
   simp only[T7.scopeLoop,d,a f f' Q Q,i f f' m Q Q Q]
  |_=>
   refine⟨_,g,j,c,o+1,fun f f' m c q s=>?_⟩;obtain⟨m,rfl⟩:∃k,m=k+1:=⟨m-1,Q⟩
   simp only[T7.scopeLoop,d,a f f' Q Q]
def rz:∀(c:AC) {fr:Fr} {σ:St} {K:fA},wp Γ M c fr σ K->Zu Γ M c fr σ K
 | .skip,fr,σ,K,h=>⟨_,_,_,h,1,fun f f' g k=>by obtain⟨f,rfl⟩:∃m,f=m+1:=⟨f-1,Q⟩;simp only[T7]⟩
 | .region ops,fr,σ,K,h=>by
  obtain⟨Tw,σ',r,w,x⟩:=qG h;refine⟨_,Tw,σ',r,w+1,fun f f' g k=>?_⟩;obtain⟨f,rfl⟩:∃m,f=m+1:=⟨f-1,Q⟩
  simp only[T7,x f' Q]
 | .YS d ops,fr,σ,K,h=>by
  obtain⟨Tw,σ',r,w,x⟩:=qG h;refine⟨_,Tw,σ',r,w+1,fun f f' g k=>?_⟩;obtain⟨f,rfl⟩:∃m,f=m+1:=⟨f-1,Q⟩
  simp only[T7,x f' Q]
 | .Yh ops,fr,σ,K,h=>by
  obtain⟨Tw,σ',r,w,x⟩:=GA h;refine⟨_,Tw,σ',r,w+1,fun f f' g k=>?_⟩;obtain⟨f,rfl⟩:∃m,f=m+1:=⟨f-1,Q⟩
  simp only[T7,x f' Q]
 | .seq a b,fr,σ,K,h=>by
  obtain⟨ex,o,q,g,s,j⟩:=rz a h;cases ex with
  |normal=>
   obtain⟨ex,Tw,σ',r,u,p⟩:=rz b g;refine⟨ex,Tw,σ',r,max s u+1,fun f f' g k=>?_⟩;obtain⟨f,rfl⟩:∃m,f=m+1:=⟨f-1,Q⟩
   simp only[T7,j f f' Q Q,p f f' Q Q]
  |_=>
   refine⟨_,o,q,g,s+1,fun f f' g k=>?_⟩;obtain⟨f,rfl⟩:∃m,f=m+1:=⟨f-1,Q⟩
   simp only[T7,j f f' Q Q]
 | .cond c a b,fr,σ,K,h=>by
  simp only[wp]at h;split at h
  .rename_i t ht;split at h
   .rename_i v;obtain⟨ex,Tw,σ',r,u,p⟩:=rz a h;refine⟨ex,Tw,σ',r,u+1,fun f f' g k=>?_⟩;obtain⟨f,rfl⟩:∃m,f=m+1:=⟨f-1,Q⟩
    simp only[T7,ht,v,TT,p f f' Q Q]
   rename_i v;obtain⟨ex,Tw,σ',r,u,p⟩:=rz b h;refine⟨ex,Tw,σ',r,u+1,fun f f' g k=>?_⟩;obtain⟨f,rfl⟩:∃m,f=m+1:=⟨f-1,Q⟩
   simp only[T7,ht,v,Ul,p f f' Q Q,U5]
  exact h.elim
 | .block id b,fr,σ,K,h=>by
  obtain⟨ex,o,q,g,s,j⟩:=rz b h;cases ex with
  |exit i=>
   by_cases e:i=id
   .simp only[e,TT]at g;refine⟨_,o,q,g,s+1,fun f f' g k=>?_⟩;obtain⟨f,rfl⟩:∃m,f=m+1:=⟨f-1,Q⟩
    simp only[T7,j f f' Q Q,e,TT]
   simp only[e,Ul]at g;refine⟨_,o,q,g,s+1,fun f f' g k=>?_⟩;obtain⟨f,rfl⟩:∃m,f=m+1:=⟨f-1,Q⟩
   simp only[T7,j f f' Q Q,e,Ul]
  |_=>
   refine⟨_,o,q,g,s+1,fun f f' g k=>?_⟩;obtain⟨f,rfl⟩:∃m,f=m+1:=⟨f-1,Q⟩
   simp only[T7,j f f' Q Q]
 | .loop b,fr,σ,K,⟨n,h⟩=>zE (fun _ _ _ h=>rz b h) h
 | .exit id,fr,σ,K,h=>⟨_,_,_,h,1,fun f f' g k=>by obtain⟨f,rfl⟩:∃m,f=m+1:=⟨f-1,Q⟩;simp only[T7]⟩
 | .ret,fr,σ,K,h=>⟨_,_,_,h,1,fun f f' g k=>by obtain⟨f,rfl⟩:∃m,f=m+1:=⟨f-1,Q⟩;simp only[T7]⟩
 | .scope b,fr,σ,K,h=>by
  obtain⟨ex,o,q,g,s,j⟩:=rz b h;cases ex with
  |goto l=>
   obtain⟨n,g⟩:=g;obtain⟨ex,Tw,σ',r,u,p⟩:=CL g;refine⟨ex,Tw,σ',r,max s u+1,fun f f' g k=>?_⟩;obtain⟨f,rfl⟩:∃m,f=m+1:=⟨f-1,Q⟩
   simp only[T7,j f f' Q Q,p f f' f Q Q Q]
  |_=>
   refine⟨_,o,q,g,s+1,fun f f' g k=>?_⟩;obtain⟨f,rfl⟩:∃m,f=m+1:=⟨f-1,Q⟩
   simp only[T7,j f f' Q Q]
 | .label _,fr,σ,K,h=>⟨_,_,_,h,1,fun f f' g k=>by obtain⟨f,rfl⟩:∃m,f=m+1:=⟨f-1,Q⟩;simp only[T7]⟩
 | .goto l,fr,σ,K,h=>⟨_,_,_,h,1,fun f f' g k=>by obtain⟨f,rfl⟩:∃m,f=m+1:=⟨f-1,Q⟩;simp only[T7]⟩
 | .Xe _,_,_,_,h=>h.elim
def iL(Γ:T AF)(M:List fK):T4->St->(St->Prop)->Prop
 | [],σ,K=>K σ
 |(g,xs) ::r,σ,K=>((∃a,Γ.get g=some (.code a))∨Γ.get g=some (.ext .unlock))∧au Γ M g xs σ fun _ σ=>iL Γ M r σ K
def tI:∀{ds:T4} {σ:St} {K:St->Prop},iL Γ M ds σ K->∃σ',K σ'∧∃b, ∀f,b≤f->fH (fj Γ (eF Γ M [] f)) ds σ=some σ'
 | [],σ,K,h=>⟨σ,h,0,fun f _=>rfl⟩
 |(g,xs) ::r,σ,K,⟨hg,v,σ1,h1,f1,hf1⟩=>by
  obtain⟨σ',d,c,a⟩:=tI h1;refine⟨σ',d,max f1 c,fun f e=>?_⟩;rcases hg with⟨i,hg⟩|hg
  .simp only[fH,fj,hg,hf1 f Q,a f Q]
  simp only[fH,fj,hg,hf1 f Q,a f Q]
def ZS(ex:Ex)(p:Prop):Prop:=match ex with
 | .normal=>p
 | .ret=>p
 |_=>False
def xm(a:List VH)(tm:T V)(σ:St)(Q:V->St->Prop):Prop:=match bR tm σ a with
 |some b=>Q (Dj b) σ
 |none=>False
def Ib{g:FuncId}{b:jj}{xs:List V}{σ:St}{Q:V->St->Prop}(hg:Γ.get g=some (.code b))(q:jm M g xs σ=none)(h:wp Γ M b.body (enter xs) σ fun ex fr σ=>ZS ex (iL Γ M fr.defers σ fun σ=>xm b.results fr.tmps σ Q)):au Γ M g xs σ Q:=by
 obtain⟨ex,fr,k,c,l,e⟩:=rz _ h;unfold ZS at c;have a:(ex=.normal∨ex=.ret)∧iL Γ M fr.defers k fun σ=>xm b.results fr.tmps σ Q:=by
  cases ex with
  |normal=>exact⟨.inl rfl,c⟩
  |ret=>exact⟨.inr rfl,c⟩
  |_=>exact c.elim
 obtain⟨a,o⟩:=a;obtain⟨r,d,n,i⟩:=tI o;unfold xm at d;split at d
 .rename_i s j;refine⟨_,_,d,max l n+1,fun f p=>?_⟩;obtain⟨f,rfl⟩:∃m,f=m+1:=⟨f-1,acG⟩
  simp only[eF,q,hg,e f f acG acG,a,TT,i f acG,j]
 exact d.elim
def lL{g:FuncId}{e:TP}{xs:List V}{σ σ':St}{v:V}{Q:V->St->Prop}(hg:Γ.get g=some (.ext e))(b:jm M g xs σ=none)(h:dA e xs σ=some (v,σ'))(c:Q v σ'):au Γ M g xs σ Q:=
 ⟨v,σ',c,1,fun f a=>by obtain⟨f,rfl⟩:∃m,f=m+1:=⟨f-1,acG⟩;simp only[eF,b,hg,h]⟩
def ab{g:FuncId}{xs:List V}{σ σ':St}{v:V}{Q:V->St->Prop}(h:V5 Γ M g xs σ v σ')(a:Q v σ'):au Γ M g xs σ Q:=⟨v,σ',a,h⟩
def acq{op:TL}{tm:T V}{ds:T4}{σ:St}{K a:V->T4->St->Prop}(h:wpOp Γ M op tm ds σ K)(k:∀v ds σ,K v ds σ->a v ds σ):wpOp Γ M op tm ds σ a:=by
 unfold wpOp at h⊢;split at h
 .exact h.mono fun v σ'=>k _ _ _
 .split at h
  .exact h.mono fun v σ'=>k _ _ _
  exact h.elim
 split at h
 .exact k _ _ _ h
 exact h.elim
def mi:∀{ops:List eY} {fr:Fr} {σ:St} {K a:Fr->St->Prop},wpOps Γ M ops fr σ K->(∀fr σ,K fr σ->a fr σ)->wpOps Γ M ops fr σ a
 | [],fr,σ,K,a,h,k=>k _ _ h
 |o ::r,fr,σ,K,a,h,k=>by
  simp only[wpOps]at h⊢;split at h
  .rename_i hw;rw[Ti hw];exact acq h fun v ds σ h=>mi h k
  rename_i hw;rw[Tg hw];exact mi h k
def qF:∀{ops:List dY} {h:Nat} {fr:Fr} {σ:St} {K e:Fr->List (T V×V)->List (T4×St)->Prop},XH Γ M ops h fr σ K->(∀a b c,K a b c->e a b c)->XH Γ M ops h fr σ e
 | [],h,fr,σ,K,e,hh,k=>k _ _ _ hh
 |d ::r,h,fr,σ,K,e,hh,k=>by
  simp only[XH]at hh⊢;split at hh
  .rename_i hw;rw[Ti hw];split at hh
   .rename_i ha;rw[Ti ha];exact qF hh fun _ _ _=>k _ _ _
   rename_i ha;rw[Tg ha];exact acq hh fun v ds σ h=>qF h fun _ _ _=>k _ _ _
  rename_i hw;rw[Tg hw];split at hh
  .exact hh.elim
  rename_i ha;rw[Tg ha];exact qF hh fun _ _ _=>k _ _ _
def tY{B:Fr->St->fA->Prop}(b:∀fr σ K a,B fr σ K->(∀ex fr σ,K ex fr σ->a ex fr σ)->B fr σ a):∀{n:Nat} {fr:Fr} {σ:St} {K a:fA},Zh B n fr σ K->(∀ex fr σ,K ex fr σ->a ex fr σ)->Zh B n fr σ a
 | 0,fr,σ,K,a,h,k=>h.elim
 |n+1,fr,σ,K,a,h,k=>by
  refine b _ _ _ _ h fun ex fr σ h=>?_
  cases ex with
  |normal=>exact tY b h k
  |_=>exact k _ _ _ h
def ve{b:AC}:∀{n l:Nat} {fr:Fr} {σ:St} {K a:fA},XV Γ M b n l fr σ K->(∀ex fr σ,K ex fr σ->a ex fr σ)->XV Γ M b n l fr σ a
 | 0,l,fr,σ,K,a,h,k=>h.elim
 |n+1,l,fr,σ,K,a,h,k=>by
  simp only[XV]at h⊢;split at h
  .rename_i c;exact k _ _ _ h
  rename_i r c;refine h.mono fun ex fr σ h=>?_
  cases ex with
  |goto d=>exact ve h k
  |_=>exact k _ _ _ h
def YA:∀(c:AC) {fr:Fr} {σ:St} {K f:fA},wp Γ M c fr σ K->(∀ex fr σ,K ex fr σ->f ex fr σ)->wp Γ M c fr σ f
 | .skip,fr,σ,K,f,h,k=>k _ _ _ h
 | .region ops,fr,σ,K,f,h,k=>mi (ops:=ops) h fun _ _=>k _ _ _
 | .YS d ops,fr,σ,K,f,h,k=>mi (ops:=ops) h fun _ _=>k _ _ _
 | .Yh ops,fr,σ,K,f,h,k=>qF (ops:=ops) h fun _ _ _ ⟨j,m⟩=>⟨j,k _ _ _ m⟩
 | .seq a b,fr,σ,K,f,h,k=>YA a h fun ex fr σ h=>by
  cases ex with
  |normal=>exact YA b h k
  |_=>exact k _ _ _ h
 | .cond c a b,fr,σ,K,f,h,k=>by
  simp only[wp]at h⊢;split at h
  .split at h
   .rename_i ht g;rw[Ti g];exact YA a h k
   rename_i ht g;rw[Tg g];exact YA b h k
  exact h.elim
 | .block id b,fr,σ,K,f,h,k=>YA b h fun ex fr σ h=>by
  cases ex with
  |exit i=>
   by_cases e:i=id
   .simp only[e,TT]at h⊢;exact k _ _ _ h
   simp only[e,Ul]at h⊢;exact k _ _ _ h
  |_=>exact k _ _ _ h
 | .loop b,fr,σ,K,f,⟨n,h⟩,k=>⟨n,tY (B:=fun fr σ K=>wp Γ M b fr σ K) (fun _ _ _ _ h k=>YA b h k) h k⟩
 | .exit id,fr,σ,K,f,h,k=>k _ _ _ h
 | .ret,fr,σ,K,f,h,k=>k _ _ _ h
 | .scope b,fr,σ,K,f,h,k=>YA b h fun ex fr σ h=>by
  cases ex with
  |goto l=>obtain⟨n,h⟩:=h;exact⟨n,ve h k⟩
  |_=>exact k _ _ _ h
 | .label _,fr,σ,K,f,h,k=>k _ _ _ h
 | .goto l,fr,σ,K,f,h,k=>k _ _ _ h
 | .Xe _,_,_,_,_,h,_=>h.elim
def au.one{g:FuncId}{xs:List V}{σ:St}{Q:V->St->Prop}(h:au Γ M g xs σ Q):∃v σ',Q v σ'∧∀a:V->St->Prop,a v σ'->au Γ M g xs σ a:=
 let ⟨v,σ',b,c⟩:=h;⟨v,σ',b,fun a k=>⟨v,σ',k,c⟩⟩
def Dp{op:TL}{tm:T V}{ds:T4}{σ:St}{K:V->T4->St->Prop}(h:wpOp Γ M op tm ds σ K):∃v b σ',K v b σ'∧∀a:V->T4->St->Prop,a v b σ'->wpOp Γ M op tm ds σ a:=by
 unfold wpOp at h⊢;split at h
 .obtain⟨v,σ',c,d⟩:=h.one;exact⟨v,ds,σ',c,fun a k=>d _ k⟩
 .split at h
  .obtain⟨v,σ',c,d⟩:=h.one;exact⟨v,ds,σ',c,fun a k=>d _ k⟩
  exact h.elim
 split at h
 .exact⟨_,_,_,h,fun a k=>k⟩
 exact h.elim
def oO:∀{ops:List eY} {fr:Fr} {σ:St} {K:Fr->St->Prop},wpOps Γ M ops fr σ K->∃Tw σ',K Tw σ'∧∀a:Fr->St->Prop,a Tw σ'->wpOps Γ M ops fr σ a
 | [],fr,σ,K,h=>⟨fr,σ,h,fun a k=>k⟩
 |o ::r,fr,σ,K,h=>by
  simp only[wpOps]at h⊢;split at h
  .rename_i hw;obtain⟨v,ds,f,d,e⟩:=Dp h;obtain⟨Tw,σ',b,c⟩:=oO d;exact⟨Tw,σ',b,fun a k=>by rw[Ti hw];exact e _ (c _ k)⟩
  rename_i hw;obtain⟨Tw,σ',b,c⟩:=oO h;exact⟨Tw,σ',b,fun a k=>by rw[Tg hw];exact c _ k⟩
def uY:∀{ops:List dY} {h:Nat} {fr:Fr} {σ:St} {K:Fr->List (T V×V)->List (T4×St)->Prop},XH Γ M ops h fr σ K->∃a b c,K a b c∧∀e:Fr->List (T V×V)->List (T4×St)->Prop,e a b c->XH Γ M ops h fr σ e
 | [],h,fr,σ,K,hh=>⟨_,_,_,hh,fun e k=>k⟩
 |d ::r,h,fr,σ,K,hh=>by
  simp only[XH]at hh⊢;split at hh
  .rename_i hw;split at hh
   .rename_i ha;obtain⟨a,b,c,f,g⟩:=uY hh;exact⟨a,_,c,f,fun e k=>by rw[Ti hw,Ti ha];exact g _ k⟩
   rename_i ha;obtain⟨v,ds,l,i,j⟩:=Dp hh;obtain⟨a,b,c,f,g⟩:=uY i;exact⟨a,_,_,f,fun e k=>by rw[Ti hw,Tg ha];exact j _ (g _ k)⟩
  rename_i hw;split at hh
  .exact hh.elim
  rename_i ha;obtain⟨a,b,c,f,g⟩:=uY hh;exact⟨a,_,_,f,fun e k=>by rw[Tg hw,Tg ha];exact g _ k⟩
def EL{ops:List dY}{fr:Fr}{σ:St}{K:Fr->St->Prop}(h:AX Γ M ops fr σ K):∃Tw σ',K Tw σ'∧∀d:Fr->St->Prop,d Tw σ'->AX Γ M ops fr σ d:=by obtain⟨a,b,c,⟨e,f⟩,k⟩:=uY h;exact⟨_,_,f,fun d g=>k _ ⟨e,g⟩⟩
def vH{B:Fr->St->fA->Prop}(e:∀fr σ K,B fr σ K->∃ex Tw σ',K ex Tw σ'∧∀a:fA,a ex Tw σ'->B fr σ a):∀{n:Nat} {fr:Fr} {σ:St} {K:fA},Zh B n fr σ K->∃ex Tw σ',K ex Tw σ'∧∀a:fA,a ex Tw σ'->Zh B n fr σ a
 | 0,fr,σ,K,h=>h.elim
 |n+1,fr,σ,K,h=>by
  obtain⟨ex,b,c,d,f⟩:=e _ _ _ h;cases ex with
  |normal=>
   obtain⟨ex,Tw,σ',g,i⟩:=vH e d;exact⟨ex,Tw,σ',g,fun a k=>f _ (i _ k)⟩
  |_=>exact⟨_,b,c,d,fun a k=>f _ k⟩
def zx{b:AC}:∀{n l:Nat} {fr:Fr} {σ:St} {K:fA},XV Γ M b n l fr σ K->∃ex Tw σ',K ex Tw σ'∧∀d:fA,d ex Tw σ'->XV Γ M b n l fr σ d
 | 0,l,fr,σ,K,h=>h.elim
 |n+1,l,fr,σ,K,h=>by
  simp only[XV]at h⊢;split at h
  .exact⟨_,_,_,h,fun d k=>k⟩
  rename_i r j;obtain⟨ex,a,c,e,f⟩:=h;cases ex with
  |goto m=>
   obtain⟨ex,Tw,σ',g,i⟩:=zx e;exact⟨ex,Tw,σ',g,fun d k=>⟨_,a,c,i _ k,f⟩⟩
  |_=>exact⟨_,a,c,e,fun d k=>⟨_,a,c,k,f⟩⟩
def ow:∀(c:AC) {fr:Fr} {σ:St} {K:fA},wp Γ M c fr σ K->∃ex Tw σ',K ex Tw σ'∧∀j:fA,j ex Tw σ'->wp Γ M c fr σ j
 | .skip,fr,σ,K,h=>⟨_,_,_,h,fun j k=>k⟩
 | .region ops,fr,σ,K,h=>let ⟨Tw,σ',f,g⟩:=oO (ops:=ops) h;⟨_,Tw,σ',f,fun j k=>g _ k⟩
 | .YS d ops,fr,σ,K,h=>let ⟨Tw,σ',f,g⟩:=oO (ops:=ops) h;⟨_,Tw,σ',f,fun j k=>g _ k⟩
 | .Yh ops,fr,σ,K,h=>let ⟨Tw,σ',f,g⟩:=EL (ops:=ops) h;⟨_,Tw,σ',f,fun j k=>g _ k⟩
 | .seq a b,fr,σ,K,h=>by
  obtain⟨ex,m,o,f,g⟩:=ow a h;cases ex with
  |normal=>
   obtain⟨ex,Tw,σ',q,r⟩:=ow b f;exact⟨ex,Tw,σ',q,fun j k=>g _ (r _ k)⟩
  |_=>exact⟨_,m,o,f,fun j k=>g _ k⟩
 | .cond c a b,fr,σ,K,h=>by
  simp only[wp]at h⊢;split at h
  .split at h
   .rename_i p;obtain⟨ex,Tw,σ',f,g⟩:=ow a h;exact⟨ex,Tw,σ',f,fun j k=>by rw[Ti p];exact g _ k⟩
   rename_i p;obtain⟨ex,Tw,σ',f,g⟩:=ow b h;exact⟨ex,Tw,σ',f,fun j k=>by rw[Tg p];exact g _ k⟩
  exact h.elim
 | .block id b,fr,σ,K,h=>by
  obtain⟨ex,m,o,f,g⟩:=ow b h;cases ex with
  |exit i=>
   by_cases e:i=id
   .simp only[e,TT]at f;exact⟨_,m,o,f,fun j k=>g _ (by simp only[e,TT];exact k)⟩
   simp only[e,Ul]at f;exact⟨_,m,o,f,fun j k=>g _ (by simp only[e,Ul];exact k)⟩
  |_=>exact⟨_,m,o,f,fun j k=>g _ k⟩
 | .loop b,fr,σ,K,⟨n,h⟩=>let ⟨ex,Tw,σ',f,g⟩:=vH (B:=fun fr σ K=>wp Γ M b fr σ K) (fun _ _ _ h=>ow b h) h;⟨ex,Tw,σ',f,fun j k=>⟨n,g _ k⟩⟩
 | .exit id,fr,σ,K,h=>⟨_,_,_,h,fun j k=>k⟩
 | .ret,fr,σ,K,h=>⟨_,_,_,h,fun j k=>k⟩
 | .scope b,fr,σ,K,h=>by
  obtain⟨ex,m,o,f,g⟩:=ow b h;cases ex with
  |goto l=>
   obtain⟨n,f⟩:=f;obtain⟨ex,Tw,σ',q,r⟩:=zx f;exact⟨ex,Tw,σ',q,fun j k=>g _ ⟨n,r _ k⟩⟩
  |_=>exact⟨_,m,o,f,fun j k=>g _ k⟩
 | .label _,fr,σ,K,h=>⟨_,_,_,h,fun j k=>k⟩
 | .goto l,fr,σ,K,h=>⟨_,_,_,h,fun j k=>k⟩
 | .Xe _,_,_,_,h=>h.elim
def oN{b:AC}{fr:Fr}{σ:St}{K:fA}(h:wp Γ M b fr σ fun ex fr σ=>match ex with
  | .normal=>wp Γ M (.loop b) fr σ K
  |ex=>K ex fr σ):wp Γ M (.loop b) fr σ K:=by
 obtain⟨ex,d,e,a,c⟩:=ow b h;cases ex with
 |normal=>
  obtain⟨n,a⟩:=a;exact⟨n+1,c _ a⟩
 |_=>exact⟨1,c _ a⟩
def bW{b:AC}{K:fA}(I:Nat->Fr->St->Prop)(h:∀n fr σ,I n fr σ->wp Γ M b fr σ fun ex Tw σ'=>match ex with
  | .normal=>∃m,m<n∧I m Tw σ'
  |ex=>K ex Tw σ'):∀(n:Nat) {fr:Fr} {σ:St},I n fr σ->wp Γ M (.loop b) fr σ K:=by
 have a:∀n k fr σ,k≤n->I k fr σ->Zh (fun fr σ K=>wp Γ M b fr σ K) (n+1) fr σ K:=by
  intro n;induction n with
  |zero=>
   intro k fr σ c hi;refine YA b (h k fr σ hi) fun ex fr σ h=>?_
   cases ex with
   |normal=>obtain⟨m,d,_⟩:=h;omega
   |_=>exact h
  |succ n e=>
   intro k fr σ c hi;refine YA b (h k fr σ hi) fun ex fr σ h=>?_
   cases ex with
   |normal=>obtain⟨m,d,hi⟩:=h;exact e m fr σ Q hi
   |_=>exact h
 exact fun n fr σ hi=>⟨n+1,a n n fr σ (Tx _) hi⟩
end
end AM
namespace AM
open Go
noncomputable section
structure iC (R:St -> St -> Prop):Prop where
 ZA:∀ {op tm s σ v},R s σ -> eT op tm s=some v -> eT op tm σ=some v
 YB:∀ {op tm s σ v s'},R s σ -> bp op tm s=some (v,s') -> ∃ σ',bp op tm σ=some (v,σ')∧R s' σ'
 new:∀ {s σ} {o:Obj},o.TG=0 -> R s σ -> R (s.new o) (σ.new o)
 next:∀ {s σ},R s σ -> s.next=σ.next
 get:∀ {s σ a o},R s σ -> s.Tq.get a=some o -> σ.Tq.get a=some o
 Wl:∀ {rs tm s σ vs},R s σ -> bR tm s rs=some vs -> bR tm σ rs=some vs
def jO(R:St->St->Prop)(call call':iB):Prop:=∀g xs s σ v a,R s σ->call g xs s=some (v,a)->∃σ',call' g xs σ=some (v,σ')∧R a σ'
variable {R:St -> St -> Prop} {call call':iB}
def iC.Uh(h:iC R)(j:jO R call call'){op:TL}{tm:T V}{ds c:T4}{s σ s':St}{v:V}(b:R s σ)(a:Uh call op tm ds s=some (v,c,s')):
  ∃σ',Uh call' op tm ds σ=some (v,c,σ')∧R s' σ':=by
 unfold AM.Uh at a⊢;split at a
 .rename_i g;rw[Ti g];split at a
  .rename_i n k;simp only[TC,TU]at a;obtain⟨rfl,rfl,rfl⟩:=a;exact⟨σ,rfl,b⟩
  cases a
 rename_i g;rw[Tg g];split at a
 .rename_i i;rw[Ti i];split at a
  .rename_i n k;simp only[TC,TU]at a;obtain⟨rfl,rfl,rfl⟩:=a;exact⟨σ,by rw[h.ZA b k],b⟩
  cases a
 rename_i i;rw[Tg i];split at a
 .split at a
  .rename_i d;simp only[TC,TU]at a;obtain⟨rfl,rfl,rfl⟩:=a;obtain⟨σ',e,f⟩:=j _ _ _ _ _ _ b d;exact⟨σ',by simp only[e],f⟩
  cases a
 .split at a
  .rename_i hg;split at a
   .rename_i d;simp only[TC,TU]at a;obtain⟨rfl,rfl,rfl⟩:=a;obtain⟨σ',e,f⟩:=j _ _ _ _ _ _ b d;exact⟨σ',by simp only[hg,e],f⟩
   cases a
  cases a
 .simp only[TC,TU]at a;obtain⟨rfl,rfl,rfl⟩:=a;exact⟨σ,rfl,b⟩
 .split at a
  .rename_i hg;simp only[TC,TU]at a;obtain⟨rfl,rfl,rfl⟩:=a;exact⟨σ,by simp only[hg],b⟩
  cases a
 split at a
 .rename_i d;simp only[TC,TU]at a;obtain⟨rfl,rfl,rfl⟩:=a;obtain⟨σ',l,m⟩:=h.YB b d;refine⟨σ',?_,m⟩;simp only[l]
 cases a
def iC.fM(h:iC R)(a:jO R call call'):∀{ops:List eY} {fr Tw:Fr} {s σ s':St},R s σ->fM call ops fr s=some (Tw,s')->∃σ',fM call' ops fr σ=some (Tw,σ')∧R s' σ'
 | [],fr,Tw,s,σ,s',hR,he=>by simp only[AM.fM,TC,TU]at he;obtain⟨rfl,rfl⟩:=he;exact⟨σ,rfl,hR⟩
 |o ::r,fr,Tw,s,σ,s',hR,he=>by
  simp only[AM.fM]at he⊢;split at he
  .rename_i hw;rw[Ti hw];split at he
   .rename_i d;obtain⟨e,b,c⟩:=h.Uh a hR d;simp only[b];exact h.fM a c he
   cases he
  rename_i hw;rw[Tg hw];exact h.fM a hR he
def Yn(R:St->St->Prop):List (T4×St)->List (T4×St)->Prop
 | [],[]=>True
 |(d,s) ::r,(d',σ) ::r'=>d=d'∧R s σ∧Yn R r r'
 |_,_=>False
def iC.lJ(h:iC R)(e:jO R call call'):∀{ops:List dY} {n:Nat} {fr Tw:Fr} {s σ:St} {f:List (T V×V)} {es:List (T4×St)},R s σ->lJ call ops n fr s=some (Tw,f,es) →
  ∃es',lJ call' ops n fr σ=some (Tw,f,es')∧Yn R es es'
 | [],n,fr,Tw,s,σ,f,es,hR,he=>by simp only[AM.lJ,TC,TU]at he;obtain⟨rfl,rfl,rfl⟩:=he;exact⟨[],rfl,trivial⟩
 |d ::r,n,fr,Tw,s,σ,f,es,hR,he=>by
  simp only[AM.lJ]at he⊢;split at he
  .rename_i hw;rw[Ti hw];split at he
   .rename_i ha;rw[Ti ha];split at he
    .rename_i c;simp only[TC,TU]at he;obtain⟨rfl,rfl,rfl⟩:=he;obtain⟨es',b,a⟩:=h.lJ e hR c;exact⟨es',by simp only[b],a⟩
    cases he
   rename_i ha;rw[Tg ha];split at he
   .rename_i c;obtain⟨k,b,a⟩:=h.Uh e hR c;simp only[b];split at he
    .rename_i g;simp only[TC,TU]at he;obtain⟨rfl,rfl,rfl⟩:=he;obtain⟨es',j,i⟩:=h.lJ e a g;refine⟨_,by simp only[j];rfl,?_⟩;split
     .exact⟨rfl,a,i⟩
     exact i
    cases he
   cases he
  rename_i hw;rw[Tg hw];split at he
  .cases he
  rename_i ha;rw[Tg ha];split at he
  .rename_i c;simp only[TC,TU]at he;obtain⟨rfl,rfl,rfl⟩:=he;obtain⟨es',b,a⟩:=h.lJ e hR c;refine⟨_,by simp only[b];rfl,?_⟩;split
   .exact⟨rfl,hR,a⟩
   exact a
  cases he
def iC.Vx(h:iC R):∀{ops:List dY} {s σ:St},R s σ->R (Vx ops s) (Vx ops σ)
 | [],s,σ,hR=>hR
 |d ::r,s,σ,hR=>by
  simp only[AM.Vx];split
  .exact h.Vx (h.new rfl hR)
  exact h.Vx hR
def iC.fG(h:iC R){op:TL}{tm:T V}{v:V}{lo hi:Nat}:∀{m:Nat} {es es':List (T4×St)},Yn R es es'->fG op tm v lo hi m es=true->fG op tm v lo hi m es'=true
 |m,[],[],_,_=>rfl
 |m,(d,s) ::r,(d',σ) ::r',⟨_,hR,hr⟩,hc=>by
  simp only[AM.fG,Vs]at hc⊢;refine⟨?_,h.fG hr hc.2⟩;have:=hc.1;split
  .rename_i c;rw[Ti c]at this;split at this
   .rename_i u hu;rw[h.ZA hR hu];exact this
   cases this
  rfl
 |m,[],_ ::_,hh,_=>hh.elim
 |m,_ ::_,[],hh,_=>hh.elim
def iC.eN(h:iC R){a:Nat}{z:List V}{hi:Nat}:∀{m:Nat} {es es':List (T4×St)},Yn R es es'->eN a z hi m es=true->eN a z hi m es'=true
 |m,[],[],_,_=>rfl
 |m,(d,s) ::r,(d',σ) ::r',⟨_,hR,hr⟩,hc=>by
  simp only[AM.eN,Vs]at hc⊢;refine⟨?_,h.eN hr hc.2⟩;have:=hc.1;split
  .rename_i c;rw[Ti c]at this;split at this
   .rename_i hu;rw[h.get hR hu];exact this
   cases this
  rfl
 |m,[],_ ::_,hh,_=>hh.elim
 |m,_ ::_,[],hh,_=>hh.elim
def iC.dP(h:iC R){es es':List (T4×St)}(b:Yn R es es'):∀{ops:List dY} {n:Nat} {a:List (T V×V)},dP es ops n a=true->dP es' ops n a=true
 | [],n,a,_=>by cases a <;> rfl
 |d ::r,n,[],hc=>by simp[AM.dP]at hc
 |d ::r,n,(tm,v) ::a,hc=>by
  simp only[AM.dP,Vs]at hc⊢;refine⟨?_,?_⟩
  .have:=hc.1;split
   .rename_i c;rw[Ti c]at this;exact h.fG b this
   rfl
  have:=hc.2;split at this
  .rename_i z e;simp only[Vs]at this;simp only[Vs];exact⟨h.eN b this.1,h.dP b this.2⟩
  exact h.dP b this
def Yn.aaj:∀{es es':List (T4×St)} {s σ:St},R s σ->Yn R es es'->R (gW s es) (gW σ es')
 | [],[],s,σ,hR,_=>hR
 |(d,s1) ::r,(d',σ1) ::r',s,σ,hR,⟨_,h1,h2⟩=>Yn.aaj (es:=r) (es':=r') h1 h2
 | [],_ ::_,_,_,_,hh=>hh.elim
 |_ ::_,[],_,_,_,hh=>hh.elim
def iC.jM(h:iC R)(j:jO R call call'){ops:List dY}{fr Tw:Fr}{s σ s':St}(f:R s σ)(a:jM call ops fr s=some (Tw,s')):∃σ',jM call' ops fr σ=some (Tw,σ')∧R s' σ':=by
 unfold AM.jM at a⊢;have c:=h.Vx (ops:=ops) f;split at a
 .rename_i i l g k;split at a
  .rename_i hd;simp only[TC,TU]at a;obtain⟨rfl,rfl⟩:=a;obtain⟨b,d,e⟩:=h.lJ j c k;rw[h.next f]at d hd;simp only[d];rw[Ti (h.dP (show Yn R ((fr.defers,AM.Vx ops s) ::g) ((fr.defers,AM.Vx ops σ) ::b)from⟨rfl,c,e⟩) hd)];exact⟨_,rfl,Yn.aaj c e⟩
  cases a
 cases a
def zF{run run':AC->Fr->St->Option (Ex×Fr×St)}(g:∀c fr s σ ex Tw s',R s σ->run c fr s=some (ex,Tw,s')->∃σ',run' c fr σ=some (ex,Tw,σ')∧R s' σ')(b:AC):
  ∀{n n' l:Nat} {fr Tw:Fr} {s σ s':St} {ex:Ex},n≤n'->R s σ->T7.scopeLoop run b n l fr s=some (ex,Tw,s')->∃σ',T7.scopeLoop run' b n' l fr σ=some (ex,Tw,σ')∧R s' σ'
 | 0,n',l,fr,Tw,s,σ,s',ex,hle,hR,he=>by simp only[T7.scopeLoop]at he;cases he
 |n+1,0,l,fr,Tw,s,σ,s',ex,hle,hR,he=>Q
 |n+1,n'+1,l,fr,Tw,s,σ,s',ex,hle,hR,he=>by
  simp only[T7.scopeLoop]at he⊢;split at he
  .rename_i i;simp only[TC,TU]at he;obtain⟨rfl,rfl,rfl⟩:=he;exact⟨σ,rfl,hR⟩
  rename_i r i;split at he
  .rename_i h;obtain⟨a,d,e⟩:=g _ _ _ _ _ _ _ hR h;simp only[d];exact zF g b Q e he
  rename_i f;obtain⟨a,d,e⟩:=g _ _ _ _ _ _ _ hR he;refine⟨a,?_,e⟩;rw[d];cases ex with
  |goto j=>exact(f _ _ _ he).elim
  |_=>rfl
def iC.T7(h:iC R)(t:jO R call call'):∀{f f':Nat} {c:AC} {fr Tw:Fr} {s σ s':St} {ex:Ex},f≤f'->R s σ->T7 call [] f c fr s=some (ex,Tw,s')->∃σ',T7 call' [] f' c fr σ=some (ex,Tw,σ')∧R s' σ':=by
 intro f;induction f with
 |zero=>intro f' c fr Tw s σ s' ex u j e;simp only[AM.T7]at e;cases e
 |succ f v=>
  intro f' c fr Tw s σ s' ex u j e;obtain⟨f',rfl⟩:∃m,f'=m+1:=⟨f'-1,Q⟩
  have q:∀{c:AC} {fr Tw:Fr} {s σ s':St} {ex:Ex},R s σ->AM.T7 call [] f c fr s=some (ex,Tw,s')->∃σ',AM.T7 call' [] f' c fr σ=some (ex,Tw,σ')∧R s' σ':=fun j e=>v Q j e
  cases c with
  |skip=>simp only[AM.T7,TC,TU]at e⊢;obtain⟨rfl,rfl,rfl⟩:=e;exact⟨σ,⟨rfl,rfl,rfl⟩,j⟩
  |region r=>
   simp only[AM.T7]at e⊢;split at e
   .rename_i p;simp only[TC,TU]at e;obtain⟨rfl,rfl,rfl⟩:=e;obtain⟨g,n,k⟩:=h.fM t j p;exact⟨g,by simp only[n],k⟩
   cases e
  |YS d r=>
   simp only[AM.T7]at e⊢;split at e
   .rename_i p;simp only[TC,TU]at e;obtain⟨rfl,rfl,rfl⟩:=e;obtain⟨g,n,k⟩:=h.fM t j p;exact⟨g,by simp only[n],k⟩
   cases e
  |Yh r=>
   simp only[AM.T7]at e⊢;split at e
   .rename_i p;simp only[TC,TU]at e;obtain⟨rfl,rfl,rfl⟩:=e;obtain⟨g,n,k⟩:=h.jM t j p;exact⟨g,by simp only[n],k⟩
   cases e
  |seq a b=>
   simp only[AM.T7]at e⊢;split at e
   .rename_i p;obtain⟨g,n,k⟩:=q j p;simp only[n];exact q k e
   rename_i o;obtain⟨g,n,k⟩:=q j e;refine⟨g,?_,k⟩;rw[n];cases ex with
   |normal=>exact(o _ _ e).elim
   |_=>rfl
  |cond c a b=>
   simp only[AM.T7]at e⊢;split at e
   .split at e
    .rename_i ht;rw[Ti ht];exact q j e
    rename_i ht;rw[Tg ht];exact q j e
   cases e
  |block id b=>
   simp only[AM.T7]at e⊢;split at e
   .rename_i i x y p;obtain⟨g,n,k⟩:=q j p;simp only[n];split at e
    .rename_i hi;simp only[TC,TU]at e;obtain⟨rfl,rfl,rfl⟩:=e;exact⟨g,by rw[Ti hi],k⟩
    rename_i hi;simp only[TC,TU]at e;obtain⟨rfl,rfl,rfl⟩:=e;exact⟨g,by rw[Tg hi],k⟩
   rename_i o;obtain⟨g,n,k⟩:=q j e;refine⟨g,?_,k⟩;rw[n];cases ex with
   |exit i=>exact(o _ _ _ e).elim
   |_=>rfl
  |loop b=>
   simp only[AM.T7,ki]at e⊢;split at e
   .rename_i p;obtain⟨g,n,k⟩:=q j p;simp only[n];exact q k e
   rename_i o;obtain⟨g,n,k⟩:=q j e;refine⟨g,?_,k⟩;rw[n];cases ex with
   |normal=>exact(o _ _ e).elim
   |_=>rfl
  |exit id=>simp only[AM.T7,TC,TU]at e⊢;obtain⟨rfl,rfl,rfl⟩:=e;exact⟨σ,⟨rfl,rfl,rfl⟩,j⟩
  |ret=>simp only[AM.T7,TC,TU]at e⊢;obtain⟨rfl,rfl,rfl⟩:=e;exact⟨σ,⟨rfl,rfl,rfl⟩,j⟩
  |scope b=>
   simp only[AM.T7]at e⊢;split at e
   .rename_i p;obtain⟨g,n,k⟩:=q j p;simp only[n];exact zF (run:=AM.T7 call [] f) (run':=AM.T7 call' [] f') (fun _ _ _ _ _ _ _ j e=>q j e) b Q k e
   rename_i o;obtain⟨g,n,k⟩:=q j e;refine⟨g,?_,k⟩;rw[n];cases ex with
   |goto l=>exact(o _ _ _ e).elim
   |_=>rfl
  |label l=>simp only[AM.T7,TC,TU]at e⊢;obtain⟨rfl,rfl,rfl⟩:=e;exact⟨σ,⟨rfl,rfl,rfl⟩,j⟩
  |goto l=>simp only[AM.T7,TC,TU]at e⊢;obtain⟨rfl,rfl,rfl⟩:=e;exact⟨σ,⟨rfl,rfl,rfl⟩,j⟩
  |Xe w=>simp only[AM.T7]at e;cases e
def pQ(a:jO R call call'):∀{ds:T4} {s σ s':St},R s σ->fH call ds s=some s'->∃σ',fH call' ds σ=some σ'∧R s' σ'
 | [],s,σ,s',hR,he=>by simp only[fH,TC]at he;subst he;exact⟨σ,rfl,hR⟩
 |(g,xs) ::r,s,σ,s',hR,he=>by
  simp only[fH]at he⊢;split at he
  .rename_i d;obtain⟨e,b,c⟩:=a _ _ _ _ _ _ hR d;simp only[b];exact pQ a c he
  cases he
def IW(R:St->St->Prop):Prop:=∀e xs s σ v a,R s σ->dA e xs s=some (v,a)->∃σ',dA e xs σ=some (v,σ')∧R a σ'
def pf{Γ Γ':T AF}{M:List fK}(h:iC R)(hx:IW R)(c:∀g x,Γ.get g=some x->Γ'.get g=some x)(j:∀m∈M,Γ.get m.g=none):∀f f',f≤f'->jO R (eF Γ [] [] f) (eF Γ' M [] f'):=by
 have b:∀(M:List fK) {g xs σ x},(∀m∈M,Γ.get m.g=none)->Γ.get g=some x->jm M g xs σ=none:=by
  intro M;induction M with
  |nil=>intro g xs σ x _ _;rfl
  |cons m r l=>
   intro g xs σ x j hg;simp only[jm];have u:(m.g ==g)=false:=by
    cases n:m.g ==g with
    |false=>rfl
    |true=>rw[Zv]at n;have:=j m Y;rw[n,hg]at this;cases this
   rw[u];simp only[Zk,U5,Ul];exact l (fun m D=>j m (by simp[D])) hg
 intro f;induction f with
 |zero=>intro f' t g xs s σ v B i a;simp only[eF]at a;cases a
 |succ f y=>
  intro f' t g xs s σ v B i a;obtain⟨f',rfl⟩:∃m,f'=m+1:=⟨f'-1,Q⟩
  have l:=y f' Q;simp only[eF,jm]at a;split at a
  .rename_i e hg;obtain⟨σ',o,p⟩:=hx _ _ _ _ _ _ i a;exact⟨σ',by simp only[eF,b M j hg,c _ _ hg,o],p⟩
  .rename_i F hg;split at a
   .rename_i ex fr G n;split at a
    .rename_i q;split at a
     .rename_i s2 hd;split at a
      .rename_i H w;simp only[TC,TU]at a;obtain⟨rfl,rfl⟩:=a;obtain⟨E,o,p⟩:=h.T7 (f':=f') l Q i n;have k:jO R (fj Γ (eF Γ [] [] f)) (fj Γ' (eF Γ' M [] f')):=by
        intro g xs s σ v B i a;simp only[fj]at a⊢;split at a
        .rename_i d;rw[c _ _ d];exact l _ _ _ _ _ _ i a
        .rename_i d;rw[c _ _ d];exact l _ _ _ _ _ _ i a
        cases a
       obtain⟨z,C,A⟩:=pQ k p hd;refine⟨z,?_,A⟩;simp only[eF,b M j hg,c _ _ hg,o,q,TT,C,h.Wl A w]
      cases a
     cases a
    cases a
   cases a
  cases a
def OM:iC (fun s σ:St=>s=σ) where
 ZA h e:=by subst h;exact e
 YB h e:=by subst h;exact⟨_,e,rfl⟩
 new _ h:=by subst h;rfl
 next h:=by subst h;rfl
 get h e:=by subst h;exact e
 Wl h e:=by subst h;exact e
def V5.aci{Γ Γ':T AF}{M:List fK}(b:∀g x,Γ.get g=some x->Γ'.get g=some x)(j:∀m∈M,Γ.get m.g=none){g:FuncId}{xs:List V}{σ σ':St}{v:V}(h:V5 Γ [] g xs σ v σ'):V5 Γ' M g xs σ v σ':=by obtain⟨i,k⟩:=h;refine⟨i,fun f a=>?_⟩;obtain⟨l,c,d⟩:=pf (R:=fun s σ:St=>s=σ) OM (fun _ _ _ _ _ _ h e=>by subst h;exact⟨_,e,rfl⟩) b j f f (Tx f) _ _ _ _ _ _ rfl (k f a);rw[c,d]
def EH{Γ:T AF}{M:List fK}{f f':Nat}(b:f≤f'){g:FuncId}{xs:List V}{σ:St}{r:V×St}(h:eF Γ M [] f g xs σ=some r):eF Γ M [] f' g xs σ=some r:=by
 have o:∀f f',f≤f'->jO (fun s σ:St=>s=σ) (eF Γ M [] f) (eF Γ M [] f'):=by
  intro f;induction f with
  |zero=>intro f' b g xs s σ v e c a;simp only[eF]at a;cases a
  |succ f n=>
   intro f' b g xs s σ v e c a;obtain⟨f',rfl⟩:∃m,f'=m+1:=⟨f'-1,Q⟩
   have l:=n f' Q;subst c;refine⟨e,?_,rfl⟩;simp only[eF]at a⊢;split at a
   .exact a
   split at a
   .exact a
   .rename_i x hg;split at a
    .rename_i ex fr y t;obtain⟨u,i,j⟩:=OM.T7 (f':=f') l Q rfl t;subst j;simp only[i];split at a
     .rename_i k;rw[Ti k];split at a
      .rename_i s2 hd;have d:jO (fun s σ:St=>s=σ) (fj Γ (eF Γ M [] f)) (fj Γ (eF Γ M [] f')):=by
        intro g xs s σ v e c a;simp only[fj]at a⊢;split at a
        .exact l _ _ _ _ _ _ c a
        .exact l _ _ _ _ _ _ c a
        cases a
       obtain⟨w,p,q⟩:=pQ d rfl hd;subst q;simp only[p];exact a
      cases a
     cases a
    cases a
   cases a
 obtain⟨v,e⟩:=r;obtain⟨σ',i,j⟩:=o f f' b _ _ _ _ _ _ rfl h;subst j;exact i
structure UX (TJ:Nat -> Prop) (n0:Nat) (F:Nat -> Option Obj) (s σ:St):Prop where
 next:s.next=σ.next
 le:n0≤s.next
 TX:s.TX=σ.TX
 YR:∀ a,(TJ a∨n0≤a) -> s.Tq.get a=σ.Tq.get a
 Xq:∀ a,a<n0 -> ¬ TJ a -> s.Tq.get a=none∧σ.Tq.get a=F a
 VX:∀ a g o,a<n0 -> ¬ TJ a -> F a=some o -> o.Ty=true -> g≠0 -> a∈(s.TX.get g).getD [] -> ∀ b o',s.Tq.get b=some o' -> o'.TG=g -> False
variable {TJ:Nat -> Prop} {n0:Nat} {F:Nat -> Option Obj} {s σ:St}
def UX.get(h:UX TJ n0 F s σ){a:Nat}{o:Obj}(ha:s.Tq.get a=some o):σ.Tq.get a=some o:=by
 by_cases c:TJ a∨n0≤a
 .rw[<- h.YR a c];exact ha
 have:=(h.Xq a Q (fun k=>c (.inl k))).1;rw[ha]at this;cases this
def UX.is(h:UX TJ n0 F s σ){a:Nat}{o:Obj}(ha:s.Tq.get a=some o):TJ a∨n0≤a:=by
 by_cases c:TJ a∨n0≤a
 .exact c
 have:=(h.Xq a Q (fun k=>c (.inl k))).1;rw[ha]at this;cases this
def UX.cell(h:UX TJ n0 F s σ){id off:Nat}{v:V}(a:s.cell id off=some v):σ.cell id off=some v:=by
 unfold St.cell at a⊢;split at a
 .rename_i hg;rw[h.get hg];exact a
 cases a
def UX.load(h:UX TJ n0 F s σ){id off k:Nat}{vs:List V}(a:s.load id off k=some vs):σ.load id off k=some vs:=by
 unfold St.load at a⊢;split at a
 .rename_i hg;rw[h.get hg];exact a
 cases a
def aae(σ:St)(m:V):Option (List (V×V)):=match m with
 | .map none=>some []
 | .map (some r)=>match σ.Tq.get r with|some (.map es)=>some es|_=>none
 |_=>none
theorem vi{kk:Kk}{z:V}{ok:Bool}{m k:Tt}{tm:T V}{σ:St}:eT (.lookup kk z ok m k) tm σ=match aae σ (m.eval tm)with
  |none=>none
  |some es=>match dR kk (k.eval tm) es 0 with
   |none=>none
   |some r=>match r with
    |none=>some (if ok then .tuple [z,.bool false]else z)
    |some (_,v)=>some (if ok then .tuple [v,.bool true]else v):=rfl
def UX.acu(h:UX TJ n0 F s σ){m:V}{es:List (V×V)}(a:aae s m=some es):aae σ m=some es:=by
 cases m with
 |map r=>
  cases r with
  |none=>exact a
  |some r=>
   simp only[aae]at a⊢;split at a
   .rename_i hg;rw[h.get hg];exact a
   cases a
 |_=>cases a
def UX.ZA(h:UX TJ n0 F s σ){op:TL}{tm:T V}{v:V}(b:eT op tm s=some v):eT op tm σ=some v:=by
 cases op with
 |load agg n a=>
  simp only[eT]at b⊢;split at b
  .split at b
   .rename_i c;rw[Ti c];split at b
    .rename_i l g;rw[h.load g];exact b
    cases b
   rename_i c;rw[Tg c];exact h.cell b
  cases b
 |ZY n e x lo hi=>
  simp only[eT]at b⊢;split at b
  .split at b
   .split at b
    .rename_i f;rw[Ti f];split at b
     .rename_i hg;rw[h.get hg];exact b
     cases b
    cases b
   cases b
  cases b
 |aak x=>
  simp only[eT]at b⊢;split at b
  .exact b
  .split at b
   .rename_i hg;rw[h.get hg];exact b
   cases b
  cases b
 |lookup j z ok m k=>
  rw[vi]at b⊢;cases d:aae s (m.eval tm)with
  |none=>rw[d]at b;cases b
  |some i=>rw[d]at b;rw[h.acu d];exact b
 |_=>simp only[eT]at b;cases b
def UX.Wl(h:UX TJ n0 F s σ){tm:T V}:∀{c:List VH} {vs:List V},bR tm s c=some vs->bR tm σ c=some vs
 | [],vs,hr=>hr
 | .tmp t ::r,vs,hr=>by
  simp only[bR]at hr⊢;split at hr
  .rename_i l b;rw[h.Wl b];exact hr
  cases hr
 | .cell t agg n ::r,vs,hr=>by
  simp only[bR]at hr⊢;split at hr
  .split at hr
   .cases hr
   rename_i l b;rw[h.Wl b];simp only;split at hr
   .rename_i a;rw[Ti a];split at hr
    .rename_i vs b;rw[h.load b];exact hr
    cases hr
   rename_i a;rw[Tg a];split at hr
   .rename_i v b;rw[h.cell b];exact hr
   cases hr
  cases hr
def UX.new(h:UX TJ n0 F s σ)(o:Obj)(d:o.TG=0):UX TJ n0 F (s.new o) (σ.new o) where
 next:=by simp only[St.new,h.next]
 le:=by simp only[St.new];have:=h.le;omega
 TX:=h.TX
 YR a ha:=by
  simp only[St.new,T.aJ,h.next];by_cases c:a=σ.next
  .rw[Ti c,Ti c]
  rw[Tg c,Tg c];exact h.YR a ha
 Xq a h1 h2:=by have:=h.le;simp only[St.new,T.aJ];rw[Tg Q,Tg (by have:=h.next;omega)];exact h.Xq a h1 h2
 VX a g o1 h1 h2 h3 h4 h5 h6 b o' hb hg:=by
  simp only[St.new,T.aJ]at hb;by_cases c:b=s.next
  .rw[Ti c]at hb;simp at hb;subst hb;exact h5 (by rw[<- hg,d])
  rw[Tg c]at hb;exact h.VX a g o1 h1 h2 h3 h4 h5 h6 b o' hb hg
def UX.set(h:UX TJ n0 F s σ){id:Nat}{o e:Obj}(hg:s.Tq.get id=some o)(f:e.TG=o.TG):UX TJ n0 F { s with Tq:=s.Tq.set id e } { σ with Tq:=σ.Tq.set id e } where
 next:=h.next
 le:=h.le
 TX:=h.TX
 YR a ha:=by
  simp only[T.aJ];by_cases c:a=id
  .rw[Ti c,Ti c]
  rw[Tg c,Tg c];exact h.YR a ha
 Xq a h1 h2:=by
  have d:=h.is hg;have c:a≠id:=by rintro rfl;rcases d with k|k;exact h2 k;omega
  simp only[T.aJ];rw[Tg c,Tg c];exact h.Xq a h1 h2
 VX a g o1 h1 h2 h3 h4 h5 h6 b o2 hb hgb:=by
  simp only[T.aJ]at hb;by_cases c:b=id
  .rw[Ti c]at hb;simp at hb;subst hb;exact h.VX a g o1 h1 h2 h3 h4 h5 h6 id o hg (f▸hgb)
  rw[Tg c]at hb;exact h.VX a g o1 h1 h2 h3 h4 h5 h6 b o2 hb hgb
def gZ(i:Nat):Option Obj->Option Obj
 |some (.cells ro g n z t)=>some (.cells ro g (min n i) z t)
 |o=>o
def Az(i:Nat)(o:Option Obj):gZ i (gZ i o)=gZ i o:=by
 cases o with
 |none=>rfl
 |some o=>cases o with
  |cells ro g n z t=>simp only[gZ];congr 2;omega
  |_=>rfl
def PQ(i m:Nat)(o:T Obj):T Obj:=match o.get m with
 |some (.cells ro g n z t)=>o.set m (.cells ro g (min n i) z t)
 |_=>o
def Mi(i m:Nat)(o:T Obj)(a:Nat):(PQ i m o).get a=if a=m then gZ i (o.get a)else o.get a:=by
 unfold PQ;split
 .rename_i ro g n z t b;rw[T.aJ];by_cases c:a=m
  .rw[Ti c,Ti c,c,b];rfl
  rw[Tg c,Tg c]
 rename_i b;by_cases c:a=m
 .rw[Ti c,c];cases d:o.get m with
  |none=>rfl
  |some q=>cases q with
   |cells ro g n z t=>exact(b _ _ _ _ _ d).elim
   |_=>rfl
 rw[Tg c]
theorem wZ(x i m:Nat)(r:List Nat)(o:T Obj):eB x i (m ::r) o=eB x i r (if m=x then o else PQ i m o):=rfl
def dJ(x i:Nat):∀(l:List Nat) (o:T Obj) (a:Nat),(eB x i l o).get a=if a∈l∧a≠x then gZ i (o.get a)else o.get a
 | [],o,a=>by simp[eB]
 |m ::r,o,a=>by
  rw[wZ,dJ x i r];by_cases d:m=x
  .rw[Ti d];by_cases c:a∈r∧a≠x
   .rw[Ti c,Ti ⟨by simp[c.1],c.2⟩]
   rw[Tg c,Tg];rintro⟨f,e⟩;rcases U8.1 f with k|k
   .exact e (k.trans d)
   exact c ⟨k,e⟩
  rw[Tg d,Mi];by_cases c:a=m
  .subst c;rw[Ti rfl,Ti (c:=a∈a ::r∧a≠x) ⟨Y,d⟩];by_cases c:a∈r∧a≠x
   .rw[Ti c,Az]
   rw[Tg c]
  rw[Tg c];by_cases b:a∈r∧a≠x
  .rw[Ti b,Ti ⟨by simp[b.1],b.2⟩]
  rw[Tg b,Tg];rintro⟨f,e⟩;rcases U8.1 f with k|k
  .exact c k
  exact b ⟨k,e⟩
def KE(m:Nat)(o:T Obj):T Obj:=match o.get m with
 |some _=>o.set m .Wu
 |none=>o
def J9(m:Nat)(o:T Obj)(a:Nat):(KE m o).get a=if a=m then(o.get a).map (fun _=>Obj.Wu)else o.get a:=by
 unfold KE;split
 .rename_i b;rw[T.aJ];by_cases c:a=m
  .rw[Ti c,Ti c,c,b];rfl
  rw[Tg c,Tg c]
 rename_i b;by_cases c:a=m
 .rw[Ti c,c,b];rfl
 rw[Tg c]
theorem zX(m:Nat)(r:List Nat)(o:T Obj):gO (m ::r) o=gO r (KE m o):=rfl
def iN:∀(l:List Nat) (o:T Obj) (a:Nat),(gO l o).get a=if a∈l then(o.get a).map (fun _=>.Wu)else o.get a
 | [],o,a=>by simp[gO]
 |m ::r,o,a=>by
  rw[zX,iN r,J9];by_cases c:a=m
  .subst c;rw[Ti rfl,Ti (c:=a∈a ::r) Y];by_cases c:a∈r
   .rw[Ti c];cases o.get a <;> rfl
   rw[Tg c]
  rw[Tg c];by_cases b:a∈r
  .rw[Ti b,Ti (by simp[b])]
  rw[Tg b,Tg (by simp[c,b])]
def wJ{i:Nat}{o:Option Obj}{p:Obj}(h:gZ i o=some p):∃q,o=some q∧q.TG=p.TG:=by
 cases o with
 |none=>cases h
 |some q=>cases q with
  |cells ro g n z t=>simp only[gZ,TC]at h;subst h;exact⟨_,rfl,rfl⟩
  |_=>simp only[gZ,TC]at h;subst h;exact⟨_,rfl,rfl⟩
def tQ{i:Nat}{o:Option Obj}(h:∀p,o=some p->p.Ty=true->False):gZ i o=o:=by
 cases o with
 |none=>rfl
 |some q=>cases q with
  |cells ro g n z t=>exact(h _ rfl rfl).elim
  |_=>rfl
def UX.OV(h:UX TJ n0 F s σ){s' σ':St}(hn:s'.next=σ'.next)(m:s.next≤s'.next)(i:s'.TX=σ'.TX)(n:∀a,(TJ a∨n0≤a)->s'.Tq.get a=σ'.Tq.get a)(ht:∀a,a<n0->¬TJ a->s'.Tq.get a=none∧σ'.Tq.get a=σ.Tq.get a)(hg:∀b d,s'.Tq.get b=some d->d.TG≠0->(d.TG=s.next∧∀a,a∈(s'.TX.get s.next).getD []->TJ a∨n0≤a)∨(∃o,s.Tq.get b=some o∧o.TG=d.TG)∨∃c o,s.Tq.get c=some o∧o.TG=d.TG)(l:∀g a,a∈(s'.TX.get g).getD []->a∈(s.TX.get g).getD []∨TJ a∨n0≤a):UX TJ n0 F s' σ' where
 next:=hn
 le:=V4 h.le m
 TX:=i
 YR:=n
 Xq a h1 h2:=⟨(ht a h1 h2).1,(ht a h1 h2).2.trans (h.Xq a h1 h2).2⟩
 VX a g o h1 h2 h3 h4 h5 h6 b d hb hgb:=by
  rcases hg b d hb Q with⟨e,f⟩|⟨j,e,f⟩|⟨c,j,e,f⟩
  .rw[hgb]at e;subst e;rcases f a h6 with k|k
   .exact h2 k
   omega
  .rcases l g a h6 with k|k|k
   .exact h.VX a g o h1 h2 h3 h4 h5 k b j e (f.trans hgb)
   .exact h2 k
   omega
  rcases l g a h6 with k|k|k
  .exact h.VX a g o h1 h2 h3 h4 h5 k c j e (f.trans hgb)
  .exact h2 k
  omega
def UX.store(h:UX TJ n0 F s σ){id off:Nat}{vs:List V}{s':St}(hs:s.store id off vs=some s'):∃σ',σ.store id off vs=some σ'∧UX TJ n0 F s' σ':=by
 unfold St.store at hs⊢;split at hs
 .rename_i g n z t hg;rw[h.get hg];simp only;split at hs
  .rename_i u;rw[Ti u];simp only[TC]at hs;refine⟨_,rfl,?_⟩;subst hs;have d:UX TJ n0 F { s with Tq:=s.Tq.set id (.cells false g n z (mf t off vs)) } { σ with Tq:=σ.Tq.set id (.cells false g n z (mf t off vs)) }:=h.set hg rfl;by_cases i:g=0
   .simp only[i,TT];rw[i]at d;exact d
   simp only[i,Ul];rw[<- h.TX];refine d.OV h.next (Tx _) rfl ?_ ?_ ?_ ?_
   .intro a ha;simp only;rw[dJ,dJ,d.YR a ha]
   .intro a k l;obtain⟨o,r⟩:=d.Xq a k l;simp only at o r⊢;rw[dJ,dJ,o];refine⟨by split <;> rfl,?_⟩;split
    .rename_i f;refine tQ fun p m c=>?_
     rw[r]at m;refine d.VX a g p k l m c i f.1 id (.cells false g n z (mf t off vs)) ?_ rfl;simp only[T.aJ,TT]
    rfl
   .intro b w e _;simp only at e;rw[dJ]at e;right;left;split at e
    .obtain⟨q,v,j⟩:=wJ e;exact⟨q,v,j⟩
    exact⟨w,e,rfl⟩
   intro g a ha;exact .inl ha
  cases hs
 cases hs
def UX.ag(h:UX TJ n0 F s σ)(vs:List V):UX TJ n0 F (s.ag vs) (σ.ag vs):=h.new _ rfl
def UX.dc(h:UX TJ n0 F s σ){esz bytes k xl:Nat}{vs:List V}{P:Option (Nat×Nat)}{v:V}{s':St}(hs:dc s esz bytes k vs P xl=some (v,s')):∃σ',dc σ esz bytes k vs P xl=some (v,σ')∧UX TJ n0 F s' σ':=by
 unfold AM.dc at hs⊢;split at hs
 .rename_i S;rw[Ti S];split at hs
  .split at hs
   .rename_i hx;rw[Ti hx];simp only[TC,TU]at hs;obtain⟨rfl,rfl⟩:=hs;exact⟨_,by rw[h.next],h.ag vs⟩
   cases hs
  rename_i id Z;split at hs
  .rename_i W;rw[Ti W];split at hs
   .rename_i g n z t hg;rw[h.get hg];simp only;split at hs
    .cases hs
    rename_i TE Ur;simp only[TC,TU]at hs;obtain⟨rfl,rfl⟩:=hs;refine⟨_,by rw[h.next],?_⟩;have l:=h.is hg;have H:=h.le;have U:=h.next;rw[<- h.TX, <- h.next];have u:TJ s.next∨n0≤s.next:=.inr H;refine h.OV (s':=_) (σ':=_) ?_ (Nat.le_succ _) ?_ ?_ ?_ ?_ ?_
    .simp only
    .simp only
    .intro a ha;simp only;rw[T.aJ,T.aJ];by_cases c:a=s.next
     .rw[Ti c,Ti c]
     rw[Tg c,Tg c,iN,iN,dJ,dJ,T.aJ,T.aJ,h.YR a ha]
    .intro a M G;have E:a≠s.next:=Q;have w:a≠id:=by rintro rfl;rcases l with k|k;exact G k;omega
     obtain⟨X,Y⟩:=h.Xq a M G;simp only;rw[T.aJ,T.aJ,Tg E,Tg E,iN,iN,dJ,dJ,T.aJ,T.aJ,Tg w,Tg w,X];generalize i:(if g=0 then []else(s.TX.get g).getD [])=x;generalize r:(if g=0 then []else((s.TX.get g).getD []).drop 8)=A;have D:∀p,a∈x->σ.Tq.get a=some p->p.Ty=true->False:=by
      intro p d J j;by_cases e:g=0
      .rw[Ti e]at i;subst i;exact Xa d
      rw[Tg e]at i;subst i;exact h.VX a g p M G (Y▸J) j e d id _ hg rfl
     have I:a∈A->a∈x:=by
      intro d;by_cases e:g=0
      .rw[Ti e]at r;subst r;exact(Xa d).elim
      rw[Tg e]at i r;subst i r;exact YG d
     refine⟨?_,?_⟩
     .by_cases c1:a∈x∧a≠id
      .rw[Ti c1];by_cases o:a∈A
       .rw[Ti o];rfl
       rw[Tg o];rfl
      rw[Tg c1];by_cases o:a∈A
      .rw[Ti o];rfl
      rw[Tg o]
     have B:(if a∈x∧a≠id then gZ (xl*esz) (σ.Tq.get a)else σ.Tq.get a)=σ.Tq.get a:=by
      by_cases c1:a∈x∧a≠id
      .rw[Ti c1];exact tQ fun p J j=>D p c1.1 J j
      rw[Tg c1]
     rw[B];by_cases o:a∈A
     .rw[Ti o];cases y:σ.Tq.get a with
      |none=>rfl
      |some p=>
       cases N:p.Ty with
       |true=>exact(D p (I o) y N).elim
       |false=>cases p with
        |Wu=>rfl
        |_=>cases N
     rw[Tg o]
    .intro b O f C;simp only at f;rw[T.aJ]at f;by_cases c:b=s.next
     .rw[Ti c]at f;simp only[TC]at f;subst f;simp only[Obj.TG]at C⊢;by_cases e:g=0
      .left;simp only[e,TT];refine⟨trivial,fun a ha=>?_⟩;rw[T.aJ,Ti rfl]at ha;simp only[Xc,U8,Xa,or_false]at ha;rcases ha with rfl|rfl
       .exact u
       exact l
      right;right;simp only[e,Ul];exact⟨id,_,hg,rfl⟩
     rw[Tg c,iN]at f;generalize i:(if g=0 then []else(s.TX.get g).getD [])=x at f;generalize r:(if g=0 then []else((s.TX.get g).getD []).drop 8)=A at f;by_cases K:b∈A
     .rw[Ti K]at f;simp only[Y1]at f;obtain⟨q,_,rfl⟩:=f;exact(C rfl).elim
     rw[Tg K,dJ,T.aJ]at f;have:∃q,(if b=id then some (Obj.cells false (if g=0 then s.next else g) (min n (xl*esz)) z t)else s.Tq.get b)=some q∧q.TG=O.TG:=by
      by_cases L:b∈x∧b≠id
      .rw[Ti L]at f;exact wJ f
      rw[Tg L]at f;exact⟨O,f,rfl⟩
     obtain⟨q,y,m⟩:=this;by_cases o:b=id
     .rw[Ti o]at y;simp only[TC]at y;subst y;simp only[Obj.TG]at m;by_cases e:g=0
      .left;rw[Ti e]at m;refine⟨m.symm,fun a ha=>?_⟩;simp only[e,TT]at ha;rw[T.aJ,Ti rfl]at ha;simp only[Xc,U8,Xa,or_false]at ha;rcases ha with rfl|rfl
       .exact u
       exact l
      right;right;rw[Tg e]at m;exact⟨id,_,hg,m⟩
     rw[Tg o]at y;exact .inr (.inl ⟨q,y,m⟩)
    intro R a ha;simp only at ha;rw[T.aJ]at ha;by_cases c:R=(if g=0 then s.next else g)
    .rw[Ti c]at ha;simp only[Xc,U8]at ha;rcases ha with rfl|ha
     .exact .inr u
     by_cases e:g=0
     .rw[Ti e]at ha;simp only[U8,Xa,or_false]at ha;subst ha;exact .inr l
     rw[Tg e]at ha c;subst c;exact .inl (X9 ha)
    rw[Tg c]at ha;exact .inl ha
   cases hs
  cases hs
 cases hs
def UX.append(h:UX TJ n0 F s σ){esz bytes:Nat}{x y v:V}{s':St}(hs:dj s esz bytes x y=some (v,s')):∃σ',dj σ esz bytes x y=some (v,σ')∧UX TJ n0 F s' σ':=by
 unfold dj at hs⊢;split at hs
 .split at hs
  .cases hs
  rename_i b;rw[Tg b];split at hs
  .rename_i a;rw[Ti a];simp only[TC,TU]at hs;obtain⟨rfl,rfl⟩:=hs;exact⟨σ,rfl,h⟩
  rename_i a;rw[Tg a];split at hs
  .cases hs
  split at hs
  .cases hs
  rename_i c;simp only[h.load c];exact h.dc hs
 cases hs
def UX.gT(h:UX TJ n0 F s σ){esz bytes:Nat}{z:List V}{x y v:V}{s':St}(hs:gH s esz bytes z x y=some (v,s')):∃σ',gH σ esz bytes z x y=some (v,σ')∧UX TJ n0 F s' σ':=by
 unfold gH at hs⊢;split at hs
 .split at hs
  .cases hs
  rename_i a;rw[Tg a];split at hs
  .rename_i b;rw[Ti b];exact h.dc hs
  cases hs
 cases hs
def rj(σ:St)(esz xl:Nat)(a:Option (Nat×Nat))(yl:Nat):Option (List V):=
 if min yl xl*esz=0 then some []else match a with|none=>none|some (id,off)=>σ.load id off (min yl xl*esz)
theorem ace{esz:Nat}{x y:Tt}{tm:T V}{σ:St}:bp (.copy esz x y) tm σ=match x.eval tm,y.eval tm with
  | .slice xa xl _,.slice ya yl _=>
   match rj σ esz xl ya yl,xa with
   |some [],_=>some (.int .i64 (min yl xl:Nat),σ)
   |some vs,some (id,off)=>match σ.store id off vs with|some σ=>some (.int .i64 (min yl xl:Nat),σ)|none=>none
   |_,_=>none
  |_,_=>none:=rfl
def UX.acs(h:UX TJ n0 F s σ){esz xl yl:Nat}{c:Option (Nat×Nat)}{r:List V}(a:rj s esz xl c yl=some r):rj σ esz xl c yl=some r:=by
 unfold rj at a⊢;split at a
 .rename_i b;rw[Ti b];exact a
 rename_i b;rw[Tg b];split at a
 .cases a
 exact h.load a
def UX.YB(h:UX TJ n0 F s σ){op:TL}{tm:T V}{v:V}{s':St}(hs:bp op tm s=some (v,s')):∃σ',bp op tm σ=some (v,σ')∧UX TJ n0 F s' σ':=by
 cases op with
 |alloc z=>
  simp only[bp,TC,TU]at hs⊢;obtain⟨rfl,rfl⟩:=hs;exact⟨_,⟨by rw[h.next],rfl⟩,h.new _ rfl⟩
 |box n x=>
  simp only[bp]at hs⊢;split at hs
  .rename_i b;rw[Ti b];simp only[TC,TU]at hs⊢;obtain⟨rfl,rfl⟩:=hs;exact⟨_,⟨by rw[h.next],rfl⟩,h.ag _⟩
  cases hs
 |Yx len d z w=>
  simp only[bp]at hs⊢;split at hs
  .simp only[TC,TU]at hs⊢;obtain⟨rfl,rfl⟩:=hs;exact⟨_,⟨by rw[h.next],rfl⟩,h.ag _⟩
  cases hs
 |store n a x=>
  simp only[bp]at hs⊢;split at hs
  .split at hs
   .rename_i b;rw[Ti b];split at hs
    .rename_i g;simp only[TC,TU]at hs;obtain⟨rfl,rfl⟩:=hs;obtain⟨σ',e,f⟩:=h.store g;exact⟨σ',by simp only[e],f⟩
    cases hs
   cases hs
  cases hs
 |makeSlice d bytes z l c=>
  simp only[bp]at hs⊢;split at hs
  .split at hs
   .rename_i b;rw[Ti b];simp only[TC,TU]at hs⊢;obtain⟨rfl,rfl⟩:=hs;exact⟨_,⟨by rw[h.next],rfl⟩,h.new _ rfl⟩
   cases hs
  cases hs
 |append d bytes x y=>exact h.append hs
 |gT d bytes z x y=>exact h.gT hs
 |copy d x y=>
  rw[ace]at hs⊢;cases hx:x.eval tm with
  |slice p r B=>cases hy:y.eval tm with
   |slice t u C=>
    rw[hx,hy]at hs;simp only at hs⊢;cases b:rj s d r t u with
    |none=>rw[b]at hs;cases hs
    |some i=>
     rw[b]at hs;rw[h.acs b];cases i with
     |nil=>
      simp only[TC,TU]at hs⊢;obtain⟨rfl,rfl⟩:=hs;exact⟨σ,⟨rfl,rfl⟩,h⟩
     |cons A i=>cases p with
      |none=>cases hs
      |some q=>
       obtain⟨id,o⟩:=q;simp only at hs⊢;split at hs
       .rename_i g;simp only[TC,TU]at hs;obtain⟨rfl,rfl⟩:=hs;obtain⟨σ',e,f⟩:=h.store g;exact⟨σ',by simp only[e],f⟩
       cases hs
   |_=>rw[hx,hy]at hs;cases hs
  |_=>rw[hx]at hs;cases hs
 |YM z x=>
  simp only[bp]at hs⊢;split at hs
  .simp only[TC,TU]at hs⊢;obtain⟨rfl,rfl⟩:=hs;exact⟨σ,⟨rfl,rfl⟩,h⟩
  .split at hs
   .rename_i b;rw[Ti b];simp only[TC,TU]at hs⊢;obtain⟨rfl,rfl⟩:=hs;exact⟨σ,⟨rfl,rfl⟩,h⟩
   rename_i b;rw[Tg b];split at hs
   .rename_i g;simp only[TC,TU]at hs;obtain⟨rfl,rfl⟩:=hs;obtain⟨σ',e,f⟩:=h.store g;exact⟨σ',by simp only[e],f⟩
   cases hs
  cases hs
 |YL x=>
  simp only[bp]at hs⊢;split at hs
  .simp only[TC,TU]at hs⊢;obtain⟨rfl,rfl⟩:=hs;exact⟨σ,⟨rfl,rfl⟩,h⟩
  .split at hs
   .rename_i hg;rw[h.get hg];simp only[TC,TU]at hs⊢;obtain⟨rfl,rfl⟩:=hs;exact⟨_,⟨rfl,rfl⟩,h.set hg rfl⟩
   cases hs
  cases hs
 |makeMap=>
  simp only[bp,TC,TU]at hs⊢;obtain⟨rfl,rfl⟩:=hs;exact⟨_,⟨by rw[h.next],rfl⟩,h.new _ rfl⟩
 |mapUpdate j m k v=>
  simp only[bp]at hs⊢;split at hs
  .split at hs
   .rename_i hg;rw[h.get hg];simp only;split at hs
    .cases hs
    .simp only[TC,TU]at hs⊢;obtain⟨rfl,rfl⟩:=hs;exact⟨_,⟨rfl,rfl⟩,h.set hg rfl⟩
    simp only[TC,TU]at hs⊢;obtain⟨rfl,rfl⟩:=hs;exact⟨_,⟨rfl,rfl⟩,h.set hg rfl⟩
   cases hs
  cases hs
 |delete j m k=>
  simp only[bp]at hs⊢;split at hs
  .split at hs
   .rename_i hg;rw[h.get hg];simp only;split at hs
    .cases hs
    .simp only[TC,TU]at hs⊢;obtain⟨rfl,rfl⟩:=hs;exact⟨_,⟨rfl,rfl⟩,h.set hg rfl⟩
    simp only[TC,TU]at hs⊢;obtain⟨rfl,rfl⟩:=hs;exact⟨_,⟨rfl,rfl⟩,h.set hg rfl⟩
   cases hs
  cases hs
 |_=>simp only[bp]at hs;cases hs
def Gq(TJ:Nat->Prop)(n0:Nat)(F:Nat->Option Obj):iC (UX TJ n0 F) where
 ZA h e:=h.ZA e
 YB h e:=h.YB e
 new ho h:=h.new _ ho
 next h:=h.next
 get h e:=h.get e
 Wl h e:=h.Wl e
def vY{s σ:St}(h:∀{id off:Nat} {v:V},s.cell id off=some v->σ.cell id off=some v){id:Nat}:∀{l:List Int} {off:Nat},wx s id off l=true->wx σ id off l=true
 | [],_,_=>rfl
 |n ::r,off,hk=>by
  simp only[wx,Vs]at hk⊢;refine⟨?_,vY h hk.2⟩;have:=hk.1;split at this
  .rename_i v a;rw[h a];exact this
  cases this
def Fk{s σ:St}(h:∀{id off:Nat} {v:V},s.cell id off=some v->σ.cell id off=some v){l:List (Nat×List Int)}(a:zR s l=true):zR σ l=true:=by unfold zR at a⊢;rw[X8]at a⊢;exact fun p b=>vY h (a p b)
def Gb(TJ:Nat->Prop)(n0:Nat)(F:Nat->Option Obj):IW (UX TJ n0 F):=by
 intro e xs s σ v j h a;unfold dA at a⊢;split at a
 .split at a
  .rename_i b;rw[h.cell b];simp only[Y1]at a⊢;obtain⟨i,g,c⟩:=a;simp only[TU]at c;obtain⟨rfl,rfl⟩:=c;obtain⟨σ',d,f⟩:=h.store g;exact⟨σ',⟨σ',d,rfl⟩,f⟩
  cases a
 .split at a
  .rename_i b;rw[h.cell b];simp only[Y1]at a⊢;obtain⟨i,g,c⟩:=a;simp only[TU]at c;obtain⟨rfl,rfl⟩:=c;obtain⟨σ',d,f⟩:=h.store g;exact⟨σ',⟨σ',d,rfl⟩,f⟩
  cases a
 .split at a
  .rename_i b;rw[h.cell b];simp only[TC,TU]at a⊢;obtain⟨rfl,rfl⟩:=a;exact⟨σ,⟨rfl,rfl⟩,h⟩
  cases a
 .split at a
  .rename_i b;rw[h.cell b];simp only[Y1]at a⊢;obtain⟨i,g,c⟩:=a;simp only[TU]at c;obtain⟨rfl,rfl⟩:=c;obtain⟨σ',d,f⟩:=h.store g;exact⟨σ',⟨σ',d,rfl⟩,f⟩
  cases a
 .split at a
  .rename_i b;simp only[TC,TU]at a;obtain⟨rfl,rfl⟩:=a;exact⟨σ,by rw[Ti (Fk (fun b=>h.cell b) b)],h⟩
  cases a
 cases a
def T.Vl{a:Type}(p:Nat->Bool)(t:T a):T a:=
 T.rec (motive:=fun _=>(Nat->Bool)->T a) (fun _=>.nil) (fun v _ _ kl b p=>.node (if p 0=true then v else none) (kl fun k=>p (2*k+1)) (b fun k=>p (2*k+2))) t p
theorem T.Jj{a:Type}(p:Nat->Bool):T.Vl p (T.nil:T a)=.nil:=rfl
theorem T.Iy{a:Type}(p:Nat->Bool)(v:Option a)(l r:T a):T.Vl p (T.node v l r)=.node (if p 0=true then v else none) (T.Vl (fun k=>p (2*k+1)) l) (T.Vl (fun k=>p (2*k+2)) r):=rfl
def T.IY{c:Type}:∀(t:T c) (p:Nat->Bool) (i:Nat),(T.Vl p t).get i=if p i=true then t.get i else none:=by
 intro t;induction t with
 |nil=>intro p i;rw[T.Jj,T.Xm];split <;> rfl
 |node v l r a b=>
  intro p i;rw[T.Iy];rcases mb i with rfl|⟨k,rfl⟩|⟨k,rfl⟩
  .rw[T.iK,T.iK]
  .rw[T.jq,T.jq,a]
  rw[T.ij,T.ij,b]
open Classical in
def St.Vl(σ:St)(TJ:Nat->Prop):St:={ σ with Tq:=σ.Tq.Vl fun a=>decide (TJ a) }
def Fy(TJ:Nat->Prop)(σ:St):Prop:=
 ∀a g o, ¬TJ a->σ.Tq.get a=some o->o.Ty=true->g≠0->a∈(σ.TX.get g).getD []->∀b c,TJ b->σ.Tq.get b=some c->c.TG=g->False
def St.eQ(σ:St)(TJ:Nat->Prop)(a:Nat):(TJ a->(σ.Vl TJ).Tq.get a=σ.Tq.get a)∧(¬TJ a->(σ.Vl TJ).Tq.get a=none):=by
 unfold St.Vl;simp only[T.IY];constructor
 .intro h;simp[h]
 intro h;simp[h]
def zi{TJ:Nat->Prop}{σ:St}(e:∀a,TJ a->a<σ.next)(d:∀a,σ.next≤a->σ.Tq.get a=none)(ha:Fy TJ σ):UX TJ σ.next σ.Tq.get (σ.Vl TJ) σ where
 next:=rfl
 le:=Tx _
 TX:=rfl
 YR a h:=by
  by_cases c:TJ a
  .exact(σ.eQ TJ a).1 c
  rw[(σ.eQ TJ a).2 c,d a (by rcases h with h|h;exact(c h).elim;exact h)]
 Xq a _ h:=⟨(σ.eQ TJ a).2 h,rfl⟩
 VX a g o h1 h2 h3 h4 h5 h6 b o' hb hg:=by
  by_cases c:TJ b
  .rw[(σ.eQ TJ b).1 c]at hb;exact ha a g o h2 h3 h4 h5 h6 b o' c hb hg
  rw[(σ.eQ TJ b).2 c]at hb;cases hb
def au.frame{Γ Γ':T AF}{M:List fK}{TJ:Nat->Prop}{σ:St}{g:FuncId}{xs:List V}{Q:V->St->Prop}(e:∀g x,Γ.get g=some x->Γ'.get g=some x)(k:∀m∈M,Γ.get m.g=none)(d:∀a,TJ a->a<σ.next)(l:∀a,σ.next≤a->σ.Tq.get a=none)(ha:Fy TJ σ)(h:au Γ [] g xs (σ.Vl TJ) Q):
  au Γ' M g xs σ fun v σ'=>∃s',Q v s'∧UX TJ σ.next σ.Tq.get s' σ':=by
 obtain⟨v,s',p,b,j⟩:=h;obtain⟨σ',n,o⟩:=pf (Gq TJ σ.next σ.Tq.get) (Gb _ _ _) e k b b (Tx _) _ _ _ _ _ _ (zi d l ha) (j b (Tx _));refine⟨v,σ',⟨s',p,o⟩,b,fun f c=>?_⟩;obtain⟨q,i,r⟩:=pf (Gq TJ σ.next σ.Tq.get) (Gb _ _ _) e k b f c _ _ _ _ _ _ (zi d l ha) (j b (Tx _));rw[i];have:=EH c n;rw[i]at this;rw[XP this]
end
end AM
namespace AM
abbrev V.u(x:Int):V:=.int .u64 x
abbrev V.i(x:Int):V:=.int .i64 x
abbrev V.acJ:V:=.slice none 0 0
abbrev V.acK(b o:Nat):V:=.ptr (some (b,o))
abbrev V.acL(b o:Nat):Nat->Nat->V:=.slice (some (b,o))
abbrev Obj.acM:=Obj.cells false 0
end AM
