import Derived.Test.YtlgmpheammbacaaGreatDoorSmd
set_option linter.unusedVariables false
set_option linter.unusedSimpArgs false
set_option linter.unusedSectionVars false
namespace AM
open Go
noncomputable section
def Ret (Γ:T AF) (M:List Memo) (g:FuncId) (xs:List V) (σ:St) (v:V) (σ':St):Prop:=∃ f0, ∀ f,f0 <= f -> callF Γ M [] f g xs σ=some (v,σ')
def Runs (Γ:T AF) (M:List Memo) (g:FuncId) (xs:List V) (σ:St) (Q:V -> St -> Prop):Prop:=∃ v σ',Q v σ' /\ Ret Γ M g xs σ v σ'
variable {Γ:T AF} {M:List Memo}
def wpOp (Γ:T AF) (M:List Memo) (op:AOp) (tm:T V) (ds:Dfs) (σ:St) (K:V -> Dfs -> St -> Prop):Prop :=
 match op with
 | .call g xs=>Runs Γ M g (xs.map (·.eval tm)) σ fun v σ'=>K v ds σ'
 | .callv g xs=>match g.eval tm with
  | .func g first cap=>Runs Γ M g (first++xs.map (·.eval tm)++cap) σ fun v σ'=>K v ds σ'
  |_=>False
 |op=>match evalOp (fun _ _ _=>none) op tm ds σ with
  |some (v,ds,σ)=>K v ds σ
  |none=>False
def wpOps (Γ:T AF) (M:List Memo):List AOper -> Fr -> St -> (Fr -> St -> Prop) -> Prop
 | [],fr,σ,K=>K fr σ
 |o :: r,fr,σ,K =>
  if wantedA o.guard fr.tmps=true then wpOp Γ M o.op fr.tmps fr.defers σ fun v ds σ=>wpOps Γ M r ⟨putD fr.tmps o.dst v,ds⟩ σ K
  else wpOps Γ M r ⟨putD fr.tmps o.dst .undef,fr.defers⟩ σ K
def wpD (Γ:T AF) (M:List Memo):List DOper -> Nat -> Fr -> St -> (Fr -> List (T V × V) -> List (Dfs × St) -> Prop) -> Prop
 | [],_,fr,_,K=>K fr [] []
 |d :: r,h,fr,σ,K =>
  if wantedA d.o.guard fr.tmps=true then
   if isAlloc d.o.op=true then wpD Γ M r (h+1) ⟨putD fr.tmps d.o.dst (.ptr (some (h,0))),fr.defers⟩ σ fun f' tr es=>K f' ((fr.tmps,.ptr (some (h,0))) :: tr) es
   else wpOp Γ M d.o.op fr.tmps fr.defers σ fun v ds σ'=>wpD Γ M r h ⟨putD fr.tmps d.o.dst v,ds⟩ σ' fun f' tr es=>K f' ((fr.tmps,v) :: tr) (if isEff d.o.op=true then (ds,σ') :: es else es)
  else if isAlloc d.o.op=true then False
  else wpD Γ M r h ⟨putD fr.tmps d.o.dst .undef,fr.defers⟩ σ fun f' tr es=>K f' ((fr.tmps,.undef) :: tr) (if isEff d.o.op=true then (fr.defers,σ) :: es else es)
def wpDraw (Γ:T AF) (M:List Memo) (ops:List DOper) (fr:Fr) (σ:St) (K:Fr -> St -> Prop):Prop :=
 wpD Γ M ops σ.next fr (hoist ops σ) fun fr' tr es=>checkD ((fr.defers,hoist ops σ) :: es) ops σ.next tr=true /\ K fr' (lastSt (hoist ops σ) es)
def rev {α:Type}:List α -> List α -> List α
 | [],acc=>acc
 |a :: l,acc=>rev l (a :: acc)
theorem rev_eq {α:Type}:∀ (l acc:List α),rev l acc=l.reverse++acc
 | [],acc=>rfl
 |a :: l,acc=>by rw [rev,rev_eq l,List.reverse_cons,List.append_assoc];rfl
def wpA (Γ:T AF) (M:List Memo):List DOper -> Nat -> Fr -> St -> List (T V × V) -> List (Dfs × St) -> (Fr -> List (T V × V) -> List (Dfs × St) -> Prop) -> Prop
 | [],_,fr,_,tr,es,K=>K fr tr es
 |d :: r,h,fr,σ,tr,es,K =>
  if wantedA d.o.guard fr.tmps=true then
   if isAlloc d.o.op=true then wpA Γ M r (h+1) ⟨putD fr.tmps d.o.dst (.ptr (some (h,0))),fr.defers⟩ σ ((fr.tmps,.ptr (some (h,0))) :: tr) es K
   else wpOp Γ M d.o.op fr.tmps fr.defers σ fun v ds σ'=>wpA Γ M r h ⟨putD fr.tmps d.o.dst v,ds⟩ σ' ((fr.tmps,v) :: tr) (if isEff d.o.op=true then (ds,σ') :: es else es) K
  else if isAlloc d.o.op=true then False
  else wpA Γ M r h ⟨putD fr.tmps d.o.dst .undef,fr.defers⟩ σ ((fr.tmps,.undef) :: tr) (if isEff d.o.op=true then (fr.defers,σ) :: es else es) K
theorem wpA_eq:∀ (ops:List DOper) (h:Nat) (fr:Fr) (σ:St) (tr:List (T V × V)) (es:List (Dfs × St)) (K:Fr -> List (T V × V) -> List (Dfs × St) -> Prop),
  wpA Γ M ops h fr σ tr es K=wpD Γ M ops h fr σ fun f' t e=>K f' (t.reverse++tr) (e.reverse++es)
 | [],h,fr,σ,tr,es,K=>rfl
 |d :: r,h,fr,σ,tr,es,K=>by
  have hes:∀ (c:Bool) (x:Dfs × St) (e:List (Dfs × St)),e.reverse++(if c=true then x :: es else es)=(if c=true then x :: e else e).reverse++es:=by
   intro c x e
   cases c
   ·rfl
   ·simp
  simp only [wpA,wpD]
  simp only [wpA_eq r,List.reverse_cons,List.append_assoc,List.singleton_append,hes]
abbrev Post:=Ex -> Fr -> St -> Prop
def WpE (Γ:T AF) (M:List Memo) (c:AC) (fr:Fr) (σ:St) (K:Post):Prop :=
 ∃ ex fr' σ',K ex fr' σ' /\ ∃ f0, ∀ f f',f0 <= f -> f0 <= f' -> exec (callF Γ M [] f') [] f c fr σ=some (ex,fr',σ')
def jumps (Γ:T AF) (M:List Memo) (b:AC):Nat -> Nat -> Fr -> St -> Post -> Prop
 | 0,_,_,_,_=>False
 |n+1,l,fr,σ,K=>match findLabel b l with
  |none=>K (.goto l) fr σ
  |some r=>WpE Γ M r fr σ fun ex fr σ=>match ex with
   | .goto l=>jumps Γ M b n l fr σ K
   |ex=>K ex fr σ
def rounds (B:Fr -> St -> Post -> Prop):Nat -> Fr -> St -> Post -> Prop
 | 0,_,_,_=>False
 |n+1,fr,σ,K=>B fr σ fun ex fr σ=>match ex with
  | .normal=>rounds B n fr σ K
  |ex=>K ex fr σ
def wp (Γ:T AF) (M:List Memo):AC -> Fr -> St -> Post -> Prop
 | .skip,fr,σ,K=>K .normal fr σ
 | .region ops,fr,σ,K=>wpOps Γ M ops fr σ fun fr σ=>K .normal fr σ
 | .regionR d ops,fr,σ,K=>wpOps Γ M ops ⟨putD fr.tmps d .nilIface,fr.defers⟩ σ fun fr σ=>K .normal fr σ
 | .draw ops,fr,σ,K=>wpDraw Γ M ops fr σ fun fr σ=>K .normal fr σ
 | .seq a b,fr,σ,K=>wp Γ M a fr σ fun ex fr σ=>match ex with
  | .normal=>wp Γ M b fr σ K
  |ex=>K ex fr σ
 | .cond c a b,fr,σ,K=>match c.eval fr.tmps with
  | .bool t=>if t=true then wp Γ M a fr σ K else wp Γ M b fr σ K
  |_=>False
 | .block id b,fr,σ,K=>wp Γ M b fr σ fun ex fr σ=>match ex with
  | .exit i=>if i=id then K .normal fr σ else K (.exit i) fr σ
  |ex=>K ex fr σ
 | .loop b,fr,σ,K=>∃ n,rounds (fun fr σ K=>wp Γ M b fr σ K) n fr σ K
 | .exit id,fr,σ,K=>K (.exit id) fr σ
 | .ret,fr,σ,K=>K .ret fr σ
 | .scope b,fr,σ,K=>wp Γ M b fr σ fun ex fr σ=>match ex with
  | .goto l=>∃ n,jumps Γ M b n l fr σ K
  |ex=>K ex fr σ
 | .label _,fr,σ,K=>K .normal fr σ
 | .goto l,fr,σ,K=>K (.goto l) fr σ
 | .bad _,_,_,_=>False
theorem Runs.mono {g:FuncId} {xs:List V} {σ:St} {Q R:V -> St -> Prop} (h:Runs Γ M g xs σ Q) (k:∀ v σ',Q v σ' -> R v σ'):Runs Γ M g xs σ R :=
 let ⟨v,σ',hq,hr⟩:=h;⟨v,σ',k v σ' hq,hr⟩
theorem wpOp_ok {op:AOp} {tm:T V} {ds:Dfs} {σ:St} {K:V -> Dfs -> St -> Prop} (h:wpOp Γ M op tm ds σ K) :
  ∃ v ds' σ',K v ds' σ' /\ ∃ f0, ∀ f,f0 <= f -> evalOp (callF Γ M [] f) op tm ds σ=some (v,ds',σ'):=by
 have gen:∀ op,(∀ c c':CallT,evalOp c op tm ds σ=evalOp c' op tm ds σ) -> (match evalOp (fun _ _ _=>none) op tm ds σ with
  |some (v,ds,σ)=>K v ds σ
  |none=>False) -> ∃ v ds' σ',K v ds' σ' /\ ∃ f0, ∀ f,f0 <= f -> evalOp (callF Γ M [] f) op tm ds σ=some (v,ds',σ'):=by
  intro op hs hk
  split at hk
  ·rename_i v ds' σ' he
   exact ⟨v,ds',σ',hk,0,fun f _=>by rw [hs (callF Γ M [] f) (fun _ _ _=>none)];exact he⟩
  ·exact hk.elim
 cases op with
 |call g xs =>
  obtain ⟨v,σ',hk,f0,hf⟩:=h
  refine ⟨v,ds,σ',hk,f0,fun f hle=>?_⟩
  simp only [evalOp,isPure,isRead,Bool.false_eq_true,if_false,hf f hle]
 |callv g xs =>
  simp only [wpOp] at h
  split at h
  ·rename_i g' first cap he
   obtain ⟨v,σ',hk,f0,hf⟩:=h
   refine ⟨v,ds,σ',hk,f0,fun f hle=>?_⟩
   simp only [evalOp,isPure,isRead,Bool.false_eq_true,if_false,he,hf f hle]
  ·exact h.elim
 |_=>exact gen _ (fun _ _=>rfl) h
theorem wpOps_ok:∀ {ops:List AOper} {fr:Fr} {σ:St} {K:Fr -> St -> Prop},wpOps Γ M ops fr σ K →
  ∃ fr' σ',K fr' σ' /\ ∃ f0, ∀ f,f0 <= f -> runOps (callF Γ M [] f) ops fr σ=some (fr',σ')
 | [],fr,σ,K,h=>⟨fr,σ,h,0,fun f _=>rfl⟩
 |o :: r,fr,σ,K,h=>by
  simp only [wpOps] at h
  split at h
  ·rename_i hw
   obtain ⟨v,ds,σ1,h1,f1,hf1⟩:=wpOp_ok h
   obtain ⟨fr',σ',hk,f2,hf2⟩:=wpOps_ok h1
   refine ⟨fr',σ',hk,max f1 f2,fun f hle=>?_⟩
   simp only [runOps,hw,if_true,hf1 f (by omega),hf2 f (by omega)]
  ·rename_i hw
   obtain ⟨fr',σ',hk,f2,hf2⟩:=wpOps_ok h
   refine ⟨fr',σ',hk,f2,fun f hle=>?_⟩
   simp only [runOps,hw,Bool.false_eq_true,if_false,hf2 f hle]
theorem wpD_ok:∀ {ops:List DOper} {h:Nat} {fr:Fr} {σ:St} {K:Fr -> List (T V × V) -> List (Dfs × St) -> Prop},wpD Γ M ops h fr σ K →
  ∃ fr' tr es,K fr' tr es /\ ∃ f0, ∀ f,f0 <= f -> runD (callF Γ M [] f) ops h fr σ=some (fr',tr,es)
 | [],h,fr,σ,K,hh=>⟨fr,[],[],hh,0,fun f _=>rfl⟩
 |d :: r,h,fr,σ,K,hh=>by
  simp only [wpD] at hh
  split at hh
  ·rename_i hw
   split at hh
   ·rename_i ha
    obtain ⟨fr',tr,es,hk,f2,hf2⟩:=wpD_ok hh
    refine ⟨fr',_,es,hk,f2,fun f hle=>?_⟩
    simp only [runD,hw,ha,if_true,hf2 f hle]
   ·rename_i ha
    obtain ⟨v,ds,σ1,h1,f1,hf1⟩:=wpOp_ok hh
    obtain ⟨fr',tr,es,hk,f2,hf2⟩:=wpD_ok h1
    refine ⟨fr',_,_,hk,max f1 f2,fun f hle=>?_⟩
    simp only [runD,hw,ha,if_true,Bool.false_eq_true,if_false,hf1 f (by omega),hf2 f (by omega)]
  ·rename_i hw
   split at hh
   ·exact hh.elim
   ·rename_i ha
    obtain ⟨fr',tr,es,hk,f2,hf2⟩:=wpD_ok hh
    refine ⟨fr',_,_,hk,f2,fun f hle=>?_⟩
    simp only [runD,hw,ha,Bool.false_eq_true,if_false,hf2 f hle]
theorem wpDraw_ok {ops:List DOper} {fr:Fr} {σ:St} {K:Fr -> St -> Prop} (h:wpDraw Γ M ops fr σ K) :
  ∃ fr' σ',K fr' σ' /\ ∃ f0, ∀ f,f0 <= f -> runDraw (callF Γ M [] f) ops fr σ=some (fr',σ'):=by
 obtain ⟨fr',tr,es,⟨hc,hk⟩,f0,hf⟩:=wpD_ok h
 refine ⟨fr',_,hk,f0,fun f hle=>?_⟩
 simp only [runDraw,hf f hle,hc,if_true]
theorem WpE.mono {c:AC} {fr:Fr} {σ:St} {K K':Post} (h:WpE Γ M c fr σ K) (k:∀ ex fr σ,K ex fr σ -> K' ex fr σ):WpE Γ M c fr σ K' :=
 let ⟨ex,fr',σ',hk,hf⟩:=h;⟨ex,fr',σ',k _ _ _ hk,hf⟩
theorem rounds_ok {b:AC} {B:Fr -> St -> Post -> Prop} (hB:∀ fr σ K,B fr σ K -> WpE Γ M b fr σ K):∀ {n:Nat} {fr:Fr} {σ:St} {K:Post},rounds B n fr σ K -> WpE Γ M (.loop b) fr σ K
 | 0,fr,σ,K,h=>h.elim
 |n+1,fr,σ,K,h=>by
  obtain ⟨ex,fr1,σ1,h1,f1,hf1⟩:=hB _ _ _ h
  cases ex with
  |normal =>
   obtain ⟨ex,fr',σ',hk,f2,hf2⟩:=rounds_ok hB h1
   refine ⟨ex,fr',σ',hk,max f1 f2+1,fun f f' h1 h2=>?_⟩
   obtain ⟨f,rfl⟩:∃ m,f=m+1:=⟨f-1,by omega⟩
   simp only [exec,loopGet,hf1 f f' (by omega) (by omega),hf2 f f' (by omega) (by omega)]
  |_ =>
   refine ⟨_,fr1,σ1,h1,f1+1,fun f f' h1 h2=>?_⟩
   obtain ⟨f,rfl⟩:∃ m,f=m+1:=⟨f-1,by omega⟩
   simp only [exec,loopGet,hf1 f f' (by omega) (by omega)]
theorem jumps_ok {b:AC}:∀ {n l:Nat} {fr:Fr} {σ:St} {K:Post},jumps Γ M b n l fr σ K →
  ∃ ex fr' σ',K ex fr' σ' /\ ∃ f0, ∀ f f' m,f0 <= f -> f0 <= f' -> f0 <= m -> exec.scopeLoop (exec (callF Γ M [] f') [] f) b m l fr σ=some (ex,fr',σ')
 | 0,l,fr,σ,K,h=>h.elim
 |n+1,l,fr,σ,K,h=>by
  simp only [jumps] at h
  split at h
  ·rename_i hl
   refine ⟨_,fr,σ,h,1,fun f f' m _ _ hm=>?_⟩
   obtain ⟨m,rfl⟩:∃ k,m=k+1:=⟨m-1,by omega⟩
   simp only [exec.scopeLoop,hl]
  ·rename_i r hl
   obtain ⟨ex,fr1,σ1,h1,f1,hf1⟩:=h
   cases ex with
   |goto l' =>
    obtain ⟨ex,fr',σ',hk,f2,hf2⟩:=jumps_ok h1
    refine ⟨ex,fr',σ',hk,max f1 f2+1,fun f f' m h1 h2 h3=>?_⟩
    obtain ⟨m,rfl⟩:∃ k,m=k+1:=⟨m-1,by omega⟩
    simp only [exec.scopeLoop,hl,hf1 f f' (by omega) (by omega),hf2 f f' m (by omega) (by omega) (by omega)]
   |_ =>
    refine ⟨_,fr1,σ1,h1,f1+1,fun f f' m h1 h2 h3=>?_⟩
    obtain ⟨m,rfl⟩:∃ k,m=k+1:=⟨m-1,by omega⟩
    simp only [exec.scopeLoop,hl,hf1 f f' (by omega) (by omega)]
theorem wp_ok:∀ (c:AC) {fr:Fr} {σ:St} {K:Post},wp Γ M c fr σ K -> WpE Γ M c fr σ K
 | .skip,fr,σ,K,h=>⟨_,_,_,h,1,fun f f' h1 h2=>by obtain ⟨f,rfl⟩:∃ m,f=m+1:=⟨f-1,by omega⟩;simp only [exec]⟩
 | .region ops,fr,σ,K,h=>by
  obtain ⟨fr',σ',hk,f0,hf⟩:=wpOps_ok h
  refine ⟨_,fr',σ',hk,f0+1,fun f f' h1 h2=>?_⟩
  obtain ⟨f,rfl⟩:∃ m,f=m+1:=⟨f-1,by omega⟩
  simp only [exec,hf f' (by omega)]
 | .regionR d ops,fr,σ,K,h=>by
  obtain ⟨fr',σ',hk,f0,hf⟩:=wpOps_ok h
  refine ⟨_,fr',σ',hk,f0+1,fun f f' h1 h2=>?_⟩
  obtain ⟨f,rfl⟩:∃ m,f=m+1:=⟨f-1,by omega⟩
  simp only [exec,hf f' (by omega)]
 | .draw ops,fr,σ,K,h=>by
  obtain ⟨fr',σ',hk,f0,hf⟩:=wpDraw_ok h
  refine ⟨_,fr',σ',hk,f0+1,fun f f' h1 h2=>?_⟩
  obtain ⟨f,rfl⟩:∃ m,f=m+1:=⟨f-1,by omega⟩
  simp only [exec,hf f' (by omega)]
 | .seq a b,fr,σ,K,h=>by
  obtain ⟨ex,fr1,σ1,h1,f1,hf1⟩:=wp_ok a h
  cases ex with
  |normal =>
   obtain ⟨ex,fr',σ',hk,f2,hf2⟩:=wp_ok b h1
   refine ⟨ex,fr',σ',hk,max f1 f2+1,fun f f' h1 h2=>?_⟩
   obtain ⟨f,rfl⟩:∃ m,f=m+1:=⟨f-1,by omega⟩
   simp only [exec,hf1 f f' (by omega) (by omega),hf2 f f' (by omega) (by omega)]
  |_ =>
   refine ⟨_,fr1,σ1,h1,f1+1,fun f f' h1 h2=>?_⟩
   obtain ⟨f,rfl⟩:∃ m,f=m+1:=⟨f-1,by omega⟩
   simp only [exec,hf1 f f' (by omega) (by omega)]
 | .cond c a b,fr,σ,K,h=>by
  simp only [wp] at h
  split at h
  ·rename_i t ht
   split at h
   ·rename_i htt
    obtain ⟨ex,fr',σ',hk,f2,hf2⟩:=wp_ok a h
    refine ⟨ex,fr',σ',hk,f2+1,fun f f' h1 h2=>?_⟩
    obtain ⟨f,rfl⟩:∃ m,f=m+1:=⟨f-1,by omega⟩
    simp only [exec,ht,htt,if_true,hf2 f f' (by omega) (by omega)]
   ·rename_i htt
    obtain ⟨ex,fr',σ',hk,f2,hf2⟩:=wp_ok b h
    refine ⟨ex,fr',σ',hk,f2+1,fun f f' h1 h2=>?_⟩
    obtain ⟨f,rfl⟩:∃ m,f=m+1:=⟨f-1,by omega⟩
    simp only [exec,ht,htt,if_false,hf2 f f' (by omega) (by omega),Bool.false_eq_true]
  ·exact h.elim
 | .block id b,fr,σ,K,h=>by
  obtain ⟨ex,fr1,σ1,h1,f1,hf1⟩:=wp_ok b h
  cases ex with
  |exit i =>
   by_cases e:i=id
   ·simp only [e,if_true] at h1
    refine ⟨_,fr1,σ1,h1,f1+1,fun f f' h1 h2=>?_⟩
    obtain ⟨f,rfl⟩:∃ m,f=m+1:=⟨f-1,by omega⟩
    simp only [exec,hf1 f f' (by omega) (by omega),e,if_true]
   ·simp only [e,if_false] at h1
    refine ⟨_,fr1,σ1,h1,f1+1,fun f f' h1 h2=>?_⟩
    obtain ⟨f,rfl⟩:∃ m,f=m+1:=⟨f-1,by omega⟩
    simp only [exec,hf1 f f' (by omega) (by omega),e,if_false]
  |_ =>
   refine ⟨_,fr1,σ1,h1,f1+1,fun f f' h1 h2=>?_⟩
   obtain ⟨f,rfl⟩:∃ m,f=m+1:=⟨f-1,by omega⟩
   simp only [exec,hf1 f f' (by omega) (by omega)]
 | .loop b,fr,σ,K,⟨n,h⟩=>rounds_ok (fun _ _ _ h=>wp_ok b h) h
 | .exit id,fr,σ,K,h=>⟨_,_,_,h,1,fun f f' h1 h2=>by obtain ⟨f,rfl⟩:∃ m,f=m+1:=⟨f-1,by omega⟩;simp only [exec]⟩
 | .ret,fr,σ,K,h=>⟨_,_,_,h,1,fun f f' h1 h2=>by obtain ⟨f,rfl⟩:∃ m,f=m+1:=⟨f-1,by omega⟩;simp only [exec]⟩
 | .scope b,fr,σ,K,h=>by
  obtain ⟨ex,fr1,σ1,h1,f1,hf1⟩:=wp_ok b h
  cases ex with
  |goto l =>
   obtain ⟨n,h1⟩:=h1
   obtain ⟨ex,fr',σ',hk,f2,hf2⟩:=jumps_ok h1
   refine ⟨ex,fr',σ',hk,max f1 f2+1,fun f f' h1 h2=>?_⟩
   obtain ⟨f,rfl⟩:∃ m,f=m+1:=⟨f-1,by omega⟩
   simp only [exec,hf1 f f' (by omega) (by omega),hf2 f f' f (by omega) (by omega) (by omega)]
  |_ =>
   refine ⟨_,fr1,σ1,h1,f1+1,fun f f' h1 h2=>?_⟩
   obtain ⟨f,rfl⟩:∃ m,f=m+1:=⟨f-1,by omega⟩
   simp only [exec,hf1 f f' (by omega) (by omega)]
 | .label _,fr,σ,K,h=>⟨_,_,_,h,1,fun f f' h1 h2=>by obtain ⟨f,rfl⟩:∃ m,f=m+1:=⟨f-1,by omega⟩;simp only [exec]⟩
 | .goto l,fr,σ,K,h=>⟨_,_,_,h,1,fun f f' h1 h2=>by obtain ⟨f,rfl⟩:∃ m,f=m+1:=⟨f-1,by omega⟩;simp only [exec]⟩
 | .bad _,_,_,_,h=>h.elim
def wpDefers (Γ:T AF) (M:List Memo):Dfs -> St -> (St -> Prop) -> Prop
 | [],σ,K=>K σ
 |(g,xs) :: r,σ,K=>((∃ fn,Γ.get g=some (.code fn)) \/ Γ.get g=some (.ext .unlock)) /\ Runs Γ M g xs σ fun _ σ=>wpDefers Γ M r σ K
theorem wpDefers_ok:∀ {ds:Dfs} {σ:St} {K:St -> Prop},wpDefers Γ M ds σ K -> ∃ σ',K σ' /\ ∃ f0, ∀ f,f0 <= f -> runDefers (defOnly Γ (callF Γ M [] f)) ds σ=some σ'
 | [],σ,K,h=>⟨σ,h,0,fun f _=>rfl⟩
 |(g,xs) :: r,σ,K,⟨hg,v,σ1,h1,f1,hf1⟩=>by
  obtain ⟨σ',hk,f2,hf2⟩:=wpDefers_ok h1
  refine ⟨σ',hk,max f1 f2,fun f hle=>?_⟩
  rcases hg with ⟨fn,hg⟩ | hg
  ·simp only [runDefers,defOnly,hg,hf1 f (by omega),hf2 f (by omega)]
  ·simp only [runDefers,defOnly,hg,hf1 f (by omega),hf2 f (by omega)]
def atEnd (ex:Ex) (p:Prop):Prop:=match ex with
 | .normal=>p
 | .ret=>p
 |_=>False
def wpRes (rs:List Res) (tm:T V) (σ:St) (Q:V -> St -> Prop):Prop:=match readResults tm σ rs with
 |some vs=>Q (retV vs) σ
 |none=>False
theorem runs_code {g:FuncId} {fn:AFunc} {xs:List V} {σ:St} {Q:V -> St -> Prop} (hg:Γ.get g=some (.code fn)) (hm:memoGet M g xs σ=none)
  (h:wp Γ M fn.body (enter xs) σ fun ex fr σ=>atEnd ex (wpDefers Γ M fr.defers σ fun σ=>wpRes fn.results fr.tmps σ Q)):Runs Γ M g xs σ Q:=by
 obtain ⟨ex,fr,σ1,h1,f1,hf1⟩:=wp_ok _ h
 unfold atEnd at h1
 have hex:(ex=.normal \/ ex=.ret) /\ wpDefers Γ M fr.defers σ1 fun σ=>wpRes fn.results fr.tmps σ Q:=by
  cases ex with
  |normal=>exact ⟨.inl rfl,h1⟩
  |ret=>exact ⟨.inr rfl,h1⟩
  |_=>exact h1.elim
 obtain ⟨hex,h2⟩:=hex
 obtain ⟨σ2,h3,f2,hf2⟩:=wpDefers_ok h2
 unfold wpRes at h3
 split at h3
 ·rename_i vs hvs
  refine ⟨_,_,h3,max f1 f2+1,fun f hle=>?_⟩
  obtain ⟨f,rfl⟩:∃ m,f=m+1:=⟨f-1,by omega⟩
  simp only [callF,hm,hg,hf1 f f (by omega) (by omega),hex,if_true,hf2 f (by omega),hvs]
 ·exact h3.elim
theorem runs_ext {g:FuncId} {e:Ext} {xs:List V} {σ σ':St} {v:V} {Q:V -> St -> Prop} (hg:Γ.get g=some (.ext e)) (hm:memoGet M g xs σ=none) (h:extCall e xs σ=some (v,σ')) (hq:Q v σ'):Runs Γ M g xs σ Q :=
 ⟨v,σ',hq,1,fun f hle=>by obtain ⟨f,rfl⟩:∃ m,f=m+1:=⟨f-1,by omega⟩;simp only [callF,hm,hg,h]⟩
theorem runs_ret {g:FuncId} {xs:List V} {σ σ':St} {v:V} {Q:V -> St -> Prop} (h:Ret Γ M g xs σ v σ') (hq:Q v σ'):Runs Γ M g xs σ Q:=⟨v,σ',hq,h⟩
theorem wpOp_mono {op:AOp} {tm:T V} {ds:Dfs} {σ:St} {K K':V -> Dfs -> St -> Prop} (h:wpOp Γ M op tm ds σ K) (k:∀ v ds σ,K v ds σ -> K' v ds σ):wpOp Γ M op tm ds σ K':=by
 unfold wpOp at h ⊢
 split at h
 ·exact h.mono fun v σ'=>k _ _ _
 ·split at h
  ·exact h.mono fun v σ'=>k _ _ _
  ·exact h.elim
 ·split at h
  ·exact k _ _ _ h
  ·exact h.elim
theorem wpOps_mono:∀ {ops:List AOper} {fr:Fr} {σ:St} {K K':Fr -> St -> Prop},wpOps Γ M ops fr σ K -> (∀ fr σ,K fr σ -> K' fr σ) -> wpOps Γ M ops fr σ K'
 | [],fr,σ,K,K',h,k=>k _ _ h
 |o :: r,fr,σ,K,K',h,k=>by
  simp only [wpOps] at h ⊢
  split at h
  ·rename_i hw;rw [if_pos hw];exact wpOp_mono h fun v ds σ h=>wpOps_mono h k
  ·rename_i hw;rw [if_neg hw];exact wpOps_mono h k
theorem wpD_mono:∀ {ops:List DOper} {h:Nat} {fr:Fr} {σ:St} {K K':Fr -> List (T V × V) -> List (Dfs × St) -> Prop},wpD Γ M ops h fr σ K -> (∀ a b c,K a b c -> K' a b c) -> wpD Γ M ops h fr σ K'
 | [],h,fr,σ,K,K',hh,k=>k _ _ _ hh
 |d :: r,h,fr,σ,K,K',hh,k=>by
  simp only [wpD] at hh ⊢
  split at hh
  ·rename_i hw;rw [if_pos hw]
   split at hh
   ·rename_i ha;rw [if_pos ha];exact wpD_mono hh fun _ _ _=>k _ _ _
   ·rename_i ha;rw [if_neg ha];exact wpOp_mono hh fun v ds σ h=>wpD_mono h fun _ _ _=>k _ _ _
  ·rename_i hw;rw [if_neg hw]
   split at hh
   ·exact hh.elim
   ·rename_i ha;rw [if_neg ha];exact wpD_mono hh fun _ _ _=>k _ _ _
theorem rounds_mono {B:Fr -> St -> Post -> Prop} (hB:∀ fr σ K K',B fr σ K -> (∀ ex fr σ,K ex fr σ -> K' ex fr σ) -> B fr σ K'):∀ {n:Nat} {fr:Fr} {σ:St} {K K':Post},rounds B n fr σ K -> (∀ ex fr σ,K ex fr σ -> K' ex fr σ) -> rounds B n fr σ K'
 | 0,fr,σ,K,K',h,k=>h.elim
 |n+1,fr,σ,K,K',h,k=>by
  refine hB _ _ _ _ h fun ex fr σ h=>?_
  cases ex with
  |normal=>exact rounds_mono hB h k
  |_=>exact k _ _ _ h
theorem jumps_mono {b:AC}:∀ {n l:Nat} {fr:Fr} {σ:St} {K K':Post},jumps Γ M b n l fr σ K -> (∀ ex fr σ,K ex fr σ -> K' ex fr σ) -> jumps Γ M b n l fr σ K'
 | 0,l,fr,σ,K,K',h,k=>h.elim
 |n+1,l,fr,σ,K,K',h,k=>by
  simp only [jumps] at h ⊢
  split at h
  ·rename_i hl;exact k _ _ _ h
  ·rename_i r hl
   refine h.mono fun ex fr σ h=>?_
   cases ex with
   |goto l'=>exact jumps_mono h k
   |_=>exact k _ _ _ h
theorem wp_mono:∀ (c:AC) {fr:Fr} {σ:St} {K K':Post},wp Γ M c fr σ K -> (∀ ex fr σ,K ex fr σ -> K' ex fr σ) -> wp Γ M c fr σ K'
 | .skip,fr,σ,K,K',h,k=>k _ _ _ h
 | .region ops,fr,σ,K,K',h,k=>wpOps_mono (ops:=ops) h fun _ _=>k _ _ _
 | .regionR d ops,fr,σ,K,K',h,k=>wpOps_mono (ops:=ops) h fun _ _=>k _ _ _
 | .draw ops,fr,σ,K,K',h,k=>wpD_mono (ops:=ops) h fun _ _ _ ⟨h1,h2⟩=>⟨h1,k _ _ _ h2⟩
 | .seq a b,fr,σ,K,K',h,k=>wp_mono a h fun ex fr σ h=>by
  cases ex with
  |normal=>exact wp_mono b h k
  |_=>exact k _ _ _ h
 | .cond c a b,fr,σ,K,K',h,k=>by
  simp only [wp] at h ⊢
  split at h
  ·split at h
   ·rename_i ht htt;rw [if_pos htt];exact wp_mono a h k
   ·rename_i ht htt;rw [if_neg htt];exact wp_mono b h k
  ·exact h.elim
 | .block id b,fr,σ,K,K',h,k=>wp_mono b h fun ex fr σ h=>by
  cases ex with
  |exit i =>
   by_cases e:i=id
   ·simp only [e,if_true] at h ⊢;exact k _ _ _ h
   ·simp only [e,if_false] at h ⊢;exact k _ _ _ h
  |_=>exact k _ _ _ h
 | .loop b,fr,σ,K,K',⟨n,h⟩,k=>⟨n,rounds_mono (B:=fun fr σ K=>wp Γ M b fr σ K) (fun _ _ _ _ h k=>wp_mono b h k) h k⟩
 | .exit id,fr,σ,K,K',h,k=>k _ _ _ h
 | .ret,fr,σ,K,K',h,k=>k _ _ _ h
 | .scope b,fr,σ,K,K',h,k=>wp_mono b h fun ex fr σ h=>by
  cases ex with
  |goto l=>obtain ⟨n,h⟩:=h;exact ⟨n,jumps_mono h k⟩
  |_=>exact k _ _ _ h
 | .label _,fr,σ,K,K',h,k=>k _ _ _ h
 | .goto l,fr,σ,K,K',h,k=>k _ _ _ h
 | .bad _,_,_,_,_,h,_=>h.elim
theorem Runs.one {g:FuncId} {xs:List V} {σ:St} {Q:V -> St -> Prop} (h:Runs Γ M g xs σ Q):∃ v σ',Q v σ' /\ ∀ Q':V -> St -> Prop,Q' v σ' -> Runs Γ M g xs σ Q' :=
 let ⟨v,σ',hq,hr⟩:=h;⟨v,σ',hq,fun Q' k=>⟨v,σ',k,hr⟩⟩
theorem wpOp_one {op:AOp} {tm:T V} {ds:Dfs} {σ:St} {K:V -> Dfs -> St -> Prop} (h:wpOp Γ M op tm ds σ K):∃ v ds' σ',K v ds' σ' /\ ∀ K':V -> Dfs -> St -> Prop,K' v ds' σ' -> wpOp Γ M op tm ds σ K':=by
 unfold wpOp at h ⊢
 split at h
 ·obtain ⟨v,σ',hq,hr⟩:=h.one;exact ⟨v,ds,σ',hq,fun K' k=>hr _ k⟩
 ·split at h
  ·obtain ⟨v,σ',hq,hr⟩:=h.one;exact ⟨v,ds,σ',hq,fun K' k=>hr _ k⟩
  ·exact h.elim
 ·split at h
  ·exact ⟨_,_,_,h,fun K' k=>k⟩
  ·exact h.elim
theorem wpOps_one:∀ {ops:List AOper} {fr:Fr} {σ:St} {K:Fr -> St -> Prop},wpOps Γ M ops fr σ K -> ∃ fr' σ',K fr' σ' /\ ∀ K':Fr -> St -> Prop,K' fr' σ' -> wpOps Γ M ops fr σ K'
 | [],fr,σ,K,h=>⟨fr,σ,h,fun K' k=>k⟩
 |o :: r,fr,σ,K,h=>by
  simp only [wpOps] at h ⊢
  split at h
  ·rename_i hw
   obtain ⟨v,ds,σ1,h1,k1⟩:=wpOp_one h
   obtain ⟨fr',σ',h2,k2⟩:=wpOps_one h1
   exact ⟨fr',σ',h2,fun K' k=>by rw [if_pos hw];exact k1 _ (k2 _ k)⟩
  ·rename_i hw
   obtain ⟨fr',σ',h2,k2⟩:=wpOps_one h
   exact ⟨fr',σ',h2,fun K' k=>by rw [if_neg hw];exact k2 _ k⟩
theorem wpD_one:∀ {ops:List DOper} {h:Nat} {fr:Fr} {σ:St} {K:Fr -> List (T V × V) -> List (Dfs × St) -> Prop},wpD Γ M ops h fr σ K -> ∃ a b c,K a b c /\ ∀ K':Fr -> List (T V × V) -> List (Dfs × St) -> Prop,K' a b c -> wpD Γ M ops h fr σ K'
 | [],h,fr,σ,K,hh=>⟨_,_,_,hh,fun K' k=>k⟩
 |d :: r,h,fr,σ,K,hh=>by
  simp only [wpD] at hh ⊢
  split at hh
  ·rename_i hw
   split at hh
   ·rename_i ha
    obtain ⟨a,b,c,h2,k2⟩:=wpD_one hh
    exact ⟨a,_,c,h2,fun K' k=>by rw [if_pos hw,if_pos ha];exact k2 _ k⟩
   ·rename_i ha
    obtain ⟨v,ds,σ1,h1,k1⟩:=wpOp_one hh
    obtain ⟨a,b,c,h2,k2⟩:=wpD_one h1
    exact ⟨a,_,_,h2,fun K' k=>by rw [if_pos hw,if_neg ha];exact k1 _ (k2 _ k)⟩
  ·rename_i hw
   split at hh
   ·exact hh.elim
   ·rename_i ha
    obtain ⟨a,b,c,h2,k2⟩:=wpD_one hh
    exact ⟨a,_,_,h2,fun K' k=>by rw [if_neg hw,if_neg ha];exact k2 _ k⟩
theorem wpDraw_one {ops:List DOper} {fr:Fr} {σ:St} {K:Fr -> St -> Prop} (h:wpDraw Γ M ops fr σ K):∃ fr' σ',K fr' σ' /\ ∀ K':Fr -> St -> Prop,K' fr' σ' -> wpDraw Γ M ops fr σ K':=by
 obtain ⟨a,b,c,⟨h1,h2⟩,k⟩:=wpD_one h
 exact ⟨_,_,h2,fun K' k2=>k _ ⟨h1,k2⟩⟩
theorem rounds_one {B:Fr -> St -> Post -> Prop} (hB:∀ fr σ K,B fr σ K -> ∃ ex fr' σ',K ex fr' σ' /\ ∀ K':Post,K' ex fr' σ' -> B fr σ K'):∀ {n:Nat} {fr:Fr} {σ:St} {K:Post},rounds B n fr σ K -> ∃ ex fr' σ',K ex fr' σ' /\ ∀ K':Post,K' ex fr' σ' -> rounds B n fr σ K'
 | 0,fr,σ,K,h=>h.elim
 |n+1,fr,σ,K,h=>by
  obtain ⟨ex,fr1,σ1,h1,k1⟩:=hB _ _ _ h
  cases ex with
  |normal =>
   obtain ⟨ex,fr',σ',h2,k2⟩:=rounds_one hB h1
   exact ⟨ex,fr',σ',h2,fun K' k=>k1 _ (k2 _ k)⟩
  |_=>exact ⟨_,fr1,σ1,h1,fun K' k=>k1 _ k⟩
theorem jumps_one {b:AC}:∀ {n l:Nat} {fr:Fr} {σ:St} {K:Post},jumps Γ M b n l fr σ K -> ∃ ex fr' σ',K ex fr' σ' /\ ∀ K':Post,K' ex fr' σ' -> jumps Γ M b n l fr σ K'
 | 0,l,fr,σ,K,h=>h.elim
 |n+1,l,fr,σ,K,h=>by
  simp only [jumps] at h ⊢
  split at h
  ·exact ⟨_,_,_,h,fun K' k=>k⟩
  ·rename_i r hl
   obtain ⟨ex,fr1,σ1,h1,hf⟩:=h
   cases ex with
   |goto l' =>
    obtain ⟨ex,fr',σ',h2,k2⟩:=jumps_one h1
    exact ⟨ex,fr',σ',h2,fun K' k=>⟨_,fr1,σ1,k2 _ k,hf⟩⟩
   |_=>exact ⟨_,fr1,σ1,h1,fun K' k=>⟨_,fr1,σ1,k,hf⟩⟩
theorem wp_one:∀ (c:AC) {fr:Fr} {σ:St} {K:Post},wp Γ M c fr σ K -> ∃ ex fr' σ',K ex fr' σ' /\ ∀ K':Post,K' ex fr' σ' -> wp Γ M c fr σ K'
 | .skip,fr,σ,K,h=>⟨_,_,_,h,fun K' k=>k⟩
 | .region ops,fr,σ,K,h=>let ⟨fr',σ',h1,k1⟩:=wpOps_one (ops:=ops) h;⟨_,fr',σ',h1,fun K' k=>k1 _ k⟩
 | .regionR d ops,fr,σ,K,h=>let ⟨fr',σ',h1,k1⟩:=wpOps_one (ops:=ops) h;⟨_,fr',σ',h1,fun K' k=>k1 _ k⟩
 | .draw ops,fr,σ,K,h=>let ⟨fr',σ',h1,k1⟩:=wpDraw_one (ops:=ops) h;⟨_,fr',σ',h1,fun K' k=>k1 _ k⟩
 | .seq a b,fr,σ,K,h=>by
  obtain ⟨ex,fr1,σ1,h1,k1⟩:=wp_one a h
  cases ex with
  |normal =>
   obtain ⟨ex,fr',σ',h2,k2⟩:=wp_one b h1
   exact ⟨ex,fr',σ',h2,fun K' k=>k1 _ (k2 _ k)⟩
  |_=>exact ⟨_,fr1,σ1,h1,fun K' k=>k1 _ k⟩
 | .cond c a b,fr,σ,K,h=>by
  simp only [wp] at h ⊢
  split at h
  ·split at h
   ·rename_i htt;obtain ⟨ex,fr',σ',h1,k1⟩:=wp_one a h;exact ⟨ex,fr',σ',h1,fun K' k=>by rw [if_pos htt];exact k1 _ k⟩
   ·rename_i htt;obtain ⟨ex,fr',σ',h1,k1⟩:=wp_one b h;exact ⟨ex,fr',σ',h1,fun K' k=>by rw [if_neg htt];exact k1 _ k⟩
  ·exact h.elim
 | .block id b,fr,σ,K,h=>by
  obtain ⟨ex,fr1,σ1,h1,k1⟩:=wp_one b h
  cases ex with
  |exit i =>
   by_cases e:i=id
   ·simp only [e,if_true] at h1;exact ⟨_,fr1,σ1,h1,fun K' k=>k1 _ (by simp only [e,if_true];exact k)⟩
   ·simp only [e,if_false] at h1;exact ⟨_,fr1,σ1,h1,fun K' k=>k1 _ (by simp only [e,if_false];exact k)⟩
  |_=>exact ⟨_,fr1,σ1,h1,fun K' k=>k1 _ k⟩
 | .loop b,fr,σ,K,⟨n,h⟩=>let ⟨ex,fr',σ',h1,k1⟩:=rounds_one (B:=fun fr σ K=>wp Γ M b fr σ K) (fun _ _ _ h=>wp_one b h) h;⟨ex,fr',σ',h1,fun K' k=>⟨n,k1 _ k⟩⟩
 | .exit id,fr,σ,K,h=>⟨_,_,_,h,fun K' k=>k⟩
 | .ret,fr,σ,K,h=>⟨_,_,_,h,fun K' k=>k⟩
 | .scope b,fr,σ,K,h=>by
  obtain ⟨ex,fr1,σ1,h1,k1⟩:=wp_one b h
  cases ex with
  |goto l =>
   obtain ⟨n,h1⟩:=h1
   obtain ⟨ex,fr',σ',h2,k2⟩:=jumps_one h1
   exact ⟨ex,fr',σ',h2,fun K' k=>k1 _ ⟨n,k2 _ k⟩⟩
  |_=>exact ⟨_,fr1,σ1,h1,fun K' k=>k1 _ k⟩
 | .label _,fr,σ,K,h=>⟨_,_,_,h,fun K' k=>k⟩
 | .goto l,fr,σ,K,h=>⟨_,_,_,h,fun K' k=>k⟩
 | .bad _,_,_,_,h=>h.elim
theorem aw_unroll {b:AC} {fr:Fr} {σ:St} {K:Post} (h:wp Γ M b fr σ fun ex fr σ=>match ex with
  | .normal=>wp Γ M (.loop b) fr σ K
  |ex=>K ex fr σ):wp Γ M (.loop b) fr σ K:=by
 obtain ⟨ex,fr1,σ1,h1,k1⟩:=wp_one b h
 cases ex with
 |normal =>
  obtain ⟨n,h1⟩:=h1
  exact ⟨n+1,k1 _ h1⟩
 |_=>exact ⟨1,k1 _ h1⟩
theorem aw_loop {b:AC} {K:Post} (I:Nat -> Fr -> St -> Prop) (h:∀ n fr σ,I n fr σ -> wp Γ M b fr σ fun ex fr' σ'=>match ex with
  | .normal=>∃ m,m<n /\ I m fr' σ'
  |ex=>K ex fr' σ'):∀ (n:Nat) {fr:Fr} {σ:St},I n fr σ -> wp Γ M (.loop b) fr σ K:=by
 have key:∀ n k fr σ,k <= n -> I k fr σ -> rounds (fun fr σ K=>wp Γ M b fr σ K) (n+1) fr σ K:=by
  intro n
  induction n with
  |zero =>
   intro k fr σ hk hi
   refine wp_mono b (h k fr σ hi) fun ex fr σ h=>?_
   cases ex with
   |normal=>obtain ⟨m,hm,_⟩:=h;omega
   |_=>exact h
  |succ n ih =>
   intro k fr σ hk hi
   refine wp_mono b (h k fr σ hi) fun ex fr σ h=>?_
   cases ex with
   |normal=>obtain ⟨m,hm,hi⟩:=h;exact ih m fr σ (by omega) hi
   |_=>exact h
 exact fun n fr σ hi=>⟨n+1,key n n fr σ (Nat.le_refl _) hi⟩
end
end AM
namespace AM
open Go
noncomputable section
structure OpSim (R:St -> St -> Prop):Prop where
 read:∀ {op tm s σ v},R s σ -> readOp op tm s=some v -> readOp op tm σ=some v
 write:∀ {op tm s σ v s'},R s σ -> writeOp op tm s=some (v,s') -> ∃ σ',writeOp op tm σ=some (v,σ') /\ R s' σ'
 new:∀ {s σ} {o:Obj},o.grp=0 -> R s σ -> R (s.new o) (σ.new o)
 next:∀ {s σ},R s σ -> s.next=σ.next
 get:∀ {s σ a o},R s σ -> s.objs.get a=some o -> σ.objs.get a=some o
 res:∀ {rs tm s σ vs},R s σ -> readResults tm s rs=some vs -> readResults tm σ rs=some vs
def CallSim (R:St -> St -> Prop) (call call':CallT):Prop:=∀ g xs s σ v s',R s σ -> call g xs s=some (v,s') -> ∃ σ',call' g xs σ=some (v,σ') /\ R s' σ'
variable {R:St -> St -> Prop} {call call':CallT}
theorem OpSim.evalOp (h:OpSim R) (hc:CallSim R call call') {op:AOp} {tm:T V} {ds ds':Dfs} {s σ s':St} {v:V} (hR:R s σ) (he:evalOp call op tm ds s=some (v,ds',s')) :
  ∃ σ',evalOp call' op tm ds σ=some (v,ds',σ') /\ R s' σ':=by
 unfold AM.evalOp at he ⊢
 split at he
 ·rename_i hp
  rw [if_pos hp]
  split at he
  ·rename_i v0 hv;simp only [Option.some.injEq,Prod.mk.injEq] at he;obtain ⟨rfl,rfl,rfl⟩:=he
   exact ⟨σ,rfl,hR⟩
  ·cases he
 ·rename_i hp
  rw [if_neg hp]
  split at he
  ·rename_i hr
   rw [if_pos hr]
   split at he
   ·rename_i v0 hv;simp only [Option.some.injEq,Prod.mk.injEq] at he;obtain ⟨rfl,rfl,rfl⟩:=he
    exact ⟨σ,by rw [h.read hR hv],hR⟩
   ·cases he
  ·rename_i hr
   rw [if_neg hr]
   split at he
   ·split at he
    ·rename_i hk;simp only [Option.some.injEq,Prod.mk.injEq] at he;obtain ⟨rfl,rfl,rfl⟩:=he
     obtain ⟨σ',h1,h2⟩:=hc _ _ _ _ _ _ hR hk
     exact ⟨σ',by simp only [h1],h2⟩
    ·cases he
   ·split at he
    ·rename_i hg
     split at he
     ·rename_i hk;simp only [Option.some.injEq,Prod.mk.injEq] at he;obtain ⟨rfl,rfl,rfl⟩:=he
      obtain ⟨σ',h1,h2⟩:=hc _ _ _ _ _ _ hR hk
      exact ⟨σ',by simp only [hg,h1],h2⟩
     ·cases he
    ·cases he
   ·simp only [Option.some.injEq,Prod.mk.injEq] at he;obtain ⟨rfl,rfl,rfl⟩:=he
    exact ⟨σ,rfl,hR⟩
   ·split at he
    ·rename_i hg
     simp only [Option.some.injEq,Prod.mk.injEq] at he;obtain ⟨rfl,rfl,rfl⟩:=he
     exact ⟨σ,by simp only [hg],hR⟩
    ·cases he
   ·split at he
    ·rename_i hk;simp only [Option.some.injEq,Prod.mk.injEq] at he;obtain ⟨rfl,rfl,rfl⟩:=he
     obtain ⟨σ',e1,e2⟩:=h.write hR hk
     refine ⟨σ',?_,e2⟩
     simp only [e1]
    ·cases he
theorem OpSim.runOps (h:OpSim R) (hc:CallSim R call call'):∀ {ops:List AOper} {fr fr':Fr} {s σ s':St},R s σ -> runOps call ops fr s=some (fr',s') -> ∃ σ',runOps call' ops fr σ=some (fr',σ') /\ R s' σ'
 | [],fr,fr',s,σ,s',hR,he=>by simp only [AM.runOps,Option.some.injEq,Prod.mk.injEq] at he;obtain ⟨rfl,rfl⟩:=he;exact ⟨σ,rfl,hR⟩
 |o :: r,fr,fr',s,σ,s',hR,he=>by
  simp only [AM.runOps] at he ⊢
  split at he
  ·rename_i hw
   rw [if_pos hw]
   split at he
   ·rename_i hk
    obtain ⟨σ1,e1,e2⟩:=h.evalOp hc hR hk
    simp only [e1]
    exact h.runOps hc e2 he
   ·cases he
  ·rename_i hw
   rw [if_neg hw]
   exact h.runOps hc hR he
def EsR (R:St -> St -> Prop):List (Dfs × St) -> List (Dfs × St) -> Prop
 | [],[]=>True
 |(d,s) :: r,(d',σ) :: r'=>d=d' /\ R s σ /\ EsR R r r'
 |_,_=>False
theorem OpSim.runD (h:OpSim R) (hc:CallSim R call call'):∀ {ops:List DOper} {n:Nat} {fr fr':Fr} {s σ:St} {tr:List (T V × V)} {es:List (Dfs × St)},R s σ -> runD call ops n fr s=some (fr',tr,es) →
  ∃ es',runD call' ops n fr σ=some (fr',tr,es') /\ EsR R es es'
 | [],n,fr,fr',s,σ,tr,es,hR,he=>by simp only [AM.runD,Option.some.injEq,Prod.mk.injEq] at he;obtain ⟨rfl,rfl,rfl⟩:=he;exact ⟨[],rfl,trivial⟩
 |d :: r,n,fr,fr',s,σ,tr,es,hR,he=>by
  simp only [AM.runD] at he ⊢
  split at he
  ·rename_i hw
   rw [if_pos hw]
   split at he
   ·rename_i ha
    rw [if_pos ha]
    split at he
    ·rename_i hk
     simp only [Option.some.injEq,Prod.mk.injEq] at he;obtain ⟨rfl,rfl,rfl⟩:=he
     obtain ⟨es',e1,e2⟩:=h.runD hc hR hk
     exact ⟨es',by simp only [e1],e2⟩
    ·cases he
   ·rename_i ha
    rw [if_neg ha]
    split at he
    ·rename_i hk
     obtain ⟨σ1,e1,e2⟩:=h.evalOp hc hR hk
     simp only [e1]
     split at he
     ·rename_i hk2
      simp only [Option.some.injEq,Prod.mk.injEq] at he;obtain ⟨rfl,rfl,rfl⟩:=he
      obtain ⟨es',e3,e4⟩:=h.runD hc e2 hk2
      refine ⟨_,by simp only [e3];rfl,?_⟩
      split
      ·exact ⟨rfl,e2,e4⟩
      ·exact e4
     ·cases he
    ·cases he
  ·rename_i hw
   rw [if_neg hw]
   split at he
   ·cases he
   ·rename_i ha
    rw [if_neg ha]
    split at he
    ·rename_i hk
     simp only [Option.some.injEq,Prod.mk.injEq] at he;obtain ⟨rfl,rfl,rfl⟩:=he
     obtain ⟨es',e1,e2⟩:=h.runD hc hR hk
     refine ⟨_,by simp only [e1];rfl,?_⟩
     split
     ·exact ⟨rfl,hR,e2⟩
     ·exact e2
    ·cases he
theorem OpSim.hoist (h:OpSim R):∀ {ops:List DOper} {s σ:St},R s σ -> R (hoist ops s) (hoist ops σ)
 | [],s,σ,hR=>hR
 |d :: r,s,σ,hR=>by
  simp only [AM.hoist]
  split
  ·exact h.hoist (h.new rfl hR)
  ·exact h.hoist hR
theorem OpSim.checkR (h:OpSim R) {op:AOp} {tm:T V} {v:V} {lo hi:Nat}:∀ {m:Nat} {es es':List (Dfs × St)},EsR R es es' -> checkR op tm v lo hi m es=true -> checkR op tm v lo hi m es'=true
 |m,[],[],_,_=>rfl
 |m,(d,s) :: r,(d',σ) :: r',⟨_,hR,hr⟩,hc=>by
  simp only [AM.checkR,Bool.and_eq_true] at hc ⊢
  refine ⟨?_,h.checkR hr hc.2⟩
  have:=hc.1
  split
  ·rename_i c
   rw [if_pos c] at this
   split at this
   ·rename_i u hu;rw [h.read hR hu];exact this
   ·cases this
  ·rfl
 |m,[],_ :: _,hh,_=>hh.elim
 |m,_ :: _,[],hh,_=>hh.elim
theorem OpSim.checkH (h:OpSim R) {a:Nat} {z:List V} {hi:Nat}:∀ {m:Nat} {es es':List (Dfs × St)},EsR R es es' -> checkH a z hi m es=true -> checkH a z hi m es'=true
 |m,[],[],_,_=>rfl
 |m,(d,s) :: r,(d',σ) :: r',⟨_,hR,hr⟩,hc=>by
  simp only [AM.checkH,Bool.and_eq_true] at hc ⊢
  refine ⟨?_,h.checkH hr hc.2⟩
  have:=hc.1
  split
  ·rename_i c
   rw [if_pos c] at this
   split at this
   ·rename_i hu;rw [h.get hR hu];exact this
   ·cases this
  ·rfl
 |m,[],_ :: _,hh,_=>hh.elim
 |m,_ :: _,[],hh,_=>hh.elim
theorem OpSim.checkD (h:OpSim R) {es es':List (Dfs × St)} (hE:EsR R es es'):∀ {ops:List DOper} {n:Nat} {tr:List (T V × V)},checkD es ops n tr=true -> checkD es' ops n tr=true
 | [],n,tr,_=>by cases tr <;> rfl
 |d :: r,n,[],hc=>by simp [AM.checkD] at hc
 |d :: r,n,(tm,v) :: tr,hc=>by
  simp only [AM.checkD,Bool.and_eq_true] at hc ⊢
  refine ⟨?_,?_⟩
  ·have:=hc.1
   split
   ·rename_i c;rw [if_pos c] at this;exact h.checkR hE this
   ·rfl
  ·have:=hc.2
   split at this
   ·rename_i z hz
    simp only [Bool.and_eq_true] at this
    simp only [Bool.and_eq_true]
    exact ⟨h.checkH hE this.1,h.checkD hE this.2⟩
   ·exact h.checkD hE this
theorem EsR.last:∀ {es es':List (Dfs × St)} {s σ:St},R s σ -> EsR R es es' -> R (lastSt s es) (lastSt σ es')
 | [],[],s,σ,hR,_=>hR
 |(d,s1) :: r,(d',σ1) :: r',s,σ,hR,⟨_,h1,h2⟩=>EsR.last (es:=r) (es':=r') h1 h2
 | [],_ :: _,_,_,_,hh=>hh.elim
 |_ :: _,[],_,_,_,hh=>hh.elim
theorem OpSim.runDraw (h:OpSim R) (hc:CallSim R call call') {ops:List DOper} {fr fr':Fr} {s σ s':St} (hR:R s σ) (he:runDraw call ops fr s=some (fr',s')):∃ σ',runDraw call' ops fr σ=some (fr',σ') /\ R s' σ':=by
 unfold AM.runDraw at he ⊢
 have hh:=h.hoist (ops:=ops) hR
 split at he
 ·rename_i fr1 tr es hk
  split at he
  ·rename_i hd
   simp only [Option.some.injEq,Prod.mk.injEq] at he;obtain ⟨rfl,rfl⟩:=he
   obtain ⟨es',e1,e2⟩:=h.runD hc hh hk
   rw [h.next hR] at e1 hd
   simp only [e1]
   rw [if_pos (h.checkD (show EsR R ((fr.defers,AM.hoist ops s) :: es) ((fr.defers,AM.hoist ops σ) :: es') from ⟨rfl,hh,e2⟩) hd)]
   exact ⟨_,rfl,EsR.last hh e2⟩
  ·cases he
 ·cases he
theorem scope_sim {run run':AC -> Fr -> St -> Option (Ex × Fr × St)} (hr:∀ c fr s σ ex fr' s',R s σ -> run c fr s=some (ex,fr',s') -> ∃ σ',run' c fr σ=some (ex,fr',σ') /\ R s' σ') (b:AC) :
  ∀ {n n' l:Nat} {fr fr':Fr} {s σ s':St} {ex:Ex},n <= n' -> R s σ -> exec.scopeLoop run b n l fr s=some (ex,fr',s') -> ∃ σ',exec.scopeLoop run' b n' l fr σ=some (ex,fr',σ') /\ R s' σ'
 | 0,n',l,fr,fr',s,σ,s',ex,hle,hR,he=>by simp only [exec.scopeLoop] at he;cases he
 |n+1,0,l,fr,fr',s,σ,s',ex,hle,hR,he=>by omega
 |n+1,n'+1,l,fr,fr',s,σ,s',ex,hle,hR,he=>by
  simp only [exec.scopeLoop] at he ⊢
  split at he
  ·rename_i hl
   simp only [Option.some.injEq,Prod.mk.injEq] at he;obtain ⟨rfl,rfl,rfl⟩:=he
   exact ⟨σ,rfl,hR⟩
  ·rename_i r hl
   split at he
   ·rename_i hk
    obtain ⟨σ1,e1,e2⟩:=hr _ _ _ _ _ _ _ hR hk
    simp only [e1]
    exact scope_sim hr b (by omega) e2 he
   ·rename_i hne
    obtain ⟨σ1,e1,e2⟩:=hr _ _ _ _ _ _ _ hR he
    refine ⟨σ1,?_,e2⟩
    rw [e1]
    cases ex with
    |goto l'=>exact (hne _ _ _ he).elim
    |_=>rfl
theorem OpSim.exec (h:OpSim R) (hc:CallSim R call call'):∀ {f f':Nat} {c:AC} {fr fr':Fr} {s σ s':St} {ex:Ex},f <= f' -> R s σ -> exec call [] f c fr s=some (ex,fr',s') -> ∃ σ',exec call' [] f' c fr σ=some (ex,fr',σ') /\ R s' σ':=by
 intro f
 induction f with
 |zero=>intro f' c fr fr' s σ s' ex hle hR he;simp only [AM.exec] at he;cases he
 |succ f ih0 =>
  intro f' c fr fr' s σ s' ex hle hR he
  obtain ⟨f',rfl⟩:∃ m,f'=m+1:=⟨f'-1,by omega⟩
  have ih:∀ {c:AC} {fr fr':Fr} {s σ s':St} {ex:Ex},R s σ -> AM.exec call [] f c fr s=some (ex,fr',s') -> ∃ σ',AM.exec call' [] f' c fr σ=some (ex,fr',σ') /\ R s' σ':=fun hR he=>ih0 (by omega) hR he
  cases c with
  |skip=>simp only [AM.exec,Option.some.injEq,Prod.mk.injEq] at he ⊢;obtain ⟨rfl,rfl,rfl⟩:=he;exact ⟨σ,⟨rfl,rfl,rfl⟩,hR⟩
  |region ops =>
   simp only [AM.exec] at he ⊢
   split at he
   ·rename_i hk
    simp only [Option.some.injEq,Prod.mk.injEq] at he;obtain ⟨rfl,rfl,rfl⟩:=he
    obtain ⟨σ1,e1,e2⟩:=h.runOps hc hR hk
    exact ⟨σ1,by simp only [e1],e2⟩
   ·cases he
  |regionR d ops =>
   simp only [AM.exec] at he ⊢
   split at he
   ·rename_i hk
    simp only [Option.some.injEq,Prod.mk.injEq] at he;obtain ⟨rfl,rfl,rfl⟩:=he
    obtain ⟨σ1,e1,e2⟩:=h.runOps hc hR hk
    exact ⟨σ1,by simp only [e1],e2⟩
   ·cases he
  |draw ops =>
   simp only [AM.exec] at he ⊢
   split at he
   ·rename_i hk
    simp only [Option.some.injEq,Prod.mk.injEq] at he;obtain ⟨rfl,rfl,rfl⟩:=he
    obtain ⟨σ1,e1,e2⟩:=h.runDraw hc hR hk
    exact ⟨σ1,by simp only [e1],e2⟩
   ·cases he
  |seq a b =>
   simp only [AM.exec] at he ⊢
   split at he
   ·rename_i hk
    obtain ⟨σ1,e1,e2⟩:=ih hR hk
    simp only [e1]
    exact ih e2 he
   ·rename_i hne
    obtain ⟨σ1,e1,e2⟩:=ih hR he
    refine ⟨σ1,?_,e2⟩
    rw [e1]
    cases ex with
    |normal=>exact (hne _ _ he).elim
    |_=>rfl
  |cond c a b =>
   simp only [AM.exec] at he ⊢
   split at he
   ·split at he
    ·rename_i ht;rw [if_pos ht];exact ih hR he
    ·rename_i ht;rw [if_neg ht];exact ih hR he
   ·cases he
  |block id b =>
   simp only [AM.exec] at he ⊢
   split at he
   ·rename_i i fr1 s1 hk
    obtain ⟨σ1,e1,e2⟩:=ih hR hk
    simp only [e1]
    split at he
    ·rename_i hi
     simp only [Option.some.injEq,Prod.mk.injEq] at he;obtain ⟨rfl,rfl,rfl⟩:=he
     exact ⟨σ1,by rw [if_pos hi],e2⟩
    ·rename_i hi
     simp only [Option.some.injEq,Prod.mk.injEq] at he;obtain ⟨rfl,rfl,rfl⟩:=he
     exact ⟨σ1,by rw [if_neg hi],e2⟩
   ·rename_i hne
    obtain ⟨σ1,e1,e2⟩:=ih hR he
    refine ⟨σ1,?_,e2⟩
    rw [e1]
    cases ex with
    |exit i=>exact (hne _ _ _ he).elim
    |_=>rfl
  |loop b =>
   simp only [AM.exec,loopGet] at he ⊢
   split at he
   ·rename_i hk
    obtain ⟨σ1,e1,e2⟩:=ih hR hk
    simp only [e1]
    exact ih e2 he
   ·rename_i hne
    obtain ⟨σ1,e1,e2⟩:=ih hR he
    refine ⟨σ1,?_,e2⟩
    rw [e1]
    cases ex with
    |normal=>exact (hne _ _ he).elim
    |_=>rfl
  |exit id=>simp only [AM.exec,Option.some.injEq,Prod.mk.injEq] at he ⊢;obtain ⟨rfl,rfl,rfl⟩:=he;exact ⟨σ,⟨rfl,rfl,rfl⟩,hR⟩
  |ret=>simp only [AM.exec,Option.some.injEq,Prod.mk.injEq] at he ⊢;obtain ⟨rfl,rfl,rfl⟩:=he;exact ⟨σ,⟨rfl,rfl,rfl⟩,hR⟩
  |scope b =>
   simp only [AM.exec] at he ⊢
   split at he
   ·rename_i hk
    obtain ⟨σ1,e1,e2⟩:=ih hR hk
    simp only [e1]
    exact scope_sim (run:=AM.exec call [] f) (run':=AM.exec call' [] f') (fun _ _ _ _ _ _ _ hR he=>ih hR he) b (by omega) e2 he
   ·rename_i hne
    obtain ⟨σ1,e1,e2⟩:=ih hR he
    refine ⟨σ1,?_,e2⟩
    rw [e1]
    cases ex with
    |goto l=>exact (hne _ _ _ he).elim
    |_=>rfl
  |label l=>simp only [AM.exec,Option.some.injEq,Prod.mk.injEq] at he ⊢;obtain ⟨rfl,rfl,rfl⟩:=he;exact ⟨σ,⟨rfl,rfl,rfl⟩,hR⟩
  |goto l=>simp only [AM.exec,Option.some.injEq,Prod.mk.injEq] at he ⊢;obtain ⟨rfl,rfl,rfl⟩:=he;exact ⟨σ,⟨rfl,rfl,rfl⟩,hR⟩
  |bad w=>simp only [AM.exec] at he;cases he
theorem defers_sim (hc:CallSim R call call'):∀ {ds:Dfs} {s σ s':St},R s σ -> runDefers call ds s=some s' -> ∃ σ',runDefers call' ds σ=some σ' /\ R s' σ'
 | [],s,σ,s',hR,he=>by simp only [runDefers,Option.some.injEq] at he;subst he;exact ⟨σ,rfl,hR⟩
 |(g,xs) :: r,s,σ,s',hR,he=>by
  simp only [runDefers] at he ⊢
  split at he
  ·rename_i hk
   obtain ⟨σ1,e1,e2⟩:=hc _ _ _ _ _ _ hR hk
   simp only [e1]
   exact defers_sim hc e2 he
  ·cases he
def ExtSim (R:St -> St -> Prop):Prop:=∀ e xs s σ v s',R s σ -> extCall e xs s=some (v,s') -> ∃ σ',extCall e xs σ=some (v,σ') /\ R s' σ'
theorem callF_sim {Γ Γ':T AF} {M:List Memo} (h:OpSim R) (hx:ExtSim R) (hΓ:∀ g x,Γ.get g=some x -> Γ'.get g=some x) (hM:∀ m∈M,Γ.get m.g=none):∀ f f',f <= f' -> CallSim R (callF Γ [] [] f) (callF Γ' M [] f'):=by
 have hmemo:∀ (M:List Memo) {g xs σ x},(∀ m∈M,Γ.get m.g=none) -> Γ.get g=some x -> memoGet M g xs σ=none:=by
  intro M
  induction M with
  |nil=>intro g xs σ x _ _;rfl
  |cons m r ih =>
   intro g xs σ x hM hg
   simp only [memoGet]
   have hne:(m.g == g)=false:=by
    cases hk:m.g == g with
    |false=>rfl
    |true=>rw [beq_iff_eq] at hk;have:=hM m (by simp);rw [hk,hg] at this;cases this
   rw [hne]
   simp only [Bool.false_and,Bool.false_eq_true,if_false]
   exact ih (fun m hm=>hM m (by simp [hm])) hg
 intro f
 induction f with
 |zero=>intro f' hle g xs s σ v s' hR he;simp only [callF] at he;cases he
 |succ f ih0 =>
  intro f' hle g xs s σ v s' hR he
  obtain ⟨f',rfl⟩:∃ m,f'=m+1:=⟨f'-1,by omega⟩
  have ih:=ih0 f' (by omega)
  simp only [callF,memoGet] at he
  split at he
  ·rename_i e hg
   obtain ⟨σ',e1,e2⟩:=hx _ _ _ _ _ _ hR he
   exact ⟨σ',by simp only [callF,hmemo M hM hg,hΓ _ _ hg,e1],e2⟩
  ·rename_i fn hg
   split at he
   ·rename_i ex fr s1 hk
    split at he
    ·rename_i hex
     split at he
     ·rename_i s2 hd
      split at he
      ·rename_i vs hvs
       simp only [Option.some.injEq,Prod.mk.injEq] at he;obtain ⟨rfl,rfl⟩:=he
       obtain ⟨σ1,e1,e2⟩:=h.exec (f':=f') ih (by omega) hR hk
       have hdef:CallSim R (defOnly Γ (callF Γ [] [] f)) (defOnly Γ' (callF Γ' M [] f')):=by
        intro g xs s σ v s' hR he
        simp only [defOnly] at he ⊢
        split at he
        ·rename_i hg';rw [hΓ _ _ hg'];exact ih _ _ _ _ _ _ hR he
        ·rename_i hg';rw [hΓ _ _ hg'];exact ih _ _ _ _ _ _ hR he
        ·cases he
       obtain ⟨σ2,e3,e4⟩:=defers_sim hdef e2 hd
       refine ⟨σ2,?_,e4⟩
       simp only [callF,hmemo M hM hg,hΓ _ _ hg,e1,hex,if_true,e3,h.res e4 hvs]
      ·cases he
     ·cases he
    ·cases he
   ·cases he
  ·cases he
theorem eqSim:OpSim (fun s σ:St=>s=σ) where
 read h e:=by subst h;exact e
 write h e:=by subst h;exact ⟨_,e,rfl⟩
 new _ h:=by subst h;rfl
 next h:=by subst h;rfl
 get h e:=by subst h;exact e
 res h e:=by subst h;exact e
theorem Ret.lift {Γ Γ':T AF} {M:List Memo} (hΓ:∀ g x,Γ.get g=some x -> Γ'.get g=some x) (hM:∀ m∈M,Γ.get m.g=none) {g:FuncId} {xs:List V} {σ σ':St} {v:V} (h:Ret Γ [] g xs σ v σ'):Ret Γ' M g xs σ v σ':=by
 obtain ⟨f0,hf⟩:=h
 refine ⟨f0,fun f hle=>?_⟩
 obtain ⟨σ1,e1,e2⟩:=callF_sim (R:=fun s σ:St=>s=σ) eqSim (fun _ _ _ _ _ _ h e=>by subst h;exact ⟨_,e,rfl⟩) hΓ hM f f (Nat.le_refl f) _ _ _ _ _ _ rfl (hf f hle)
 rw [e1,e2]
theorem callF_more {Γ:T AF} {M:List Memo} {f f':Nat} (hle:f <= f') {g:FuncId} {xs:List V} {σ:St} {r:V × St} (h:callF Γ M [] f g xs σ=some r):callF Γ M [] f' g xs σ=some r:=by
 have key:∀ f f',f <= f' -> CallSim (fun s σ:St=>s=σ) (callF Γ M [] f) (callF Γ M [] f'):=by
  intro f
  induction f with
  |zero=>intro f' hle g xs s σ v s' hR he;simp only [callF] at he;cases he
  |succ f ih0 =>
   intro f' hle g xs s σ v s' hR he
   obtain ⟨f',rfl⟩:∃ m,f'=m+1:=⟨f'-1,by omega⟩
   have ih:=ih0 f' (by omega)
   subst hR
   refine ⟨s',?_,rfl⟩
   simp only [callF] at he ⊢
   split at he
   ·exact he
   ·split at he
    ·exact he
    ·rename_i fn hg
     split at he
     ·rename_i ex fr s1 hk
      obtain ⟨σ1,e1,e2⟩:=eqSim.exec (f':=f') ih (by omega) rfl hk
      subst e2
      simp only [e1]
      split at he
      ·rename_i hex
       rw [if_pos hex]
       split at he
       ·rename_i s2 hd
        have hdef:CallSim (fun s σ:St=>s=σ) (defOnly Γ (callF Γ M [] f)) (defOnly Γ (callF Γ M [] f')):=by
         intro g xs s σ v s' hR he
         simp only [defOnly] at he ⊢
         split at he
         ·exact ih _ _ _ _ _ _ hR he
         ·exact ih _ _ _ _ _ _ hR he
         ·cases he
        obtain ⟨σ2,e3,e4⟩:=defers_sim hdef rfl hd
        subst e4
        simp only [e3]
        exact he
       ·cases he
      ·cases he
     ·cases he
    ·cases he
 obtain ⟨v,s'⟩:=r
 obtain ⟨σ',e1,e2⟩:=key f f' hle _ _ _ _ _ _ rfl h
 subst e2;exact e1
structure Part (own:Nat -> Prop) (n0:Nat) (F:Nat -> Option Obj) (s σ:St):Prop where
 next:s.next=σ.next
 le:n0 <= s.next
 grps:s.grps=σ.grps
 mine:∀ a,(own a \/ n0 <= a) -> s.objs.get a=σ.objs.get a
 theirs:∀ a,a<n0 -> ¬ own a -> s.objs.get a=none /\ σ.objs.get a=F a
 sep:∀ a g o,a<n0 -> ¬ own a -> F a=some o -> o.live=true -> g≠0 -> a∈(s.grps.get g).getD [] -> ∀ b o',s.objs.get b=some o' -> o'.grp=g -> False
variable {own:Nat -> Prop} {n0:Nat} {F:Nat -> Option Obj} {s σ:St}
theorem Part.get (h:Part own n0 F s σ) {a:Nat} {o:Obj} (ha:s.objs.get a=some o):σ.objs.get a=some o:=by
 by_cases c:own a \/ n0 <= a
 ·rw [<- h.mine a c];exact ha
 ·have:=(h.theirs a (by omega) (fun k=>c (.inl k))).1
  rw [ha] at this;cases this
theorem Part.is (h:Part own n0 F s σ) {a:Nat} {o:Obj} (ha:s.objs.get a=some o):own a \/ n0 <= a:=by
 by_cases c:own a \/ n0 <= a
 ·exact c
 ·have:=(h.theirs a (by omega) (fun k=>c (.inl k))).1
  rw [ha] at this;cases this
theorem Part.cell (h:Part own n0 F s σ) {id off:Nat} {v:V} (hc:s.cell id off=some v):σ.cell id off=some v:=by
 unfold St.cell at hc ⊢
 split at hc
 ·rename_i hg;rw [h.get hg];exact hc
 ·cases hc
theorem Part.load (h:Part own n0 F s σ) {id off k:Nat} {vs:List V} (hc:s.load id off k=some vs):σ.load id off k=some vs:=by
 unfold St.load at hc ⊢
 split at hc
 ·rename_i hg;rw [h.get hg];exact hc
 ·cases hc
def entries (σ:St) (m:V):Option (List (V × V)):=match m with
 | .map none=>some []
 | .map (some r)=>match σ.objs.get r with | some (.map es)=>some es | _=>none
 |_=>none
theorem lookup_entries {kk:Kk} {z:V} {ok:Bool} {m k:Opd} {tm:T V} {σ:St}:readOp (.lookup kk z ok m k) tm σ=match entries σ (m.eval tm) with
  |none=>none
  |some es=>match mapFind kk (k.eval tm) es 0 with
   |none=>none
   |some r=>match r with
    |none=>some (if ok then .tuple [z,.bool false] else z)
    |some (_,v)=>some (if ok then .tuple [v,.bool true] else v):=rfl
theorem Part.ents (h:Part own n0 F s σ) {m:V} {es:List (V × V)} (hr:entries s m=some es):entries σ m=some es:=by
 cases m with
 |map r =>
  cases r with
  |none=>exact hr
  |some r =>
   simp only [entries] at hr ⊢
   split at hr
   ·rename_i hg;rw [h.get hg];exact hr
   ·cases hr
 |_=>cases hr
theorem Part.read (h:Part own n0 F s σ) {op:AOp} {tm:T V} {v:V} (hr:readOp op tm s=some v):readOp op tm σ=some v:=by
 cases op with
 |load agg n a =>
  simp only [readOp] at hr ⊢
  split at hr
  ·split at hr
   ·rename_i hagg
    rw [if_pos hagg]
    split at hr
    ·rename_i vs hl;rw [h.load hl];exact hr
    ·cases hr
   ·rename_i hagg
    rw [if_neg hagg];exact h.cell hr
  ·cases hr
 |sliceArr n esz x lo hi =>
  simp only [readOp] at hr ⊢
  split at hr
  ·split at hr
   ·split at hr
    ·rename_i hc
     rw [if_pos hc]
     split at hr
     ·rename_i hg;rw [h.get hg];exact hr
     ·cases hr
    ·cases hr
   ·cases hr
  ·cases hr
 |lenM x =>
  simp only [readOp] at hr ⊢
  split at hr
  ·exact hr
  ·split at hr
   ·rename_i hg;rw [h.get hg];exact hr
   ·cases hr
  ·cases hr
 |lookup kk z ok m k =>
  rw [lookup_entries] at hr ⊢
  cases hes:entries s (m.eval tm) with
  |none=>rw [hes] at hr;cases hr
  |some es=>rw [hes] at hr;rw [h.ents hes];exact hr
 |_=>simp only [readOp] at hr;cases hr
theorem Part.res (h:Part own n0 F s σ) {tm:T V}:∀ {rs:List Res} {vs:List V},readResults tm s rs=some vs -> readResults tm σ rs=some vs
 | [],vs,hr=>hr
 | .tmp t :: r,vs,hr=>by
  simp only [readResults] at hr ⊢
  split at hr
  ·rename_i l hl;rw [h.res hl];exact hr
  ·cases hr
 | .cell t agg n :: r,vs,hr=>by
  simp only [readResults] at hr ⊢
  split at hr
  ·split at hr
   ·cases hr
   ·rename_i l hl
    rw [h.res hl]
    simp only
    split at hr
    ·rename_i hagg
     rw [if_pos hagg]
     split at hr
     ·rename_i vs hl;rw [h.load hl];exact hr
     ·cases hr
    ·rename_i hagg
     rw [if_neg hagg]
     split at hr
     ·rename_i v hl;rw [h.cell hl];exact hr
     ·cases hr
  ·cases hr
theorem Part.new (h:Part own n0 F s σ) (o:Obj) (ho:o.grp=0):Part own n0 F (s.new o) (σ.new o) where
 next:=by simp only [St.new,h.next]
 le:=by simp only [St.new];have:=h.le;omega
 grps:=h.grps
 mine a ha:=by
  simp only [St.new,T.get_set,h.next]
  by_cases c:a=σ.next
  ·rw [if_pos c,if_pos c]
  ·rw [if_neg c,if_neg c];exact h.mine a ha
 theirs a h1 h2:=by
  have:=h.le
  simp only [St.new,T.get_set]
  rw [if_neg (by omega),if_neg (by have:=h.next;omega)]
  exact h.theirs a h1 h2
 sep a g o1 h1 h2 h3 h4 h5 h6 b o' hb hg:=by
  simp only [St.new,T.get_set] at hb
  by_cases c:b=s.next
  ·rw [if_pos c] at hb;simp at hb;subst hb;exact h5 (by rw [<- hg,ho])
  ·rw [if_neg c] at hb;exact h.sep a g o1 h1 h2 h3 h4 h5 h6 b o' hb hg
theorem Part.set (h:Part own n0 F s σ) {id:Nat} {o o':Obj} (hg:s.objs.get id=some o) (he:o'.grp=o.grp):Part own n0 F { s with objs:=s.objs.set id o' } { σ with objs:=σ.objs.set id o' } where
 next:=h.next
 le:=h.le
 grps:=h.grps
 mine a ha:=by
  simp only [T.get_set]
  by_cases c:a=id
  ·rw [if_pos c,if_pos c]
  ·rw [if_neg c,if_neg c];exact h.mine a ha
 theirs a h1 h2:=by
  have hid:=h.is hg
  have c:a≠id:=by rintro rfl;rcases hid with k | k;exact h2 k;omega
  simp only [T.get_set]
  rw [if_neg c,if_neg c]
  exact h.theirs a h1 h2
 sep a g o1 h1 h2 h3 h4 h5 h6 b o2 hb hgb:=by
  simp only [T.get_set] at hb
  by_cases c:b=id
  ·rw [if_pos c] at hb;simp at hb;subst hb;exact h.sep a g o1 h1 h2 h3 h4 h5 h6 id o hg (he▸hgb)
  ·rw [if_neg c] at hb;exact h.sep a g o1 h1 h2 h3 h4 h5 h6 b o2 hb hgb
def cutObj (i:Nat):Option Obj -> Option Obj
 |some (.cells ro g n z t)=>some (.cells ro g (min n i) z t)
 |o=>o
theorem cutObj_twice (i:Nat) (o:Option Obj):cutObj i (cutObj i o)=cutObj i o:=by
 cases o with
 |none=>rfl
 |some o=>cases o with
  |cells ro g n z t=>simp only [cutObj];congr 2;omega
  |_=>rfl
def cut1 (i m:Nat) (o:T Obj):T Obj:=match o.get m with
 |some (.cells ro g n z t)=>o.set m (.cells ro g (min n i) z t)
 |_=>o
theorem cut1_at (i m:Nat) (o:T Obj) (a:Nat):(cut1 i m o).get a=if a=m then cutObj i (o.get a) else o.get a:=by
 unfold cut1
 split
 ·rename_i ro g n z t hk
  rw [T.get_set]
  by_cases c:a=m
  ·rw [if_pos c,if_pos c,c,hk];rfl
  ·rw [if_neg c,if_neg c]
 ·rename_i hk
  by_cases c:a=m
  ·rw [if_pos c,c]
   cases hq:o.get m with
   |none=>rfl
   |some q=>cases q with
    |cells ro g n z t=>exact (hk _ _ _ _ _ hq).elim
    |_=>rfl
  ·rw [if_neg c]
theorem cutOthers_cons (x i m:Nat) (r:List Nat) (o:T Obj):cutOthers x i (m :: r) o=cutOthers x i r (if m=x then o else cut1 i m o):=rfl
theorem cutOthers_at (x i:Nat):∀ (l:List Nat) (o:T Obj) (a:Nat),(cutOthers x i l o).get a=if a∈l /\ a≠x then cutObj i (o.get a) else o.get a
 | [],o,a=>by simp [cutOthers]
 |m :: r,o,a=>by
  rw [cutOthers_cons,cutOthers_at x i r]
  by_cases hm:m=x
  ·rw [if_pos hm]
   by_cases c:a∈r /\ a≠x
   ·rw [if_pos c,if_pos ⟨by simp [c.1],c.2⟩]
   ·rw [if_neg c,if_neg]
    rintro ⟨k1,k2⟩
    rcases List.mem_cons.1 k1 with k | k
    ·exact k2 (k.trans hm)
    ·exact c ⟨k,k2⟩
  ·rw [if_neg hm,cut1_at]
   by_cases c:a=m
   ·subst c
    rw [if_pos rfl,if_pos (c:=a∈a :: r /\ a≠x) ⟨by simp,hm⟩]
    by_cases c:a∈r /\ a≠x
    ·rw [if_pos c,cutObj_twice]
    ·rw [if_neg c]
   ·rw [if_neg c]
    by_cases c2:a∈r /\ a≠x
    ·rw [if_pos c2,if_pos ⟨by simp [c2.1],c2.2⟩]
    ·rw [if_neg c2,if_neg]
     rintro ⟨k1,k2⟩
     rcases List.mem_cons.1 k1 with k | k
     ·exact c k
     ·exact c2 ⟨k,k2⟩
def kill1 (m:Nat) (o:T Obj):T Obj:=match o.get m with
 |some _=>o.set m .dead
 |none=>o
theorem kill1_at (m:Nat) (o:T Obj) (a:Nat):(kill1 m o).get a=if a=m then (o.get a).map (fun _=>Obj.dead) else o.get a:=by
 unfold kill1
 split
 ·rename_i hk
  rw [T.get_set]
  by_cases c:a=m
  ·rw [if_pos c,if_pos c,c,hk];rfl
  ·rw [if_neg c,if_neg c]
 ·rename_i hk
  by_cases c:a=m
  ·rw [if_pos c,c,hk];rfl
  ·rw [if_neg c]
theorem killAll_cons (m:Nat) (r:List Nat) (o:T Obj):killAll (m :: r) o=killAll r (kill1 m o):=rfl
theorem killAll_at:∀ (l:List Nat) (o:T Obj) (a:Nat),(killAll l o).get a=if a∈l then (o.get a).map (fun _=>.dead) else o.get a
 | [],o,a=>by simp [killAll]
 |m :: r,o,a=>by
  rw [killAll_cons,killAll_at r,kill1_at]
  by_cases c:a=m
  ·subst c
   rw [if_pos rfl,if_pos (c:=a∈a :: r) (by simp)]
   by_cases c:a∈r
   ·rw [if_pos c];cases o.get a <;> rfl
   ·rw [if_neg c]
  ·rw [if_neg c]
   by_cases c2:a∈r
   ·rw [if_pos c2,if_pos (by simp [c2])]
   ·rw [if_neg c2,if_neg (by simp [c,c2])]
theorem cutObj_grp {i:Nat} {o:Option Obj} {p:Obj} (h:cutObj i o=some p):∃ q,o=some q /\ q.grp=p.grp:=by
 cases o with
 |none=>cases h
 |some q=>cases q with
  |cells ro g n z t=>simp only [cutObj,Option.some.injEq] at h;subst h;exact ⟨_,rfl,rfl⟩
  |_=>simp only [cutObj,Option.some.injEq] at h;subst h;exact ⟨_,rfl,rfl⟩
theorem cutObj_dead {i:Nat} {o:Option Obj} (h:∀ p,o=some p -> p.live=true -> False):cutObj i o=o:=by
 cases o with
 |none=>rfl
 |some q=>cases q with
  |cells ro g n z t=>exact (h _ rfl rfl).elim
  |_=>rfl
theorem Part.of_at (h:Part own n0 F s σ) {s' σ':St} (hn:s'.next=σ'.next) (hl:s.next <= s'.next) (hgr:s'.grps=σ'.grps)
  (hm:∀ a,(own a \/ n0 <= a) -> s'.objs.get a=σ'.objs.get a) (ht:∀ a,a<n0 -> ¬ own a -> s'.objs.get a=none /\ σ'.objs.get a=σ.objs.get a)
  (hg:∀ b o',s'.objs.get b=some o' -> o'.grp≠0 -> (o'.grp=s.next /\ ∀ a,a∈(s'.grps.get s.next).getD [] -> own a \/ n0 <= a) \/ (∃ o,s.objs.get b=some o /\ o.grp=o'.grp) \/ ∃ c o,s.objs.get c=some o /\ o.grp=o'.grp)
  (hk:∀ g a,a∈(s'.grps.get g).getD [] -> a∈(s.grps.get g).getD [] \/ own a \/ n0 <= a):Part own n0 F s' σ' where
 next:=hn
 le:=Nat.le_trans h.le hl
 grps:=hgr
 mine:=hm
 theirs a h1 h2:=⟨(ht a h1 h2).1,(ht a h1 h2).2.trans (h.theirs a h1 h2).2⟩
 sep a g o h1 h2 h3 h4 h5 h6 b o' hb hgb:=by
  rcases hg b o' hb (by omega) with ⟨k1,k2⟩ | ⟨o2,k1,k2⟩ | ⟨c,o2,k1,k2⟩
  ·rw [hgb] at k1;subst k1
   rcases k2 a h6 with k | k
   ·exact h2 k
   ·omega
  ·rcases hk g a h6 with k | k | k
   ·exact h.sep a g o h1 h2 h3 h4 h5 k b o2 k1 (k2.trans hgb)
   ·exact h2 k
   ·omega
  ·rcases hk g a h6 with k | k | k
   ·exact h.sep a g o h1 h2 h3 h4 h5 k c o2 k1 (k2.trans hgb)
   ·exact h2 k
   ·omega
theorem Part.store (h:Part own n0 F s σ) {id off:Nat} {vs:List V} {s':St} (hs:s.store id off vs=some s'):∃ σ',σ.store id off vs=some σ' /\ Part own n0 F s' σ':=by
 unfold St.store at hs ⊢
 split at hs
 ·rename_i g n z t hg
  rw [h.get hg]
  simp only
  split at hs
  ·rename_i hc
   rw [if_pos hc]
   simp only [Option.some.injEq] at hs
   refine ⟨_,rfl,?_⟩
   subst hs
   have h1:Part own n0 F { s with objs:=s.objs.set id (.cells false g n z (putN t off vs)) } { σ with objs:=σ.objs.set id (.cells false g n z (putN t off vs)) }:=h.set hg rfl
   by_cases g0:g=0
   ·simp only [g0,if_true];rw [g0] at h1;exact h1
   ·simp only [g0,if_false]
    rw [<- h.grps]
    refine h1.of_at h.next (Nat.le_refl _) rfl ?_ ?_ ?_ ?_
    ·intro a ha
     simp only
     rw [cutOthers_at,cutOthers_at,h1.mine a ha]
    ·intro a h3 h4
     obtain ⟨k1,k2⟩:=h1.theirs a h3 h4
     simp only at k1 k2 ⊢
     rw [cutOthers_at,cutOthers_at,k1]
     refine ⟨by split <;> rfl,?_⟩
     split
     ·rename_i hmem
      refine cutObj_dead fun p hp hlive=>?_
      rw [k2] at hp
      refine h1.sep a g p h3 h4 hp hlive g0 hmem.1 id (.cells false g n z (putN t off vs)) ?_ rfl
      simp only [T.get_set,if_true]
     ·rfl
    ·intro b o' hb _
     simp only at hb
     rw [cutOthers_at] at hb
     right;left
     split at hb
     ·obtain ⟨q,hq,hgq⟩:=cutObj_grp hb
      exact ⟨q,hq,hgq⟩
     ·exact ⟨o',hb,rfl⟩
    ·intro g a ha;exact .inl ha
  ·cases hs
 ·cases hs
theorem Part.newCells (h:Part own n0 F s σ) (vs:List V):Part own n0 F (s.newCells vs) (σ.newCells vs):=h.new _ rfl
theorem Part.appendL (h:Part own n0 F s σ) {esz bytes k xl:Nat} {vs:List V} {xa:Option (Nat × Nat)} {v:V} {s':St} (hs:appendL s esz bytes k vs xa xl=some (v,s')):∃ σ',appendL σ esz bytes k vs xa xl=some (v,σ') /\ Part own n0 F s' σ':=by
 unfold AM.appendL at hs ⊢
 split at hs
 ·rename_i hc
  rw [if_pos hc]
  split at hs
  ·split at hs
   ·rename_i hx
    rw [if_pos hx]
    simp only [Option.some.injEq,Prod.mk.injEq] at hs
    obtain ⟨rfl,rfl⟩:=hs
    exact ⟨_,by rw [h.next],h.newCells vs⟩
   ·cases hs
  ·rename_i id off
   split at hs
   ·rename_i ho
    rw [if_pos ho]
    split at hs
    ·rename_i g n z t hg
     rw [h.get hg]
     simp only
     split at hs
     ·cases hs
     ·rename_i old hold
      simp only [Option.some.injEq,Prod.mk.injEq] at hs
      obtain ⟨rfl,rfl⟩:=hs
      refine ⟨_,by rw [h.next],?_⟩
      have hown:=h.is hg
      have hle:=h.le
      have hnx:=h.next
      rw [<- h.grps, <- h.next]
      have hnew:own s.next \/ n0 <= s.next:=.inr hle
      refine h.of_at (s':=_) (σ':=_) ?_ (Nat.le_succ _) ?_ ?_ ?_ ?_ ?_
      ·simp only
      ·simp only
      ·intro a ha
       simp only
       rw [T.get_set,T.get_set]
       by_cases c:a=s.next
       ·rw [if_pos c,if_pos c]
       ·rw [if_neg c,if_neg c,killAll_at,killAll_at,cutOthers_at,cutOthers_at,T.get_set,T.get_set,h.mine a ha]
      ·intro a h3 h4
       have hne:a≠s.next:=by omega
       have hne2:a≠id:=by rintro rfl;rcases hown with k | k;exact h4 k;omega
       obtain ⟨k1,k2⟩:=h.theirs a h3 h4
       simp only
       rw [T.get_set,T.get_set,if_neg hne,if_neg hne,killAll_at,killAll_at,cutOthers_at,cutOthers_at,T.get_set,T.get_set,if_neg hne2,if_neg hne2,k1]
       generalize hL1:(if g=0 then [] else (s.grps.get g).getD [])=L1
       generalize hL2:(if g=0 then [] else ((s.grps.get g).getD []).drop 8)=L2
       have hm1:∀ p,a∈L1 -> σ.objs.get a=some p -> p.live=true -> False:=by
        intro p hmem hp hlive
        by_cases g0:g=0
        ·rw [if_pos g0] at hL1;subst hL1;exact List.not_mem_nil hmem
        ·rw [if_neg g0] at hL1;subst hL1
         exact h.sep a g p h3 h4 (k2▸hp) hlive g0 hmem id _ hg rfl
       have hm2:a∈L2 -> a∈L1:=by
        intro hmem
        by_cases g0:g=0
        ·rw [if_pos g0] at hL2;subst hL2;exact (List.not_mem_nil hmem).elim
        ·rw [if_neg g0] at hL1 hL2;subst hL1 hL2;exact List.mem_of_mem_drop hmem
       refine ⟨?_,?_⟩
       ·by_cases c1:a∈L1 /\ a≠id
        ·rw [if_pos c1];by_cases c2:a∈L2
         ·rw [if_pos c2];rfl
         ·rw [if_neg c2];rfl
        ·rw [if_neg c1];by_cases c2:a∈L2
         ·rw [if_pos c2];rfl
         ·rw [if_neg c2]
       ·have hcut:(if a∈L1 /\ a≠id then cutObj (xl*esz) (σ.objs.get a) else σ.objs.get a)=σ.objs.get a:=by
         by_cases c1:a∈L1 /\ a≠id
         ·rw [if_pos c1];exact cutObj_dead fun p hp hlive=>hm1 p c1.1 hp hlive
         ·rw [if_neg c1]
        rw [hcut]
        by_cases c2:a∈L2
        ·rw [if_pos c2]
         cases hq:σ.objs.get a with
         |none=>rfl
         |some p =>
          cases hl:p.live with
          |true=>exact (hm1 p (hm2 c2) hq hl).elim
          |false=>cases p with
           |dead=>rfl
           |_=>cases hl
        ·rw [if_neg c2]
      ·intro b o' hb hgb
       simp only at hb
       rw [T.get_set] at hb
       by_cases c:b=s.next
       ·rw [if_pos c] at hb
        simp only [Option.some.injEq] at hb;subst hb
        simp only [Obj.grp] at hgb ⊢
        by_cases g0:g=0
        ·left
         simp only [g0,if_true]
         refine ⟨trivial,fun a ha=>?_⟩
         rw [T.get_set,if_pos rfl] at ha
         simp only [Option.getD_some,List.mem_cons,List.not_mem_nil,or_false] at ha
         rcases ha with rfl | rfl
         ·exact hnew
         ·exact hown
        ·right;right
         simp only [g0,if_false]
         exact ⟨id,_,hg,rfl⟩
       ·rw [if_neg c,killAll_at] at hb
        generalize hL1:(if g=0 then [] else (s.grps.get g).getD [])=L1 at hb
        generalize hL2:(if g=0 then [] else ((s.grps.get g).getD []).drop 8)=L2 at hb
        by_cases c3:b∈L2
        ·rw [if_pos c3] at hb
         simp only [Option.map_eq_some_iff] at hb
         obtain ⟨q,_,rfl⟩:=hb
         exact (hgb rfl).elim
        ·rw [if_neg c3,cutOthers_at,T.get_set] at hb
         have:∃ q,(if b=id then some (Obj.cells false (if g=0 then s.next else g) (min n (xl*esz)) z t) else s.objs.get b)=some q /\ q.grp=o'.grp:=by
          by_cases c4:b∈L1 /\ b≠id
          ·rw [if_pos c4] at hb;exact cutObj_grp hb
          ·rw [if_neg c4] at hb;exact ⟨o',hb,rfl⟩
         obtain ⟨q,hq,hqg⟩:=this
         by_cases c2:b=id
         ·rw [if_pos c2] at hq
          simp only [Option.some.injEq] at hq;subst hq
          simp only [Obj.grp] at hqg
          by_cases g0:g=0
          ·left
           rw [if_pos g0] at hqg
           refine ⟨hqg.symm,fun a ha=>?_⟩
           simp only [g0,if_true] at ha
           rw [T.get_set,if_pos rfl] at ha
           simp only [Option.getD_some,List.mem_cons,List.not_mem_nil,or_false] at ha
           rcases ha with rfl | rfl
           ·exact hnew
           ·exact hown
          ·right;right
           rw [if_neg g0] at hqg
           exact ⟨id,_,hg,hqg⟩
         ·rw [if_neg c2] at hq
          exact .inr (.inl ⟨q,hq,hqg⟩)
      ·intro g' a ha
       simp only at ha
       rw [T.get_set] at ha
       by_cases c:g'=(if g=0 then s.next else g)
       ·rw [if_pos c] at ha
        simp only [Option.getD_some,List.mem_cons] at ha
        rcases ha with rfl | ha
        ·exact .inr hnew
        ·by_cases g0:g=0
         ·rw [if_pos g0] at ha
          simp only [List.mem_cons,List.not_mem_nil,or_false] at ha
          subst ha;exact .inr hown
         ·rw [if_neg g0] at ha c
          subst c
          exact .inl (List.mem_of_mem_take ha)
       ·rw [if_neg c] at ha;exact .inl ha
    ·cases hs
   ·cases hs
 ·cases hs
theorem Part.append (h:Part own n0 F s σ) {esz bytes:Nat} {x y v:V} {s':St} (hs:appendV s esz bytes x y=some (v,s')):∃ σ',appendV σ esz bytes x y=some (v,σ') /\ Part own n0 F s' σ':=by
 unfold appendV at hs ⊢
 split at hs
 ·split at hs
  ·cases hs
  ·rename_i h1
   rw [if_neg h1]
   split at hs
   ·rename_i h2
    rw [if_pos h2]
    simp only [Option.some.injEq,Prod.mk.injEq] at hs
    obtain ⟨rfl,rfl⟩:=hs
    exact ⟨σ,rfl,h⟩
   ·rename_i h2
    rw [if_neg h2]
    split at hs
    ·cases hs
    ·split at hs
     ·cases hs
     ·rename_i hl
      simp only [h.load hl]
      exact h.appendL hs
 ·cases hs
theorem Part.appendZ (h:Part own n0 F s σ) {esz bytes:Nat} {z:List V} {x y v:V} {s':St} (hs:appendZV s esz bytes z x y=some (v,s')):∃ σ',appendZV σ esz bytes z x y=some (v,σ') /\ Part own n0 F s' σ':=by
 unfold appendZV at hs ⊢
 split at hs
 ·split at hs
  ·cases hs
  ·rename_i h1
   rw [if_neg h1]
   split at hs
   ·rename_i h2
    rw [if_pos h2]
    exact h.appendL hs
   ·cases hs
 ·cases hs
def copySrc (σ:St) (esz xl:Nat) (ya:Option (Nat × Nat)) (yl:Nat):Option (List V) :=
 if min yl xl*esz=0 then some [] else match ya with | none=>none | some (id,off)=>σ.load id off (min yl xl*esz)
theorem copy_eq {esz:Nat} {x y:Opd} {tm:T V} {σ:St}:writeOp (.copy esz x y) tm σ=match x.eval tm,y.eval tm with
  | .slice xa xl _,.slice ya yl _ =>
   match copySrc σ esz xl ya yl,xa with
   |some [],_=>some (.int .i64 (min yl xl:Nat),σ)
   |some vs,some (id,off)=>match σ.store id off vs with | some σ=>some (.int .i64 (min yl xl:Nat),σ) | none=>none
   |_,_=>none
  |_,_=>none:=rfl
theorem Part.csrc (h:Part own n0 F s σ) {esz xl yl:Nat} {ya:Option (Nat × Nat)} {r:List V} (hr:copySrc s esz xl ya yl=some r):copySrc σ esz xl ya yl=some r:=by
 unfold copySrc at hr ⊢
 split at hr
 ·rename_i hz;rw [if_pos hz];exact hr
 ·rename_i hz;rw [if_neg hz]
  split at hr
  ·cases hr
  ·exact h.load hr
theorem Part.write (h:Part own n0 F s σ) {op:AOp} {tm:T V} {v:V} {s':St} (hs:writeOp op tm s=some (v,s')):∃ σ',writeOp op tm σ=some (v,σ') /\ Part own n0 F s' σ':=by
 cases op with
 |alloc z =>
  simp only [writeOp,Option.some.injEq,Prod.mk.injEq] at hs ⊢
  obtain ⟨rfl,rfl⟩:=hs
  exact ⟨_,⟨by rw [h.next],rfl⟩,h.new _ rfl⟩
 |box n x =>
  simp only [writeOp] at hs ⊢
  split at hs
  ·rename_i hc
   rw [if_pos hc]
   simp only [Option.some.injEq,Prod.mk.injEq] at hs ⊢
   obtain ⟨rfl,rfl⟩:=hs
   exact ⟨_,⟨by rw [h.next],rfl⟩,h.newCells _⟩
  ·cases hs
 |mkSlice len esz z ps =>
  simp only [writeOp] at hs ⊢
  split at hs
  ·simp only [Option.some.injEq,Prod.mk.injEq] at hs ⊢
   obtain ⟨rfl,rfl⟩:=hs
   exact ⟨_,⟨by rw [h.next],rfl⟩,h.newCells _⟩
  ·cases hs
 |store n a x =>
  simp only [writeOp] at hs ⊢
  split at hs
  ·split at hs
   ·rename_i hc
    rw [if_pos hc]
    split at hs
    ·rename_i hk
     simp only [Option.some.injEq,Prod.mk.injEq] at hs
     obtain ⟨rfl,rfl⟩:=hs
     obtain ⟨σ',e1,e2⟩:=h.store hk
     exact ⟨σ',by simp only [e1],e2⟩
    ·cases hs
   ·cases hs
  ·cases hs
 |makeSlice esz bytes z l c =>
  simp only [writeOp] at hs ⊢
  split at hs
  ·split at hs
   ·rename_i hc
    rw [if_pos hc]
    simp only [Option.some.injEq,Prod.mk.injEq] at hs ⊢
    obtain ⟨rfl,rfl⟩:=hs
    exact ⟨_,⟨by rw [h.next],rfl⟩,h.new _ rfl⟩
   ·cases hs
  ·cases hs
 |append esz bytes x y=>exact h.append hs
 |appendZ esz bytes z x y=>exact h.appendZ hs
 |copy esz x y =>
  rw [copy_eq] at hs ⊢
  cases hx:x.eval tm with
  |slice xa xl xe=>cases hy:y.eval tm with
   |slice ya yl ye =>
    rw [hx,hy] at hs
    simp only at hs ⊢
    cases hc:copySrc s esz xl ya yl with
    |none=>rw [hc] at hs;cases hs
    |some vs =>
     rw [hc] at hs
     rw [h.csrc hc]
     cases vs with
     |nil =>
      simp only [Option.some.injEq,Prod.mk.injEq] at hs ⊢
      obtain ⟨rfl,rfl⟩:=hs
      exact ⟨σ,⟨rfl,rfl⟩,h⟩
     |cons v0 vs=>cases xa with
      |none=>cases hs
      |some q =>
       obtain ⟨id,off⟩:=q
       simp only at hs ⊢
       split at hs
       ·rename_i hk
        simp only [Option.some.injEq,Prod.mk.injEq] at hs
        obtain ⟨rfl,rfl⟩:=hs
        obtain ⟨σ',e1,e2⟩:=h.store hk
        exact ⟨σ',by simp only [e1],e2⟩
       ·cases hs
   |_=>rw [hx,hy] at hs;cases hs
  |_=>rw [hx] at hs;cases hs
 |clearS z x =>
  simp only [writeOp] at hs ⊢
  split at hs
  ·simp only [Option.some.injEq,Prod.mk.injEq] at hs ⊢
   obtain ⟨rfl,rfl⟩:=hs
   exact ⟨σ,⟨rfl,rfl⟩,h⟩
  ·split at hs
   ·rename_i hc
    rw [if_pos hc]
    simp only [Option.some.injEq,Prod.mk.injEq] at hs ⊢
    obtain ⟨rfl,rfl⟩:=hs
    exact ⟨σ,⟨rfl,rfl⟩,h⟩
   ·rename_i hc
    rw [if_neg hc]
    split at hs
    ·rename_i hk
     simp only [Option.some.injEq,Prod.mk.injEq] at hs
     obtain ⟨rfl,rfl⟩:=hs
     obtain ⟨σ',e1,e2⟩:=h.store hk
     exact ⟨σ',by simp only [e1],e2⟩
    ·cases hs
  ·cases hs
 |clearM x =>
  simp only [writeOp] at hs ⊢
  split at hs
  ·simp only [Option.some.injEq,Prod.mk.injEq] at hs ⊢
   obtain ⟨rfl,rfl⟩:=hs
   exact ⟨σ,⟨rfl,rfl⟩,h⟩
  ·split at hs
   ·rename_i hg
    rw [h.get hg]
    simp only [Option.some.injEq,Prod.mk.injEq] at hs ⊢
    obtain ⟨rfl,rfl⟩:=hs
    exact ⟨_,⟨rfl,rfl⟩,h.set hg rfl⟩
   ·cases hs
  ·cases hs
 |makeMap =>
  simp only [writeOp,Option.some.injEq,Prod.mk.injEq] at hs ⊢
  obtain ⟨rfl,rfl⟩:=hs
  exact ⟨_,⟨by rw [h.next],rfl⟩,h.new _ rfl⟩
 |mapUpdate kk m k v =>
  simp only [writeOp] at hs ⊢
  split at hs
  ·split at hs
   ·rename_i hg
    rw [h.get hg]
    simp only
    split at hs
    ·cases hs
    ·simp only [Option.some.injEq,Prod.mk.injEq] at hs ⊢
     obtain ⟨rfl,rfl⟩:=hs
     exact ⟨_,⟨rfl,rfl⟩,h.set hg rfl⟩
    ·simp only [Option.some.injEq,Prod.mk.injEq] at hs ⊢
     obtain ⟨rfl,rfl⟩:=hs
     exact ⟨_,⟨rfl,rfl⟩,h.set hg rfl⟩
   ·cases hs
  ·cases hs
 |delete kk m k =>
  simp only [writeOp] at hs ⊢
  split at hs
  ·split at hs
   ·rename_i hg
    rw [h.get hg]
    simp only
    split at hs
    ·cases hs
    ·simp only [Option.some.injEq,Prod.mk.injEq] at hs ⊢
     obtain ⟨rfl,rfl⟩:=hs
     exact ⟨_,⟨rfl,rfl⟩,h.set hg rfl⟩
    ·simp only [Option.some.injEq,Prod.mk.injEq] at hs ⊢
     obtain ⟨rfl,rfl⟩:=hs
     exact ⟨_,⟨rfl,rfl⟩,h.set hg rfl⟩
   ·cases hs
  ·cases hs
 |_=>simp only [writeOp] at hs;cases hs
theorem partSim (own:Nat -> Prop) (n0:Nat) (F:Nat -> Option Obj):OpSim (Part own n0 F) where
 read h e:=h.read e
 write h e:=h.write e
 new ho h:=h.new _ ho
 next h:=h.next
 get h e:=h.get e
 res h e:=h.res e
theorem numsAt_sim {s σ:St} (h:∀ {id off:Nat} {v:V},s.cell id off=some v -> σ.cell id off=some v) {id:Nat}:∀ {l:List Int} {off:Nat},numsAt s id off l=true -> numsAt σ id off l=true
 | [],_,_=>rfl
 |n :: r,off,hk=>by
  simp only [numsAt,Bool.and_eq_true] at hk ⊢
  refine ⟨?_,numsAt_sim h hk.2⟩
  have:=hk.1
  split at this
  ·rename_i v hv;rw [h hv];exact this
  ·cases this
theorem rowsAt_sim {s σ:St} (h:∀ {id off:Nat} {v:V},s.cell id off=some v -> σ.cell id off=some v) {l:List (Nat × List Int)} (hk:rowsAt s l=true):rowsAt σ l=true:=by
 unfold rowsAt at hk ⊢
 rw [List.all_eq_true] at hk ⊢
 exact fun p hp=>numsAt_sim h (hk p hp)
theorem partExt (own:Nat -> Prop) (n0:Nat) (F:Nat -> Option Obj):ExtSim (Part own n0 F):=by
 intro e xs s σ v s' h he
 unfold extCall at he ⊢
 split at he
 ·split at he
  ·rename_i hc
   rw [h.cell hc]
   simp only [Option.map_eq_some_iff] at he ⊢
   obtain ⟨s1,h1,h2⟩:=he
   simp only [Prod.mk.injEq] at h2;obtain ⟨rfl,rfl⟩:=h2
   obtain ⟨σ',e1,e2⟩:=h.store h1
   exact ⟨σ',⟨σ',e1,rfl⟩,e2⟩
  ·cases he
 ·split at he
  ·rename_i hc
   rw [h.cell hc]
   simp only [Option.map_eq_some_iff] at he ⊢
   obtain ⟨s1,h1,h2⟩:=he
   simp only [Prod.mk.injEq] at h2;obtain ⟨rfl,rfl⟩:=h2
   obtain ⟨σ',e1,e2⟩:=h.store h1
   exact ⟨σ',⟨σ',e1,rfl⟩,e2⟩
  ·cases he
 ·split at he
  ·rename_i hc
   rw [h.cell hc]
   simp only [Option.some.injEq,Prod.mk.injEq] at he ⊢
   obtain ⟨rfl,rfl⟩:=he
   exact ⟨σ,⟨rfl,rfl⟩,h⟩
  ·cases he
 ·split at he
  ·rename_i hc
   rw [h.cell hc]
   simp only [Option.map_eq_some_iff] at he ⊢
   obtain ⟨s1,h1,h2⟩:=he
   simp only [Prod.mk.injEq] at h2;obtain ⟨rfl,rfl⟩:=h2
   obtain ⟨σ',e1,e2⟩:=h.store h1
   exact ⟨σ',⟨σ',e1,rfl⟩,e2⟩
  ·cases he
 ·split at he
  ·rename_i hc
   simp only [Option.some.injEq,Prod.mk.injEq] at he
   obtain ⟨rfl,rfl⟩:=he
   exact ⟨σ,by rw [if_pos (rowsAt_sim (fun hc=>h.cell hc) hc)],h⟩
  ·cases he
 ·cases he
def T.keep {α:Type} (p:Nat -> Bool) (t:T α):T α :=
 T.rec (motive:=fun _=>(Nat -> Bool) -> T α) (fun _=>.nil) (fun v _ _ kl kr p=>.node (if p 0=true then v else none) (kl fun k=>p (2*k+1)) (kr fun k=>p (2*k+2))) t p
theorem T.keep_nil {α:Type} (p:Nat -> Bool):T.keep p (T.nil:T α)=.nil:=rfl
theorem T.keep_node {α:Type} (p:Nat -> Bool) (v:Option α) (l r:T α):T.keep p (T.node v l r)=.node (if p 0=true then v else none) (T.keep (fun k=>p (2*k+1)) l) (T.keep (fun k=>p (2*k+2)) r):=rfl
theorem T.get_keep {α:Type}:∀ (t:T α) (p:Nat -> Bool) (i:Nat),(T.keep p t).get i=if p i=true then t.get i else none:=by
 intro t
 induction t with
 |nil=>intro p i;rw [T.keep_nil,T.get_nil];split <;> rfl
 |node v l r ihl ihr =>
  intro p i
  rw [T.keep_node]
  rcases nat_parts i with rfl | ⟨k,rfl⟩ | ⟨k,rfl⟩
  ·rw [T.get_zero,T.get_zero]
  ·rw [T.get_odd,T.get_odd,ihl]
  ·rw [T.get_even,T.get_even,ihr]
open Classical in
def St.keep (σ:St) (own:Nat -> Prop):St:={ σ with objs:=σ.objs.keep fun a=>decide (own a) }
def Apart (own:Nat -> Prop) (σ:St):Prop :=
 ∀ a g o, ¬ own a -> σ.objs.get a=some o -> o.live=true -> g≠0 -> a∈(σ.grps.get g).getD [] -> ∀ b o',own b -> σ.objs.get b=some o' -> o'.grp=g -> False
theorem St.keep_get (σ:St) (own:Nat -> Prop) (a:Nat):(own a -> (σ.keep own).objs.get a=σ.objs.get a) /\ (¬ own a -> (σ.keep own).objs.get a=none):=by
 unfold St.keep
 simp only [T.get_keep]
 constructor
 ·intro h;simp [h]
 ·intro h;simp [h]
theorem part_keep {own:Nat -> Prop} {σ:St} (hlt:∀ a,own a -> a<σ.next) (hf:∀ a,σ.next <= a -> σ.objs.get a=none) (ha:Apart own σ):Part own σ.next σ.objs.get (σ.keep own) σ where
 next:=rfl
 le:=Nat.le_refl _
 grps:=rfl
 mine a h:=by
  by_cases c:own a
  ·exact (σ.keep_get own a).1 c
  ·rw [(σ.keep_get own a).2 c,hf a (by rcases h with h | h;exact (c h).elim;exact h)]
 theirs a _ h:=⟨(σ.keep_get own a).2 h,rfl⟩
 sep a g o h1 h2 h3 h4 h5 h6 b o' hb hg:=by
  by_cases c:own b
  ·rw [(σ.keep_get own b).1 c] at hb
   exact ha a g o h2 h3 h4 h5 h6 b o' c hb hg
  ·rw [(σ.keep_get own b).2 c] at hb;cases hb
theorem Runs.frame {Γ Γ':T AF} {M:List Memo} {own:Nat -> Prop} {σ:St} {g:FuncId} {xs:List V} {Q:V -> St -> Prop} (hΓ:∀ g x,Γ.get g=some x -> Γ'.get g=some x) (hM:∀ m∈M,Γ.get m.g=none)
  (hlt:∀ a,own a -> a<σ.next) (hf:∀ a,σ.next <= a -> σ.objs.get a=none) (ha:Apart own σ) (h:Runs Γ [] g xs (σ.keep own) Q) :
  Runs Γ' M g xs σ fun v σ'=>∃ s',Q v s' /\ Part own σ.next σ.objs.get s' σ':=by
 obtain ⟨v,s',hq,f0,h0⟩:=h
 obtain ⟨σ',e1,e2⟩:=callF_sim (partSim own σ.next σ.objs.get) (partExt _ _ _) hΓ hM f0 f0 (Nat.le_refl _) _ _ _ _ _ _ (part_keep hlt hf ha) (h0 f0 (Nat.le_refl _))
 refine ⟨v,σ',⟨s',hq,e2⟩,f0,fun f hle=>?_⟩
 obtain ⟨σ2,e3,e4⟩:=callF_sim (partSim own σ.next σ.objs.get) (partExt _ _ _) hΓ hM f0 f hle _ _ _ _ _ _ (part_keep hlt hf ha) (h0 f0 (Nat.le_refl _))
 rw [e3]
 have:=callF_more hle e1
 rw [e3] at this
 rw [Option.some.inj this]
end
end AM
namespace AM
open Go
noncomputable section
variable {Γ:T AF} {M:List Memo}
def mk {α:Sort _} (a:α):α:=a
theorem mk_eq {α:Sort _} (a:α):mk a=a:=Eq.trans (Eq.refl a) (Eq.refl a)
def onSome {α:Type} (o:Option α) (K:α -> Prop):Prop:=match o with
 |some a=>K a
 |none=>False
theorem onSome_some {α:Type} {a:α} {K:α -> Prop}:onSome (some a) K=K a:=rfl
@[congr] theorem onSome_congr {α:Type} {o o':Option α} {K:α -> Prop} (h:mk o=o'):onSome o K=onSome o' K:=by rw [<- h];rfl
def cnd (t:Bool) (p q:Prop):Prop:=if t=true then p else q
theorem cnd_true {p q:Prop}:cnd true p q=p:=rfl
theorem cnd_false {p q:Prop}:cnd false p q=q:=rfl
@[congr] theorem cnd_congr {t t':Bool} {p q:Prop} (h:mk t=t'):cnd t p q=cnd t' p q:=by rw [<- h];rfl
def asBool (v:V) (K:Bool -> Prop):Prop:=match v with
 | .bool b=>K b
 |_=>False
theorem asBool_bool {b:Bool} {K:Bool -> Prop}:asBool (.bool b) K=K b:=rfl
@[congr] theorem asBool_congr {v v':V} {K:Bool -> Prop} (h:mk v=v'):asBool v K=asBool v' K:=by rw [<- h];rfl
def asInt (v:V) (K:IntKind -> Int -> Prop):Prop:=match v with
 | .int k n=>K k n
 |_=>False
theorem asInt_int {k:IntKind} {n:Int} {K:IntKind -> Int -> Prop}:asInt (.int k n) K=K k n:=rfl
@[congr] theorem asInt_congr {v v':V} {K:IntKind -> Int -> Prop} (h:mk v=v'):asInt v K=asInt v' K:=by rw [<- h];rfl
def asPtr (v:V) (K:Nat -> Nat -> Prop):Prop:=match v with
 | .ptr (some p)=>K p.1 p.2
 |_=>False
theorem asPtr_ptr {a o:Nat} {K:Nat -> Nat -> Prop}:asPtr (.ptr (some (a,o))) K=K a o:=rfl
@[congr] theorem asPtr_congr {v v':V} {K:Nat -> Nat -> Prop} (h:mk v=v'):asPtr v K=asPtr v' K:=by rw [<- h];rfl
def asSlice (v:V) (K:Option (Nat × Nat) -> Nat -> Nat -> Prop):Prop:=match v with
 | .slice a l e=>K a l e
 |_=>False
theorem asSlice_slice {a:Option (Nat × Nat)} {l e:Nat} {K:Option (Nat × Nat) -> Nat -> Nat -> Prop}:asSlice (.slice a l e) K=K a l e:=rfl
@[congr] theorem asSlice_congr {v v':V} {K:Option (Nat × Nat) -> Nat -> Nat -> Prop} (h:mk v=v'):asSlice v K=asSlice v' K:=by rw [<- h];rfl
def asAgg (v:V) (K:List V -> Prop):Prop:=match v with
 | .agg l=>K l
 |_=>False
theorem asAgg_agg {l:List V} {K:List V -> Prop}:asAgg (.agg l) K=K l:=rfl
@[congr] theorem asAgg_congr {v v':V} {K:List V -> Prop} (h:mk v=v'):asAgg v K=asAgg v' K:=by rw [<- h];rfl
def asTuple (v:V) (K:List V -> Prop):Prop:=match v with
 | .tuple l=>K l
 |_=>False
theorem asTuple_tuple {l:List V} {K:List V -> Prop}:asTuple (.tuple l) K=K l:=rfl
@[congr] theorem asTuple_congr {v v':V} {K:List V -> Prop} (h:mk v=v'):asTuple v K=asTuple v' K:=by rw [<- h];rfl
def asFunc (v:V) (K:FuncId -> List V -> List V -> Prop):Prop:=match v with
 | .func f a c=>K f a c
 |_=>False
theorem asFunc_func {f:FuncId} {a c:List V} {K:FuncId -> List V -> List V -> Prop}:asFunc (.func f a c) K=K f a c:=rfl
@[congr] theorem asFunc_congr {v v':V} {K:FuncId -> List V -> List V -> Prop} (h:mk v=v'):asFunc v K=asFunc v' K:=by rw [<- h];rfl
def asNN (v:V) (K:V -> Prop):Prop:=match v with
 | .ptr (some a)=>K (.ptr (some a))
 | .func f a b=>K (.func f a b)
 |_=>False
theorem asNN_ptr {a:Nat × Nat} {K:V -> Prop}:asNN (.ptr (some a)) K=K (.ptr (some a)):=rfl
@[congr] theorem asNN_congr {v v':V} {K:V -> Prop} (h:mk v=v'):asNN v K=asNN v' K:=by rw [<- h];rfl
section
variable {k k':IntKind} {a b:Int}
theorem bin_add:bin .add (.int k a) (.int k b)=some (.int k (k.wrap (a+b))):=by simp [bin,binI]
theorem bin_sub:bin .sub (.int k a) (.int k b)=some (.int k (k.wrap (a-b))):=by simp [bin,binI]
theorem bin_mul:bin .mul (.int k a) (.int k b)=some (.int k (k.wrap (a*b))):=by simp [bin,binI]
theorem bin_quo (h:b≠0):bin .quo (.int k a) (.int k b)=some (.int k (k.wrap (a.tdiv b))):=by simp [bin,binI,h]
theorem bin_rem (h:b≠0):bin .rem (.int k a) (.int k b)=some (.int k (a.tmod b)):=by simp [bin,binI,h]
def andI (k:IntKind) (a b:Int):Int:=k.wrap (BitVec.ofInt k.bits a &&& BitVec.ofInt k.bits b).toNat
def orI (k:IntKind) (a b:Int):Int:=k.wrap (BitVec.ofInt k.bits a ||| BitVec.ofInt k.bits b).toNat
def xorI (k:IntKind) (a b:Int):Int:=k.wrap (BitVec.ofInt k.bits a ^^^ BitVec.ofInt k.bits b).toNat
def andNotI (k:IntKind) (a b:Int):Int:=k.wrap (BitVec.ofInt k.bits a &&& ~~~ BitVec.ofInt k.bits b).toNat
def shlI (k:IntKind) (a b:Int):Int:=k.wrap (a*2^(min b.toNat k.bits))
def shrI (k:IntKind) (a b:Int):Int:=a.fdiv (2^(min b.toNat k.bits))
theorem bin_and:bin .and (.int k a) (.int k b)=some (.int k (andI k a b)):=by simp [bin,binI,andI]
theorem bin_or:bin .or (.int k a) (.int k b)=some (.int k (orI k a b)):=by simp [bin,binI,orI]
theorem bin_xor:bin .xor (.int k a) (.int k b)=some (.int k (xorI k a b)):=by simp [bin,binI,xorI]
theorem bin_andNot:bin .andNot (.int k a) (.int k b)=some (.int k (andNotI k a b)):=by simp [bin,binI,andNotI]
theorem bin_eql:bin .eql (.int k a) (.int k b)=some (.bool (decide (a=b))):=by simp [bin,binI,BEq.beq]
theorem bin_neq:bin .neq (.int k a) (.int k b)=some (.bool (decide (a≠b))):=by simp [bin,binI,bne,BEq.beq]
theorem bin_lss:bin .lss (.int k a) (.int k b)=some (.bool (decide (a<b))):=by simp [bin,binI]
theorem bin_leq:bin .leq (.int k a) (.int k b)=some (.bool (decide (a <= b))):=by simp [bin,binI]
theorem bin_gtr:bin .gtr (.int k a) (.int k b)=some (.bool (decide (b<a))):=by simp [bin,binI]
theorem bin_geq:bin .geq (.int k a) (.int k b)=some (.bool (decide (b <= a))):=by simp [bin,binI]
theorem bin_shl (h:0 <= b):bin .shl (.int k a) (.int k' b)=some (.int k (shlI k a b)):=by simp [bin,shiftI,shlI,show ¬ b<0 by omega]
theorem bin_shr (h:0 <= b):bin .shr (.int k a) (.int k' b)=some (.int k (shrI k a b)):=by simp [bin,shiftI,shrI,show ¬ b<0 by omega]
end
@[congr] theorem aw_congr {c:AC} {fr fr':Fr} {σ σ':St} {K:Post} (h:mk fr=fr') (k:σ=σ'):wp Γ M c fr σ K=wp Γ M c fr' σ' K:=by rw [<- h,k];rfl
@[congr] theorem wpOps_congr {c:List AOper} {fr fr':Fr} {σ σ':St} {K:Fr -> St -> Prop} (h:mk fr=fr') (k:σ=σ'):wpOps Γ M c fr σ K=wpOps Γ M c fr' σ' K:=by rw [<- h,k];rfl
@[congr] theorem wpA_congr {c:List DOper} {n:Nat} {fr fr':Fr} {σ σ':St} {tr tr':List (T V × V)} {es es':List (Dfs × St)} {K:Fr -> List (T V × V) -> List (Dfs × St) -> Prop} (h:mk fr=fr') (k:σ=σ') (ht:tr=tr') (he:es=es'):wpA Γ M c n fr σ tr es K=wpA Γ M c n fr' σ' tr' es' K:=by rw [<- h,k,ht,he];rfl
@[congr] theorem wpOp_congr {op:AOp} {tm tm':T V} {ds ds':Dfs} {σ σ':St} {K:V -> Dfs -> St -> Prop} (h:mk tm=tm') (h2:ds=ds') (k:σ=σ'):wpOp Γ M op tm ds σ K=wpOp Γ M op tm' ds' σ' K:=by rw [<- h,h2,k];rfl
@[congr] theorem runs_congr {g:FuncId} {xs xs':List V} {σ σ':St} {Q:V -> St -> Prop} (h:mk xs=xs') (k:σ=σ'):Runs Γ M g xs σ Q=Runs Γ M g xs' σ' Q:=by rw [<- h,k];rfl
theorem aw_skip {fr:Fr} {σ:St} {K:Post}:wp Γ M .skip fr σ K=K .normal fr σ:=rfl
theorem aw_region {ops:List AOper} {fr:Fr} {σ:St} {K:Post}:wp Γ M (.region ops) fr σ K=wpOps Γ M ops fr σ fun fr σ=>K .normal fr σ:=rfl
theorem aw_regionR {d:Option Nat} {ops:List AOper} {fr:Fr} {σ:St} {K:Post}:wp Γ M (.regionR d ops) fr σ K=wpOps Γ M ops ⟨putD fr.tmps d .nilIface,fr.defers⟩ σ fun fr σ=>K .normal fr σ:=rfl
theorem aw_draw {ops:List DOper} {fr:Fr} {σ:St} {K:Post}:wp Γ M (.draw ops) fr σ K=wpA Γ M ops σ.next fr (hoist ops σ) [] [] fun fr' tr es=>checkD ((fr.defers,hoist ops σ) :: rev es []) ops σ.next (rev tr [])=true /\ K .normal fr' (lastSt (hoist ops σ) (rev es [])):=by
 rw [wpA_eq]
 simp only [rev_eq,List.append_nil,List.reverse_reverse]
 rfl
theorem rev_nil {α:Type} {acc:List α}:rev [] acc=acc:=rfl
theorem rev_cons {α:Type} {a:α} {l acc:List α}:rev (a :: l) acc=rev l (a :: acc):=rfl
theorem aw_seq {a b:AC} {fr:Fr} {σ:St} {K:Post}:wp Γ M (.seq a b) fr σ K=wp Γ M a fr σ fun ex fr σ=>match ex with
  | .normal=>wp Γ M b fr σ K
  |ex=>K ex fr σ:=rfl
theorem aw_cond {c:Opd} {a b:AC} {fr:Fr} {σ:St} {K:Post}:wp Γ M (.cond c a b) fr σ K=asBool (c.eval fr.tmps) fun t=>cnd t (wp Γ M a fr σ K) (wp Γ M b fr σ K):=rfl
theorem aw_block {id:Nat} {b:AC} {fr:Fr} {σ:St} {K:Post}:wp Γ M (.block id b) fr σ K=wp Γ M b fr σ fun ex fr σ=>match ex with
  | .exit i=>if i=id then K .normal fr σ else K (.exit i) fr σ
  |ex=>K ex fr σ:=rfl
theorem aw_exit {id:Nat} {fr:Fr} {σ:St} {K:Post}:wp Γ M (.exit id) fr σ K=K (.exit id) fr σ:=rfl
theorem aw_ret {fr:Fr} {σ:St} {K:Post}:wp Γ M .ret fr σ K=K .ret fr σ:=rfl
theorem aw_label {l:Nat} {fr:Fr} {σ:St} {K:Post}:wp Γ M (.label l) fr σ K=K .normal fr σ:=rfl
theorem aw_goto {l:Nat} {fr:Fr} {σ:St} {K:Post}:wp Γ M (.goto l) fr σ K=K (.goto l) fr σ:=rfl
theorem aw_scope {b:AC} {fr:Fr} {σ:St} {K:Post}:wp Γ M (.scope b) fr σ K=wp Γ M b fr σ fun ex fr σ=>match ex with
  | .goto l=>∃ n,jumps Γ M b n l fr σ K
  |ex=>K ex fr σ:=rfl
theorem runs_body {g:FuncId} {rs:List Res} {body:AC} {xs:List V} {σ:St} {Q:V -> St -> Prop} (hg:Γ.get g=some (.code ⟨rs,body⟩)) (hm:memoGet M g xs σ=none)
  (h:wp Γ M body (enter xs) σ fun ex fr σ=>atEnd ex (wpDefers Γ M fr.defers σ fun σ=>wpRes rs fr.tmps σ Q)):Runs Γ M g xs σ Q:=runs_code hg hm h
theorem wpDefers_nil {σ:St} {K:St -> Prop}:wpDefers Γ M [] σ K=K σ:=rfl
theorem wpDefers_cons {g:FuncId} {xs:List V} {r:Dfs} {σ:St} {K:St -> Prop}:wpDefers Γ M ((g,xs) :: r) σ K=(((∃ fn,Γ.get g=some (.code fn)) \/ Γ.get g=some (.ext .unlock)) /\ Runs Γ M g xs σ fun _ σ=>wpDefers Γ M r σ K):=rfl
theorem res_nil {tm:T V} {σ:St}:readResults tm σ []=some []:=rfl
theorem res_tmp {tm:T V} {σ:St} {t:Nat} {r:List Res}:readResults tm σ (.tmp t :: r)=(readResults tm σ r).map (fun l=>(tm.get t).getD .undef :: l):=by simp only [readResults];cases readResults tm σ r <;> rfl
def cellRes (x:V) (σ:St) (r:Option (List V)):Option (List V):=match x with
 | .ptr (some (id,off))=>(match r with
  |none=>none
  |some l=>match σ.cell id off with | some v=>some (v :: l) | none=>none)
 |_=>none
theorem cellRes_some {id off:Nat} {σ:St} {l:List V}:cellRes (.ptr (some (id,off))) σ (some l)=(σ.cell id off).map (· :: l):=by simp only [cellRes];cases σ.cell id off <;> rfl
theorem res_cell {tm:T V} {σ:St} {t n:Nat} {r:List Res}:readResults tm σ (.cell t false n :: r)=cellRes ((tm.get t).getD .undef) σ (readResults tm σ r):=by
 simp only [readResults,cellRes,Bool.false_eq_true,if_false]
 cases (tm.get t).getD .undef with
 |ptr p=>cases p with
  |none=>rfl
  |some p=>obtain ⟨id,off⟩:=p;cases readResults tm σ r <;> rfl
 |_=>rfl
def loadRes (x:V) (n:Nat) (σ:St) (r:Option (List V)):Option (List V):=match x with
 | .ptr (some (id,off))=>(match r with
  |none=>none
  |some l=>match σ.load id off n with | some v=>some (.agg v :: l) | none=>none)
 |_=>none
theorem loadRes_some {id off n:Nat} {σ:St} {l:List V}:loadRes (.ptr (some (id,off))) n σ (some l)=(σ.load id off n).map (fun v=>.agg v :: l):=by simp only [loadRes];cases σ.load id off n <;> rfl
theorem res_load {tm:T V} {σ:St} {t n:Nat} {r:List Res}:readResults tm σ (.cell t true n :: r)=loadRes ((tm.get t).getD .undef) n σ (readResults tm σ r):=by
 simp only [readResults,loadRes,if_true]
 cases (tm.get t).getD .undef with
 |ptr p=>cases p with
  |none=>rfl
  |some p=>obtain ⟨id,off⟩:=p;cases readResults tm σ r <;> rfl
 |_=>rfl
theorem retV_one {v:V}:retV [v]=v:=rfl
theorem retV_none:retV []=.tuple []:=rfl
theorem retV_more {a b:V} {r:List V}:retV (a :: b :: r)=.tuple (a :: b :: r):=rfl
theorem wpRes_eq {rs:List Res} {tm:T V} {σ:St} {Q:V -> St -> Prop}:wpRes rs tm σ Q=onSome (readResults tm σ rs) fun vs=>Q (retV vs) σ:=by unfold wpRes;cases readResults tm σ rs <;> rfl
theorem atEnd_normal {p:Prop}:atEnd .normal p=p:=rfl
theorem atEnd_ret {p:Prop}:atEnd .ret p=p:=rfl
theorem wo_nil {fr:Fr} {σ:St} {K:Fr -> St -> Prop}:wpOps Γ M [] fr σ K=K fr σ:=rfl
theorem wo_cons {d:Option Nat} {op:AOp} {r:List AOper} {fr:Fr} {σ:St} {K:Fr -> St -> Prop} :
  wpOps Γ M (⟨d,op,none⟩ :: r) fr σ K=wpOp Γ M op fr.tmps fr.defers σ fun v ds σ=>wpOps Γ M r ⟨putD fr.tmps d v,ds⟩ σ K:=rfl
theorem wo_guard {d:Option Nat} {op:AOp} {t:Nat} {b:Bool} {r:List AOper} {fr:Fr} {σ:St} {K:Fr -> St -> Prop} :
  wpOps Γ M (⟨d,op,some (t,b)⟩ :: r) fr σ K=cnd (wantedA (some (t,b)) fr.tmps) (wpOp Γ M op fr.tmps fr.defers σ fun v ds σ=>wpOps Γ M r ⟨putD fr.tmps d v,ds⟩ σ K)
   (wpOps Γ M r ⟨putD fr.tmps d .undef,fr.defers⟩ σ K):=rfl
def wantB (x:Option V) (b:Bool):Bool:=match x with
 |some (.bool c)=>c == b
 |_=>false
theorem wantB_bool {c b:Bool}:wantB (some (.bool c)) b=(c == b):=rfl
theorem wantB_undef {b:Bool}:wantB (some .undef) b=false:=rfl
theorem wantedA_some {t:Nat} {b:Bool} {tm:T V}:wantedA (some (t,b)) tm=wantB (tm.get t) b:=rfl
theorem bq_ft:(false == true)=false:=rfl
theorem bq_tf:(true == false)=false:=rfl
theorem putD_some {tm:T V} {d:Nat} {v:V}:putD tm (some d) v=tm.set d v:=rfl
theorem putD_none {tm:T V} {v:V}:putD tm none v=tm:=rfl
theorem eval_tmp {tm:T V} {t:Nat}:(Opd.tmp t).eval tm=(tm.get t).getD .undef:=rfl
theorem eval_const {tm:T V} {v:V}:(Opd.const v).eval tm=v:=rfl
theorem eval_glob {tm:T V} {g:Nat}:(Opd.glob g).eval tm=.ptr (some (g,0)):=rfl
theorem enter_get {xs:List V} {i:Nat}:(enter xs).tmps.get i=xs[i]?:=ofList_get xs i
theorem enter_defers {xs:List V}:(enter xs).defers=[]:=rfl
theorem na_mv {x0:Opd}:isAlloc (AOp.mv x0)=false:=rfl
theorem ir_mv {x0:Opd}:isRead (AOp.mv x0)=false:=rfl
theorem ef_mv {x0:Opd}:isEff (AOp.mv x0)=false:=rfl
theorem na_pick {x0:Opd} {x1:Opd} {x2:Opd}:isAlloc (AOp.pick x0 x1 x2)=false:=rfl
theorem ir_pick {x0:Opd} {x1:Opd} {x2:Opd}:isRead (AOp.pick x0 x1 x2)=false:=rfl
theorem ef_pick {x0:Opd} {x1:Opd} {x2:Opd}:isEff (AOp.pick x0 x1 x2)=false:=rfl
theorem na_box {x0:Nat} {x1:Opd}:isAlloc (AOp.box x0 x1)=false:=rfl
theorem ir_box {x0:Nat} {x1:Opd}:isRead (AOp.box x0 x1)=false:=rfl
theorem ef_box {x0:Nat} {x1:Opd}:isEff (AOp.box x0 x1)=true:=rfl
theorem na_build {x0:List V} {x1:List (Nat × Nat × Opd)}:isAlloc (AOp.build x0 x1)=false:=rfl
theorem ir_build {x0:List V} {x1:List (Nat × Nat × Opd)}:isRead (AOp.build x0 x1)=false:=rfl
theorem ef_build {x0:List V} {x1:List (Nat × Nat × Opd)}:isEff (AOp.build x0 x1)=false:=rfl
theorem na_mkSlice {x0:Nat} {x1:Nat} {x2:List V} {x3:List (Nat × Nat × Opd)}:isAlloc (AOp.mkSlice x0 x1 x2 x3)=false:=rfl
theorem ir_mkSlice {x0:Nat} {x1:Nat} {x2:List V} {x3:List (Nat × Nat × Opd)}:isRead (AOp.mkSlice x0 x1 x2 x3)=false:=rfl
theorem ef_mkSlice {x0:Nat} {x1:Nat} {x2:List V} {x3:List (Nat × Nat × Opd)}:isEff (AOp.mkSlice x0 x1 x2 x3)=true:=rfl
theorem na_load {x0:Bool} {x1:Nat} {x2:Opd}:isAlloc (AOp.load x0 x1 x2)=false:=rfl
theorem ir_load {x0:Bool} {x1:Nat} {x2:Opd}:isRead (AOp.load x0 x1 x2)=true:=rfl
theorem ef_load {x0:Bool} {x1:Nat} {x2:Opd}:isEff (AOp.load x0 x1 x2)=false:=rfl
theorem na_store {x0:Nat} {x1:Opd} {x2:Opd}:isAlloc (AOp.store x0 x1 x2)=false:=rfl
theorem ir_store {x0:Nat} {x1:Opd} {x2:Opd}:isRead (AOp.store x0 x1 x2)=false:=rfl
theorem ef_store {x0:Nat} {x1:Opd} {x2:Opd}:isEff (AOp.store x0 x1 x2)=true:=rfl
theorem na_nilCheck {x0:Opd}:isAlloc (AOp.nilCheck x0)=false:=rfl
theorem ir_nilCheck {x0:Opd}:isRead (AOp.nilCheck x0)=false:=rfl
theorem ef_nilCheck {x0:Opd}:isEff (AOp.nilCheck x0)=false:=rfl
theorem na_bin {x0:Bn} {x1:Opd} {x2:Opd}:isAlloc (AOp.bin x0 x1 x2)=false:=rfl
theorem ir_bin {x0:Bn} {x1:Opd} {x2:Opd}:isRead (AOp.bin x0 x1 x2)=false:=rfl
theorem ef_bin {x0:Bn} {x1:Opd} {x2:Opd}:isEff (AOp.bin x0 x1 x2)=false:=rfl
theorem na_eqs {x0:Bool} {x1:List Bool} {x2:Opd} {x3:Opd}:isAlloc (AOp.eqs x0 x1 x2 x3)=false:=rfl
theorem ir_eqs {x0:Bool} {x1:List Bool} {x2:Opd} {x3:Opd}:isRead (AOp.eqs x0 x1 x2 x3)=false:=rfl
theorem ef_eqs {x0:Bool} {x1:List Bool} {x2:Opd} {x3:Opd}:isEff (AOp.eqs x0 x1 x2 x3)=false:=rfl
theorem na_not {x0:Opd}:isAlloc (AOp.not x0)=false:=rfl
theorem ir_not {x0:Opd}:isRead (AOp.not x0)=false:=rfl
theorem ef_not {x0:Opd}:isEff (AOp.not x0)=false:=rfl
theorem na_conv {x0:IntKind} {x1:Opd}:isAlloc (AOp.conv x0 x1)=false:=rfl
theorem ir_conv {x0:IntKind} {x1:Opd}:isRead (AOp.conv x0 x1)=false:=rfl
theorem ef_conv {x0:IntKind} {x1:Opd}:isEff (AOp.conv x0 x1)=false:=rfl
theorem na_makeSlice {x0:Nat} {x1:Nat} {x2:List V} {x3:Opd} {x4:Opd}:isAlloc (AOp.makeSlice x0 x1 x2 x3 x4)=false:=rfl
theorem ir_makeSlice {x0:Nat} {x1:Nat} {x2:List V} {x3:Opd} {x4:Opd}:isRead (AOp.makeSlice x0 x1 x2 x3 x4)=false:=rfl
theorem ef_makeSlice {x0:Nat} {x1:Nat} {x2:List V} {x3:Opd} {x4:Opd}:isEff (AOp.makeSlice x0 x1 x2 x3 x4)=true:=rfl
theorem na_sliceOf {x0:Nat} {x1:Opd} {x2:Option Opd} {x3:Option Opd}:isAlloc (AOp.sliceOf x0 x1 x2 x3)=false:=rfl
theorem ir_sliceOf {x0:Nat} {x1:Opd} {x2:Option Opd} {x3:Option Opd}:isRead (AOp.sliceOf x0 x1 x2 x3)=false:=rfl
theorem ef_sliceOf {x0:Nat} {x1:Opd} {x2:Option Opd} {x3:Option Opd}:isEff (AOp.sliceOf x0 x1 x2 x3)=false:=rfl
theorem na_faddr {x0:Nat} {x1:Opd}:isAlloc (AOp.faddr x0 x1)=false:=rfl
theorem ir_faddr {x0:Nat} {x1:Opd}:isRead (AOp.faddr x0 x1)=false:=rfl
theorem ef_faddr {x0:Nat} {x1:Opd}:isEff (AOp.faddr x0 x1)=false:=rfl
theorem na_iaddrS {x0:Nat} {x1:Opd} {x2:Opd}:isAlloc (AOp.iaddrS x0 x1 x2)=false:=rfl
theorem ir_iaddrS {x0:Nat} {x1:Opd} {x2:Opd}:isRead (AOp.iaddrS x0 x1 x2)=false:=rfl
theorem ef_iaddrS {x0:Nat} {x1:Opd} {x2:Opd}:isEff (AOp.iaddrS x0 x1 x2)=false:=rfl
theorem na_iaddrA {x0:Nat} {x1:Nat} {x2:Opd} {x3:Opd}:isAlloc (AOp.iaddrA x0 x1 x2 x3)=false:=rfl
theorem ir_iaddrA {x0:Nat} {x1:Nat} {x2:Opd} {x3:Opd}:isRead (AOp.iaddrA x0 x1 x2 x3)=false:=rfl
theorem ef_iaddrA {x0:Nat} {x1:Nat} {x2:Opd} {x3:Opd}:isEff (AOp.iaddrA x0 x1 x2 x3)=false:=rfl
theorem na_extract {x0:Opd} {x1:Nat}:isAlloc (AOp.extract x0 x1)=false:=rfl
theorem ir_extract {x0:Opd} {x1:Nat}:isRead (AOp.extract x0 x1)=false:=rfl
theorem ef_extract {x0:Opd} {x1:Nat}:isEff (AOp.extract x0 x1)=false:=rfl
theorem na_lenS {x0:Opd}:isAlloc (AOp.lenS x0)=false:=rfl
theorem ir_lenS {x0:Opd}:isRead (AOp.lenS x0)=false:=rfl
theorem ef_lenS {x0:Opd}:isEff (AOp.lenS x0)=false:=rfl
theorem na_append {x0:Nat} {x1:Nat} {x2:Opd} {x3:Opd}:isAlloc (AOp.append x0 x1 x2 x3)=false:=rfl
theorem ir_append {x0:Nat} {x1:Nat} {x2:Opd} {x3:Opd}:isRead (AOp.append x0 x1 x2 x3)=false:=rfl
theorem ef_append {x0:Nat} {x1:Nat} {x2:Opd} {x3:Opd}:isEff (AOp.append x0 x1 x2 x3)=true:=rfl
theorem na_appendZ {x0:Nat} {x1:Nat} {x2:List V} {x3:Opd} {x4:Opd}:isAlloc (AOp.appendZ x0 x1 x2 x3 x4)=false:=rfl
theorem ir_appendZ {x0:Nat} {x1:Nat} {x2:List V} {x3:Opd} {x4:Opd}:isRead (AOp.appendZ x0 x1 x2 x3 x4)=false:=rfl
theorem ef_appendZ {x0:Nat} {x1:Nat} {x2:List V} {x3:Opd} {x4:Opd}:isEff (AOp.appendZ x0 x1 x2 x3 x4)=true:=rfl
theorem na_copy {x0:Nat} {x1:Opd} {x2:Opd}:isAlloc (AOp.copy x0 x1 x2)=false:=rfl
theorem ir_copy {x0:Nat} {x1:Opd} {x2:Opd}:isRead (AOp.copy x0 x1 x2)=false:=rfl
theorem ef_copy {x0:Nat} {x1:Opd} {x2:Opd}:isEff (AOp.copy x0 x1 x2)=true:=rfl
theorem na_maxmin {x0:Bool} {x1:List Opd}:isAlloc (AOp.maxmin x0 x1)=false:=rfl
theorem ir_maxmin {x0:Bool} {x1:List Opd}:isRead (AOp.maxmin x0 x1)=false:=rfl
theorem ef_maxmin {x0:Bool} {x1:List Opd}:isEff (AOp.maxmin x0 x1)=false:=rfl
theorem na_mapUpdate {x0:Kk} {x1:Opd} {x2:Opd} {x3:Opd}:isAlloc (AOp.mapUpdate x0 x1 x2 x3)=false:=rfl
theorem ir_mapUpdate {x0:Kk} {x1:Opd} {x2:Opd} {x3:Opd}:isRead (AOp.mapUpdate x0 x1 x2 x3)=false:=rfl
theorem ef_mapUpdate {x0:Kk} {x1:Opd} {x2:Opd} {x3:Opd}:isEff (AOp.mapUpdate x0 x1 x2 x3)=true:=rfl
theorem na_delete {x0:Kk} {x1:Opd} {x2:Opd}:isAlloc (AOp.delete x0 x1 x2)=false:=rfl
theorem ir_delete {x0:Kk} {x1:Opd} {x2:Opd}:isRead (AOp.delete x0 x1 x2)=false:=rfl
theorem ef_delete {x0:Kk} {x1:Opd} {x2:Opd}:isEff (AOp.delete x0 x1 x2)=true:=rfl
theorem na_call {x0:FuncId} {x1:List Opd}:isAlloc (AOp.call x0 x1)=false:=rfl
theorem ir_call {x0:FuncId} {x1:List Opd}:isRead (AOp.call x0 x1)=false:=rfl
theorem ef_call {x0:FuncId} {x1:List Opd}:isEff (AOp.call x0 x1)=true:=rfl
theorem na_defer {x0:FuncId} {x1:List Opd}:isAlloc (AOp.defer x0 x1)=false:=rfl
theorem ir_defer {x0:FuncId} {x1:List Opd}:isRead (AOp.defer x0 x1)=false:=rfl
theorem ef_defer {x0:FuncId} {x1:List Opd}:isEff (AOp.defer x0 x1)=true:=rfl
theorem wd_nil {h:Nat} {fr:Fr} {σ:St} {tr:List (T V × V)} {es:List (Dfs × St)} {K:Fr -> List (T V × V) -> List (Dfs × St) -> Prop}:wpA Γ M [] h fr σ tr es K=K fr tr es:=rfl
theorem wd_cons {d:Option Nat} {op:AOp} {lo hi:Nat} {r:List DOper} {h:Nat} {fr:Fr} {σ:St} {tr:List (T V × V)} {es:List (Dfs × St)} {K:Fr -> List (T V × V) -> List (Dfs × St) -> Prop} (ha:isAlloc op=false) :
  wpA Γ M (⟨⟨d,op,none⟩,lo,hi⟩ :: r) h fr σ tr es K =
   wpOp Γ M op fr.tmps fr.defers σ fun v ds σ'=>wpA Γ M r h ⟨putD fr.tmps d v,ds⟩ σ' ((fr.tmps,v) :: tr) (if isEff op=true then (ds,σ') :: es else es) K:=by
 simp only [wpA,wantedA,ha,if_true,if_false,Bool.false_eq_true]
theorem wd_alloc {d:Option Nat} {z:List V} {lo hi:Nat} {r:List DOper} {h:Nat} {fr:Fr} {σ:St} {tr:List (T V × V)} {es:List (Dfs × St)} {K:Fr -> List (T V × V) -> List (Dfs × St) -> Prop} :
  wpA Γ M (⟨⟨d,.alloc z,none⟩,lo,hi⟩ :: r) h fr σ tr es K =
   wpA Γ M r (h+1) ⟨putD fr.tmps d (.ptr (some (h,0))),fr.defers⟩ σ ((fr.tmps,.ptr (some (h,0))) :: tr) es K:=rfl
theorem wd_guard {d:Option Nat} {op:AOp} {t:Nat} {b:Bool} {lo hi:Nat} {r:List DOper} {h:Nat} {fr:Fr} {σ:St} {tr:List (T V × V)} {es:List (Dfs × St)} {K:Fr -> List (T V × V) -> List (Dfs × St) -> Prop} (ha:isAlloc op=false) :
  wpA Γ M (⟨⟨d,op,some (t,b)⟩,lo,hi⟩ :: r) h fr σ tr es K =
   cnd (wantedA (some (t,b)) fr.tmps)
    (wpOp Γ M op fr.tmps fr.defers σ fun v ds σ'=>wpA Γ M r h ⟨putD fr.tmps d v,ds⟩ σ' ((fr.tmps,v) :: tr) (if isEff op=true then (ds,σ') :: es else es) K)
   (wpA Γ M r h ⟨putD fr.tmps d .undef,fr.defers⟩ σ ((fr.tmps,.undef) :: tr) (if isEff op=true then (fr.defers,σ) :: es else es) K):=by
 simp only [wpA,ha,cnd,if_false,Bool.false_eq_true]
theorem hoist_nil {σ:St}:hoist [] σ=σ:=rfl
theorem hoist_alloc {d:Option Nat} {z:List V} {g:Option (Nat × Bool)} {lo hi:Nat} {r:List DOper} {σ:St}:hoist (⟨⟨d,.alloc z,g⟩,lo,hi⟩ :: r) σ=hoist r (σ.new (.cells false 0 z.length z .nil)):=rfl
theorem hoist_cons {d:Option Nat} {op:AOp} {g:Option (Nat × Bool)} {lo hi:Nat} {r:List DOper} {σ:St} (ha:isAlloc op=false):hoist (⟨⟨d,op,g⟩,lo,hi⟩ :: r) σ=hoist r σ:=by
 cases op <;> first | rfl | cases ha
theorem cd_nil {es:List (Dfs × St)} {n:Nat} {tr:List (T V × V)}:checkD es [] n tr=true:=by cases tr <;> rfl
theorem cd_cons {es:List (Dfs × St)} {d:Option Nat} {op:AOp} {g:Option (Nat × Bool)} {lo hi:Nat} {r:List DOper} {n:Nat} {tm:T V} {v:V} {tr:List (T V × V)} (ha:isAlloc op=false) (hr:isRead op=false) :
  checkD es (⟨⟨d,op,g⟩,lo,hi⟩ :: r) n ((tm,v) :: tr)=checkD es r n tr:=by
 simp only [checkD,hr,Bool.false_and,Bool.false_eq_true,if_false,Bool.true_and]
 cases op <;> first | rfl | cases ha
theorem cd_read {es:List (Dfs × St)} {d:Option Nat} {op:AOp} {lo hi:Nat} {r:List DOper} {n:Nat} {tm:T V} {v:V} {tr:List (T V × V)} (hr:isRead op=true) :
  checkD es (⟨⟨d,op,none⟩,lo,hi⟩ :: r) n ((tm,v) :: tr)=(checkR op tm v lo hi 0 es && checkD es r n tr):=by
 simp only [checkD,hr,wantedA,Bool.true_and,if_true]
 cases op <;> first | rfl | cases hr
theorem cd_readg {es:List (Dfs × St)} {d:Option Nat} {op:AOp} {t:Nat} {b:Bool} {lo hi:Nat} {r:List DOper} {n:Nat} {tm:T V} {v:V} {tr:List (T V × V)} (hr:isRead op=true) :
  checkD es (⟨⟨d,op,some (t,b)⟩,lo,hi⟩ :: r) n ((tm,v) :: tr)=((!(wantedA (some (t,b)) tm) || checkR op tm v lo hi 0 es) && checkD es r n tr):=by
 simp only [checkD,hr,Bool.true_and]
 cases wantedA (some (t,b)) tm <;> (cases op <;> first | rfl | cases hr)
theorem cd_alloc {es:List (Dfs × St)} {d:Option Nat} {z:List V} {g:Option (Nat × Bool)} {lo hi:Nat} {r:List DOper} {n:Nat} {tm:T V} {v:V} {tr:List (T V × V)} :
  checkD es (⟨⟨d,.alloc z,g⟩,lo,hi⟩ :: r) n ((tm,v) :: tr)=(checkH n z hi 0 es && checkD es r (n+1) tr):=by
 simp only [checkD,isRead,Bool.false_and,Bool.false_eq_true,if_false,Bool.true_and]
def readsAs (op:AOp) (tm:T V) (σ:St) (v:V):Bool:=match readOp op tm σ with
 |some u=>sameV u v
 |none=>false
theorem cr_nil {op:AOp} {tm:T V} {v:V} {lo hi m:Nat}:checkR op tm v lo hi m []=true:=rfl
theorem cr_cons {op:AOp} {tm:T V} {v:V} {lo hi m:Nat} {d:Dfs} {σ:St} {r:List (Dfs × St)}:checkR op tm v lo hi m ((d,σ) :: r)=((!(decide (lo <= m) && decide (m <= hi)) || readsAs op tm σ v) && checkR op tm v lo hi (m+1) r):=by
 simp only [checkR,readsAs]
 by_cases h1:lo <= m <;> by_cases h2:m <= hi <;> simp [h1,h2] <;> (cases readOp op tm σ <;> rfl)
def ptrReads (p:V) (σ:St) (v:V):Bool:=match p with
 | .ptr (some (id,off))=>(match σ.cell id off with | some u=>sameV u v | none=>false)
 |_=>false
theorem ra_load1 {n:Nat} {a:Opd} {tm:T V} {σ:St} {v:V}:readsAs (.load false n a) tm σ v=ptrReads (a.eval tm) σ v:=by
 simp only [readsAs,readOp,ptrReads]
 cases a.eval tm with
 |ptr p=>cases p with
  |none=>rfl
  |some p=>obtain ⟨id,off⟩:=p;rfl
 |_=>rfl
theorem pr_ptr {id off:Nat} {σ:St} {v:V}:ptrReads (.ptr (some (id,off))) σ v=(match σ.cell id off with | some u=>sameV u v | none=>false):=rfl
def ptrReadsN (p:V) (n:Nat) (σ:St) (v:V):Bool:=match p with
 | .ptr (some (id,off))=>(match σ.load id off n with | some us=>sameV (.agg us) v | none=>false)
 |_=>false
theorem ra_loadN {n:Nat} {a:Opd} {tm:T V} {σ:St} {v:V}:readsAs (.load true n a) tm σ v=ptrReadsN (a.eval tm) n σ v:=by
 simp only [readsAs,readOp,ptrReadsN]
 cases a.eval tm with
 |ptr p=>cases p with
  |none=>rfl
  |some p=>obtain ⟨id,off⟩:=p;simp only [if_true];cases σ.load id off n <;> rfl
 |_=>rfl
theorem prN_ptr {id off n:Nat} {σ:St} {v:V}:ptrReadsN (.ptr (some (id,off))) n σ v=(match σ.load id off n with | some us=>sameV (.agg us) v | none=>false):=rfl
theorem lastSt_nil {σ:St}:lastSt σ []=σ:=rfl
theorem lastSt_cons {σ σ':St} {d:Dfs} {r:List (Dfs × St)}:lastSt σ ((d,σ') :: r)=lastSt σ' r:=rfl
theorem cr_one {op:AOp} {tm:T V} {v:V} {d:Dfs} {σ:St} {es:List (Dfs × St)} (h:readOp op tm σ=some v):checkR op tm v 0 0 0 ((d,σ) :: es)=true:=by
 have hrest:∀ m (l:List (Dfs × St)),0<m -> checkR op tm v 0 0 m l=true:=by
  intro m l
  induction l generalizing m with
  |nil=>intro _;rfl
  |cons a l ih =>
   intro hm
   obtain ⟨d',σ'⟩:=a
   simp only [checkR]
   rw [if_neg (by omega)]
   exact ih (m+1) (by omega)
 simp only [checkR,Nat.le_refl,and_self,if_true,h,sameV_refl,Bool.true_and]
 exact hrest 1 es (by omega)
section
variable {tm:T V} {ds:Dfs} {σ:St} {K:V -> Dfs -> St -> Prop}
theorem op_mv {x:Opd}:wpOp Γ M (.mv x) tm ds σ K=K (x.eval tm) ds σ:=rfl
theorem op_pick {c a b:Opd}:wpOp Γ M (.pick c a b) tm ds σ K=asBool (c.eval tm) fun t=>K (if t=true then a.eval tm else b.eval tm) ds σ:=by
 show (match evalOp _ _ tm ds σ with | some (v,ds,σ)=>K v ds σ | none=>False)=_
 simp only [evalOp,isPure,pureOp,if_true]
 cases c.eval tm <;> rfl
theorem op_alloc {z:List V}:wpOp Γ M (.alloc z) tm ds σ K=K (.ptr (some (σ.next,0))) ds (σ.new (.cells false 0 z.length z .nil)):=rfl
theorem op_box {n:Nat} {x:Opd}:wpOp Γ M (.box n x) tm ds σ K=cnd (decide ((x.eval tm).cells.length=n)) (K (.ptr (some (σ.next,0))) ds (σ.newCells (x.eval tm).cells)) False:=by
 show (match evalOp _ _ tm ds σ with | some (v,ds,σ)=>K v ds σ | none=>False)=_
 simp only [evalOp,isPure,isRead,writeOp,if_false,Bool.false_eq_true]
 by_cases h:(x.eval tm).cells.length=n
 ·simp only [h,if_true,decide_true,cnd]
 ·simp only [h,if_false,decide_false,cnd,Bool.false_eq_true]
theorem op_build {z:List V} {ps:List (Nat × Nat × Opd)}:wpOp Γ M (.build z ps) tm ds σ K=onSome (fillP z (evalParts tm ps)) fun cs=>K (.agg cs) ds σ:=by
 show (match evalOp _ _ tm ds σ with | some (v,ds,σ)=>K v ds σ | none=>False)=_
 simp only [evalOp,isPure,pureOp,if_true]
 cases fillP z (evalParts tm ps) <;> rfl
theorem op_mkSlice {len esz:Nat} {z:List V} {ps:List (Nat × Nat × Opd)}:wpOp Γ M (.mkSlice len esz z ps) tm ds σ K=onSome (fillP (repeatZ z len) (evalParts tm ps)) fun cs=>K (.slice (some (σ.next,0)) len esz) ds (σ.newCells cs):=by
 show (match evalOp _ _ tm ds σ with | some (v,ds,σ)=>K v ds σ | none=>False)=_
 simp only [evalOp,isPure,isRead,writeOp,if_false,Bool.false_eq_true]
 cases fillP (repeatZ z len) (evalParts tm ps) <;> rfl
theorem op_load1 {n:Nat} {a:Opd}:wpOp Γ M (.load false n a) tm ds σ K=asPtr (a.eval tm) fun id off=>onSome (σ.cell id off) fun v=>K v ds σ:=by
 show (match evalOp _ _ tm ds σ with | some (v,ds,σ)=>K v ds σ | none=>False)=_
 simp only [evalOp,isPure,isRead,readOp,if_true,if_false,Bool.false_eq_true]
 cases a.eval tm with
 |ptr p=>cases p with
  |none=>rfl
  |some p=>obtain ⟨id,off⟩:=p;simp only [asPtr];cases hc:σ.cell id off <;> rfl
 |_=>rfl
theorem op_loadN {n:Nat} {a:Opd}:wpOp Γ M (.load true n a) tm ds σ K=asPtr (a.eval tm) fun id off=>onSome (σ.load id off n) fun vs=>K (.agg vs) ds σ:=by
 show (match evalOp _ _ tm ds σ with | some (v,ds,σ)=>K v ds σ | none=>False)=_
 simp only [evalOp,isPure,isRead,readOp,if_true,if_false,Bool.false_eq_true]
 cases a.eval tm with
 |ptr p=>cases p with
  |none=>rfl
  |some p=>obtain ⟨id,off⟩:=p;simp only [asPtr];cases hc:σ.load id off n <;> rfl
 |_=>rfl
theorem op_store {n:Nat} {a x:Opd}:wpOp Γ M (.store n a x) tm ds σ K=asPtr (a.eval tm) fun id off=>cnd (decide ((x.eval tm).cells.length=n)) (onSome (σ.store id off (x.eval tm).cells) fun σ=>K .undef ds σ) False:=by
 show (match evalOp _ _ tm ds σ with | some (v,ds,σ)=>K v ds σ | none=>False)=_
 simp only [evalOp,isPure,isRead,writeOp,if_true,if_false,Bool.false_eq_true]
 cases a.eval tm with
 |ptr p=>cases p with
  |none=>rfl
  |some p =>
   obtain ⟨id,off⟩:=p;simp only [asPtr]
   by_cases h:(x.eval tm).cells.length=n
   ·simp only [h,if_true,decide_true,cnd];cases σ.store id off (x.eval tm).cells <;> rfl
   ·simp only [h,if_false,decide_false,cnd,Bool.false_eq_true]
 |_=>rfl
theorem op_nilCheck {x:Opd}:wpOp Γ M (.nilCheck x) tm ds σ K=asNN (x.eval tm) fun v=>K v ds σ:=by
 show (match evalOp _ _ tm ds σ with | some (v,ds,σ)=>K v ds σ | none=>False)=_
 simp only [evalOp,isPure,pureOp,if_true]
 cases x.eval tm with
 |ptr p=>cases p <;> rfl
 |_=>rfl
theorem op_bin {op:Bn} {x y:Opd}:wpOp Γ M (.bin op x y) tm ds σ K=onSome (bin op (x.eval tm) (y.eval tm)) fun v=>K v ds σ:=by
 show (match evalOp _ _ tm ds σ with | some (v,ds,σ)=>K v ds σ | none=>False)=_
 simp only [evalOp,isPure,pureOp,if_true]
 cases bin op (x.eval tm) (y.eval tm) <;> rfl
theorem eqV_bool {a b:Bool}:eqV .bool (.bool a) (.bool b)=some (a == b):=rfl
theorem eqV_nilnil:eqV .iface .nilIface .nilIface=some true:=rfl
theorem op_eq1 {neg:Bool} {k:Ek} {x y:Opd}:wpOp Γ M (.eq1 neg k x y) tm ds σ K=onSome (eqV k (x.eval tm) (y.eval tm)) fun b=>K (.bool (if neg=true then !b else b)) ds σ:=by
 show (match evalOp _ _ tm ds σ with | some (v,ds,σ)=>K v ds σ | none=>False)=_
 simp only [evalOp,isPure,pureOp,if_true]
 cases eqV k (x.eval tm) (y.eval tm) <;> rfl
theorem op_eqs {neg:Bool} {ks:List Bool} {x y:Opd}:wpOp Γ M (.eqs neg ks x y) tm ds σ K=asAgg (x.eval tm) fun a=>asAgg (y.eval tm) fun b=>onSome (eqCells ks a b) fun r=>K (.bool (if neg=true then !r else r)) ds σ:=by
 show (match evalOp _ _ tm ds σ with | some (v,ds,σ)=>K v ds σ | none=>False)=_
 simp only [evalOp,isPure,pureOp,if_true]
 cases x.eval tm with
 |agg a=>cases y.eval tm with
  |agg b=>simp only [asAgg];cases eqCells ks a b <;> rfl
  |_=>rfl
 |_=>cases y.eval tm <;> rfl
theorem op_not {x:Opd}:wpOp Γ M (.not x) tm ds σ K=asBool (x.eval tm) fun b=>K (.bool (!b)) ds σ:=by
 show (match evalOp _ _ tm ds σ with | some (v,ds,σ)=>K v ds σ | none=>False)=_
 simp only [evalOp,isPure,pureOp,if_true]
 cases x.eval tm <;> rfl
theorem op_conv {k:IntKind} {x:Opd}:wpOp Γ M (.conv k x) tm ds σ K=asInt (x.eval tm) fun _ n=>K (.int k (k.wrap n)) ds σ:=by
 show (match evalOp _ _ tm ds σ with | some (v,ds,σ)=>K v ds σ | none=>False)=_
 simp only [evalOp,isPure,pureOp,if_true]
 cases x.eval tm <;> rfl
theorem op_makeSlice {esz bytes:Nat} {z:List V} {l c:Opd}:wpOp Γ M (.makeSlice esz bytes z l c) tm ds σ K=asInt (l.eval tm) fun _ a=>asInt (c.eval tm) fun _ b=>cnd (decide (0 <= a /\ a <= b /\ b.toNat*bytes <= maxLenBytes /\ b<9223372036854775808)) (K (.slice (some (σ.next,0)) a.toNat esz) ds (σ.new (.cells false 0 (b.toNat*esz) z .nil))) False:=by
 show (match evalOp _ _ tm ds σ with | some (v,ds,σ)=>K v ds σ | none=>False)=_
 simp only [evalOp,isPure,isRead,writeOp,if_true,if_false,Bool.false_eq_true]
 cases l.eval tm with
 |int k a=>cases c.eval tm with
  |int k' b =>
   simp only [asInt]
   by_cases h:0 <= a /\ a <= b /\ b.toNat*bytes <= maxLenBytes /\ b<9223372036854775808
   ·rw [if_pos h,decide_eq_true h];rfl
   ·rw [if_neg h,decide_eq_false h];rfl
  |_=>rfl
 |_=>cases c.eval tm <;> rfl
def sliceV (esz:Nat) (x:V) (lo hi:Option V):Option V:=match x with
 | .slice a len e=>match sliceB lo hi len len with
  |some (l,h)=>match a with
   |none=>some (.slice none (h-l) e)
   |some (id,off)=>if e=esz then some (.slice (some (id,off+l*esz)) (h-l) e) else none
  |none=>none
 |_=>none
theorem sliceV_lo {esz id off len:Nat} {k:IntKind} {i:Int} (h0:0 <= i) (h1:i <= len):sliceV esz (.slice (some (id,off)) len esz) (some (.int k i)) none=some (.slice (some (id,off+i.toNat*esz)) (len-i.toNat) esz):=by
 simp [sliceV,sliceB,loB,boundB,h0,h1]
theorem sliceV_hi {esz id off len:Nat} {k:IntKind} {i:Int} (h0:0 <= i) (h1:i <= len):sliceV esz (.slice (some (id,off)) len esz) none (some (.int k i))=some (.slice (some (id,off)) i.toNat esz):=by
 simp [sliceV,sliceB,loB,boundB,h0,h1]
theorem op_sliceOf {esz:Nat} {x:Opd} {lo hi:Option Opd}:wpOp Γ M (.sliceOf esz x lo hi) tm ds σ K=onSome (sliceV esz (x.eval tm) (lo.map (·.eval tm)) (hi.map (·.eval tm))) fun v=>K v ds σ:=by
 show (match evalOp _ _ tm ds σ with | some (v,ds,σ)=>K v ds σ | none=>False)=_
 simp only [evalOp,isPure,if_true]
 show (match (match sliceV esz (x.eval tm) (lo.map (·.eval tm)) (hi.map (·.eval tm)) with | some v=>some (v,ds,σ) | none=>none) with | some (v,ds,σ)=>K v ds σ | none=>False)=_
 cases sliceV esz (x.eval tm) (lo.map (·.eval tm)) (hi.map (·.eval tm)) <;> rfl
def arrV (σ:St) (n esz:Nat) (x:V) (lo hi:Option V):Option V:=match x with
 | .ptr (some (id,off))=>match sliceB lo hi n n with
  |some (l,h)=>if l=0 /\ h=n then (match σ.objs.get id with
   |some (.cells _ _ k _ _)=>if off+n*esz <= k then some (.slice (some (id,off)) n esz) else none
   |_=>none) else none
  |none=>none
 |_=>none
theorem op_sliceArr {n esz:Nat} {x:Opd} {lo hi:Option Opd}:wpOp Γ M (.sliceArr n esz x lo hi) tm ds σ K=onSome (arrV σ n esz (x.eval tm) (lo.map (·.eval tm)) (hi.map (·.eval tm))) fun v=>K v ds σ:=by
 show (match evalOp _ _ tm ds σ with | some (v,ds,σ)=>K v ds σ | none=>False)=_
 simp only [evalOp,isPure,isRead,if_true,if_false,Bool.false_eq_true]
 show (match (match arrV σ n esz (x.eval tm) (lo.map (·.eval tm)) (hi.map (·.eval tm)) with | some v=>some (v,ds,σ) | none=>none) with | some (v,ds,σ)=>K v ds σ | none=>False)=_
 cases arrV σ n esz (x.eval tm) (lo.map (·.eval tm)) (hi.map (·.eval tm)) <;> rfl
theorem op_part {agg:Bool} {off n:Nat} {x:Opd}:wpOp Γ M (.part agg off n x) tm ds σ K=asAgg (x.eval tm) fun cs=>onSome (if agg=true then (if off+n <= cs.length then some (.agg ((cs.drop off).take n)) else none) else cs[off]?:Option V) fun v=>K v ds σ:=by
 show (match evalOp _ _ tm ds σ with | some (v,ds,σ)=>K v ds σ | none=>False)=_
 simp only [evalOp,isPure,pureOp,if_true]
 cases x.eval tm with
 |agg cs =>
  simp only [asAgg]
  cases (if agg=true then (if off+n <= cs.length then some (.agg ((cs.drop off).take n)) else none) else cs[off]?:Option V) <;> rfl
 |_=>rfl
theorem op_faddr {off:Nat} {x:Opd}:wpOp Γ M (.faddr off x) tm ds σ K=asPtr (x.eval tm) fun id o=>K (.ptr (some (id,o+off))) ds σ:=by
 show (match evalOp _ _ tm ds σ with | some (v,ds,σ)=>K v ds σ | none=>False)=_
 simp only [evalOp,isPure,pureOp,if_true]
 cases x.eval tm with
 |ptr p=>cases p <;> rfl
 |_=>rfl
theorem op_iaddrS {esz:Nat} {x i:Opd}:wpOp Γ M (.iaddrS esz x i) tm ds σ K=asSlice (x.eval tm) fun a len _=>asInt (i.eval tm) fun _ n=>onSome a fun p=>cnd (decide (0 <= n /\ n<len)) (K (.ptr (some (p.1,p.2+n.toNat*esz))) ds σ) False:=by
 show (match evalOp _ _ tm ds σ with | some (v,ds,σ)=>K v ds σ | none=>False)=_
 simp only [evalOp,isPure,pureOp,if_true]
 cases x.eval tm with
 |slice a len e=>cases a with
  |none=>cases i.eval tm <;> rfl
  |some p=>cases i.eval tm with
   |int k n =>
    simp only [asSlice,asInt,onSome]
    by_cases h:0 <= n /\ n<(len:Int)
    ·rw [if_pos h,decide_eq_true h];rfl
    ·rw [if_neg h,decide_eq_false h];rfl
   |_=>rfl
 |_=>cases i.eval tm <;> rfl
theorem op_iaddrA {len esz:Nat} {x i:Opd}:wpOp Γ M (.iaddrA len esz x i) tm ds σ K=asPtr (x.eval tm) fun id off=>asInt (i.eval tm) fun _ n=>cnd (decide (0 <= n /\ n<len)) (K (.ptr (some (id,off+n.toNat*esz))) ds σ) False:=by
 show (match evalOp _ _ tm ds σ with | some (v,ds,σ)=>K v ds σ | none=>False)=_
 simp only [evalOp,isPure,pureOp,if_true]
 cases x.eval tm with
 |ptr a=>cases a with
  |none=>cases i.eval tm <;> rfl
  |some p=>cases i.eval tm with
   |int k n =>
    simp only [asPtr,asInt]
    by_cases h:0 <= n /\ n<(len:Int)
    ·rw [if_pos h,decide_eq_true h];rfl
    ·rw [if_neg h,decide_eq_false h];rfl
   |_=>rfl
 |_=>cases i.eval tm <;> rfl
theorem op_extract {x:Opd} {i:Nat}:wpOp Γ M (.extract x i) tm ds σ K=asTuple (x.eval tm) fun vs=>onSome vs[i]? fun v=>K v ds σ:=by
 show (match evalOp _ _ tm ds σ with | some (v,ds,σ)=>K v ds σ | none=>False)=_
 simp only [evalOp,isPure,pureOp,if_true]
 cases x.eval tm with
 |tuple vs=>simp only [asTuple];cases vs[i]? <;> rfl
 |_=>rfl
theorem op_lenS {x:Opd}:wpOp Γ M (.lenS x) tm ds σ K=asSlice (x.eval tm) fun _ n _=>K (.int .i64 n) ds σ:=by
 show (match evalOp _ _ tm ds σ with | some (v,ds,σ)=>K v ds σ | none=>False)=_
 simp only [evalOp,isPure,pureOp,if_true]
 cases x.eval tm <;> rfl
theorem op_lookup {kk:Kk} {z:V} {ok:Bool} {m k:Opd}:wpOp Γ M (.lookup kk z ok m k) tm ds σ K=onSome (readOp (.lookup kk z ok m k) tm σ) fun v=>K v ds σ:=by
 show (match evalOp _ _ tm ds σ with | some (v,ds,σ)=>K v ds σ | none=>False)=_
 simp only [evalOp,isPure,isRead,if_true,if_false,Bool.false_eq_true]
 cases readOp (.lookup kk z ok m k) tm σ <;> rfl
theorem op_append {esz bytes:Nat} {x y:Opd}:wpOp Γ M (.append esz bytes x y) tm ds σ K=onSome (appendV σ esz bytes (x.eval tm) (y.eval tm)) fun p=>K p.1 ds p.2:=by
 show (match evalOp _ _ tm ds σ with | some (v,ds,σ)=>K v ds σ | none=>False)=_
 simp only [evalOp,isPure,isRead,writeOp,if_true,if_false,Bool.false_eq_true]
 cases appendV σ esz bytes (x.eval tm) (y.eval tm) <;> rfl
theorem op_appendZ {esz bytes:Nat} {z:List V} {x y:Opd}:wpOp Γ M (.appendZ esz bytes z x y) tm ds σ K=onSome (appendZV σ esz bytes z (x.eval tm) (y.eval tm)) fun p=>K p.1 ds p.2:=by
 show (match evalOp _ _ tm ds σ with | some (v,ds,σ)=>K v ds σ | none=>False)=_
 simp only [evalOp,isPure,isRead,writeOp,if_true,if_false,Bool.false_eq_true]
 cases appendZV σ esz bytes z (x.eval tm) (y.eval tm) <;> rfl
theorem op_maxmin {mx:Bool} {xs:List Opd}:wpOp Γ M (.maxmin mx xs) tm ds σ K=onSome (pureOp (.maxmin mx xs) tm) fun v=>K v ds σ:=by
 show (match evalOp _ _ tm ds σ with | some (v,ds,σ)=>K v ds σ | none=>False)=_
 simp only [evalOp,isPure,if_true]
 cases pureOp (.maxmin mx xs) tm <;> rfl
theorem op_makeFunc {f:FuncId} {a c:List Opd}:wpOp Γ M (.makeFunc f a c) tm ds σ K=K (.func f (a.map (·.eval tm)) (c.map (·.eval tm))) ds σ:=rfl
theorem op_makeMap:wpOp Γ M .makeMap tm ds σ K=K (.map (some σ.next)) ds (σ.new (.map [])):=rfl
theorem op_call {g:FuncId} {xs:List Opd}:wpOp Γ M (.call g xs) tm ds σ K=Runs Γ M g (xs.map (·.eval tm)) σ fun v σ'=>K v ds σ':=rfl
theorem op_callv {g:Opd} {xs:List Opd}:wpOp Γ M (.callv g xs) tm ds σ K=asFunc (g.eval tm) fun g first cap=>Runs Γ M g (first++xs.map (·.eval tm)++cap) σ fun v σ'=>K v ds σ':=rfl
theorem op_defer {g:FuncId} {xs:List Opd}:wpOp Γ M (.defer g xs) tm ds σ K=K .undef ((g,xs.map (·.eval tm)) :: ds) σ:=rfl
theorem op_deferv {g:Opd} {xs:List Opd}:wpOp Γ M (.deferv g xs) tm ds σ K=asFunc (g.eval tm) fun g first cap=>K .undef ((g,first++xs.map (·.eval tm)++cap) :: ds) σ:=by
 show (match evalOp _ _ tm ds σ with | some (v,ds,σ)=>K v ds σ | none=>False)=_
 simp only [evalOp,isPure,isRead,if_false,Bool.false_eq_true]
 cases g.eval tm <;> rfl
theorem op_other {op:AOp} (h1:isPure op=false) (h2:isRead op=false) (hc:∀ g xs,op≠.call g xs) (hv:∀ g xs,op≠.callv g xs) (hd:∀ g xs,op≠.defer g xs) (hw:∀ g xs,op≠.deferv g xs) :
  wpOp Γ M op tm ds σ K=onSome (writeOp op tm σ) fun p=>K p.1 ds p.2:=by
 have:wpOp Γ M op tm ds σ K=match evalOp (fun _ _ _=>none) op tm ds σ with
  |some (v,ds,σ)=>K v ds σ
  |none=>False:=by
  cases op <;> first | rfl | exact (hc _ _ rfl).elim | exact (hv _ _ rfl).elim
 rw [this]
 have:evalOp (fun _ _ _=>none) op tm ds σ=match writeOp op tm σ with | some (v,σ)=>some (v,ds,σ) | none=>none:=by
  cases op <;> first | rfl | exact (hc _ _ rfl).elim | exact (hv _ _ rfl).elim | exact (hd _ _ rfl).elim | exact (hw _ _ rfl).elim | exact (Bool.noConfusion h1) | exact (Bool.noConfusion h2)
 rw [this]
 cases writeOp op tm σ <;> rfl
def copyV (σ:St) (esz:Nat) (x y:V):Option (V × St):=match x,y with
 | .slice xa xl _,.slice ya yl _ =>
  match (if min yl xl*esz=0 then some [] else match ya with | none=>none | some (id,off)=>σ.load id off (min yl xl*esz):Option (List V)),xa with
  |some [],_=>some (.int .i64 (min yl xl:Nat),σ)
  |some vs,some (id,off)=>match σ.store id off vs with | some σ=>some (.int .i64 (min yl xl:Nat),σ) | none=>none
  |_,_=>none
 |_,_=>none
theorem copyV_none {esz xl xe ye:Nat} {xa:Option (Nat × Nat)} {σ:St}:copyV σ esz (.slice xa xl xe) (.slice none 0 ye)=some (.int .i64 0,σ):=by
 simp [copyV]
theorem copyV_run {esz ix ox iy oy xl yl xe ye:Nat} {σ σ':St} {vs:List V} (hn:min yl xl*esz≠0) (hl:σ.load iy oy (min yl xl*esz)=some vs) (hs:σ.store ix ox vs=some σ') :
  copyV σ esz (.slice (some (ix,ox)) xl xe) (.slice (some (iy,oy)) yl ye)=some (.int .i64 (min yl xl:Nat),σ'):=by
 simp only [copyV,hn,if_false,hl]
 cases vs with
 |nil =>
  have:=(St.load_get hl).1
  simp at this;omega
 |cons a r=>simp only [hs]
theorem op_copy {esz:Nat} {x y:Opd}:wpOp Γ M (.copy esz x y) tm ds σ K=onSome (copyV σ esz (x.eval tm) (y.eval tm)) fun p=>K p.1 ds p.2:=by
 have h:wpOp Γ M (.copy esz x y) tm ds σ K=onSome (writeOp (.copy esz x y) tm σ) fun p=>K p.1 ds p.2:=op_other rfl rfl (fun _ _ h=>by cases h) (fun _ _ h=>by cases h) (fun _ _ h=>by cases h) (fun _ _ h=>by cases h)
 rw [h];rfl
def clearSV (σ:St) (z:List V) (x:V):Option (V × St):=match x with
 | .slice none _ _=>some (.tuple [],σ)
 | .slice (some (id,off)) n _=>if n=0 then some (.tuple [],σ) else match σ.store id off (repeatZ z n) with | some σ=>some (.tuple [],σ) | none=>none
 |_=>none
theorem op_clearS {z:List V} {x:Opd}:wpOp Γ M (.clearS z x) tm ds σ K=onSome (clearSV σ z (x.eval tm)) fun p=>K p.1 ds p.2:=by
 have h:wpOp Γ M (.clearS z x) tm ds σ K=onSome (writeOp (.clearS z x) tm σ) fun p=>K p.1 ds p.2:=op_other rfl rfl (fun _ _ h=>by cases h) (fun _ _ h=>by cases h) (fun _ _ h=>by cases h) (fun _ _ h=>by cases h)
 rw [h];rfl
theorem op_clearM {x:Opd}:wpOp Γ M (.clearM x) tm ds σ K=onSome (writeOp (.clearM x) tm σ) (fun p=>K p.1 ds p.2):=op_other rfl rfl (fun _ _ h=>by cases h) (fun _ _ h=>by cases h) (fun _ _ h=>by cases h) (fun _ _ h=>by cases h)
theorem op_mapUpdate {kk:Kk} {m k v:Opd}:wpOp Γ M (.mapUpdate kk m k v) tm ds σ K=onSome (writeOp (.mapUpdate kk m k v) tm σ) (fun p=>K p.1 ds p.2):=op_other rfl rfl (fun _ _ h=>by cases h) (fun _ _ h=>by cases h) (fun _ _ h=>by cases h) (fun _ _ h=>by cases h)
theorem op_delete {kk:Kk} {m k:Opd}:wpOp Γ M (.delete kk m k) tm ds σ K=onSome (writeOp (.delete kk m k) tm σ) (fun p=>K p.1 ds p.2):=op_other rfl rfl (fun _ _ h=>by cases h) (fun _ _ h=>by cases h) (fun _ _ h=>by cases h) (fun _ _ h=>by cases h)
end
attribute [go_sem_proc] Nat.reduceEqDiff Nat.reduceLeDiff Nat.reduceAdd
attribute [go_sem_proc] Nat.reduceEqDiff Nat.reduceLeDiff Nat.reduceAdd
attribute [go_sem] eqV_bool eqV_nilnil mk_eq onSome_some cnd_true cnd_false asBool_bool asInt_int asPtr_ptr asSlice_slice asAgg_agg asTuple_tuple asFunc_func asNN_ptr bin_add bin_sub bin_mul bin_and
 bin_or bin_xor bin_andNot bin_eql bin_neq bin_lss bin_leq bin_gtr bin_geq aw_skip aw_region aw_regionR aw_draw aw_seq aw_cond aw_block aw_exit aw_ret aw_label aw_goto aw_scope wpDefers_nil
 cellRes_some res_cell loadRes_some res_load res_nil res_tmp retV_one retV_none retV_more wpRes_eq atEnd_normal atEnd_ret bq_ft bq_tf wo_nil wo_cons wo_guard wantedA_some wantB_bool wantB_undef
 putD_some putD_none eval_tmp eval_const eval_glob enter_get enter_defers T.get_set wd_nil wd_cons wd_alloc wd_guard hoist_nil hoist_alloc hoist_cons cd_nil cd_cons cd_read cd_readg cd_alloc cr_nil
 cr_cons ra_load1 pr_ptr ra_loadN prN_ptr lastSt_nil lastSt_cons rev_nil rev_cons sameV_refl op_mv op_pick op_alloc op_box op_build op_mkSlice op_load1 op_loadN op_store op_nilCheck op_bin op_eq1
 op_eqs op_not op_conv op_makeSlice op_sliceOf op_sliceArr op_part op_faddr op_iaddrS op_iaddrA op_extract op_lenS op_lookup op_append op_appendZ op_maxmin op_makeFunc op_makeMap op_call op_callv
 op_defer op_deferv op_copy op_clearS op_clearM op_mapUpdate op_delete na_mv na_pick na_box na_build na_mkSlice na_load na_store na_nilCheck na_bin na_eqs na_not na_conv na_makeSlice na_sliceOf
 na_faddr na_iaddrS na_iaddrA na_extract na_lenS na_append na_appendZ na_copy na_maxmin na_mapUpdate na_delete na_call na_defer ir_mv ir_pick ir_box ir_build ir_mkSlice ir_load ir_store ir_nilCheck
 ir_bin ir_eqs ir_not ir_conv ir_makeSlice ir_sliceOf ir_faddr ir_iaddrS ir_iaddrA ir_extract ir_lenS ir_append ir_appendZ ir_copy ir_maxmin ir_mapUpdate ir_delete ir_call ir_defer ef_mv ef_pick
 ef_box ef_build ef_mkSlice ef_load ef_store ef_nilCheck ef_bin ef_eqs ef_not ef_conv ef_makeSlice ef_sliceOf ef_faddr ef_iaddrS ef_iaddrA ef_extract ef_lenS ef_append ef_appendZ ef_copy ef_maxmin
 ef_mapUpdate ef_delete ef_call ef_defer List.nil_append List.append_nil Option.map_some Option.map_none if_true if_false Option.getD_some Option.getD_none List.getElem?_cons_zero
 List.getElem?_cons_succ Nat.zero_add Nat.add_zero Bool.true_and Bool.and_true Bool.false_eq_true Bool.not_true Bool.not_false Bool.or_true Bool.true_or Bool.false_or Bool.or_false Bool.false_and
 Bool.and_false and_true true_and Nat.le_refl decide_true decide_false List.map_cons List.map_nil beq_self_eq_true
end
end AM
