import Derived.Test.YtlgmpheammbacaaGreatDoorSmb
import Derived.Scope
import Derived.Laws.LoneSync
set_option linter.unusedVariables false
set_option linter.unusedSimpArgs false
namespace AM
open Go Go.RowKit
variable {P:Program} {φ:Phi} {tm:T V} {a:Act} {w:World} {w0:Base} {σ σ':St} {G B:Nat} {call:CallT} {L:List LMemo}
def DrawSound (P:Program) (G:Nat) (call:CallT):Prop :=
 ∀ n id ops dl,compDraw P n ops=some dl -> ∀ fr fr' σ σ',runDraw call dl fr σ=some (fr',σ') -> ∀ B w0 φ a w,Rel G B w0 φ σ w -> FR n φ fr a →
  (Code.region id ops true).wp P (fun e a' w'=>e=.normal /\ ∃ φ',φ.le φ' /\ Rel G B w0 φ' σ' w' /\ FR n φ' fr' a') a w
theorem step_recover {ops:Array Oper} {o:Oper} {rest:List Nat} {b:Frame} {k:List Item} {cs:List Frame} (ho:ops[0]?=some o) (hr:isRecover o=true) (hg:o.guard.isNone=true) (hb:OkB b cs) :
  step P (lone (b.at a (.inRegion ops (0 :: rest) :: k)) cs w)=.next (lone (b.at (a.put o.dst .nilIface) (.inRegion ops rest :: k)) cs w):=by
 have hw:Region.wanted o (yielded ops a.tmps)=true:=by
  have:o.guard=none:=by cases h:o.guard <;> simp_all
  simp [Region.wanted,this]
 have hrun:(execOp a.eval o).run P w=.ok .recover w:=by
  unfold isRecover at hr
  split at hr
  ·rename_i c hc
   split at hr
   ·rename_i hcal
    simp [execOp,hc,resolve,hcal,invoke,builtin]
   ·cases hr
  ·cases hr
 have hgo:=stepG_op (P:=P) (b:=b) (a:=a) (k:=k) (cs:=cs) (w:=w) (rest:=rest) ho hw
 have htr:tryRecover (b.at a (.inRegion ops (0 :: rest) :: k)) cs=none:=hb _ rfl
 have hfin:(b.at a (.inRegion ops (0 :: rest) :: k)).finish .nilIface=b.at (a.put o.dst .nilIface) (.inRegion ops rest :: k):=by
  rw [Frame.finish_at,ho];rfl
 refine step_lone_go ?_
 rw [hgo, <- hfin]
 simp only [Frame.at] at htr ⊢
 simp [stepG.apply,hrun,htr]
theorem regionR_sound (hcall:CallSound P G call) (hGP:G=P.globals.size) {n:Nat} {id:Nat} {ops:Array Oper} {o:Oper} {r:List Oper} {al:List AOper} (hops:ops.toList=o :: r) (hr:isRecover o=true) (hg:o.guard.isNone=true)
  (hd:dstOk n o.dst=true) (hc:compOpers P n ops r=some al) {fr fr':Fr} (hrun:runOps call al ⟨putD fr.tmps o.dst .nilIface,fr.defers⟩ σ=some (fr',σ')) (hR:Rel G B w0 φ σ w) (hF:FR n φ fr a)
  {b:Frame} {k:List Item} {cs:List Frame} (hb:OkB b cs):Come P G B w0 n φ .normal fr' σ' (lone (b.at a (.code (.region id ops false) :: k)) cs w) b k cs:=by
 have hsz:ops.size=r.length+1:=by have:=congrArg List.length hops;simpa using this
 have ho:ops[0]?=some o:=by have:=congrArg (·[0]?) hops;simpa using this
 have hok:okDst n o.dst:=by intro t ht;rw [ht] at hd;simpa [dstOk] using hd
 have hF1:=hF.put (d:=o.dst) hok (v:=.nilIface) (x:=.nilIface) rfl hF.ds
 have hwp:=runOps_sound hcall hGP (ops:=ops) r al hc hrun hR hF1 (Q:=fun e a' w'=>e=.normal /\ ∃ φ',φ.le φ' /\ Rel G B w0 φ' σ' w' /\ FR n φ' fr' a') (fun φ' a' w' h1 h2 h3=>⟨rfl,φ',h1,h2,h3⟩)
 have heq:=wpOps_eq_wpList (P:=P) (ops:=ops) (Q:=fun e a' w'=>e=.normal /\ ∃ φ',φ.le φ' /\ Rel G B w0 φ' σ' w' /\ FR n φ' fr' a') r 1 (fun j=>by
  have:=congrArg (·[j+1]?) hops
  simp at this
  rw [Nat.add_comm 1 j,this])
 rw [<- heq] at hwp
 obtain ⟨e,a',w',⟨rfl,φ',h1,h2,h3⟩,h4⟩:=wp_ops (P:=P) _ _ _ hwp b k cs
 refine ⟨a',w',φ',h1,h2,h3,?_⟩
 refine Arrives.of_steps (.one step_region) ?_
 rw [List.range_eq_range',hsz,List.range'_succ]
 exact Arrives.of_steps (.one (step_recover ho hr hg hb)) h4
theorem scope_sound {n:Nat} {c:Code} {fuel:Nat}
  (ih:∀ (c':Code) {ex:Ex} {fr fr':Fr} {σ σ':St},exec call L fuel (comp P n c') fr σ=some (ex,fr',σ') -> ∀ {φ:Phi} {a:Act} {w:World},Rel G B w0 φ σ w -> FR n φ fr a →
   ∀ {b:Frame} {k:List Item} {cs:List Frame},OkB b cs -> Come P G B w0 n φ ex fr' σ' (lone (b.at a (.code c' :: k)) cs w) b k cs) :
  ∀ (m l:Nat) {ex:Ex} {fr fr':Fr} {σ σ':St},exec.scopeLoop (exec call L fuel) (comp P n c) m l fr σ=some (ex,fr',σ') -> ∀ {φ:Phi} {a:Act} {w:World},Rel G B w0 φ σ w -> FR n φ fr a →
   ∀ {b:Frame} {k:List Item} {cs:List Frame},OkB b cs -> ∀ M:Machine,(∀ k',gotoIn l (.inScope c :: k)=some k' -> Steps P M (lone (b.at a k') cs w)) →
    Come P G B w0 n φ ex fr' σ' M b k cs:=by
 intro m
 induction m with
 |zero=>intro l ex fr fr' σ σ' h;simp [exec.scopeLoop] at h
 |succ m ihm =>
  intro l ex fr fr' σ σ' h φ a w hR hF b k cs hb M hM
  simp only [exec.scopeLoop,findLabel_comp] at h
  cases hfl:Go.findLabel c l with
  |none =>
   rw [hfl] at h
   simp at h;obtain ⟨rfl,rfl,rfl⟩:=h
   refine ⟨a,w,φ,Phi.le.refl _,hR,hF,?_⟩
   intro k' hk'
   exact hM k' (by simp [gotoIn,hfl,hk'])
  |some rest =>
   rw [hfl] at h
   simp only [Option.map_some] at h
   have hsteps:=hM (.code rest :: .inScope c :: k) (by simp [gotoIn,hfl])
   cases hx:exec call L fuel (comp P n rest) fr σ with
   |none=>rw [hx] at h;cases h
   |some res =>
    obtain ⟨ex1,fr1,σ1⟩:=res
    rw [hx] at h
    obtain ⟨a1,w1,φ1,hle,hR1,hF1,harr⟩:=ih rest hx hR hF (b:=b) (k:=.inScope c :: k) hb
    cases ex1 with
    |goto l2 =>
     simp only at h
     exact Come.mono hle (ihm l2 h hR1 hF1 hb M (fun k' hk'=>hsteps.trans (harr k' hk')))
    |normal =>
     simp at h;obtain ⟨rfl,rfl,rfl⟩:=h
     exact ⟨a1,w1,φ1,hle,hR1,hF1,hsteps.trans (Steps.trans harr (.one step_inScope))⟩
    |exit id =>
     simp at h;obtain ⟨rfl,rfl,rfl⟩:=h
     exact ⟨a1,w1,φ1,hle,hR1,hF1,fun k' hk'=>hsteps.trans (harr k' (by simp [exitTo,hk']))⟩
    |ret =>
     simp at h;obtain ⟨rfl,rfl,rfl⟩:=h
     obtain ⟨todo,hs⟩:=harr
     exact ⟨a1,w1,φ1,hle,hR1,hF1,todo,hsteps.trans hs⟩
theorem sameT_eq {α:Type} {f:α -> α -> Bool} (hf:∀ a b,f a b=true -> a=b):∀ (x y:T α),sameT f x y=true -> x=y
 | .nil,y,h=>by cases y <;> simp_all [sameT]
 | .node v l r,y,h=>by
  cases y with
  |nil=>simp [sameT] at h
  |node v' l' r' =>
   simp only [sameT,Bool.and_eq_true] at h
   obtain ⟨⟨h1,h2⟩,h3⟩:=h
   rw [sameT_eq hf l l' h2,sameT_eq hf r r' h3]
   cases v <;> cases v' <;> simp_all
   exact hf _ _ h1
theorem sameE_eq:∀ (x y:List (V × V)),sameE x y=true -> x=y
 | [],y,h=>by cases y <;> simp_all [sameE]
 |(a,b) :: r,y,h=>by
  cases y with
  |nil=>simp [sameE] at h
  |cons c s =>
   obtain ⟨c,d⟩:=c
   simp only [sameE,Bool.and_eq_true] at h
   rw [sameV_eq a c h.1.1,sameV_eq b d h.1.2,sameE_eq r s h.2]
theorem sameN_eq:∀ (x y:List Nat),sameN x y=true -> x=y
 | [],y,h=>by cases y <;> simp_all [sameN]
 |a :: r,y,h=>by
  cases y with
  |nil=>simp [sameN] at h
  |cons c s =>
   simp only [sameN,Bool.and_eq_true,beq_iff_eq] at h
   rw [h.1,sameN_eq r s h.2]
theorem sameO_eq (x y:Obj) (h:sameO x y=true):x=y:=by
 cases x <;> cases y <;> simp [sameO] at h
 ·obtain ⟨⟨⟨⟨rfl,rfl⟩,rfl⟩,h1⟩,h2⟩:=h
  rw [sameL_eq _ _ h1,sameT_eq sameV_eq _ _ h2]
 ·rw [sameE_eq _ _ h]
 ·rfl
theorem sameSt_eq (x y:St) (h:sameSt x y=true):x=y:=by
 obtain ⟨a,b,c⟩:=x;obtain ⟨a',b',c'⟩:=y
 simp only [sameSt,Bool.and_eq_true,beq_iff_eq] at h
 obtain ⟨⟨rfl,h1⟩,h2⟩:=h
 rw [sameT_eq sameO_eq _ _ h1,sameT_eq sameN_eq _ _ h2]
def LoopOk (P:Program) (G:Nat) (m:LMemo):Prop :=
 ∀ n (x:Code),comp P n x=m.b -> ∀ B w0 φ a w,Rel G B w0 φ m.σ w -> FR n φ m.fr a -> ∀ (b:Frame) (k:List Item) (cs:List Frame),OkB b cs →
  Come P G B w0 n φ m.ex m.fr' m.σ' (lone (b.at a (.code x :: .inLoop x :: k)) cs w) b k cs
def LoopsOk (P:Program) (G:Nat) (L:List LMemo):Prop:=∀ m∈L,LoopOk P G m
theorem sameDs_eq:∀ (x y:Dfs),sameDs x y=true -> x=y
 | [],y,h=>by cases y <;> simp_all [sameDs]
 |(f,a) :: r,y,h=>by
  cases y with
  |nil=>simp [sameDs] at h
  |cons c s =>
   obtain ⟨g,b⟩:=c
   simp only [sameDs,Bool.and_eq_true,beq_iff_eq] at h
   rw [h.1.1,sameL_eq a b h.1.2,sameDs_eq r s h.2]
theorem sameFr_eq (x y:Fr) (h:sameFr x y=true):x=y:=by
 obtain ⟨a,b⟩:=x;obtain ⟨c,d⟩:=y
 simp only [sameFr,Bool.and_eq_true] at h
 rw [sameT_eq sameV_eq _ _ h.1,sameDs_eq _ _ h.2]
theorem loopGet_ok:∀ {L:List LMemo} {b:AC} {fr fr':Fr} {σ σ':St} {ex:Ex},LoopsOk P G L -> loopGet L b fr σ=some (ex,fr',σ') -> LoopOk P G ⟨b,fr,σ,ex,fr',σ'⟩
 | [],b,fr,fr',σ,σ',ex,hL,h=>by simp [loopGet] at h
 |m :: r,b,fr,fr',σ,σ',ex,hL,h=>by
  simp only [loopGet] at h
  split at h
  ·rename_i hc
   simp only [Bool.and_eq_true,decide_eq_true_eq] at hc
   obtain ⟨_,h1,h2,h3⟩:=hc
   simp at h;obtain ⟨rfl,rfl,rfl⟩:=h
   rw [<- h3, <- sameFr_eq _ _ h1, <- sameSt_eq _ _ h2]
   exact hL m (by simp)
  ·exact loopGet_ok (fun m hm=>hL m (by simp [hm])) h
theorem exec_sound (hcall:CallSound P G call) (hL:LoopsOk P G L) (hdraw:DrawSound P G call) (hGP:G=P.globals.size) {n:Nat}:∀ (f:Nat) (c:Code) {ex:Ex} {fr fr':Fr} {σ σ':St},exec call L f (comp P n c) fr σ=some (ex,fr',σ') →
  ∀ {φ:Phi} {a:Act} {w:World},Rel G B w0 φ σ w -> FR n φ fr a -> ∀ {b:Frame} {k:List Item} {cs:List Frame},OkB b cs -> Come P G B w0 n φ ex fr' σ' (lone (b.at a (.code c :: k)) cs w) b k cs:=by
 intro f
 induction f using Nat.strongRecOn with
 |_ f ih =>
  intro c ex fr fr' σ σ' h φ a w hR hF b k cs hb
  cases f with
  |zero=>simp [exec] at h
  |succ f =>
   cases c with
   |skip =>
    simp [comp,exec] at h;obtain ⟨rfl,rfl,rfl⟩:=h
    exact ⟨a,w,φ,Phi.le.refl _,hR,hF,.one step_skip⟩
   |label l =>
    simp [comp,exec] at h;obtain ⟨rfl,rfl,rfl⟩:=h
    exact ⟨a,w,φ,Phi.le.refl _,hR,hF,.one step_label⟩
   |exit id =>
    simp [comp,exec] at h;obtain ⟨rfl,rfl,rfl⟩:=h
    exact ⟨a,w,φ,Phi.le.refl _,hR,hF,fun k' hk=>.one (step_exit hk)⟩
   |goto l =>
    simp [comp,exec] at h;obtain ⟨rfl,rfl,rfl⟩:=h
    exact ⟨a,w,φ,Phi.le.refl _,hR,hF,fun k' hk=>.one (step_goto hk)⟩
   |ret =>
    simp [comp,exec] at h;obtain ⟨rfl,rfl,rfl⟩:=h
    exact ⟨a,w,φ,Phi.le.refl _,hR,hF,_,.one step_ret⟩
   |refuse why=>simp [comp,exec] at h
   |rangeFunc f' ps as bd=>simp [comp,exec] at h
   |region id ops d =>
    simp only [comp] at h
    cases d with
    |true =>
     simp only [if_true] at h
     split at h
     ·rename_i dl hdl
      simp only [exec] at h
      split at h
      ·rename_i fr1 σ1 hrd
       simp at h;obtain ⟨rfl,rfl,rfl⟩:=h
       exact come_of_wp (hdraw n id ops dl hdl fr fr1 σ σ1 hrd B w0 φ a w hR hF) b k cs
      ·cases h
     ·simp [exec] at h
    |false =>
     simp only [Bool.false_eq_true,if_false] at h
     split at h
     ·rename_i o r hops
      split at h
      ·rename_i hcond
       obtain ⟨h1,h2,h3⟩:=hcond
       split at h
       ·rename_i al hal
        simp only [exec] at h
        split at h
        ·rename_i fr1 σ1 hrd
         simp at h;obtain ⟨rfl,rfl,rfl⟩:=h
         exact regionR_sound hcall hGP hops h1 h2 h3 hal hrd hR hF hb
        ·cases h
       ·simp [exec] at h
      ·split at h
       ·rename_i al hal
        simp only [exec] at h
        split at h
        ·rename_i fr1 σ1 hrd
         simp at h;obtain ⟨rfl,rfl,rfl⟩:=h
         rw [<- hops] at hal
         exact come_of_wp (wp_region_list (runOps_sound hcall hGP (ops:=ops) ops.toList al hal hrd hR hF (fun φ' a' w' h1 h2 h3=>⟨rfl,φ',h1,h2,h3⟩))) b k cs
        ·cases h
       ·simp [exec] at h
     ·rename_i hops
      simp [exec,runOps] at h;obtain ⟨rfl,rfl,rfl⟩:=h
      refine come_of_wp (wp_region_list ?_) b k cs
      rw [hops]
      exact ⟨rfl,φ,Phi.le.refl _,hR,hF⟩
   |seq x y =>
    simp only [comp,exec] at h
    cases hx:exec call L f (comp P n x) fr σ with
    |none=>rw [hx] at h;cases h
    |some res =>
     obtain ⟨ex1,fr1,σ1⟩:=res
     rw [hx] at h
     have hc1:=ih f (by omega) x hx hR hF (b:=b) (k:=.code y :: k) hb
     cases ex1 with
     |normal =>
      simp only at h
      obtain ⟨a1,w1,φ1,hle,hR1,hF1,harr⟩:=hc1
      have hc2:=ih f (by omega) y h hR1 hF1 (b:=b) (k:=k) hb
      exact Come.of_steps (.head step_seq harr) (Come.mono hle hc2)
     |exit id =>
      simp at h;obtain ⟨rfl,rfl,rfl⟩:=h
      exact Come.of_steps (.one step_seq) (Come.pass rfl (by simp) hc1)
     |goto l =>
      simp at h;obtain ⟨rfl,rfl,rfl⟩:=h
      exact Come.of_steps (.one step_seq) (Come.pass rfl (by simp) hc1)
     |ret =>
      simp at h;obtain ⟨rfl,rfl,rfl⟩:=h
      exact Come.of_steps (.one step_seq) (Come.pass rfl (by simp) hc1)
   |cond c x y =>
    simp only [comp] at h
    split at h
    ·rename_i c' hc'
     simp only [exec] at h
     split at h
     ·rename_i t ht
      have hG:GR P φ:=fun g hg=>(hR.glob g (by omega)).2
      have hv:=opd_rel (tm:=fr.tmps) (a:=a) hG hc' (hF.tr _)
      rw [ht] at hv
      have hv:a.eval c=.bool t:=hv
      refine Come.of_steps (.one (step_cond hv)) ?_
      cases t with
      |true=>simp only [if_true] at h ⊢;exact ih f (by omega) x h hR hF hb
      |false=>simp only [Bool.false_eq_true,if_false] at h ⊢;exact ih f (by omega) y h hR hF hb
     ·cases h
    ·simp [exec] at h
   |block id x =>
    simp only [comp,exec] at h
    cases hx:exec call L f (comp P n x) fr σ with
    |none=>rw [hx] at h;cases h
    |some res =>
     obtain ⟨ex1,fr1,σ1⟩:=res
     rw [hx] at h
     obtain ⟨a1,w1,φ1,hle,hR1,hF1,harr⟩:=ih f (by omega) x hx hR hF (b:=b) (k:=.inBlock id :: k) hb
     cases ex1 with
     |normal =>
      simp at h;obtain ⟨rfl,rfl,rfl⟩:=h
      exact ⟨a1,w1,φ1,hle,hR1,hF1,.head step_block (Steps.trans harr (.one step_inBlock))⟩
     |exit id' =>
      simp only at h
      by_cases hid:id'=id
      ·rw [if_pos hid] at h
       simp at h;obtain ⟨rfl,rfl,rfl⟩:=h
       exact ⟨a1,w1,φ1,hle,hR1,hF1,.head step_block (harr k (by simp [exitTo,hid]))⟩
      ·rw [if_neg hid] at h
       simp at h;obtain ⟨rfl,rfl,rfl⟩:=h
       refine ⟨a1,w1,φ1,hle,hR1,hF1,fun k' hk=>.head step_block (harr k' ?_)⟩
       have:(id == id')=false:=by simp;exact fun h=>hid h.symm
       simp [exitTo,this,hk]
     |goto l =>
      simp at h;obtain ⟨rfl,rfl,rfl⟩:=h
      exact ⟨a1,w1,φ1,hle,hR1,hF1,fun k' hk=>.head step_block (harr k' (by simp [gotoIn,hk]))⟩
     |ret =>
      simp at h;obtain ⟨rfl,rfl,rfl⟩:=h
      obtain ⟨todo,hs⟩:=harr
      exact ⟨a1,w1,φ1,hle,hR1,hF1,todo,.head step_block hs⟩
   |scope x =>
    simp only [comp,exec] at h
    cases hx:exec call L f (comp P n x) fr σ with
    |none=>rw [hx] at h;cases h
    |some res =>
     obtain ⟨ex1,fr1,σ1⟩:=res
     rw [hx] at h
     obtain ⟨a1,w1,φ1,hle,hR1,hF1,harr⟩:=ih f (by omega) x hx hR hF (b:=b) (k:=.inScope x :: k) hb
     cases ex1 with
     |normal =>
      simp at h;obtain ⟨rfl,rfl,rfl⟩:=h
      exact ⟨a1,w1,φ1,hle,hR1,hF1,.head step_scope (Steps.trans harr (.one step_inScope))⟩
     |exit id =>
      simp at h;obtain ⟨rfl,rfl,rfl⟩:=h
      exact ⟨a1,w1,φ1,hle,hR1,hF1,fun k' hk=>.head step_scope (harr k' (by simp [exitTo,hk]))⟩
     |goto l =>
      simp only at h
      exact Come.mono hle (scope_sound (c:=x) (fun c' {_} {_} {_} {_} {_} hx=>ih f (by omega) c' hx) f l h hR1 hF1 hb _ (fun k' hk'=>.head step_scope (harr k' hk')))
     |ret =>
      simp at h;obtain ⟨rfl,rfl,rfl⟩:=h
      obtain ⟨todo,hs⟩:=harr
      exact ⟨a1,w1,φ1,hle,hR1,hF1,todo,.head step_scope hs⟩
   |loop x =>
    have key:∀ (m:Nat),m <= f+1 -> ∀ {ex:Ex} {fr fr':Fr} {σ σ':St},exec call L m (.loop (comp P n x)) fr σ=some (ex,fr',σ') -> ∀ {φ:Phi} {a:Act} {w:World},Rel G B w0 φ σ w -> FR n φ fr a →
      Come P G B w0 n φ ex fr' σ' (lone (b.at a (.code x :: .inLoop x :: k)) cs w) b k cs:=by
     intro m
     induction m with
     |zero=>intro _ ex fr fr' σ σ' h;simp [exec] at h
     |succ m ihm =>
      intro hm ex fr fr' σ σ' h φ a w hR hF
      simp only [exec] at h
      cases hg:loopGet L (comp P n x) fr σ with
      |some res =>
       obtain ⟨ex1,fr1,σ1⟩:=res
       rw [hg] at h
       simp at h;obtain ⟨rfl,rfl,rfl⟩:=h
       exact loopGet_ok hL hg n x rfl B w0 φ a w hR hF b k cs hb
      |none =>
       rw [hg] at h
       simp only at h
       cases hx:exec call L m (comp P n x) fr σ with
       |none=>rw [hx] at h;cases h
       |some res =>
        obtain ⟨ex1,fr1,σ1⟩:=res
        rw [hx] at h
        have hc1:=ih m (by omega) x hx hR hF (b:=b) (k:=.inLoop x :: k) hb
        cases ex1 with
        |normal =>
         simp only at h
         obtain ⟨a1,w1,φ1,hle,hR1,hF1,harr⟩:=hc1
         exact Come.of_steps (Steps.trans harr (.one step_inLoop)) (Come.mono hle (ihm (by omega) h hR1 hF1))
        |exit id =>
         simp at h;obtain ⟨rfl,rfl,rfl⟩:=h
         exact Come.pass rfl (by simp) hc1
        |goto l =>
         simp at h;obtain ⟨rfl,rfl,rfl⟩:=h
         exact Come.pass rfl (by simp) hc1
        |ret =>
         simp at h;obtain ⟨rfl,rfl,rfl⟩:=h
         exact Come.pass rfl (by simp) hc1
    simp only [comp] at h
    exact Come.of_steps (.one step_loop) (key (f+1) (Nat.le_refl _) h hR hF)
end AM
namespace AM
open Go Go.RowKit
variable {P:Program} {φ:Phi} {tm:T V} {a:Act} {w:World} {w0:Base} {σ σ':St} {G B:Nat} {call:CallT}
def resV (tmps:Array Value):ResultVar -> Sem Value
 | .tmp t=>pure (tmps.getD t Go.undef)
 | .cell b t=>do loadVar t (<- asAddr (tmps.getD b Go.undef))
theorem results_list {n:Nat} {fr:Fr} (hF:FR n φ fr a) (hR:Rel G B w0 φ σ w):∀ {l:List ResultVar} {rs:List Res} {vs:List V},compRes P l=some rs -> readResults fr.tmps σ rs=some vs →
  ∃ xs:List Value,(l.mapM (resV a.tmps)).run P w=.ok xs w /\ LR φ vs xs
 | [],rs,vs,hc,hr=>by simp [compRes] at hc;subst hc;simp [readResults] at hr;subst hr;exact ⟨[],rfl,LR.nil⟩
 | .tmp t :: r,rs,vs,hc,hr=>by
  simp only [compRes] at hc
  split at hc
  ·rename_i l hl
   simp at hc;subst hc
   simp only [readResults] at hr
   split at hr
   ·rename_i l2 hl2
    simp at hr;subst hr
    obtain ⟨xs,hx,hlr⟩:=results_list hF hR hl hl2
    exact ⟨a.tmps.getD t Go.undef :: xs,by simp only [List.mapM_cons,resV,Sem.run_bind,Sem.run_pure,Result.andThen_ok,hx],LR.cons (hF.ts t) hlr⟩
   ·cases hr
  ·cases hc
 | .cell b t :: r,rs,vs,hc,hr=>by
  simp only [compRes] at hc
  split at hc
  ·rename_i l g m hl hg hm
   simp at hc;subst hc
   simp only [readResults] at hr
   split at hr
   ·rename_i id off hid
    split at hr
    ·cases hr
    ·rename_i l2 hl2
     obtain ⟨xs,hx,hlr⟩:=results_list hF hR hl hl2
     have hp:=hF.ts b
     rw [hid] at hp
     obtain ⟨bb,nn,hbb,hpp⟩:=hp
     cases g with
     |true =>
      simp only [if_true] at hr
      split at hr
      ·rename_i vs2 hvs
       simp at hr;subst hr
       obtain ⟨ys,hyr,hlen,hcell⟩:=hR.load hvs hbb
       have hld:=run_loadCells_list (P:=P) w ⟨bb,off,none⟩ ys hcell
       rw [hlen] at hld
       refine ⟨.agg ys.toArray :: xs,?_,LR.cons (VR.agg (by simpa using hyr)) hlr⟩
       simp only [List.mapM_cons,resV,Sem.run_bind,hpp,asAddr,Sem.run_pure,Result.andThen_ok,loadVar,run_isAgg' hg,if_true,run_sizeOf' hm,hld,hx]
      ·cases hr
     |false =>
      simp only [Bool.false_eq_true,if_false] at hr
      split at hr
      ·rename_i v hv
       simp at hr;subst hr
       obtain ⟨X,hX,hvX⟩:=hR.cell hv hbb
       refine ⟨X :: xs,?_,LR.cons hvX hlr⟩
       simp only [List.mapM_cons,resV,Sem.run_bind,hpp,asAddr,Sem.run_pure,Result.andThen_ok,loadVar,run_isAgg' hg,Bool.false_eq_true,if_false,run_load,hX,hx]
      ·cases hr
   ·cases hr
  ·cases hc
theorem results_sound {n:Nat} {fr:Fr} (hF:FR n φ fr a) (hR:Rel G B w0 φ σ w) {fn:Func} {rs:List Res} {vs:List V} (hc:compRes P fn.results.toList=some rs) (hr:readResults fr.tmps σ rs=some vs) :
  ∃ x,(results fn a.tmps).run P w=.ok x w /\ VR φ (retV vs) x:=by
 obtain ⟨xs,hx,hlr⟩:=results_list hF hR hc hr
 have hl:=hlr.length
 have hrun:(results fn a.tmps).run P w=.ok (if h:xs.toArray.size=1 then xs.toArray[0] else .tuple xs.toArray) w:=by
  have hfun:results fn a.tmps=(do
    let vs <- fn.results.mapM (resV a.tmps)
    pure (if h:vs.size=1 then vs[0] else .tuple vs)):=by
   unfold results
   congr 1
  rw [hfun,Array.mapM_eq_mapM_toList]
  simp only [Sem.run_bind,Sem.run_map]
  rw [hx]
  rfl
 refine ⟨_,hrun,?_⟩
 cases vs with
 |nil=>cases hlr;exact ⟨#[],rfl,LR.nil⟩
 |cons v vs =>
  obtain ⟨x,s,rfl,hv,hs⟩:=hlr
  cases vs with
  |nil=>cases hs;exact hv
  |cons u vs =>
   obtain ⟨y,s,rfl,hu,hs⟩:=hs
   rw [dif_neg (by simp)]
   exact ⟨_,rfl,LR.cons hv (LR.cons hu hs)⟩
theorem leaves_sound (hcall:DefSound P G call) {fn:Func} {tmps:Array Value} {R:Ending -> World -> Prop}:∀ (ds:Dfs) (dfs:List Deferred) {σ σ':St} {φ:Phi} {w:World},runDefers call ds σ=some σ' -> DR φ ds dfs -> Rel G B w0 φ σ w →
  (∀ φ' w',φ.le φ' -> Rel G B w0 φ' σ' w' -> ∃ v,(results fn tmps).run P w'=.ok v w' /\ R (.returned v) w') -> Leaves P fn tmps R dfs .returning w
 | [],dfs,σ,σ',φ,w,hr,hD,hR,hk=>by
  simp [runDefers] at hr;subst hr
  have:dfs=[]:=hD
  subst this
  exact hk φ w (Phi.le.refl _) hR
 |(g,xs) :: r,dfs,σ,σ',φ,w,hr,hD,hR,hk=>by
  obtain ⟨cap,A,s,rfl,hxs,hs⟩:=hD
  simp only [runDefers] at hr
  split at hr
  ·rename_i v σ1 hcl
   refine ⟨by simp,.func g,cap,g,A++cap,rfl,?_,?_⟩
   ·have:=hcall.enter g _ σ _ _ hcl (A++cap) w
    simpa [invoke] using this
   ·refine CallsD.mono (hcall.callsD g _ σ _ _ hcl B w0 φ w _ hR hxs) ?_
    rintro e u w' ⟨rfl,φ1,x,rfl,hle,hR1,hv⟩
    exact leaves_sound hcall r s hr (hs.mono hle) hR1 (fun φ' w'' hle'=>hk φ' w'' (hle.trans hle'))
  ·cases hr
theorem leaves_stepsD {fn:Func} {tmps:Array Value} {R:Ending -> World -> Prop}:∀ (ds:List Deferred) (u:FrameMode) (w:World) (fr:Frame)
  (cs:List Frame),fr.mode=u -> fr.defers=ds -> fr.tmps=tmps -> P.funcs[fr.fn]?=some fn -> fr.kind=.deferred -> Leaves P fn tmps R ds u w →
  ∃ e w' fr',R e w' /\ Comes P (lone fr cs w) (lone fr' cs w') e /\ fr'.kind=.deferred /\ fr'.going P w' e:=by
 intro ds
 induction ds with
 |nil =>
  intro u w fr cs hu hd ht hf hk h
  cases u with
  |run=>exact h.elim
  |returning =>
   obtain ⟨v,hr,hR⟩:=h
   exact ⟨.returned v,w,fr,hR,Steps.refl P _,hk,hu,hd,fn,hf,ht▸hr⟩
  |panicking chain=>exact ⟨.panicked chain,w,fr,h,Steps.refl P _,hk,hu,hd,fn,hf⟩
 |cons d ds ih =>
  intro u w fr cs hu hd ht hf hk h
  obtain ⟨hrun,fv,cap,f,args,htar,hinv,hcall⟩:=h
  have h1:=step_defer (cs:=cs) (hu▸hrun) hd htar hinv
  obtain ⟨e,u',w',frX,hR,hsteps,hkX,hgo⟩:=hcall { fr with defers:=ds } cs hu
  cases e with
  |returned v =>
   have h2:=step_going_returned (c:={ { fr with defers:=ds } with mode:=u' }) (cs:=cs) hkX hgo
   obtain ⟨e',w'',fr',hR',hs',hfn',hl'⟩:=ih (settle u') w' { { { fr with defers:=ds } with mode:=u' } with mode:=settle u' } cs rfl rfl ht hf hk hR
   exact ⟨e',w'',fr',hR',Comes.of_steps (.head h1 (Steps.trans hsteps (.one h2))) hs',hfn',hl'⟩
  |panicked chain =>
   have h2:=step_going_panicked (c:={ { fr with defers:=ds } with mode:=u' }) (cs:=cs) hgo
   obtain ⟨e',w'',fr',hR',hs',hfn',hl'⟩:=ih (raised u' chain) w' { { { fr with defers:=ds } with mode:=u' } with mode:=raised u' chain } cs rfl rfl ht hf hk hR
   exact ⟨e',w'',fr',hR',Comes.of_steps (.head h1 (Steps.trans hsteps (.one h2))) hs',hfn',hl'⟩
  |outgrown=>exact ⟨.outgrown,w',fr,hR,Outgrown.of_steps (.one h1) hsteps,hk,trivial⟩
def Plain1 (P:Program) (G:Nat) (g:FuncId) (xs:List V) (σ:St) (v:V) (σ':St):Prop :=
 ∀ B w0 φ w (args:Array Value),Rel G B w0 φ σ w -> LR φ xs args.toList →
  ((callFunc g args).run P w=.ok (.enter g args) w /\ Calls P g args w (CPost G B w0 φ σ' v)) ∨
  ∃ x w' φ',(callFunc g args).run P w=.ok (.value x) w' /\ φ.le φ' /\ Rel G B w0 φ' σ' w' /\ VR φ' v x
def Def1 (P:Program) (G:Nat) (g:FuncId) (xs:List V) (σ:St) (v:V) (σ':St):Prop :=
 (∀ args w,(callFunc g args).run P w=.ok (.enter g args) w) ∧
  ∀ B w0 φ w (args:Array Value),Rel G B w0 φ σ w -> LR φ xs args.toList -> CallsD P g args .returning w fun e u w'=>u=.returning /\ CPost G B w0 φ σ' v e w'
structure EnvOk (P:Program) (G:Nat) (Γ:T AF):Prop where
 code:∀ g fn,Γ.get g=some (.code fn) -> ∃ f,P.funcs[g]?=some f /\ compFn P f=some fn
 ext:∀ g e xs σ v σ',Γ.get g=some (.ext e) -> extCall e xs σ=some (v,σ') -> Plain1 P G g xs σ v σ' /\ (e=.unlock -> Def1 P G g xs σ v σ')
def MemoOk (P:Program) (G:Nat) (m:Memo):Prop:=Plain1 P G m.g m.xs m.at m.v m.σ' /\ Def1 P G m.g m.xs m.at m.v m.σ'
theorem ofOwn_get {n:Nat}:∀ {l:List (Nat × Obj)} {a:Nat} {o:Obj},(ofOwn n l).objs.get a=some o -> (a,o)∈l
 | [],a,o,h=>by simp [ofOwn,T.get] at h
 |p :: r,a,o,h=>by
  have h2:(T.set (ofOwn n r).objs p.1 p.2).get a=some o:=h
  rw [T.get_set] at h2
  by_cases e:a=p.1
  ·rw [if_pos e] at h2
   have h3:p.2=o:=Option.some.inj h2
   subst e;subst h3;exact List.mem_cons_self
  ·rw [if_neg e] at h2;exact List.mem_cons_of_mem _ (ofOwn_get h2)
theorem Rel.forget (h:Rel G B w0 φ σ w) {n:Nat} {l:List (Nat × Obj)} (hn:σ.next <= n) (hl:∀ p∈l,σ.objs.get p.1=some p.2 /\ p.2.grp=0):Rel G B w0 φ (ofOwn n l) w:=by
 have key:∀ a o,(ofOwn n l).objs.get a=some o -> σ.objs.get a=some o /\ o.grp=0:=fun a o ho=>hl _ (ofOwn_get ho)
 have hnext:(ofOwn n l).next=n:=rfl
 refine ⟨h.below,h.B_le,?_,?_,fun a o b n ho ha=>h.obj a o b n (key a o ho).1 ha,?_,?_,?_,?_,?_⟩
 ·intro a b m hab;have:=h.dom a b m hab;exact ⟨by omega,this.2⟩
 ·intro g hg;have:=h.glob g hg;exact ⟨by omega,this.2⟩
 ·intro a ha
  cases hc:(ofOwn n l).objs.get a with
  |none=>rfl
  |some o=>have:=h.lt (key a o hc).1;omega
 ·intro a a' o o' b m m' hne h1 h2 hm hlv ha ha'
  exact h.sep a a' o o' b m m' hne (key a o h1).1 (key a' o' h2).1 hm hlv ha ha'
 ·intro a o ho hg;exact (hg (key a o ho).2).elim
 ·intro g _;simp [ofOwn,T.get]
 ·intro a hX;have:=h.pend a hX;exact ⟨this.1,by omega⟩
theorem ownIn_spec {l:List (Nat × Obj)} {n:Nat} (h:ownIn l n σ=true):σ.next <= n /\ ∀ p∈l,σ.objs.get p.1=some p.2 /\ p.2.grp=0:=by
 simp only [ownIn,Bool.and_eq_true,decide_eq_true_eq,List.all_eq_true] at h
 refine ⟨h.1,fun p hp=>?_⟩
 obtain ⟨h1,h2⟩:=h.2 p hp
 split at h2
 ·rename_i o ho
  rw [ho, <- sameO_eq _ _ h2]
  refine ⟨rfl,?_⟩
  split at h1
  ·rename_i hh;rw [hh];rfl
  ·rename_i hh;rw [hh];rfl
  ·cases h1
 ·cases h2
theorem Memo.fits_spec {m:Memo} (h:m.fits σ=true):(m.at=σ) \/ ∃ l,m.own=some l /\ m.at=ofOwn m.σ.next l /\ σ.next <= m.σ.next /\ ∀ p∈l,σ.objs.get p.1=some p.2 /\ p.2.grp=0:=by
 unfold Memo.fits at h
 unfold Memo.at
 cases ho:m.own with
 |none=>rw [ho] at h;simp only [Bool.and_eq_true] at h;exact .inl (sameSt_eq _ _ h.2)
 |some l=>rw [ho] at h;obtain ⟨h1,h2⟩:=ownIn_spec h;exact .inr ⟨l,rfl,rfl,h1,h2⟩
theorem memoGet_ok:∀ {M:List Memo} {g:FuncId} {xs:List V} {σ σ':St} {v:V},(∀ m∈M,MemoOk P G m) -> memoGet M g xs σ=some (v,σ') -> Plain1 P G g xs σ v σ' /\ Def1 P G g xs σ v σ'
 | [],g,xs,σ,σ',v,hM,h=>by simp [memoGet] at h
 |m :: r,g,xs,σ,σ',v,hM,h=>by
  simp only [memoGet] at h
  split at h
  ·rename_i hc
   simp only [Bool.and_eq_true,beq_iff_eq] at hc
   obtain ⟨rfl,h1,h2⟩:=hc
   simp at h;obtain ⟨rfl,rfl⟩:=h
   rw [<- sameL_eq _ _ h1]
   have hm:=hM m (by simp)
   rcases Memo.fits_spec h2 with e | ⟨l,_,e,hn,hl⟩
   ·rw [<- e];exact hm
   ·rw [MemoOk,e] at hm
    exact ⟨fun B w0 φ w args hR hL=>hm.1 B w0 φ w args (hR.forget hn hl) hL,hm.2.1,fun B w0 φ w args hR hL=>hm.2.2 B w0 φ w args (hR.forget hn hl) hL⟩
  ·exact memoGet_ok (fun m hm=>hM m (by simp [hm])) h
theorem ofList_rel {n:Nat} {xs:List V} {args:Array Value} (h:LR φ xs args.toList):FR n φ (enter xs) { tmps:=args++Array.replicate (n-args.size) Go.undef,defers:=[] }:=by
 have hl:=h.length
 refine ⟨fun t=>?_,by simp;omega,rfl⟩
 simp only [enter,ofList_get,Array.getD_eq_getD_getElem?]
 by_cases c:t<xs.length
 ·obtain ⟨x,hx,hv⟩:=h.get t xs[t] (by simp [c])
  rw [Array.getElem?_append_left (by simp at hl;omega)]
  have:args[t]?=some x:=by simpa using hx
  rw [this]
  simp [c];exact hv
 ·rw [List.getElem?_eq_none (by omega)]
  have:(args++Array.replicate (n-args.size) Go.undef)[t]?.getD Go.undef=Go.undef:=by
   rw [Array.getElem?_append_right (by simp at hl;omega),Array.getElem?_replicate]
   split <;> rfl
  rw [this];exact VR.undef
theorem compFn_spec {f : Func} {fn : AFunc} (h : compFn P f = some fn) : f.name ≠ "runtime.NumGoroutine" /\ ∃ b, f.body = some b /\ fn.body = comp P f.ntmps b /\ compRes P f.results.toList = some fn.results := by
 unfold compFn at h
 split at h
 ·cases h
 ·rename_i hn
  split at h
  ·cases h
  ·rename_i b hb
   split at h
   ·rename_i rs hrs;cases h;exact ⟨hn,b,hb,rfl,hrs⟩
   ·cases h
theorem callFunc_enter {g : FuncId} {f : Func} {b : Code} (hf : P.funcs[g]? = some f) (hn : f.name ≠ "runtime.NumGoroutine") (hb : f.body = some b) (args : Array Value) (w : World) :
  (callFunc g args).run P w=.ok (.enter g args) w:=by
 simp [callFunc,hf,hn,hb]
theorem defOnly_zero {Γ:T AF} {M:List Memo} {L:List LMemo} {g:FuncId} {xs:List V} {σ:St} {r:V × St} (h:defOnly Γ (callF Γ M L 0) g xs σ=some r):False:=by
 simp only [defOnly,callF] at h
 split at h <;> cases h
theorem callF_sound (Γ:T AF) (M:List Memo) (L:List LMemo) (hLo:LoopsOk P G L) (hΓ:EnvOk P G Γ) (hM:∀ m∈M,MemoOk P G m) (hGP:G=P.globals.size) (hdraw:∀ call,CallSound P G call -> DrawSound P G call):∀ f,CallSound P G (callF Γ M L f) /\ DefSound P G (defOnly Γ (callF Γ M L f))
 | 0=>⟨⟨fun _ _ _ _ _ h=>by simp [callF] at h⟩,⟨fun _ _ _ _ _ h=>(defOnly_zero h).elim,fun _ _ _ _ _ h=>(defOnly_zero h).elim⟩⟩
 |f+1=>by
  obtain ⟨ih,ihD⟩:=callF_sound Γ M L hLo hΓ hM hGP hdraw f
  have body:∀ {g xs σ v σ'},callF Γ M L (f+1) g xs σ=some (v,σ') -> (Plain1 P G g xs σ v σ' /\ Def1 P G g xs σ v σ') \/ (∃ e,Γ.get g=some (.ext e) /\ extCall e xs σ=some (v,σ')) ∨
    ∃ (fn : Func) (c : Code), P.funcs[g]? = some fn /\ fn.name ≠ "runtime.NumGoroutine" /\ fn.body = some c ∧
     ∀ B w0 φ w (args:Array Value),Rel G B w0 φ σ w -> LR φ xs args.toList -> ∀ (b:Frame) (cs:List Frame),OkB b cs →
      ∃ a' w' todo,Steps P (lone (b.at { tmps:=args++Array.replicate (fn.ntmps-args.size) Go.undef,defers:=[] } [.code c]) cs w) (lone { b.at a' todo with mode:=.returning } cs w') ∧
       Leaves P fn a'.tmps (fun e w'=>CPost G B w0 φ σ' v e w') a'.defers .returning w':=by
   intro g xs σ v σ' h
   simp only [callF] at h
   split at h
   ·rename_i r hr
    simp at h;subst h
    exact .inl (memoGet_ok hM hr)
   right
   split at h
   ·rename_i e he;exact .inl ⟨e,he,h⟩
   ·rename_i fn hfn
    right
    obtain ⟨fn',hf,hcf⟩:=hΓ.code g fn hfn
    obtain ⟨hn,c,hb,hbody,hres⟩:=compFn_spec hcf
    refine ⟨fn',c,hf,hn,hb,?_⟩
    intro B w0 φ w args hR hL b cs hok
    rw [hbody] at h
    split at h
    ·rename_i ex fr1 σ1 hex
     split at h
     ·rename_i hexn
      split at h
      ·rename_i σ2 hrd
       split at h
       ·rename_i vs hvs
        simp at h;obtain ⟨rfl,rfl⟩:=h
        obtain ⟨a',w',φ',hle,hR',hF',harr⟩:=exec_sound ih hLo (hdraw _ ih) hGP f c hex hR (ofList_rel (n:=fn'.ntmps) hL) (b:=b) (k:=[]) (cs:=cs) hok
        have hleave:Leaves P fn' a'.tmps (fun e w'=>CPost G B w0 φ σ2 (retV vs) e w') a'.defers .returning w':=by
         refine leaves_sound ihD fr1.defers a'.defers hrd hF'.ds hR' ?_
         intro φ2 w2 hle2 hR2
         obtain ⟨x,hx,hvx⟩:=results_sound (hF'.mono hle2) hR2 hres hvs
         exact ⟨x,hx,φ2,x,rfl,hle.trans hle2,hR2,hvx⟩
        rcases hexn with rfl | rfl
        ·exact ⟨a',w',[],Steps.trans harr (.one step_end),hleave⟩
        ·obtain ⟨todo,hs⟩:=harr
         exact ⟨a',w',todo,hs,hleave⟩
       ·cases h
      ·cases h
     ·cases h
    ·cases h
   ·cases h
  have def1:∀ {g xs σ v σ'},callF Γ M L (f+1) g xs σ=some (v,σ') -> (∀ e,Γ.get g=some (.ext e) -> e=.unlock) -> Def1 P G g xs σ v σ':=by
   intro g xs σ v σ' h hg
   rcases body h with ⟨_,hd⟩ | ⟨e,he,hx⟩ | ⟨fn,c,hf,hn,hb,hrun⟩
   ·exact hd
   ·exact (hΓ.ext g e xs σ v σ' he hx).2 (hg e he)
   ·refine ⟨fun args w=>callFunc_enter hf hn hb args w,?_⟩
    intro B w0 φ w args hR hL c0 cs hu
    let b:Frame:={ (default:Frame) with fn:=g,kind:=.deferred }
    have henter:Frame.enter P g args .deferred=b.at { tmps:=args++Array.replicate (fn.ntmps-args.size) Go.undef,defers:=[] } [.code c]:=by
     simp [Frame.enter,Frame.at,hf,hb,b]
    obtain ⟨a',w',todo,hs,hleave⟩:=hrun B w0 φ w args hR hL b (c0 :: cs) (by intro fr hk;have:fr.kind=.deferred:=hk;simp [tryRecover,this,hu])
    rw [<- henter] at hs
    obtain ⟨e',w'',fr',hR',hs',hk',hg'⟩:=leaves_stepsD a'.defers .returning w' { b.at a' todo with mode:=.returning } (c0 :: cs) rfl rfl rfl hf rfl hleave
    have hc0:({ c0 with mode:=.returning }:Frame)=c0:=by rw [<- hu]
    exact ⟨e',.returning,w'',fr',⟨rfl,hR'⟩,by rw [hc0];exact Comes.of_steps hs hs',hk',hg'⟩
  refine ⟨⟨?_⟩,⟨?_,?_⟩⟩
  ·intro g xs σ v σ' h
   rcases body h with ⟨hp,_⟩ | ⟨e,he,hx⟩ | ⟨fn,c,hf,hn,hb,hrun⟩
   ·exact hp
   ·exact (hΓ.ext g e xs σ v σ' he hx).1
   ·intro B w0 φ w args hR hL
    refine .inl ⟨callFunc_enter hf hn hb args w,?_⟩
    intro cs
    let b:Frame:={ (default:Frame) with fn:=g,kind:=.normal }
    have henter:Frame.enter P g args .normal=b.at { tmps:=args++Array.replicate (fn.ntmps-args.size) Go.undef,defers:=[] } [.code c]:=by
     simp [Frame.enter,Frame.at,hf,hb,b]
    obtain ⟨a',w',todo,hs,hleave⟩:=hrun B w0 φ w args hR hL b cs (by intro fr hk;have:fr.kind=.normal:=hk;simp [tryRecover,this])
    rw [<- henter] at hs
    obtain ⟨e',w'',fr',hR',hs',hfn',hl'⟩:=leaves_steps a'.defers .returning w' { b.at a' todo with mode:=.returning } cs rfl rfl rfl hf rfl hleave
    exact ⟨e',w'',fr',hR',Comes.of_steps hs hs',hfn',hl'⟩
  ·intro g xs σ v σ' h
   refine (def1 (xs:=xs) (σ:=σ) (v:=v) (σ':=σ') ?_ ?_).1
   ·simp only [defOnly] at h;split at h <;> first | exact h | cases h
   ·intro e he;simp only [defOnly,he] at h;cases e <;> first | rfl | cases h
  ·intro g xs σ v σ' h
   refine (def1 (xs:=xs) (σ:=σ) (v:=v) (σ':=σ') ?_ ?_).2
   ·simp only [defOnly] at h;split at h <;> first | exact h | cases h
   ·intro e he;simp only [defOnly,he] at h;cases e <;> first | rfl | cases h
theorem memo_ok (Γ:T AF) (M:List Memo) (L:List LMemo) (hLo:LoopsOk P G L) (hΓ:EnvOk P G Γ) (hM:∀ m∈M,MemoOk P G m) (hGP:G=P.globals.size) (hdraw:∀ call,CallSound P G call -> DrawSound P G call) {f:Nat} {m:Memo} {fn:AFunc} (hg:Γ.get m.g=some (.code fn))
  (h:callF Γ M L f m.g m.xs m.at=some (m.v,m.σ')):MemoOk P G m:=by
 obtain ⟨h1,h2⟩:=callF_sound Γ M L hLo hΓ hM hGP hdraw f
 have hd:defOnly Γ (callF Γ M L f) m.g m.xs m.at=some (m.v,m.σ'):=by simp only [defOnly,hg];exact h
 exact ⟨h1.plain _ _ _ _ _ h,h2.enter _ _ _ _ _ hd,h2.callsD _ _ _ _ _ hd⟩
end AM
namespace AM
open Go Go.RowKit
variable {P:Program} {φ:Phi} {tm:T V} {a:Act} {w:World} {w0:Base} {σ σ':St} {G B:Nat} {call:CallT}
def nAlloc:List DOper -> Nat
 | []=>0
 |d :: r=>(if isAlloc d.o.op then 1 else 0)+nAlloc r
theorem Rel.hide (h:Rel G B w0 φ σ w) (z:List V) (n:Nat):Rel G B w0 φ (σ.new (.cells false 0 n z .nil)) w:=by
 have hnew:∀ x o',(σ.objs.set σ.next (.cells false 0 n z .nil)).get x=some o' -> (x=σ.next /\ o'=.cells false 0 n z .nil) \/ (x≠σ.next /\ σ.objs.get x=some o'):=by
  intro x o' hx
  rw [T.get_set] at hx
  by_cases e:x=σ.next
  ·rw [if_pos e] at hx;simp at hx;exact .inl ⟨e,hx.symm⟩
  ·rw [if_neg e] at hx;exact .inr ⟨e,hx⟩
 have hφ:=h.next_none
 refine ⟨h.below,h.B_le,fun x b m hx=>?_,fun g hg=>?_,?_,?_,?_,?_,?_,?_⟩
 ·obtain ⟨p,q⟩:=h.dom x b m hx;exact ⟨by simp [St.new];omega,q⟩
 ·obtain ⟨p,q⟩:=h.glob g hg;exact ⟨by simp [St.new];omega,q⟩
 ·intro x o' b m hx hab
  rcases hnew x o' hx with ⟨rfl,_⟩ | ⟨_,hx'⟩
  ·rw [hφ] at hab;cases hab
  ·exact h.obj x o' b m hx' hab
 ·intro x hx
  simp only [St.new] at hx ⊢
  rw [T.get_set,if_neg (by omega)];exact h.fresh x (by omega)
 ·intro x y o1 o2 b m m' hne k1 k2 hm hl h1 h2
  rcases hnew x o1 k1 with ⟨rfl,_⟩ | ⟨_,k1'⟩
  ·rw [hφ] at h1;cases h1
  ·rcases hnew y o2 k2 with ⟨rfl,_⟩ | ⟨_,k2'⟩
   ·rw [hφ] at h2;cases h2
   ·exact h.sep x y o1 o2 b m m' hne k1' k2' hm hl h1 h2
 ·intro x o' hx hg
  rcases hnew x o' hx with ⟨_,rfl⟩ | ⟨_,hx'⟩
  ·exact (hg rfl).elim
  ·obtain ⟨p,q⟩:=h.grp x o' hx' hg;exact ⟨by simp [St.new];omega,q⟩
 ·intro g hg;simp only [St.new] at hg ⊢;exact h.gfresh g (by omega)
 ·intro x hx;obtain ⟨p,q⟩:=h.pend x hx;exact ⟨p,by simp [St.new];omega⟩
theorem Rel.reveal (h:Rel G B w0 φ σ w) {hh n:Nat} {z:List V} {zs:List Value} {C:Array Value} {E:TypeId} (ho:σ.objs.get hh=some (.cells false 0 n z .nil)) (hφ:φ hh=none)
  (hz:LR φ z zs) (hC:C.size=n) (hc:∀ i,i<n -> C[i]?=zs[i%zs.length]?) {X':Nat -> Prop} (hX:∀ x,X' x -> w0.X x /\ x≠hh) :
  Rel G B ⟨w0.w,X'⟩ (φ.upd hh (w.heap.size,n)) σ (w.alloc (.cells C E)) /\ φ.le (φ.upd hh (w.heap.size,n)):=by
 have hle:=φ.le_upd (a:=hh) (w.heap.size,n) hφ
 have hlt:=h.lt ho
 refine ⟨⟨h.below.alloc h.B_le _,by simp;have:=h.B_le;omega,?_,?_,?_,h.fresh,?_,h.grp,h.gfresh,?_⟩,hle⟩
 ·intro x b m hab
  by_cases e:x=hh
  ·subst e;rw [Phi.upd_same] at hab;simp at hab;obtain ⟨rfl,rfl⟩:=hab;exact ⟨hlt,by simp⟩
  ·rw [Phi.upd_ne φ _ e] at hab;obtain ⟨p,q⟩:=h.dom x b m hab;exact ⟨p,by simp;omega⟩
 ·intro g hg;obtain ⟨p,m,hm⟩:=h.glob g hg;exact ⟨p,m,hle _ _ hm⟩
 ·intro x o b m hx hab
  by_cases e:x=hh
  ·subst e
   rw [ho] at hx;simp at hx;subst hx
   rw [Phi.upd_same] at hab;simp at hab;obtain ⟨rfl,rfl⟩:=hab
   refine ⟨C,E,(0,0),heap_alloc_new w _,hC,fun _=>⟨rfl,h.B_le⟩,Nat.le_refl _,?_⟩
   intro i v hi
   unfold cellOf at hi
   split at hi
   ·rename_i hlt
    simp only [T.get_nil] at hi
    obtain ⟨y,hy,hv⟩:=hz.get _ v hi
    exact ⟨y,by rw [hc i hlt,hz.length];exact hy,VR.mono hle _ _ hv⟩
   ·cases hi
  ·rw [Phi.upd_ne φ _ e] at hab
   exact ((h.obj x o b m hx hab).mono hle).of_block (Below.heap_alloc w _ b (h.dom x b m hab).2)
 ·intro x y o1 o2 b m m' hne k1 k2 hm hl h1 h2
  by_cases e:x=hh
  ·subst e
   rw [Phi.upd_same] at h1;simp at h1;obtain ⟨rfl,rfl⟩:=h1
   rw [Phi.upd_ne φ _ (Ne.symm hne)] at h2
   have:=(h.dom _ _ _ h2).2;omega
  ·by_cases e':y=hh
   ·subst e'
    rw [Phi.upd_same] at h2;simp at h2;obtain ⟨rfl,rfl⟩:=h2
    rw [Phi.upd_ne φ _ e] at h1
    have:=(h.dom _ _ _ h1).2;omega
   ·rw [Phi.upd_ne φ _ e] at h1;rw [Phi.upd_ne φ _ e'] at h2
    exact h.sep x y o1 o2 b m m' hne k1 k2 hm hl h1 h2
 ·intro x hx
  obtain ⟨p,q⟩:=hX x hx
  obtain ⟨r,s⟩:=h.pend x p
  exact ⟨by rw [Phi.upd_ne φ _ q];exact r,s⟩
theorem Rel.weaken {w0':Base} (h:Rel G B w0 φ σ w) (hw:w0'.w=w0.w) (hX:∀ x,w0'.X x -> φ x=none /\ x<σ.next):Rel G B w0' φ σ w :=
 ⟨by rw [hw];exact h.below,h.B_le,h.dom,h.glob,h.obj,h.fresh,h.sep,h.grp,h.gfresh,hX⟩
theorem hoist_spec:∀ (dl:List DOper) (σ:St),(hoist dl σ).next=σ.next+nAlloc dl ∧
  (∀ (σ:St) {w0:Base} {φ:Phi} {w:World},Rel G B w0 φ σ w -> Rel G B w0 φ (hoist dl σ) w)
 | [],σ=>⟨by simp [hoist,nAlloc],fun σ _ _ _ h=>h⟩
 |d :: r,σ=>by
  refine ⟨?_,?_⟩
  ·simp only [hoist,nAlloc]
   split
   ·rename_i z hz
    rw [(hoist_spec r _).1];simp [St.new,isAlloc,hz];omega
   ·rename_i hz
    rw [(hoist_spec r _).1]
    have:isAlloc d.o.op=false:=by unfold isAlloc;split <;> simp_all
    simp [this]
  ·intro σ w0 φ w h
   simp only [hoist]
   split
   ·rename_i z hz
    exact (hoist_spec r σ).2 _ (h.hide z z.length)
   ·exact (hoist_spec r σ).2 _ h
def nEff:List DOper -> Nat
 | []=>0
 |d :: r=>(if isEff d.o.op then 1 else 0)+nEff r
noncomputable def tmOf (tm0:T V) (dst:Nat -> Option Nat) (val:Nat -> V) (L:Nat -> Bool):Nat -> T V
 | 0=>tm0
 |j+1=>if L j then putD (tmOf tm0 dst val L j) (dst j) (val j) else tmOf tm0 dst val L j
theorem tmOf_shift (tm0:T V) (dst:Nat -> Option Nat) (val:Nat -> V):∀ j,tmOf tm0 dst val (fun _=>true) (j+1)=tmOf (putD tm0 (dst 0) (val 0)) (fun j=>dst (j+1)) (fun j=>val (j+1)) (fun _=>true) j
 | 0=>rfl
 |j+1=>by
  rw [tmOf,tmOf_shift tm0 dst val j]
  rfl
def StepOk (call:CallT) (d:DOper) (h:Nat) (tm:T V) (v:V) (e1 e2:Dfs × St):Prop :=
 if wantedA d.o.guard tm=true then
  if isAlloc d.o.op=true then v=.ptr (some (h,0)) /\ e2=e1
  else evalOp call d.o.op tm e1.1 e1.2=some (v,e2.1,e2.2)
 else isAlloc d.o.op=false /\ v=.undef /\ e2=e1
theorem evalOp_noeff {op:AOp} {ds ds':Dfs} {v:V} (h:evalOp call op tm ds σ=some (v,ds',σ')) (he:isEff op=false) (ha:isAlloc op=false):ds'=ds /\ σ'=σ:=by
 unfold evalOp at h
 split at h
 ·split at h
  ·simp only [Option.some.injEq,Prod.mk.injEq] at h;exact ⟨h.2.1.symm,h.2.2.symm⟩
  ·cases h
 ·rename_i h1
  split at h
  ·split at h
   ·simp only [Option.some.injEq,Prod.mk.injEq] at h;exact ⟨h.2.1.symm,h.2.2.symm⟩
   ·cases h
  ·rename_i h2
   simp [isEff,h1,h2,ha] at he
def dstOf (dl:List DOper) (j:Nat):Option Nat:=(dl[j]?).bind (·.o.dst)
def valOf (tr:List (T V × V)) (j:Nat):V:=(tr[j]?.map (·.2)).getD .undef
theorem runD_spec:∀ (dl:List DOper) {h:Nat} {fr fr':Fr} {σ:St} {tr:List (T V × V)} {es:List (Dfs × St)},runD call dl h fr σ=some (fr',tr,es) →
  tr.length=dl.length /\ es.length=nEff dl ∧
  (∀ j d,dl[j]?=some d -> ∃ e1 e2,tr[j]?=some (tmOf fr.tmps (dstOf dl) (valOf tr) (fun _=>true) j,valOf tr j) ∧
   ((fr.defers,σ) :: es)[nEff (dl.take j)]?=some e1 /\ ((fr.defers,σ) :: es)[nEff (dl.take (j+1))]?=some e2 ∧
   StepOk call d (h+nAlloc (dl.take j)) (tmOf fr.tmps (dstOf dl) (valOf tr) (fun _=>true) j) (valOf tr j) e1 e2) ∧
  ∃ e,((fr.defers,σ) :: es)[nEff dl]?=some e /\ fr'=⟨tmOf fr.tmps (dstOf dl) (valOf tr) (fun _=>true) dl.length,e.1⟩ /\ lastSt σ es=e.2
 | [],h,fr,fr',σ,tr,es,hr=>by
  simp [runD] at hr;obtain ⟨rfl,rfl,rfl⟩:=hr
  exact ⟨rfl,rfl,fun j d hd=>by simp at hd,(fr.defers,σ),rfl,rfl,rfl⟩
 |d :: r,h,fr,fr',σ,tr,es,hr=>by
  have main:∀ (h':Nat) (v:V) (e1:Dfs × St) (tr':List (T V × V)) (es':List (Dfs × St)),runD call r h' ⟨putD fr.tmps d.o.dst v,e1.1⟩ e1.2=some (fr',tr',es') →
    h'=h+(if isAlloc d.o.op then 1 else 0) -> tr=(fr.tmps,v) :: tr' -> es=(if isEff d.o.op then e1 :: es' else es') -> (isEff d.o.op=false -> e1=(fr.defers,σ)) →
    StepOk call d h fr.tmps v (fr.defers,σ) e1 →
    tr.length=(d :: r).length /\ es.length=nEff (d :: r) ∧
    (∀ j d',(d :: r)[j]?=some d' -> ∃ e1 e2,tr[j]?=some (tmOf fr.tmps (dstOf (d :: r)) (valOf tr) (fun _=>true) j,valOf tr j) ∧
     ((fr.defers,σ) :: es)[nEff ((d :: r).take j)]?=some e1 /\ ((fr.defers,σ) :: es)[nEff ((d :: r).take (j+1))]?=some e2 ∧
     StepOk call d' (h+nAlloc ((d :: r).take j)) (tmOf fr.tmps (dstOf (d :: r)) (valOf tr) (fun _=>true) j) (valOf tr j) e1 e2) ∧
    ∃ e,((fr.defers,σ) :: es)[nEff (d :: r)]?=some e /\ fr'=⟨tmOf fr.tmps (dstOf (d :: r)) (valOf tr) (fun _=>true) (d :: r).length,e.1⟩ /\ lastSt σ es=e.2:=by
   intro h' v e1 tr' es' hrest hh htr hes hsame hstep
   obtain ⟨i1,i2,i3,e,i4,i5,i6⟩:=runD_spec r hrest
   have hval:(fun j=>valOf tr (j+1))=valOf tr':=by funext j;rw [htr];simp [valOf]
   have hval0:valOf tr 0=v:=by rw [htr];rfl
   have hdst:(fun j=>dstOf (d :: r) (j+1))=dstOf r:=by funext j;simp [dstOf]
   have hdst0:dstOf (d :: r) 0=d.o.dst:=rfl
   have hshift:∀ j,tmOf fr.tmps (dstOf (d :: r)) (valOf tr) (fun _=>true) (j+1)=tmOf (putD fr.tmps d.o.dst v) (dstOf r) (valOf tr') (fun _=>true) j:=by
    intro j;rw [tmOf_shift,hval,hdst,hval0,hdst0]
   have hidx:∀ m,((fr.defers,σ) :: es)[(if isEff d.o.op then 1 else 0)+m]?=((e1.1,e1.2) :: es')[m]?:=by
    intro m
    rw [hes]
    cases he:isEff d.o.op with
    |true=>simp only [if_true];rw [Nat.add_comm];rfl
    |false=>simp only [Bool.false_eq_true,if_false,Nat.zero_add];rw [hsame he]
   refine ⟨by rw [htr];simp [i1],?_,?_,e,?_,?_,?_⟩
   ·rw [hes];simp only [nEff];split <;> simp [i2];omega
   ·intro j d' hd'
    cases j with
    |zero =>
     simp at hd';subst hd'
     refine ⟨(fr.defers,σ),e1,?_,rfl,?_,?_⟩
     ·rw [htr];simp [tmOf,valOf]
     ·have:=hidx 0
      simp only [Nat.add_zero,List.getElem?_cons_zero] at this
      simp only [List.take_succ_cons,List.take_zero,nEff,Nat.add_zero]
      exact this
     ·simp only [List.take_zero,nAlloc,Nat.add_zero,tmOf,hval0];exact hstep
    |succ j =>
     simp only [List.getElem?_cons_succ] at hd'
     obtain ⟨f1,f2,g1,g2,g3,g4⟩:=i3 j d' hd'
     have hv':valOf tr (j+1)=valOf tr' j:=congrFun hval j
     refine ⟨f1,f2,?_,?_,?_,?_⟩
     ·rw [hshift,hv',htr];simpa using g1
     ·simp only [List.take_succ_cons,nEff];rw [hidx];exact g2
     ·simp only [List.take_succ_cons,nEff];rw [hidx];exact g3
     ·rw [hshift,hv']
      simp only [List.take_succ_cons,nAlloc]
      rw [hh] at g4
      rw [<- Nat.add_assoc];exact g4
   ·simp only [nEff];rw [hidx];exact i4
   ·rw [i5];simp only [List.length_cons];rw [hshift]
   ·rw [hes, <- i6]
    cases he:isEff d.o.op with
    |true=>rfl
    |false=>simp only [Bool.false_eq_true,if_false];rw [hsame he]
  simp only [runD] at hr
  split at hr
  ·rename_i hw
   split at hr
   ·rename_i ha
    split at hr
    ·rename_i f' tr' es' hrest
     simp at hr;obtain ⟨rfl,rfl,rfl⟩:=hr
     have he:isEff d.o.op=false:=by simp [isEff,ha]
     exact main (h+1) _ (fr.defers,σ) tr' es' hrest (by simp [ha]) rfl (by simp [he]) (fun _=>rfl) (by unfold StepOk;rw [if_pos hw,if_pos ha];exact ⟨rfl,rfl⟩)
    ·cases hr
   ·rename_i ha
    split at hr
    ·rename_i v ds σ1 hev
     split at hr
     ·rename_i f' tr' es' hrest
      simp at hr;obtain ⟨rfl,rfl,rfl⟩:=hr
      refine main h v (ds,σ1) tr' es' hrest (by simp [ha]) rfl rfl (fun he=>?_) (by unfold StepOk;rw [if_pos hw,if_neg ha];exact hev)
      obtain ⟨q1,q2⟩:=evalOp_noeff hev he (by simpa using ha)
      rw [q1,q2]
     ·cases hr
    ·cases hr
  ·rename_i hw
   split at hr
   ·cases hr
   ·rename_i ha
    split at hr
    ·rename_i f' tr' es' hrest
     simp at hr;obtain ⟨rfl,rfl,rfl⟩:=hr
     exact main h .undef (fr.defers,σ) tr' es' hrest (by simp [ha]) rfl rfl (fun _=>rfl) (by unfold StepOk;rw [if_neg hw];exact ⟨by simpa using ha,rfl,rfl⟩)
    ·cases hr
theorem cnt_congr {p q:Nat -> Bool}:∀ {k:Nat},(∀ j,j<k -> p j=q j) -> cntP p k=cntP q k
 | 0,_=>rfl
 |k+1,h=>by simp only [cntP];rw [cnt_congr (k:=k) (fun j hj=>h j (by omega)),h k (by omega)]
theorem cnt_mono {p q:Nat -> Bool}:∀ {k:Nat},(∀ j,j<k -> p j=true -> q j=true) -> cntP p k <= cntP q k
 | 0,_=>Nat.le_refl _
 |k+1,h=>by
  have:=cnt_mono (p:=p) (q:=q) (k:=k) (fun j hj=>h j (by omega))
  have hk:=h k (by omega)
  simp only [cntP]
  cases hp:p k with
  |false=>simp;omega
  |true=>rw [hk hp];simp;omega
theorem cnt_le {p:Nat -> Bool}:∀ {k:Nat},cntP p k <= k
 | 0=>Nat.le_refl _
 |k+1=>by have:=cnt_le (p:=p) (k:=k);simp only [cntP];split <;> omega
theorem cnt_full {p:Nat -> Bool}:∀ {k:Nat},cntP p k=k -> ∀ j,j<k -> p j=true
 | 0,_,j,hj=>by omega
 |k+1,h,j,hj=>by
  have hle:=cnt_le (p:=p) (k:=k)
  simp only [cntP] at h
  cases hp:p k with
  |false=>rw [hp] at h;simp at h;omega
  |true =>
   rw [hp] at h;simp at h
   by_cases e:j=k
   ·rw [e];exact hp
   ·exact cnt_full h j (by omega)
theorem cnt_set {p q:Nat -> Bool} {i:Nat} (h0:p i=false) (h1:q i=true):∀ {k:Nat},(∀ j,j<k -> j≠i -> q j=p j) -> cntP q k=cntP p k+(if i<k then 1 else 0)
 | 0,_=>by simp [cntP]
 |k+1,h=>by
  have ih:=cnt_set (p:=p) (q:=q) h0 h1 (k:=k) (fun j hj=>h j (by omega))
  simp only [cntP]
  by_cases e:k=i
  ·subst e
   rw [ih,h0,h1];simp
  ·rw [ih,h k (by omega) e]
   have:(if i<k then 1 else 0:Nat)=(if i<k+1 then 1 else 0):=by split <;> split <;> omega
   omega
theorem cnt_same {p q:Nat -> Bool} {i:Nat} {k:Nat} (h0:q i=p i) (h:∀ j,j<k -> j≠i -> q j=p j):cntP q k=cntP p k :=
 cnt_congr (fun j hj=>by by_cases e:j=i;rw [e,h0];exact h j hj e)
theorem cnt_prefix {p q:Nat -> Bool} {i:Nat}:∀ {k:Nat},i <= k -> (∀ j,j<k -> p j=(q j && decide (j<i))) -> cntP p k=cntP q i
 | 0,h,_=>by have:i=0:=(by omega);subst this;rfl
 |k+1,h,hp=>by
  by_cases e:i=k+1
  ·subst e;exact cnt_congr (fun j hj=>by rw [hp j hj];simp [hj])
  ·simp only [cntP]
   rw [hp k (by omega),cnt_prefix (p:=p) (q:=q) (i:=i) (k:=k) (by omega) (fun j hj=>hp j (by omega))]
   have:decide (k<i)=false:=by simp;omega
   simp [this]
theorem nEff_take (dl:List DOper):∀ j,nEff (dl.take j)=cntP (fun i=>(dl[i]?).any (fun d=>isEff d.o.op)) (min j dl.length):=by
 induction dl with
 |nil=>intro j;simp [nEff,cntP]
 |cons d r ih =>
  intro j
  cases j with
  |zero=>simp [nEff,cntP]
  |succ j =>
   have hs:∀ k,cntP (fun i=>((d :: r)[i]?).any (fun d=>isEff d.o.op)) (k+1)=(if isEff d.o.op then 1 else 0)+cntP (fun i=>(r[i]?).any (fun d=>isEff d.o.op)) k:=by
    intro k
    induction k with
    |zero=>simp [cntP]
    |succ k ihk=>rw [cntP,ihk,cntP];simp;omega
   have hm:min (j+1) (d :: r).length=min j r.length+1:=by simp [Nat.add_min_add_right]
   rw [List.take_succ_cons,nEff,ih,hm,hs]
theorem maskOf_bit (acc:List Nat) (i:Nat):∀ (es:List Edge),(maskOf acc es).testBit i=true↔∃ e∈es,Region.binds .any e=true /\ (i=e.on \/ (acc.getD e.on 0).testBit i=true):=by
 intro es
 have gen:∀ (es:List Edge) (s:Nat),(es.foldl (fun s e=>if Region.binds .any e then s ||| 2^e.on ||| acc.getD e.on 0 else s) s).testBit i=true ↔
   s.testBit i=true \/ ∃ e∈es,Region.binds .any e=true /\ (i=e.on \/ (acc.getD e.on 0).testBit i=true):=by
  intro es
  induction es with
  |nil=>intro s;simp
  |cons e r ih =>
   intro s
   simp only [List.foldl_cons,ih,List.mem_cons,exists_eq_or_imp]
   cases hb:Region.binds .any e with
   |false=>simp
   |true =>
    simp only [if_true,Nat.testBit_or,Bool.or_eq_true,Nat.testBit_two_pow,decide_eq_true_eq,true_and]
    constructor
    ·rintro (((h | h) | h) | h)
     ·exact .inl h
     ·exact .inr (.inl (.inl h.symm))
     ·exact .inr (.inl (.inr h))
     ·exact .inr (.inr h)
    ·rintro (h | (h | h) | h)
     ·exact .inl (.inl (.inl h))
     ·exact .inl (.inl (.inr h.symm))
     ·exact .inl (.inr h)
     ·exact .inr h
 have:=gen es 0
 simpa [maskOf] using this
theorem befs_spec:∀ (l:List Oper) (acc:List Nat),(befs acc l).length=acc.length+l.length /\ (∀ j,j<acc.length -> (befs acc l)[j]?=acc[j]?) ∧
  ∀ j o,l[j]?=some o -> (befs acc l)[acc.length+j]?=some (maskOf ((befs acc l).take (acc.length+j)) o.after.toList)
 | [],acc=>⟨by simp [befs],fun j hj=>rfl,fun j o h=>by simp at h⟩
 |x :: r,acc=>by
  obtain ⟨h1,h2,h3⟩:=befs_spec r (acc++[maskOf acc x.after.toList])
  simp only [befs]
  refine ⟨by rw [h1];simp;omega,fun j hj=>by rw [h2 j (by simp;omega),List.getElem?_append_left hj],fun j o hj=>?_⟩
  cases j with
  |zero =>
   simp at hj;subst hj
   have htake:(befs (acc++[maskOf acc x.after.toList]) r).take (acc.length+0)=acc:=by
    apply List.ext_getElem?
    intro i
    rw [List.getElem?_take]
    by_cases c:i<acc.length
    ·rw [if_pos (by omega),h2 i (by simp;omega),List.getElem?_append_left c]
    ·rw [if_neg (by omega),List.getElem?_eq_none (by omega)]
   rw [htake,h2 _ (by simp)]
   simp
  |succ j =>
   have:=h3 j o (by simpa using hj)
   simp only [List.length_append,List.length_cons,List.length_nil] at this
   rw [show acc.length+(j+1)=acc.length+(0+1)+j by omega];exact this
theorem bit_closed {ops:List Oper} {L:Nat -> Bool} (hcl:∀ j o,L j=true -> ops[j]?=some o -> ∀ e∈o.after.toList,Region.binds .any e=true -> L e.on=true) :
  ∀ (j i:Nat) (o:Oper),ops[j]?=some o -> (∀ e∈o.after.toList,Region.binds .any e=true -> L e.on=true) -> ((befs [] ops).getD j 0).testBit i=true -> L i=true:=by
 intro j
 induction j using Nat.strongRecOn with
 |_ j ih =>
  intro i o ho hr hbit
  obtain ⟨h1,_,h3⟩:=befs_spec ops []
  have hj:=h3 j o ho
  simp only [List.length_nil,Nat.zero_add] at hj
  have hjlt:j<ops.length:=by
   rcases Nat.lt_or_ge j ops.length with k | k
   ·exact k
   ·rw [List.getElem?_eq_none k] at ho;cases ho
  rw [List.getD_eq_getElem?_getD,hj,Option.getD_some,maskOf_bit] at hbit
  obtain ⟨e,he,hb,hcase⟩:=hbit
  have hLe:=hr e he hb
  rcases hcase with rfl | hbit
  ·exact hLe
  ·by_cases c:e.on<j
   ·rw [List.getD_eq_getElem?_getD,List.getElem?_take,if_pos c] at hbit
    obtain ⟨o',ho'⟩:∃ o',ops[e.on]?=some o':=⟨ops[e.on],by simp⟩
    exact ih e.on c i o' ho' (hcl e.on o' hLe ho') (by rw [List.getD_eq_getElem?_getD];exact hbit)
   ·rw [List.getD_eq_getElem?_getD,List.getElem?_take,if_neg c] at hbit
    simp at hbit
theorem edgesOk_spec:∀ (l:List Oper) (k:Nat),edgesOk k l=true -> ∀ j o,l[j]?=some o -> ∀ e∈o.after.toList,Region.binds .any e=true -> e.on<k+j
 | [],k,h,j,o,hj=>by simp at hj
 |x :: r,k,h,j,o,hj=>by
  simp only [edgesOk,Bool.and_eq_true,List.all_eq_true,Bool.or_eq_true,Bool.not_eq_true',decide_eq_true_eq] at h
  intro e he hb
  cases j with
  |zero =>
   simp at hj;subst hj
   rcases h.1 e he with q | q
   ·rw [q] at hb;cases hb
   ·exact q
  |succ j=>have:=edgesOk_spec r (k+1) h.2 j o (by simpa using hj) e he hb;omega
theorem checkR_spec {op:AOp} {v:V} {lo hi:Nat}:∀ (E:List (Dfs × St)) (m0:Nat),checkR op tm v lo hi m0 E=true -> ∀ m e,E[m]?=some e -> lo <= m0+m -> m0+m <= hi -> readOp op tm e.2=some v
 | [],m0,h,m,e,he=>by simp at he
 |(d,s) :: r,m0,h,m,e,he=>by
  intro h1 h2
  simp only [checkR,Bool.and_eq_true] at h
  cases m with
  |zero =>
   simp at he;subst he
   have h:=h.1
   rw [if_pos ⟨by omega,by omega⟩] at h
   split at h
   ·rename_i u hu;rw [hu,sameV_eq u v h]
   ·cases h
  |succ m=>exact checkR_spec r (m0+1) h.2 m e (by simpa using he) (by omega) (by omega)
theorem checkH_spec {hh:Nat} {z:List V} {hi:Nat}:∀ (E:List (Dfs × St)) (m0:Nat),checkH hh z hi m0 E=true -> ∀ m e,E[m]?=some e -> m0+m <= hi -> e.2.objs.get hh=some (.cells false 0 z.length z .nil)
 | [],m0,h,m,e,he=>by simp at he
 |(d,s) :: r,m0,h,m,e,he=>by
  intro h1
  simp only [checkH,Bool.and_eq_true] at h
  cases m with
  |zero =>
   simp at he;subst he
   have h:=h.1
   rw [if_pos (by omega)] at h
   split at h
   ·rename_i n z' hz
    simp only [Bool.and_eq_true,beq_iff_eq] at h
    rw [hz,h.1,sameL_eq z' z h.2]
   ·cases h
  |succ m=>exact checkH_spec r (m0+1) h.2 m e (by simpa using he) (by omega)
theorem checkD_spec {E:List (Dfs × St)}:∀ (dl:List DOper) (hh:Nat) (tr:List (T V × V)),checkD E dl hh tr=true -> ∀ j d tm v,dl[j]?=some d -> tr[j]?=some (tm,v) →
  (isRead d.o.op=true -> wantedA d.o.guard tm=true -> checkR d.o.op tm v d.lo d.hi 0 E=true) /\ (∀ z,d.o.op=.alloc z -> checkH (hh+nAlloc (dl.take j)) z d.hi 0 E=true)
 | [],hh,tr,h,j,d,tm,v,hd,ht=>by simp at hd
 |x :: r,hh,[],h,j,d,tm,v,hd,ht=>by simp at ht
 |x :: r,hh,(tm0,v0) :: tr,h,j,d,tm,v,hd,ht=>by
  simp only [checkD,Bool.and_eq_true] at h
  cases j with
  |zero =>
   simp at hd ht;subst hd;obtain ⟨rfl,rfl⟩:=ht
   refine ⟨fun h1 h2=>?_,fun z hz=>?_⟩
   ·have:=h.1;rw [h1,h2] at this;simpa using this
   ·have:=h.2;rw [hz] at this;simp only [Bool.and_eq_true] at this
    simpa [nAlloc] using this.1
  |succ j =>
   simp only [List.getElem?_cons_succ] at hd ht
   have hrest:checkD E r (hh+(if isAlloc x.o.op then 1 else 0)) tr=true:=by
    have:=h.2
    split at this
    ·rename_i z hz;simp only [Bool.and_eq_true] at this;simpa [isAlloc,hz] using this.2
    ·rename_i hz
     have:isAlloc x.o.op=false:=by unfold isAlloc;split <;> simp_all
     simpa [this]
   obtain ⟨g1,g2⟩:=checkD_spec r _ tr hrest j d tm v hd ht
   refine ⟨g1,fun z hz=>?_⟩
   have:=g2 z hz
   simp only [List.take_succ_cons,nAlloc]
   rw [<- Nat.add_assoc];exact this
theorem compOpers_get {n:Nat} {ops:Array Oper}:∀ {l:List Oper} {al:List AOper},compOpers P n ops l=some al -> al.length=l.length /\ ∀ (j:Nat) (o:Oper),l[j]?=some o -> ∃ ao,al[j]?=some ao /\ compOper P n ops o=some ao
 | [],al,h=>by simp [compOpers] at h;subst h;exact ⟨rfl,fun j o hj=>by simp at hj⟩
 |x :: r,al,h=>by
  simp only [compOpers] at h
  split at h
  ·rename_i a b ha hb
   simp at h;subst h
   obtain ⟨h1,h2⟩:=compOpers_get hb
   refine ⟨by simp [h1],fun j o hj=>?_⟩
   cases j with
   |zero=>simp at hj;subst hj;exact ⟨a,rfl,ha⟩
   |succ j=>simpa using h2 j o (by simpa using hj)
  ·cases h
theorem drawOk_spec {Bf:List Nat} {l:List AOper} (h:drawOk Bf l=true) {j:Nat} {o:AOper} (hj:l[j]?=some o) :
  notOp o.op=true /\ (isAlloc o.op=true -> o.guard=none) /\ ∀ i p,l[i]?=some p →
   (isEff o.op=true -> isEff p.op=true -> i<j -> (Bf.getD j 0).testBit i=true) ∧
   (i≠j -> ∀ t,p.dst=some t -> t∈o.names -> (Bf.getD (max i j) 0).testBit (min i j)=true):=by
 unfold drawOk at h
 rw [List.all_eq_true] at h
 have h1:=h (o,j) (by rw [List.mem_zipIdx_iff_getElem?];exact hj)
 simp only [Bool.and_eq_true,Bool.or_eq_true,Bool.not_eq_true',List.all_eq_true] at h1
 obtain ⟨⟨n1,n2⟩,n3⟩:=h1
 refine ⟨n1,fun ha=>?_,fun i p hi=>?_⟩
 ·rcases n2 with q | q
  ·rw [ha] at q;cases q
  ·cases hg:o.guard <;> simp_all
 ·have h2:=n3 (p,i) (by rw [List.mem_zipIdx_iff_getElem?];exact hi)
  simp only [Bool.and_eq_false_iff,decide_eq_false_iff_not,beq_iff_eq] at h2
  obtain ⟨m1,m2⟩:=h2
  refine ⟨fun e1 e2 e3=>?_,fun hne t ht hn=>?_⟩
  ·rcases m1 with ((q | q) | q) | q
   ·rw [e1] at q;cases q
   ·rw [e2] at q;cases q
   ·omega
   ·exact q
  ·rcases m2 with q | q
   ·exact (hne q).elim
   ·rw [ht] at q
    simp only [Bool.or_eq_true,Bool.not_eq_true',List.contains_eq_mem,decide_eq_false_iff_not] at q
    rcases q with q | q
    ·exact (q hn).elim
    ·exact q
theorem putD_get (tm:T V) (d:Option Nat) (v:V) (t:Nat):(putD tm d v).get t=if d=some t then some v else tm.get t:=by
 cases d with
 |none=>simp [putD]
 |some d =>
  simp only [putD,T.get_set,Option.some.injEq]
  by_cases c:t=d
  ·rw [if_pos c,if_pos c.symm]
  ·rw [if_neg c,if_neg (Ne.symm c)]
theorem tm_agree {tm0:T V} {dst:Nat -> Option Nat} {val:Nat -> V} {L L2:Nat -> Bool} {t:Nat}:∀ (k:Nat),(∀ j,j<k -> dst j=some t -> L j=L2 j) -> (tmOf tm0 dst val L k).get t=(tmOf tm0 dst val L2 k).get t
 | 0,_=>rfl
 |k+1,h=>by
  have ih:=tm_agree (L:=L) (L2:=L2) (t:=t) (tm0:=tm0) (dst:=dst) (val:=val) k (fun j hj=>h j (by omega))
  simp only [tmOf]
  by_cases c:dst k=some t
  ·rw [h k (by omega) c]
   split
   ·rw [putD_get,putD_get,if_pos c,if_pos c]
   ·exact ih
  ·split <;> split <;> simp [putD_get,c,ih]
theorem tm_tail {tm0:T V} {dst:Nat -> Option Nat} {val:Nat -> V} {L:Nat -> Bool} {t i:Nat}:∀ (k:Nat),i <= k -> (∀ j,i <= j -> j<k -> dst j=some t -> L j=false) -> (tmOf tm0 dst val L k).get t=(tmOf tm0 dst val L i).get t
 | 0,h,_=>by have:i=0:=(by omega);subst this;rfl
 |k+1,h,hl=>by
  by_cases e:i=k+1
  ·subst e;rfl
  ·have ih:=tm_tail (L:=L) (t:=t) (i:=i) (tm0:=tm0) (dst:=dst) (val:=val) k (by omega) (fun j h1 h2=>hl j h1 (by omega))
   simp only [tmOf]
   by_cases c:dst k=some t
   ·rw [hl k (by omega) (by omega) c];simpa using ih
   ·split
    ·rw [putD_get,if_neg c];exact ih
    ·exact ih
theorem nAlloc_lt {dl:List DOper} {j:Nat} {d:DOper} (hj:dl[j]?=some d) (ha:isAlloc d.o.op=true):∀ {i:Nat},j<i -> nAlloc (dl.take j)<nAlloc (dl.take i):=by
 induction dl generalizing j with
 |nil=>simp at hj
 |cons x r ih =>
  intro i hi
  cases i with
  |zero=>omega
  |succ i =>
   cases j with
   |zero=>simp at hj;subst hj;simp [nAlloc,ha];omega
   |succ j =>
    have:=ih (by simpa using hj) (i:=i) (by omega)
    simp [nAlloc];omega
end AM
namespace AM
open Go Go.RowKit
variable {P:Program} {φ:Phi} {tm:T V} {a:Act} {w:World} {w0:Base} {σ σ':St} {G B:Nat} {call:CallT}
theorem cLoad_na {t:TypeId} {x:Operand} {z:List V}:cLoad P t x≠some (.alloc z):=by
 intro h;unfold cLoad at h;repeat' (split at h)
 all_goals cases h
theorem cSlice_na {t:TypeId} {x:Operand} {lo hi mx:Option Operand} {z:List V}:cSlice P t x lo hi mx≠some (.alloc z):=by
 intro h;unfold cSlice at h;repeat' (split at h)
 all_goals cases h
theorem cBin_na {op:BinOp} {t:TypeId} {x y:Operand} {z:List V}:cBin P op t x y≠some (.alloc z):=by
 intro h;unfold cBin at h;repeat' (split at h)
 all_goals cases h
theorem cBuiltin_na {b:Builtin} {ts:Array TypeId} {args:List Operand} {z:List V}:cBuiltin P b ts args≠some (.alloc z):=by
 intro h;unfold cBuiltin at h;repeat' (split at h)
 all_goals cases h
theorem compOp_alloc {o:Oper} {z:List V} (h:compOp P o=some (.alloc z)):∃ t,o.op=.alloc t /\ zeroC P t=some z:=by
 unfold compOp at h
 split at h
 all_goals (first | (exact (cLoad_na h).elim) | (exact (cSlice_na h).elim) | (exact (cBin_na h).elim) | skip)
 case h_4 =>
  split at h
  ·cases h;exact ⟨_,by assumption,by assumption⟩
  ·cases h
 all_goals (repeat' (split at h))
 all_goals (first | (exact (cBuiltin_na h).elim) | cases h)
theorem draw_sound (hmix:P.follows .mixedOrders=true) (hGP:G=P.globals.size) (hcall:CallSound P G call):DrawSound P G call:=by
 intro n id ops dl hdl fr fr' σ σ' hrun B w0 φ a w hR hF
 unfold compDraw at hdl
 split at hdl
 ·cases hdl
 rename_i l hl
 split at hdl
 rotate_left
 ·cases hdl
 rename_i hok
 simp only [Bool.and_eq_true] at hok
 obtain ⟨hdok,hedges⟩:=hok
 simp only [Option.some.injEq] at hdl
 unfold runDraw at hrun
 split at hrun
 rotate_left
 ·cases hrun
 rename_i fr2 tr es hrd
 split at hrun
 rotate_left
 ·cases hrun
 rename_i hchk
 simp only [Option.some.injEq,Prod.mk.injEq] at hrun
 obtain ⟨rfl,rfl⟩:=hrun
 obtain ⟨hlen,hget⟩:=compOpers_get hl
 have hN:l.length=ops.size:=by simpa using hlen
 obtain ⟨hnext,hhoist⟩:=hoist_spec (G:=G) (B:=B) dl σ
 have hRh:=hhoist σ hR
 generalize hσh:hoist dl σ=σh at *
 obtain ⟨htrl,hesl,hsteps,efin,hefin,hfrfin,hlast⟩:=runD_spec dl hrd
 generalize hBf:befs [] ops.toList=Bf at *
 have hdlget:∀ (j:Nat) (ao:AOper),l[j]?=some ao -> dl[j]?=some ⟨ao,loOf Bf l j,hiOf Bf l j⟩:=by
  intro j ao hj;rw [<- hdl];simp [hj]
 have hdllen:dl.length=ops.size:=by rw [<- hdl];simp [hN]
 have heff:∀ j,(dl[j]?).any (fun d=>isEff d.o.op)=effAt l j:=by
  intro j
  unfold effAt
  cases hj:l[j]? with
  |none =>
   have:dl[j]?=none:=by rw [<- hdl];simp [hj]
   rw [this];rfl
  |some ao=>rw [hdlget j ao hj];rfl
 have hnEff:∀ j,nEff (dl.take j)=cntP (effAt l) (min j ops.size):=by
  intro j;rw [nEff_take,hdllen];exact cnt_congr (fun i _=>heff i)
 generalize hE:(fr.defers,σh) :: es=E at *
 generalize htm:(fun (L:Nat -> Bool) (j:Nat)=>tmOf fr.tmps (dstOf dl) (valOf tr) L j)=TM
 have hTM:∀ L j,tmOf fr.tmps (dstOf dl) (valOf tr) L j=TM L j:=fun L j=>by rw [<- htm]
 let Hh:Nat -> Nat:=fun j=>σ.next+nAlloc (dl.take j)
 let XL:(Nat -> Bool) -> Nat -> Prop:=fun L x=>w0.X x \/ ∃ j ao,L j=false /\ l[j]?=some ao /\ isAlloc ao.op=true /\ x=Hh j
 have hopget:∀ j,j<ops.size -> ∃ o ao,ops[j]?=some o /\ ops.toList[j]?=some o /\ l[j]?=some ao /\ compOper P n ops o=some ao:=by
  intro j hj
  have ho:ops.toList[j]?=some ops[j]:=by simp [hj]
  obtain ⟨ao,h1,h2⟩:=hget j _ ho
  exact ⟨ops[j],ao,by simp [hj],ho,h1,h2⟩
 have hdst:∀ j ao,l[j]?=some ao -> dstOf dl j=ao.dst:=by
  intro j ao hj;unfold dstOf;rw [hdlget j ao hj];rfl
 have hdltake:dl.take ops.size=dl:=by rw [<- hdllen];exact List.take_length
 have hfull:nEff dl=cntP (effAt l) ops.size:=by have:=hnEff ops.size;rw [hdltake,Nat.min_self] at this;exact this
 have hfin:∀ (L:Nat -> Bool) (a:Act) (w:World),(∀ j,j<ops.size -> L j=true) →
   (∃ φ1 e,φ.le φ1 /\ E[cntP (fun j=>effAt l j && L j) ops.size]?=some e /\ Rel G B ⟨w0.w,XL L⟩ φ1 e.2 w /\ DR φ1 e.1 a.defers /\ n <= a.tmps.size ∧
    ∀ t,VR φ1 (((TM L ops.size).get t).getD .undef) (a.tmps.getD t Go.undef)) →
   ∃ φ',φ.le φ' /\ Rel G B w0 φ' (lastSt σh es) w /\ FR n φ' fr2 a:=by
  intro L a w hall ⟨φ1,e,hle,he,hR1,hD1,hsz1,hT1⟩
  have hm:cntP (fun j=>effAt l j && L j) ops.size=nEff dl:=by
   rw [hfull];exact cnt_congr (fun j hj=>by rw [hall j hj];simp)
  rw [hm,hefin] at he
  simp at he;subst he
  refine ⟨φ1,hle,?_,?_⟩
  ·rw [hlast]
   exact hR1.weaken rfl (fun x hx=>hR1.pend x (.inl hx))
  ·rw [hfrfin]
   refine ⟨fun t=>?_,hsz1,hD1⟩
   have hag:(TM L ops.size).get t=(TM (fun _=>true) dl.length).get t:=by
    rw [hdllen, <- hTM, <- hTM]
    exact tm_agree _ (fun j hj _=>hall j hj)
   have:=hT1 t
   rw [hag] at this
   simp only
   rw [hTM];exact this
 refine wp_region_any hmix ?_
 have step:∀ (fuel:Nat) (listed:Array Bool) (a:Act) (w:World),listed.size=ops.size →
   (∀ j o,listed.getD j false=true -> ops.toList[j]?=some o -> ∀ e∈o.after.toList,Region.binds .any e=true -> listed.getD e.on false=true) →
   (fuel+1)+cntP (fun j=>listed.getD j false) ops.size=ops.size →
   (∃ φ1 e,φ.le φ1 /\ E[cntP (fun j=>effAt l j && listed.getD j false) ops.size]?=some e /\ Rel G B ⟨w0.w,XL (fun j=>listed.getD j false)⟩ φ1 e.2 w /\ DR φ1 e.1 a.defers /\ n <= a.tmps.size ∧
    ∀ t,VR φ1 (((TM (fun j=>listed.getD j false) ops.size).get t).getD .undef) (a.tmps.getD t Go.undef)) →
   ∀ i∈Region.ready .any ops listed,
   (∀ (listed:Array Bool) (a:Act) (w:World),listed.size=ops.size →
    (∀ j o,listed.getD j false=true -> ops.toList[j]?=some o -> ∀ e∈o.after.toList,Region.binds .any e=true -> listed.getD e.on false=true) →
    fuel+cntP (fun j=>listed.getD j false) ops.size=ops.size →
    (∃ φ1 e,φ.le φ1 /\ E[cntP (fun j=>effAt l j && listed.getD j false) ops.size]?=some e /\ Rel G B ⟨w0.w,XL (fun j=>listed.getD j false)⟩ φ1 e.2 w /\ DR φ1 e.1 a.defers /\ n <= a.tmps.size ∧
     ∀ t,VR φ1 (((TM (fun j=>listed.getD j false) ops.size).get t).getD .undef) (a.tmps.getD t Go.undef)) →
    wpAny P .any ops (fun e a' w'=>e=.normal /\ ∃ φ',φ.le φ' /\ Rel G B w0 φ' (lastSt σh es) w' /\ FR n φ' fr2 a') fuel listed a w) →
   wpOp P ops (fun e a' w'=>e=.normal /\ ∃ φ',φ.le φ' /\ Rel G B w0 φ' (lastSt σh es) w' /\ FR n φ' fr2 a') i
    (wpAny P .any ops (fun e a' w'=>e=.normal /\ ∃ φ',φ.le φ' /\ Rel G B w0 φ' (lastSt σh es) w' /\ FR n φ' fr2 a') fuel (listed.setIfInBounds i true)) a w:=by
  intro fuel listed a w hsz hcl hcnt hinv i hi ih
  obtain ⟨h0,o,ho,hedge⟩:=mem_ready.1 hi
  have hilt:i<ops.size:=(Array.getElem?_eq_some_iff.1 ho).1
  obtain ⟨o',ao,ho1,ho2,hao,hcomp⟩:=hopget i hilt
  have:o'=o:=by rw [ho] at ho1;cases ho1;rfl
  subst this
  obtain ⟨hcop,hcdst,hcok⟩:=compOper_spec hcomp
  obtain ⟨φ1,e,hle1,he,hR1,hD1,hsz1,hT1⟩:=hinv
  generalize hL:(fun j=>listed.getD j false)=L at *
  have hgl:∀ j,listed.getD j false=L j:=fun j=>congrFun hL j
  simp only [hgl] at he
  have hLi:L i=false:=by rw [<- hL];simp [Array.getD,hsz,hilt] at h0 ⊢;exact h0
  have hL':(fun j=>(listed.setIfInBounds i true).getD j false)=fun j=>if j=i then true else L j:=by
   funext j
   by_cases c:j=i
   ·subst c;simp [Array.getD,hsz,hilt]
   ·rw [if_neg c, <- hL];simp only;rw [getD_set_ne false (Ne.symm c)]
  have hcl2:∀ j o,L j=true -> ops.toList[j]?=some o -> ∀ e∈o.after.toList,Region.binds .any e=true -> L e.on=true:=by
   rw [<- hL];exact hcl
  have hedge2:∀ e∈o'.after.toList,Region.binds .any e=true -> L e.on=true:=by
   rw [<- hL];intro e he hb;exact hedge e (by simpa using he) hb
  have hbefore:∀ j,(Bf.getD i 0).testBit j=true -> L j=true:=by
   intro j hj;rw [<- hBf] at hj;exact bit_closed hcl2 i j o' ho2 hedge2 hj
  have hbehind:∀ j,j<ops.size -> (Bf.getD j 0).testBit i=true -> L j=false:=by
   intro j hj hb
   cases hc:L j with
   |false=>rfl
   |true =>
    obtain ⟨oj,_,_,hoj,_,_⟩:=hopget j hj
    rw [<- hBf] at hb
    have:=bit_closed hcl2 j i oj hoj (fun e he hb'=>hcl2 j oj hc hoj e he hb') hb
    rw [hLi] at this;cases this
  obtain ⟨hnot,hguard,hord⟩:=drawOk_spec hdok hao
  have hdi:dstOf dl i=ao.dst:=hdst i ao hao
  have hnames:∀ t∈ao.names,(TM L ops.size).get t=(TM (fun _=>true) i).get t:=by
   intro t ht
   have h1:(TM L ops.size).get t=(TM L i).get t:=by
    rw [<- hTM, <- hTM]
    refine tm_tail ops.size (by omega) (fun j hj1 hj2 hd=>?_)
    by_cases c:j=i
    ·subst c;exact hLi
    ·obtain ⟨oj,aoj,_,_,haoj,_⟩:=hopget j hj2
     rw [hdst j aoj haoj] at hd
     have:=(hord j aoj haoj).2 c t hd ht
     rw [Nat.max_eq_left (by omega),Nat.min_eq_right (by omega)] at this
     exact hbehind j hj2 this
   have h2:(TM L i).get t=(TM (fun _=>true) i).get t:=by
    rw [<- hTM, <- hTM]
    refine tm_agree i (fun j hj hd=>?_)
    obtain ⟨oj,aoj,_,_,haoj,_⟩:=hopget j (by omega)
    rw [hdst j aoj haoj] at hd
    have:=(hord j aoj haoj).2 (by omega) t hd ht
    rw [Nat.max_eq_right (by omega),Nat.min_eq_left (by omega)] at this
    exact hbefore j this
   exact h1.trans h2
  have hTi:∀ t∈ao.names,VR φ1 (((TM (fun _=>true) i).get t).getD .undef) (a.tmps.getD t Go.undef):=by
   intro t ht;rw [<- hnames t ht];exact hT1 t
  have hTop:TR φ1 (TM (fun _=>true) i) a ao.op.tmps:=fun t ht=>hTi t (by simp [AOper.names,ht])
  have hwant:=wanted_rel (tm:=TM (fun _=>true) i) (a:=a) hcomp (fun t ht=>hTi t (by simp only [AOper.names,List.mem_append];exact .inr ht))
  obtain ⟨e1,e2,htri,he1,he2,hstep⟩:=hsteps i _ (hdlget i ao hao)
  rw [hTM] at htri hstep
  have hmi:nEff (dl.take i)=cntP (effAt l) i:=by rw [hnEff,Nat.min_eq_left (by omega)]
  have hmi1:nEff (dl.take (i+1))=cntP (effAt l) i+(if effAt l i then 1 else 0):=by
   rw [hnEff,Nat.min_eq_left (by omega)];rfl
  have heffi:effAt l i=isEff ao.op:=by unfold effAt;rw [hao]
  have hsz':(listed.setIfInBounds i true).size=ops.size:=by simpa using hsz
  have hcl':∀ j o,(listed.setIfInBounds i true).getD j false=true -> ops.toList[j]?=some o -> ∀ e∈o.after.toList,Region.binds .any e=true -> (listed.setIfInBounds i true).getD e.on false=true:=by
   intro j oj hj hoj e he hb
   refine getD_set_true ?_
   by_cases c:j=i
   ·subst c;rw [ho2] at hoj;cases hoj
    have:=hedge2 e he hb;rw [<- hL] at this;exact this
   ·rw [getD_set_ne false (Ne.symm c)] at hj
    exact hcl j oj hj hoj e he hb
  have hcnt':fuel+cntP (fun j=>(listed.setIfInBounds i true).getD j false) ops.size=ops.size:=by
   rw [hL']
   have:=cnt_set (p:=L) (q:=fun j=>if j=i then true else L j) hLi (by simp) (k:=ops.size) (fun j _ hne=>by simp [hne])
   rw [this,if_pos hilt];omega
  have hcE:cntP (fun j=>effAt l j && (fun j=>if j=i then true else L j) j) ops.size=cntP (fun j=>effAt l j && L j) ops.size+(if effAt l i then 1 else 0):=by
   cases hc:effAt l i with
   |true =>
    have:=cnt_set (p:=fun j=>effAt l j && L j) (q:=fun j=>effAt l j && (fun j=>if j=i then true else L j) j) (i:=i) (by simp [hLi]) (by simp [hc]) (k:=ops.size) (fun j _ hne=>by simp [hne])
    rw [this,if_pos hilt];rfl
   |false =>
    have:=cnt_same (p:=fun j=>effAt l j && L j) (q:=fun j=>effAt l j && (fun j=>if j=i then true else L j) j) (i:=i) (k:=ops.size) (by simp [hc]) (fun j _ hne=>by simp [hne])
    rw [this];rfl
  have hTM':∀ t,(TM (fun j=>if j=i then true else L j) ops.size).get t=(if ao.dst=some t then some (valOf tr i) else (TM L ops.size).get t):=by
   intro t
   by_cases c:ao.dst=some t
   ·rw [if_pos c]
    have htn:t∈ao.names:=by simp [AOper.names,c]
    have h1:(TM (fun j=>if j=i then true else L j) ops.size).get t=(TM (fun j=>if j=i then true else L j) (i+1)).get t:=by
     rw [<- hTM, <- hTM]
     refine tm_tail ops.size (by omega) (fun j hj1 hj2 hd=>?_)
     have cj:j≠i:=by omega
     obtain ⟨oj,aoj,_,_,haoj,_⟩:=hopget j hj2
     rw [hdst j aoj haoj] at hd
     have:=(hord j aoj haoj).2 cj t hd htn
     rw [Nat.max_eq_left (by omega),Nat.min_eq_right (by omega)] at this
     simp only [cj,if_false]
     exact hbehind j hj2 this
    rw [h1, <- hTM,tmOf]
    simp only [if_true]
    rw [putD_get,hdi,if_pos c]
   ·rw [if_neg c, <- hTM, <- hTM]
    refine tm_agree ops.size (fun j hj hd=>?_)
    by_cases cj:j=i
    ·subst cj;rw [hdi] at hd;exact (c hd).elim
    ·simp [cj]
  have close:∀ (φ2:Phi) (x:Value) (w2:World) (dfs:List Deferred) (ee:Dfs × St),φ1.le φ2 -> E[cntP (fun j=>effAt l j && L j) ops.size+(if effAt l i then 1 else 0)]?=some ee →
    Rel G B ⟨w0.w,XL (fun j=>if j=i then true else L j)⟩ φ2 ee.2 w2 -> VR φ2 (valOf tr i) x -> DR φ2 ee.1 dfs →
    wpAny P .any ops (fun e a' w'=>e=.normal /\ ∃ φ',φ.le φ' /\ Rel G B w0 φ' (lastSt σh es) w' /\ FR n φ' fr2 a') fuel (listed.setIfInBounds i true) (({ a with defers:=dfs }:Act).put o'.dst x) w2:=by
   intro φ2 x w2 dfs ee hle2 hee hR2 hvx hdd
   refine ih _ _ w2 hsz' hcl' hcnt' ?_
   have hgd:∀ j,(listed.setIfInBounds i true).getD j false=(if j=i then true else L j):=fun j=>congrFun hL' j
   simp only [hgd]
   refine ⟨φ2,ee,hle1.trans hle2,by rw [hcE];exact hee,hR2,?_,?_,fun t=>?_⟩
   ·cases o'.dst <;> exact hdd
   ·cases hod:o'.dst <;> simp [Act.put,hsz1]
   ·rw [hTM' t,hcdst]
    cases hod:o'.dst with
    |none=>simp only [Act.put];simpa using VR.mono hle2 _ _ (hT1 t)
    |some d =>
     have hdlt:d<a.tmps.size:=Nat.lt_of_lt_of_le (hcok d hod) hsz1
     simp only [Act.put]
     by_cases c:d=t
     ·subst c
      have:(a.tmps.setIfInBounds d x).getD d Go.undef=x:=by simp [Array.getD,hdlt]
      rw [this];simpa using hvx
     ·have:(a.tmps.setIfInBounds d x).getD t Go.undef=a.tmps.getD t Go.undef:=by
       rw [Array.getD_eq_getD_getElem?,Array.getD_eq_getD_getElem?,Array.getElem?_setIfInBounds_ne c]
      rw [this]
      have hne:¬ (some d=some t):=by simpa using c
      rw [if_neg hne];exact VR.mono hle2 _ _ (hT1 t)
  have hXL:∀ x,isAlloc ao.op=false -> XL (fun j=>if j=i then true else L j) x -> XL L x:=by
   rintro x hna (hx | ⟨j,aoj,hj,haoj,ha,rfl⟩)
   ·exact .inl hx
   ·refine .inr ⟨j,aoj,?_,haoj,ha,rfl⟩
    by_cases c:j=i
    ·subst c;simp at hj
    ·simpa [c] using hj
  have hlo:loOf Bf l i <= cntP (fun j=>effAt l j && L j) ops.size:=by
   unfold loOf;rw [hN]
   refine cnt_mono (fun j hj h=>?_)
   simp only [Bool.and_eq_true] at h ⊢
   exact ⟨h.1,hbefore j h.2⟩
  have hhi:cntP (fun j=>effAt l j && L j) ops.size <= hiOf Bf l i:=by
   unfold hiOf;rw [hN]
   refine cnt_mono (fun j hj h=>?_)
   simp only [Bool.and_eq_true,Bool.not_eq_true'] at h ⊢
   refine ⟨h.1,?_⟩
   cases hb:(Bf.getD j 0).testBit i with
   |false=>rfl
   |true=>have:=hbehind j hj hb;rw [h.2] at this;cases this
  have heffEq:isEff ao.op=true -> cntP (fun j=>effAt l j && L j) ops.size=cntP (effAt l) i:=by
   intro hE
   refine cnt_prefix (by omega) (fun j hj=>?_)
   obtain ⟨oj,aoj,_,_,haoj,_⟩:=hopget j hj
   have hej:effAt l j=isEff aoj.op:=by unfold effAt;rw [haoj]
   cases hc:effAt l j with
   |false=>simp
   |true =>
    rw [hej] at hc
    simp only [Bool.true_and]
    by_cases c:j<i
    ·have:=(hord j aoj haoj).1 hE hc c
     rw [hbefore j this];simp [c]
    ·by_cases c':j=i
     ·subst c';rw [hLi];simp
     ·obtain ⟨_,_,hord'⟩:=drawOk_spec hdok haoj
      have:=(hord' i ao hao).1 hc hE (by omega)
      rw [hbehind j hj this];simp [c]
  unfold wpOp
  rw [ho]
  simp only
  rw [hwant]
  unfold StepOk at hstep
  simp only at hstep
  by_cases hw:wantedA ao.guard (TM (fun _=>true) i)=true
  ·rw [if_pos hw] at hstep ⊢
   left
   by_cases ha:isAlloc ao.op=true
   ·rw [if_pos ha] at hstep
    obtain ⟨hv,hee⟩:=hstep
    have hE:isEff ao.op=false:=by simp [isEff,ha]
    cases hop:ao.op with
    |alloc z =>
     obtain ⟨_,c2⟩:=checkD_spec dl σ.next tr hchk i _ _ _ (hdlget i ao hao) htri
     have hobj:=checkH_spec _ 0 (c2 z hop) _ e he (by simpa using hhi)
     have hφ:φ1 (Hh i)=none:=(hR1.pend (Hh i) (.inr ⟨i,ao,hLi,hao,ha,rfl⟩)).1
     rw [hop] at hcop
     obtain ⟨t,hot,hz⟩:∃ t,o'.op=.alloc t /\ zeroC P t=some z:=compOp_alloc hcop
     obtain ⟨X,hX,hr,hs,hXs⟩:=zeroC_spec hz
     have hrev:=hR1.reveal (X':=XL (fun j=>if j=i then true else L j)) (zs:=X.cells.toList) (C:=X.cells) (E:=t) hobj hφ (hr φ1) hXs (fun k hk=>by rw [Nat.mod_eq_of_lt (by simp;omega)];simp) (by
      rintro x (hx | ⟨j,aoj,hj,haoj,haj,rfl⟩)
      ·refine ⟨.inl hx,?_⟩
       have:=(hR.pend x hx).2
       omega
      ·have cj:j≠i:=by rintro rfl;simp at hj
       refine ⟨.inr ⟨j,aoj,by simpa [cj] using hj,haoj,haj,rfl⟩,?_⟩
       simp only [Hh]
       rcases Nat.lt_or_gt_of_ne cj with c | c
       ·have:=nAlloc_lt (hdlget j aoj haoj) haj c;omega
       ·have:=nAlloc_lt (hdlget i ao hao) ha c;omega)
     refine Oper.wp_value (x:=.pointer (some ⟨w.heap.size,0,none⟩)) (w':=w.alloc (.cells X.cells t)) ?_ ?_
     ·simp [execOp,hot,Instr.alloc,hX,newVar,newRow]
     ·refine close _ _ _ a.defers e hrev.2 (by rw [heffi,hE];simpa using he) hrev.1 ?_ (DR.mono hrev.2 hD1)
      rw [hv]
      exact ⟨w.heap.size,z.length,Phi.upd_same _ _ _,rfl⟩
    |_=>rw [hop] at ha;cases ha
   ·rw [if_neg ha] at hstep
    have ha':isAlloc ao.op=false:=by simpa using ha
    have hev:∃ ee:Dfs × St,evalOp call ao.op (TM (fun _=>true) i) e.1 e.2=some (valOf tr i,ee.1,ee.2) /\ E[cntP (fun j=>effAt l j && L j) ops.size+(if effAt l i then 1 else 0)]?=some ee:=by
     cases hE:isEff ao.op with
     |true =>
      rw [hmi] at he1
      have hm:=heffEq hE
      rw [hm] at he
      rw [he] at he1;cases he1
      rw [hmi1] at he2
      exact ⟨e2,hstep,by rw [hm];exact he2⟩
     |false =>
      rw [heffi,hE]
      refine ⟨e,?_,by simpa using he⟩
      obtain ⟨q1,q2⟩:=evalOp_noeff hstep hE ha'
      unfold evalOp at hstep ⊢
      by_cases hp:isPure ao.op=true
      ·rw [if_pos hp] at hstep ⊢
       split at hstep
       ·rename_i v hv
        simp only [Option.some.injEq,Prod.mk.injEq] at hstep ⊢
        simp [hstep.1]
       ·cases hstep
      ·rw [if_neg hp] at hstep ⊢
       have hrd:isRead ao.op=true:=by
        have hp':isPure ao.op=false:=by simpa using hp
        simpa [isEff,hp',ha'] using hE
       rw [if_pos hrd]
       obtain ⟨c1,_⟩:=checkD_spec dl σ.next tr hchk i _ _ _ (hdlget i ao hao) htri
       have:=checkR_spec _ 0 (c1 hrd hw) _ e he (by simpa using hlo) (by simpa using hhi)
       rw [this]
    obtain ⟨ee,hev,hee⟩:=hev
    refine evalOp_sound (w0:=⟨w0.w,XL L⟩) hcall hcop hev hGP hTop hD1 hR1 ?_
    intro φ2 x w2 dfs hle2 hR2 hvx hdd
    refine close φ2 x w2 dfs ee hle2 hee (hR2.weaken rfl (fun y hy=>hR2.pend y (hXL y ha' hy))) hvx hdd
  ·rw [if_neg hw] at hstep ⊢
   obtain ⟨ha,hv,hee⟩:=hstep
   have hex:∃ ee:Dfs × St,e=ee /\ E[cntP (fun j=>effAt l j && L j) ops.size+(if effAt l i then 1 else 0)]?=some ee:=by
    cases hE:isEff ao.op with
    |true =>
     rw [hmi] at he1
     have hm:=heffEq hE
     rw [hm] at he
     rw [he] at he1;cases he1
     rw [hmi1,hee] at he2
     exact ⟨e,rfl,by rw [hm];exact he2⟩
    |false=>rw [heffi,hE];exact ⟨e,rfl,by simpa using he⟩
   obtain ⟨_,rfl,hex⟩:=hex
   have hvx:VR φ1 (valOf tr i) Go.undef:=by rw [hv];exact VR.undef
   exact close φ1 Go.undef w a.defers e (Phi.le.refl _) hex (hR1.weaken rfl (fun y hy=>hR1.pend y (hXL y ha hy))) hvx hD1
 have main:∀ (fuel:Nat) (listed:Array Bool) (a:Act) (w:World),listed.size=ops.size →
   (∀ j o,listed.getD j false=true -> ops.toList[j]?=some o -> ∀ e∈o.after.toList,Region.binds .any e=true -> listed.getD e.on false=true) →
   fuel+cntP (fun j=>listed.getD j false) ops.size=ops.size →
   (∃ φ1 e,φ.le φ1 /\ E[cntP (fun j=>effAt l j && listed.getD j false) ops.size]?=some e /\ Rel G B ⟨w0.w,XL (fun j=>listed.getD j false)⟩ φ1 e.2 w /\ DR φ1 e.1 a.defers /\ n <= a.tmps.size ∧
    ∀ t,VR φ1 (((TM (fun j=>listed.getD j false) ops.size).get t).getD .undef) (a.tmps.getD t Go.undef)) →
   wpAny P .any ops (fun e a' w'=>e=.normal /\ ∃ φ',φ.le φ' /\ Rel G B w0 φ' (lastSt σh es) w' /\ FR n φ' fr2 a') fuel listed a w:=by
  intro fuel
  induction fuel with
  |zero =>
   intro listed a w hsz hcl hcnt hinv
   have hall:∀ j,j<ops.size -> listed.getD j false=true:=cnt_full (by omega)
   refine ⟨?_,?_⟩
   ·rw [List.eq_nil_iff_forall_not_mem]
    intro j hj
    obtain ⟨h0,o,ho,_⟩:=mem_ready.1 hj
    have hjlt:j<ops.size:=(Array.getElem?_eq_some_iff.1 ho).1
    have h1:=hall j hjlt
    simp [Array.getD,hsz,hjlt] at h0 h1
    rw [h0] at h1;cases h1
   ·exact ⟨rfl,hfin _ a w hall hinv⟩
  |succ fuel ih =>
   intro listed a w hsz hcl hcnt hinv
   refine ⟨fun hnil=>?_,fun i hi=>?_⟩
   ·have hall:∀ j,j<ops.size -> listed.getD j false=true:=by
     intro j
     induction j using Nat.strongRecOn with
     |_ j ihj =>
      intro hj
      cases hc:listed.getD j false with
      |true=>rfl
      |false =>
       obtain ⟨o,ao,ho,ho',_,_⟩:=hopget j hj
       have hmem:j∈Region.ready .any ops listed:=by
        refine mem_ready.2 ⟨?_,o,ho,fun e he hb=>?_⟩
        ·simp [Array.getD,hsz,hj] at hc ⊢;exact hc
        ·have:=edgesOk_spec ops.toList 0 hedges j o ho' e (by simpa using he) hb
         exact ihj e.on (by omega) (by omega)
       rw [hnil] at hmem;cases hmem
    exact ⟨rfl,hfin _ a w hall hinv⟩
   ·exact step fuel listed a w hsz hcl hcnt hinv i hi ih
 refine main ops.size _ a w.drew (by simp) ?_ ?_ ?_
 ·intro j o hj
  simp [Array.getD] at hj
 ·have:cntP (fun j=>(Array.replicate ops.size false).getD j false) ops.size=0:=by
   have:∀ k,cntP (fun j=>(Array.replicate ops.size false).getD j false) k=0:=by
    intro k
    induction k with
    |zero=>rfl
    |succ k ih=>simp only [cntP,ih];simp [Array.getD]
   exact this _
  omega
 ·have hL0:∀ j,(Array.replicate ops.size false).getD j false=false:=by intro j;simp [Array.getD]
  have hc0:cntP (fun j=>effAt l j && (Array.replicate ops.size false).getD j false) ops.size=0:=by
   have:∀ k,cntP (fun j=>effAt l j && (Array.replicate ops.size false).getD j false) k=0:=by
    intro k
    induction k with
    |zero=>rfl
    |succ k ih=>simp only [cntP];rw [ih];simp [hL0]
   exact this _
  refine ⟨φ,(fr.defers,σh),Phi.le.refl _,by rw [hc0, <- hE];rfl,hRh.drew.weaken rfl ?_,hF.ds,hF.size,?_⟩
  ·rintro x (hx | ⟨j,ao,_,hj,ha,rfl⟩)
   ·obtain ⟨p,q⟩:=hR.pend x hx;exact ⟨p,by rw [hnext];omega⟩
   ·have hlt:=nAlloc_lt (hdlget j ao hj) ha (i:=dl.length) (by
     have:j<l.length:=by
      rcases Nat.lt_or_ge j l.length with k | k
      ·exact k
      ·rw [List.getElem?_eq_none k] at hj;cases hj
     omega)
    rw [List.take_length] at hlt
    refine ⟨?_,by rw [hnext];simp only [Hh];omega⟩
    cases hc:φ (Hh j) with
    |none=>rfl
    |some y=>obtain ⟨b,m⟩:=y;have:=(hR.dom _ _ _ hc).1;simp only [Hh] at this;omega
  ·intro t
   have htt:(TM (fun j=>(Array.replicate ops.size false).getD j false) ops.size).get t=fr.tmps.get t:=by
    rw [<- hTM]
    have:=tm_tail (tm0:=fr.tmps) (dst:=dstOf dl) (val:=valOf tr) (L:=fun j=>(Array.replicate ops.size false).getD j false) (t:=t) (i:=0) ops.size (by omega) (fun j _ _ _=>hL0 j)
    rw [this];rfl
   rw [htt];exact hF.ts t
end AM
namespace AM
open Go Go.RowKit Go.Conc.Locks
variable {P:Program} {φ:Phi} {w:World} {w0:Base} {σ σ':St} {G B:Nat}
theorem Rel.store1 (h:Rel G B w0 φ σ w) {id off b n:Nat} {u v:V} {x:Value} (hc:σ.cell id off=some u) (hs:σ.store id off [v]=some σ') (ha:φ id=some (b,n)) (hv:VR φ v x) (hx:x.oneCell'=true) :
  w.frozen? ⟨b,off,none⟩=false /\ Rel G B w0 φ σ' (w.setCell ⟨b,off,none⟩ x):=by
 obtain ⟨y,hy,_⟩:=h.cell hc ha
 obtain ⟨w',hrun,hR⟩:=h.store (P:=(default:Program)) hs ha (LR.cons hv LR.nil)
 have h0:(⟨b,off,none⟩:Addr).add 0=⟨b,off,none⟩:=add_none b off 0
 simp only [storeCells,h0,Sem.run_bind,Sem.run_pure] at hrun
 rw [run_store (default:Program) w ⟨b,off,none⟩ x .plain hx,hy] at hrun
 cases hf:w.frozen? ⟨b,off,none⟩ with
 |true=>rw [hf] at hrun;simp [Result.andThen] at hrun
 |false =>
  rw [hf] at hrun
  simp [Result.andThen] at hrun
  subst hrun
  exact ⟨rfl,hR⟩
theorem LR.one {v:V} {l:List Value} (h:LR φ [v] l):∃ x,l=[x] /\ VR φ v x:=by
 obtain ⟨x,s,rfl,h1,h2⟩:=h;cases h2;exact ⟨x,rfl,h1⟩
theorem LR.two {u v:V} {l:List Value} (h:LR φ [u,v] l):∃ x y,l=[x,y] /\ VR φ u x /\ VR φ v y:=by
 obtain ⟨x,s,rfl,h1,h2⟩:=h
 obtain ⟨y,rfl,h3⟩:=LR.one h2
 exact ⟨x,y,rfl,h1,h3⟩
theorem addr_ptr {id off:Nat} {x:Value} (h:VR φ (.ptr (some (id,off))) x):∃ b n,φ id=some (b,n) /\ x=.pointer (some ⟨b,off,none⟩):=h
theorem undef_tuple:VR φ (.tuple []) (.tuple #[]):=⟨#[],rfl,rfl⟩
theorem lock_ok {L:MuLink} (H:MuLib P L) {xs:List V} {v:V} (h:extCall .lock xs σ=some (v,σ')):Plain1 P G L.lock xs σ v σ':=by
 intro B w0 φ w args hR hL
 unfold extCall at h
 split at h
 ·rename_i id off he
  split at h
  ·rename_i hc
   obtain ⟨⟨⟩⟩:=he
   cases hst:σ.store id off [.int .i32 1] with
   |none=>rw [hst] at h;simp at h
   |some σ2 =>
    rw [hst] at h;simp at h;obtain ⟨rfl,rfl⟩:=h
    obtain ⟨x,hx,hp⟩:=LR.one hL
    obtain ⟨b,n,hb,rfl⟩:=addr_ptr hp
    obtain ⟨y,hy,hvy⟩:=hR.cell hc hb
    cases hvy
    obtain ⟨hz,hR'⟩:=hR.store1 (x:=.int .i32 1) hc hst hb rfl rfl
    have harg:args=#[.pointer (some ⟨b,off,none⟩)]:=by cases args;simpa using hx
    subst harg
    left
    refine ⟨MuLone.run_callFunc_enter (P:=P) H.f_lock (by kernel_rfl) rfl _ w,?_⟩
    refine (MuLone.lock_free H ⟨b,off,none⟩ w hy hz).mono ?_
    rintro e w' ⟨rfl,rfl⟩
    exact ⟨φ,_,rfl,Phi.le.refl _,hR',undef_tuple⟩
  ·cases h
 all_goals (first | contradiction | cases h)
theorem unlock_ok {L:MuLink} (H:MuLib P L) {xs:List V} {v:V} (h:extCall .unlock xs σ=some (v,σ')):Plain1 P G L.unlock xs σ v σ' /\ Def1 P G L.unlock xs σ v σ':=by
 have key:∀ B w0 φ w (args:Array Value),Rel G B w0 φ σ w -> LR φ xs args.toList -> ∃ a,args=#[.pointer (some a)] /\ w.cell? a=some (.int .i32 1) /\ w.frozen? a=false /\ v=.tuple [] /\ Rel G B w0 φ σ' (w.setCell a (.int .i32 0)):=by
  intro B w0 φ w args hR hL
  unfold extCall at h
  split at h
  ·contradiction
  ·rename_i id off he
   split at h
   ·rename_i hc
    obtain ⟨⟨⟩⟩:=he
    cases hst:σ.store id off [.int .i32 0] with
    |none=>rw [hst] at h;simp at h
    |some σ2 =>
     rw [hst] at h;simp at h;obtain ⟨rfl,rfl⟩:=h
     obtain ⟨x,hx,hp⟩:=LR.one hL
     obtain ⟨b,n,hb,rfl⟩:=addr_ptr hp
     obtain ⟨y,hy,hvy⟩:=hR.cell hc hb
     cases hvy
     obtain ⟨hz,hR'⟩:=hR.store1 (x:=.int .i32 0) hc hst hb rfl rfl
     exact ⟨_,by cases args;simpa using hx,hy,hz,rfl,hR'⟩
   ·cases h
  all_goals (first | contradiction | cases h)
 refine ⟨?_,fun args w=>MuLone.run_callFunc_enter (P:=P) H.f_unlock (by kernel_rfl) rfl _ w,?_⟩
 ·intro B w0 φ w args hR hL
  obtain ⟨a,rfl,hc,hz,rfl,hR'⟩:=key B w0 φ w args hR hL
  left
  refine ⟨MuLone.run_callFunc_enter (P:=P) H.f_unlock (by kernel_rfl) rfl _ w,?_⟩
  refine (MuLone.unlock_held H a w hc hz).mono ?_
  rintro e w' ⟨rfl,rfl⟩
  exact ⟨φ,_,rfl,Phi.le.refl _,hR',undef_tuple⟩
 ·intro B w0 φ w args hR hL
  obtain ⟨a,rfl,hc,hz,rfl,hR'⟩:=key B w0 φ w args hR hL
  refine (MuLone.unlock_deferred H a .returning w hc hz).mono ?_
  rintro e u w' ⟨rfl,rfl,rfl⟩
  exact ⟨rfl,φ,_,rfl,Phi.le.refl _,hR',undef_tuple⟩
theorem loadU32_ok {g : FuncId} {fn : Func} (hf : P.funcs[g]? = some fn) (hname : (fn.name == "runtime.NumGoroutine") = false) (hb : fn.body.isNone = true) (hn : Extern.findNext fn = none)
  (he:Extern.find fn=some (Extern.Atomic.loadT (.int .u32))) {xs:List V} {v:V} (h:extCall .loadU32 xs σ=some (v,σ')):Plain1 P G g xs σ v σ':=by
 intro B w0 φ w args hR hL
 unfold extCall at h
 split at h
 ·contradiction
 ·contradiction
 ·rename_i id off hx
  split at h
  ·rename_i k hc
   obtain ⟨⟨⟩⟩:=hx
   simp at h;obtain ⟨rfl,rfl⟩:=h
   obtain ⟨x,hx,hp⟩:=LR.one hL
   obtain ⟨b,n,hb2,rfl⟩:=addr_ptr hp
   obtain ⟨y,hy,hvy⟩:=hR.cell hc hb2
   cases hvy
   have harg:args=#[.pointer (some ⟨b,off,none⟩)]:=by cases args;simpa using hx
   subst harg
   exact .inr ⟨_,w,φ,run_call_load hf hname hb hn .u32 he hy,Phi.le.refl _,hR,rfl⟩
  ·cases h
 all_goals (first | contradiction | cases h)
theorem storeU32_ok {g : FuncId} {fn : Func} (hf : P.funcs[g]? = some fn) (hname : (fn.name == "runtime.NumGoroutine") = false) (hb : fn.body.isNone = true) (hn : Extern.findNext fn = none)
  (he:Extern.find fn=some Extern.Atomic.storeT) {xs:List V} {v:V} (h:extCall .storeU32 xs σ=some (v,σ')):Plain1 P G g xs σ v σ':=by
 intro B w0 φ w args hR hL
 unfold extCall at h
 split at h
 ·contradiction
 ·contradiction
 ·contradiction
 ·rename_i id off m hx
  split at h
  ·rename_i k hc
   obtain ⟨⟨⟩⟩:=hx
   cases hst:σ.store id off [.int .u32 m] with
   |none=>rw [hst] at h;simp at h
   |some σ2 =>
    rw [hst] at h;simp at h;obtain ⟨rfl,rfl⟩:=h
    obtain ⟨x,y,hxy,hp,hq⟩:=LR.two hL
    cases hq
    obtain ⟨b,n,hb2,rfl⟩:=addr_ptr hp
    obtain ⟨y,hy,hvy⟩:=hR.cell hc hb2
    obtain ⟨hz,hR'⟩:=hR.store1 (x:=.int .u32 m) hc hst hb2 rfl rfl
    have harg:args=#[.pointer (some ⟨b,off,none⟩),.int .u32 m]:=by cases args;simpa using hxy
    subst harg
    exact .inr ⟨_,_,φ,run_call_store hf hname hb hn he hy hz,Phi.le.refl _,hR',undef_tuple⟩
  ·cases h
 all_goals (first | contradiction | cases h)
#print axioms storeU32_ok
#print axioms draw_sound
end AM
