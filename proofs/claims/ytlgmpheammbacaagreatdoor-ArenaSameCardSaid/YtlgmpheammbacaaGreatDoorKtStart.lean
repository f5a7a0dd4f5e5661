import Derived.Test.YtlgmpheammbacaaGreatDoorSmk
import Derived.Test.YtlgmpheammbacaaGreatDoorRows
import Derived.WalkKit
import Derived.ProofKit
import Derived.LaidMore
import Derived.OpenShut
import Derived.Stop.Joined
import Derived.ChangeOld
import Derived.Below
set_option maxRecDepth 1000000
set_option linter.unusedVariables false
namespace Go.Proofs.YtlgmpheammbacaaGreatDoor
open Go.ChangeShapes Go.WideShapes Go.ChangeAt Go.WideMaps Go.WideElems Go.RowKit
open AM
noncomputable section
theorem mixed:Tryz.prog.follows .mixedOrders=true:=by kernel_rfl
theorem own:ownKnob Tryz.prog.godebug=none:=by kernel_rfl
theorem gsz:Tryz.prog.globals.size=1:=by kernel_rfl
theorem gWidths : Tryz.prog.globalNamed "croft/slab.widths" = some 0 := by kernel_rfl
theorem tWidths:(Tryz.prog.globals[0]?).map (·.type)=some 310:=by kernel_rfl
def laidW : List (String × DataW Unit) := [("croft/slab.widths", Rows.laid_croft_slab_widths)]
theorem door_met (os:Os) (args:Array Value):laidMetH Tryz.prog laidW ((World.doorLaid Tryz.prog 19 os).forCall (fun _ _=>0) ⟨#[],args,[]⟩).memory :=
 laidMetH_of_parts3 (fuel:=8) (laidMet_of_run' 8 (by kernel_rfl) (by kernel_rfl)) (by kernel_rfl) (by kernel_rfl)
theorem of_laid {W:World} (h:laidMetH Tryz.prog laidW W):∃ C E fz,W.heap[0]?=some (.cells C E fz) /\ C.toList=[.int .u64 16,.int .u64 32,.int .u64 64,.int .u64 128,.int .u64 256,.int .u64 512,.int .u64 1024,.int .u64 2048]:=by
 rw [MakeChecks.laidMetH_plain _ _ _ (by kernel_rfl)] at h
 obtain ⟨ps,⟨g0,t0,cs0,f0,p0,q0,hg0,ht0,hv0,hd0,_,_⟩,_,_⟩:=h
 obtain rfl:=Option.some.inj (gWidths.symm.trans hg0)
 obtain rfl:=Option.some.inj (tWidths.symm.trans ht0)
 have hcells:∃ E fz,W.heap[0]?=some (.cells cs0 E fz):=by
  simp only [World.var?,hg0,Option.bind_some] at hv0
  split at hv0
  ·rename_i c E fz hb;cases hv0;exact ⟨E,fz,hb⟩
  ·cases hv0
 obtain ⟨E,fz,hb⟩:=hcells
 refine ⟨cs0,E,fz,hb,?_⟩
 obtain ⟨xs,m1,rfl,hx1,hlen,hn3,hel⟩:=DataW.trod_array Tryz.underlying310 hd0
 have c3:Tryz.prog.cellsOf 28=1:=by kernel_rfl
 have c24:Tryz.prog.cellsOf 310=8:=by kernel_rfl
 rw [c24] at hlen
 have hel:∀ i,i<8 -> DataW.trod (fun _=>()) Tryz.prog W 0 (fun _=>true) false m1 28 ((cs0.toList.drop i).take 1)=xs[i]?:=by
  intro i hi;have:=hel i hi;rw [c3] at this;simpa using this
 simp only [Rows.laid_croft_slab_widths,Prod.mk.injEq,DataW.agg.injEq] at hx1
 match hl:cs0.toList,hlen with
 | [a0,a1,a2,a3,a4,a5,a6,a7],_ =>
  match xs,hn3,hx1 with
  | [x0,x1,x2,x3,x4,x5,x6,x7],_,hx1 =>
   rw [hl] at hel
   simp only [List.map_cons,List.map_nil,List.cons.injEq,and_true] at hx1
   obtain ⟨⟨y0,y1,y2,y3,y4,y5,y6,y7⟩,_⟩:=hx1
   have one:∀ (a:Value) (x:DataW Unit × List MemPlace) (k:Int),DataW.trod (fun _=>()) Tryz.prog W 0 (fun _=>true) false m1 28 [a]=some x -> .lit (.int .u64 k)=x.1 -> a=.int .u64 k:=by
    intro a x k h hk
    obtain ⟨n,e1,e2,_⟩:=DataW.trod_int Tryz.underlying28 h
    rw [e2] at hk
    simp at hk e1
    rw [e1,hk]
   rw [one a0 x0 16 (by simpa using hel 0 (by omega)) y0,one a1 x1 32 (by simpa using hel 1 (by omega)) y1,one a2 x2 64 (by simpa using hel 2 (by omega)) y2,one a3 x3 128 (by simpa using hel 3 (by omega)) y3,
    one a4 x4 256 (by simpa using hel 4 (by omega)) y4,one a5 x5 512 (by simpa using hel 5 (by omega)) y5,one a6 x6 1024 (by simpa using hel 6 (by omega)) y6,one a7 x7 2048 (by simpa using hel 7 (by omega)) y7]
structure XR where
 b:Nat
 n:Nat
 o:Option (Nat × List V)
def wObj:AM.Obj:=.cells true 0 8 [] (ofList [.int .u64 16,.int .u64 32,.int .u64 64,.int .u64 128,.int .u64 256,.int .u64 512,.int .u64 1024,.int .u64 2048])
def xObj (p:Nat × List V):AM.Obj:=.cells true 0 (p.1+p.2.length) [] (putN .nil p.1 p.2)
def xObjs:List XR -> Nat -> T AM.Obj
 | [],_=>T.set .nil 0 wObj
 |x :: r,i=>match x.o with
  |some p=>T.set (xObjs r (i+1)) i (xObj p)
  |none=>xObjs r (i+1)
theorem xObjs_get:∀ (l:List XR) (i a:Nat),0<i -> (xObjs l i).get a=if a=0 then some wObj else if i <= a then ((l[a-i]?).bind (·.o)).map xObj else none
 | [],i,a,hi=>by
  simp only [xObjs,T.get_set,T.get_nil]
  by_cases c:a=0
  ·rw [if_pos c,if_pos c]
  ·rw [if_neg c,if_neg c];simp
 |x :: r,i,a,hi=>by
  have ih:=xObjs_get r (i+1) a (by omega)
  cases ho:x.o with
  |none =>
   simp only [xObjs,ho]
   rw [ih]
   by_cases c:a=0
   ·rw [if_pos c,if_pos c]
   ·rw [if_neg c,if_neg c]
    by_cases d:i+1 <= a
    ·rw [if_pos d,if_pos (by omega),show a-i=(a-(i+1))+1 by omega,List.getElem?_cons_succ]
    ·rw [if_neg d]
     by_cases e:i <= a
     ·rw [if_pos e,show a-i=0 by omega,List.getElem?_cons_zero];simp [ho]
     ·rw [if_neg e]
  |some p =>
   simp only [xObjs,ho,T.get_set]
   by_cases c:a=i
   ·subst c
    rw [if_pos rfl,if_neg (by omega),if_pos (Nat.le_refl _),Nat.sub_self,List.getElem?_cons_zero];simp [ho]
   ·rw [if_neg c,ih]
    by_cases c2:a=0
    ·rw [if_pos c2,if_pos c2]
    ·rw [if_neg c2,if_neg c2]
     by_cases d:i+1 <= a
     ·rw [if_pos d,if_pos (by omega),show a-i=(a-(i+1))+1 by omega,List.getElem?_cons_succ]
     ·rw [if_neg d,if_neg (by omega)]
def xSt (l:List XR):St:=⟨1+l.length,xObjs l 1,.nil⟩
def xPhi (W:World) (l:List XR):Phi:=fun a=>if a<1 then some (a,match W.heap[a]? with | some (.cells C _ _)=>C.size | _=>0) else (l[a-1]?).map fun x=>(x.b,x.n)
structure XRok (W:World) (φ:Phi) (x:XR):Prop where
 lt:x.b<W.heap.size
 row:∀ p,x.o=some p -> ∃ C E fz,W.heap[x.b]?=some (.cells C E fz) /\ C.size=x.n /\ p.1+p.2.length <= C.size /\ ∀ i v,p.2[i]?=some v -> ∃ y,C[p.1+i]?=some y /\ VR φ v y
theorem xGet (l:List XR) (a:Nat) (o:AM.Obj) (h:(xSt l).objs.get a=some o):(a=0 /\ o=wObj) \/ (1 <= a /\ ∃ x p,l[a-1]?=some x /\ x.o=some p /\ o=xObj p):=by
 simp only [xSt] at h
 rw [xObjs_get l 1 a (by omega)] at h
 by_cases c:a=0
 ·rw [if_pos c] at h;exact .inl ⟨c,(Option.some.inj h).symm⟩
 ·rw [if_neg c] at h
  by_cases d:1 <= a
  ·rw [if_pos d] at h
   obtain ⟨p,hp,rfl⟩:=Option.map_eq_some_iff.1 h
   obtain ⟨x,hx,hxo⟩:=Option.bind_eq_some_iff.1 hp
   exact .inr ⟨d,x,p,hx,hxo,rfl⟩
  ·rw [if_neg d] at h;cases h
theorem start {W:World} (h:laidMetH Tryz.prog laidW W) (l:List XR) (hl:∀ x∈l,XRok W (xPhi W l) x):Rel Tryz.prog.globals.size W.heap.size ⟨W,fun _=>False⟩ (xPhi W l) (xSt l) W:=by
 obtain ⟨C,E,fz,hb,hC⟩:=of_laid h
 have hsz:0<W.heap.size:=(Array.getElem?_eq_some_iff.1 hb).1
 rw [gsz]
 refine ⟨Below.refl _ _,Nat.le_refl _,?_,?_,?_,?_,?_,?_,?_,?_⟩
 ·intro a b n hab
  simp only [xPhi] at hab
  split at hab
  ·simp only [Option.some.injEq,Prod.mk.injEq] at hab;obtain ⟨rfl,_⟩:=hab;exact ⟨by simp only [xSt];omega,by omega⟩
  ·obtain ⟨x,hx,e⟩:=Option.map_eq_some_iff.1 hab
   simp only [Prod.mk.injEq] at e
   obtain ⟨rfl,rfl⟩:=e
   have:=(List.getElem?_eq_some_iff.1 hx).1
   exact ⟨by simp only [xSt];omega,(hl x (List.mem_of_getElem? hx)).lt⟩
 ·intro g hg;exact ⟨by simp only [xSt];omega,_,by simp [xPhi,hg];rfl⟩
 ·intro a o b n ho hab
  rcases xGet l a o ho with ⟨rfl,rfl⟩ | ⟨hG,x,p,hx,hxo,rfl⟩
  ·simp only [xPhi] at hab
   rw [if_pos (by omega),hb] at hab
   simp only [Option.some.injEq,Prod.mk.injEq] at hab
   obtain ⟨rfl,rfl⟩:=hab
   have h8:C.size=8:=by rw [<- Array.length_toList,hC];rfl
   refine ⟨C,E,fz,hb,rfl,(fun h=>by cases h),by omega,?_⟩
   intro i v hi
   unfold cellOf at hi
   split at hi
   ·rename_i hi8
    rw [ofList_get] at hi
    refine ⟨_,Array.getElem?_eq_getElem (by omega),?_⟩
    have:C[i]'(by omega)=C.toList[i]'(by rw [Array.length_toList];omega):=by simp
    rw [this]
    simp only [hC]
    clear this
    rcases (by omega:i=0 \/ i=1 \/ i=2 \/ i=3 \/ i=4 \/ i=5 \/ i=6 \/ i=7) with rfl | rfl | rfl | rfl | rfl | rfl | rfl | rfl <;> (simp at hi;subst hi;rfl)
   ·cases hi
  ·simp only [xPhi] at hab
   rw [if_neg (by omega),hx] at hab
   simp only [Option.map_some,Option.some.injEq,Prod.mk.injEq] at hab
   obtain ⟨rfl,rfl⟩:=hab
   obtain ⟨C',E',fz',h1,h2,h3,h4⟩:=(hl x (List.mem_of_getElem? hx)).row p hxo
   refine ⟨C',E',fz',h1,h2,(fun h=>by cases h),by omega,?_⟩
   intro i v hi
   unfold cellOf at hi
   split at hi
   ·rw [putN_get] at hi
    by_cases c:p.1 <= i /\ i<p.1+p.2.length
    ·rw [if_pos c] at hi
     obtain ⟨w,hw⟩:∃ w,p.2[i-p.1]?=some w:=⟨_,List.getElem?_eq_getElem (by omega)⟩
     rw [hw] at hi
     simp only [Option.some.injEq] at hi
     subst hi
     have:=h4 (i-p.1) w hw
     rwa [show p.1+(i-p.1)=i by omega] at this
    ·rw [if_neg c,T.get_nil] at hi
     simp at hi
   ·cases hi
 ·intro a ha
  cases hc:(xSt l).objs.get a with
  |none=>rfl
  |some o =>
   simp only [xSt] at ha
   rcases xGet l a o hc with ⟨rfl,_⟩ | ⟨hG,x,p,hx,_⟩
   ·omega
   ·have:=(List.getElem?_eq_some_iff.1 hx).1;omega
 ·intro a a' o o' b n n' _ h1 _ hm
  rcases xGet l a o h1 with ⟨_,rfl⟩ | ⟨_,x,p,_,_,rfl⟩ <;> simp [AM.Obj.mut,wObj,xObj] at hm
 ·intro a o h1 hg
  rcases xGet l a o h1 with ⟨_,rfl⟩ | ⟨_,x,p,_,_,rfl⟩ <;> exact (hg rfl).elim
 ·intro g _;simp [xSt,T.get]
 ·intro a ha;exact ha.elim
theorem xGW (l:List XR):GW (xSt l) where
 pos:=by simp only [xSt];omega
 fresh a ha:=by
  cases hc:(xSt l).objs.get a with
  |none=>rfl
  |some o =>
   simp only [xSt] at ha
   rcases xGet l a o hc with ⟨rfl,_⟩ | ⟨hG,x,p,hx,_⟩
   ·omega
   ·have:=(List.getElem?_eq_some_iff.1 hx).1;omega
 zero:=by simp [St.row,xSt,T.get]
 lt g a ha:=by simp [St.row,xSt,T.get] at ha
 grp g a o ha:=by simp [St.row,xSt,T.get] at ha
 mem a o h1 hg:=by rcases xGet l a o h1 with ⟨_,rfl⟩ | ⟨_,x,p,_,_,rfl⟩ <;> exact (hg rfl).elim
theorem xWid (l:List XR):Wid (xSt l):=by
 refine ⟨8,[],ofList [.int .u64 16,.int .u64 32,.int .u64 64,.int .u64 128,.int .u64 256,.int .u64 512,.int .u64 1024,.int .u64 2048],Nat.le_refl _,?_,?_⟩
 ·show (xObjs l 1).get 0=_
  rw [xObjs_get l 1 _ (by omega),if_pos rfl];rfl
 ·intro c hc
  rcases (by omega:c=0 \/ c=1 \/ c=2 \/ c=3 \/ c=4 \/ c=5 \/ c=6 \/ c=7) with rfl | rfl | rfl | rfl | rfl | rfl | rfl | rfl <;> rfl
theorem xRow (l:List XR) {i:Nat} {x:XR} {o:Nat} {vs:List V} (hx:l[i]?=some x) (ho:x.o=some (o,vs)):RoRow (xSt l) (1+i) o vs.length (lst vs):=by
 refine ⟨o+vs.length,[],putN .nil o vs,Nat.le_refl _,?_,?_⟩
 ·show (xObjs l 1).get _=_
  rw [xObjs_get l 1 _ (by omega),if_neg (by omega),if_pos (by omega),Nat.add_sub_cancel_left,hx]
  simp [ho,xObj]
 ·intro j hj
  unfold cellOf
  rw [if_pos (by omega),putN_get,if_pos (by omega),Nat.add_sub_cancel_left,List.getElem?_eq_getElem hj]
  simp [lst,List.getD_eq_getElem?_getD,List.getElem?_eq_getElem hj]
theorem calls_of_runs {Γ:T AF} (hΓ:EnvOk Tryz.prog Tryz.prog.globals.size Γ) {g:FuncId} {xs:List V} {l:List XR} {W:World} {args:Array Value} (h:laidMetH Tryz.prog laidW W) (hl:∀ x∈l,XRok W (xPhi W l) x) (ha:LR (xPhi W l) xs args.toList) {fn:AFunc} (hg:Γ.get g=some (.code fn))
  (hr:Runs Γ [] g xs (xSt l) fun v _=>v=.bool true) :
  Calls Tryz.prog g args W fun e W'=>e=.returned (.bool true) /\ Below W.heap.size W W':=by
 obtain ⟨v,σ',rfl,f0,hf⟩:=hr
 have hc:=hf f0 (Nat.le_refl _)
 obtain ⟨h1,h2,_⟩:=memo_ok (P:=Tryz.prog) (G:=Tryz.prog.globals.size) Γ [] [] LoopsOk.nil hΓ (fun m hm=>nomatch hm) rfl (fun call hcall=>draw_sound mixed rfl hcall) (m:=⟨g,xs,xSt l,.bool true,σ',none⟩) hg hc
 rcases h1 _ _ _ _ args (start h l hl) ha with ⟨_,hcl⟩ | ⟨x,w',φ',hcl,_⟩
 ·refine hcl.mono ?_
  rintro e w' ⟨φ',x,rfl,_,hR,hvx⟩
  cases hvx
  exact ⟨rfl,hR.below⟩
 ·rw [h2 args W] at hcl
  simp at hcl
theorem arg_slice {W:World} {H:Type} {enc:TypeId × Value -> H} {base:Nat} {t e:TypeId} {v:Value} {d:DataW H} {p:List MemPlace} (ht:Tryz.prog.underlying t=some (.slice e)) (hval:Value.okWide Tryz.prog W .any base t v) (hd:DataW.Trod enc Tryz.prog W 0 (fun _=>true) true t v d p) (hpos:0<Tryz.prog.cellsOf e) :
  v=.slice none 0 0 \/ ∃ b off len cap C E fz,v=.slice (some ⟨b,off,none⟩) len cap /\ W.heap[b]?=some (.cells C E fz) /\ len <= cap /\ cap <= maxLen /\ (0<cap -> off+cap*Tryz.prog.cellsOf e <= C.size) ∧
   ∀ i,i<len -> ∃ cs n y,cs.length=Tryz.prog.cellsOf e /\ (∀ j,j<Tryz.prog.cellsOf e -> C[off+i*Tryz.prog.cellsOf e+j]?=cs[j]?) /\ DataW.trod enc Tryz.prog W 0 (fun _=>true) true n e cs=some y:=by
 obtain ⟨fuel,hf⟩:=hd
 have hval':Cell.ok Tryz.prog W .any base t v:=by
  unfold Value.okWide at hval
  rw [ht] at hval
  unfold Cell.okWide at hval
  rw [ht] at hval
  exact hval
 have hs:∃ a l c,v=.slice a l c:=by
  have h:=hval'
  unfold Cell.ok at h
  rw [ht] at h
  cases v <;> first | exact ⟨_,_,_,rfl⟩ | exact h.elim
 obtain ⟨a0,l0,k0,hs⟩:=hs
 rcases DataW.trod_slice ht hf with ⟨h,_⟩ | ⟨a,len,cap,elems,rest,n,_,h,_,_,hlc,hcm,hel,he,hr,_⟩
 ·left
  rw [hs] at h
  rw [hs]
  simpa [Value.cells] using h
 ·right
  have hv:v=.slice (some a) len cap:=by
   rw [hs] at h
   rw [hs]
   simpa [Value.cells] using h
  subst hv
  unfold Cell.ok at hval'
  rw [ht] at hval'
  obtain ⟨_,_,_,hspot,row,cells,hshape,_⟩:=hval'
  obtain ⟨b,off,spot⟩:=a
  simp only at hspot hshape
  subst hspot
  obtain ⟨C,E,fz,hC⟩:∃ C E fz,W.heap[b]?=some (.cells C E fz):=by
   unfold World.shape? at hshape
   split at hshape
   ·rename_i c E fz hb;exact ⟨c,E,fz,hb⟩
   ·cases hshape
  have hcell:∀ k (hk:k<cap), ∃ cs y,cs.length=Tryz.prog.cellsOf e /\ (∀ j,j<Tryz.prog.cellsOf e -> C[off+k*Tryz.prog.cellsOf e+j]?=cs[j]?) /\ DataW.trod enc Tryz.prog W 0 (fun _=>true) true n e cs=some y:=by
   intro k hk
   have key:∃ y,(W.cells? 0 ((⟨b,off,none⟩:Addr).add (k*Tryz.prog.cellsOf e)) (Tryz.prog.cellsOf e)).bind (DataW.trod enc Tryz.prog W 0 (fun _=>true) true n e)=some y:=by
    rcases Nat.lt_or_ge k len with c | c
    ·rw [he k c];exact ⟨_,List.getElem?_eq_getElem (by omega)⟩
    ·obtain ⟨h1,h2⟩:=hr rfl
     have:=h2 (k-len) (by omega)
     rw [show len+(k-len)=k by omega] at this
     rw [this];exact ⟨_,List.getElem?_eq_getElem (by omega)⟩
   obtain ⟨y,hy⟩:=key
   obtain ⟨cs,hcs,hy⟩:=Option.bind_eq_some_iff.1 hy
   obtain ⟨_,hlen,hat⟩:=World.cells?_some hcs
   refine ⟨cs,y,hlen,fun j hj=>?_,hy⟩
   have:=hat j hj
   rw [add_none,add_none] at this
   rw [<- this]
   simp [World.cell?,hC]
  refine ⟨b,off,len,cap,C,E,fz,rfl,hC,hlc,hcm,fun hc=>?_,fun i hi=>?_⟩
  ·obtain ⟨cs,y,h1,h2,_⟩:=hcell (cap-1) (by omega)
   have h3:=h2 (Tryz.prog.cellsOf e-1) (by omega)
   rw [List.getElem?_eq_getElem (by omega)] at h3
   have h4:=(Array.getElem?_eq_some_iff.1 h3).1
   have h5:cap*Tryz.prog.cellsOf e=(cap-1)*Tryz.prog.cellsOf e+Tryz.prog.cellsOf e:=by
    conv=>lhs;rw [show cap=(cap-1)+1 by omega]
    rw [Nat.add_mul,Nat.one_mul]
   omega
  ·obtain ⟨cs,y,h1,h2,h3⟩:=hcell i (by omega)
   exact ⟨cs,n,y,h1,h2,h3⟩
end
end Go.Proofs.YtlgmpheammbacaaGreatDoor
