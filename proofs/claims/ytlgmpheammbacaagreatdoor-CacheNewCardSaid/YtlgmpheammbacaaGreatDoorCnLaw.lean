/- The law croft/croftlaw13.CacheNew returns true whatever the shop: cache.New, Kept and Live are walked over a deterministic machine that is proved sound for the model's programs; the closed call awake() is reckoned by the kernel. Conditions: the program's text is the dump that the given Prog text loads; the variable croft/slab.widths reads as the program's text lays it (tied card). -/
import Derived.Test.YtlgmpheammbacaaGreatDoorKtStart
import Derived.Test.YtlgmpheammbacaaGreatDoorCnh
import Derived.Test.YtlgmpheammbacaaGreatDoorAwK
import Derived.Carry
import Derived.Test.YtlgmpheammbacaaGreatDoorCnFB
import Derived.SevenTiedAt
import Derived.Test.YtlgmpheammbacaaGreatDoorCards
import Derived.Test.YtlgmpheammbacaaGreatDoorTie

set_option maxRecDepth 1000000
set_option maxHeartbeats 4000000
namespace Go.Proofs.YtlgmpheammbacaaGreatDoor
open Go.ChangeShapes Go.WideShapes Go.ChangeAt Go.WideMaps Go.WideElems Go.RowKit
open AM
theorem aw13_memo:∃ σ1,MemoOk Tryz.prog Tryz.prog.globals.size ⟨23,[],stillSt Tryz.prog.globals.size widL,.bool true,σ1,none⟩:=by
 have e:Awt0=stillSt 1 widL:=sameSt_eq _ _ (by kernel_rfl)
 refine ⟨Awm16.σ',?_⟩
 rw [gsz, <- e, <- gsz]
 exact Awk16
theorem envOkS:EnvOk Tryz.prog Tryz.prog.globals.size G0:=by
 obtain ⟨σ1,hm⟩:=aw13_memo
 refine EnvOk.ext' envOkB fun xs σ v σ' h=>⟨still_ok hm ?_ h,fun e=>by cases e⟩
 intro p hp
 rw [gsz]
 unfold widL at hp
 rw [List.mem_singleton] at hp
 subst hp
 exact ⟨Nat.zero_lt_one,Nat.zero_lt_succ _⟩
theorem cell_int {W:World} {base:Nat} {t:TypeId} {k:IntKind} {v:Value} (ht:Tryz.prog.underlying t=some (.int k)) (h:Cell.okWide Tryz.prog W .any base t v):∃ n,v=.int k n /\ k.min <= n /\ n <= k.max:=by
 unfold Cell.okWide at h
 rw [ht] at h
 unfold Cell.ok at h
 simp only [ht] at h
 cases v <;> first | exact ⟨_,by obtain ⟨e,_⟩:=h;rw [e],h.2.1,h.2.2⟩ | exact h.elim
theorem cell_slice {W:World} {base:Nat} {t e:TypeId} {v:Value} (ht:Tryz.prog.underlying t=some (.slice e)) (h:Cell.okWide Tryz.prog W .any base t v) :
  v=.slice none 0 0 \/ ∃ b off len cap C E fz,v=.slice (some ⟨b,off,none⟩) len cap /\ W.heap[b]?=some (.cells C E fz) /\ len <= cap:=by
 unfold Cell.okWide at h
 rw [ht] at h
 unfold Cell.ok at h
 simp only [ht] at h
 have hs:∃ a l c,v=.slice a l c:=by
  cases v <;> first | exact ⟨_,_,_,rfl⟩ | exact h.elim
 obtain ⟨a,l,c,rfl⟩:=hs
 cases a with
 |none =>
  left
  cases l with
  |zero=>cases c with
   |zero=>rfl
   |succ c=>exact h.elim
  |succ l=>exact h.elim
 |some a =>
  right
  obtain ⟨hlc,_,_,hspot,row,cells,hshape,_⟩:=h
  obtain ⟨b,off,spot⟩:=a
  simp only at hspot hshape
  subst hspot
  unfold World.shape? at hshape
  split at hshape
  ·rename_i C E fz hb;exact ⟨b,off,l,c,C,E,fz,rfl,hb,hlc⟩
  ·cases hshape
theorem u44:∃ fs,Tryz.prog.underlying 44=some (.struct fs):=⟨_,Tryz.underlying44⟩
theorem t44:Tryz.prog.cellTypes Tryz.prog.depth 44=some [28,3,3,3,3,42]:=by kernel_rfl
theorem int3:Tryz.prog.underlying 3=some (.int .i64):=by kernel_rfl
theorem int28:Tryz.prog.underlying 28=some (.int .u64):=by kernel_rfl
theorem sl42:∃ e,Tryz.prog.underlying 42=some (.slice e):=⟨_,Tryz.underlying42⟩
theorem new_calls {W:World} {base:Nat} {v:Value} (h:laidMetH Tryz.prog laidW W) (hval:Value.okWide Tryz.prog W .any base 44 v) :
  Calls Tryz.prog 4 #[v] W fun e W'=>e=.returned (.bool true) /\ Below W.heap.size W W':=by
 obtain ⟨fs,hu⟩:=u44
 unfold Value.okWide at hval
 rw [hu] at hval
 obtain ⟨cs,rfl,hsz,ts,hts,_,hcell⟩:=hval
 rw [show Tryz.prog.cellsOf 44=6 by kernel_rfl] at hsz
 rw [t44] at hts
 cases hts
 obtain ⟨ls⟩:=cs
 have hl:ls.length=6:=hsz
 match ls,hl with
 | [a0,a1,a2,a3,a4,a5],_ =>
  have g:∀ i v,(#[a0,a1,a2,a3,a4,a5]:Array Value)[i]?=some v -> ∃ u,([28,3,3,3,3,42]:List TypeId)[i%6]?=some u /\ Cell.okWide Tryz.prog W .any base u v:=hcell
  obtain ⟨u,e,k0⟩:=g 0 a0 rfl;cases e
  obtain ⟨u,e,k1⟩:=g 1 a1 rfl;cases e
  obtain ⟨u,e,k2⟩:=g 2 a2 rfl;cases e
  obtain ⟨u,e,k3⟩:=g 3 a3 rfl;cases e
  obtain ⟨u,e,k4⟩:=g 4 a4 rfl;cases e
  obtain ⟨u,e,k5⟩:=g 5 a5 rfl;cases e
  obtain ⟨b,rfl,b1,b2⟩:=cell_int int28 k0
  obtain ⟨n1,rfl,_⟩:=cell_int int3 k1
  obtain ⟨n2,rfl,_⟩:=cell_int int3 k2
  obtain ⟨n3,rfl,_⟩:=cell_int int3 k3
  obtain ⟨n4,rfl,_⟩:=cell_int int3 k4
  have m1:IntKind.u64.min=0:=by decide
  have m2:IntKind.u64.max=18446744073709551615:=by decide
  rw [m1] at b1
  rw [m2] at b2
  obtain ⟨el,hel⟩:=sl42
  rcases cell_slice hel k5 with rfl | ⟨bk,off,len,cap,C,E,fz,rfl,hC,hlc⟩
  ·refine calls_of_runs (l:=[]) (xs:=[shop b n1 n2 n3 n4 (.slice none 0 0)]) envOkS h (fun x hx=>nomatch hx) ?_ g4 (r_CacheNew rfl (by omega) (by omega) (xGW _) (xWid _))
   exact ⟨_,_,rfl,⟨_,rfl,⟨_,_,rfl,rfl,_,_,rfl,rfl,_,_,rfl,rfl,_,_,rfl,rfl,_,_,rfl,rfl,_,_,rfl,⟨rfl,rfl⟩,rfl⟩⟩,rfl⟩
  ·refine calls_of_runs (l:=[⟨bk,off,none⟩]) (xs:=[shop b n1 n2 n3 n4 (.slice (some (1,off)) len 0)]) envOkS h ?_ ?_ g4 (r_CacheNew rfl (by omega) (by omega) (xGW _) (xWid _))
   ·intro x hx
    rw [List.mem_singleton] at hx;subst hx
    exact ⟨(Array.getElem?_eq_some_iff.1 hC).1,fun p hp=>nomatch hp⟩
   ·exact ⟨_,_,rfl,⟨_,rfl,⟨_,_,rfl,rfl,_,_,rfl,rfl,_,_,rfl,rfl,_,_,rfl,rfl,_,_,rfl,rfl,_,_,rfl,⟨bk,off,off,cap,rfl,rfl,hlc,by omega,.inl rfl⟩,rfl⟩⟩,rfl⟩
theorem cacheNew_lifted (os:Os) (started:os.Started) (H:Type) (enc:TypeId × Value -> H) :
  ReturnsInHanded {} Tryz.checked os 4 .any (fun w args=>(Rows.cacheNewSpec.pre enc Tryz.prog Tryz.f4 [] false w args /\ laidMetH Tryz.prog laidW w) /\ sizedMet enc Tryz.prog Tryz.f4 (OpenSpec.ofChange Rows.cacheNewSpec) false w args)
   (Rows.cacheNewSpec.post enc Tryz.prog Tryz.f4 false true false false):=by
 refine returnsInHanded_of_change_and (C:=Tryz.checked) (X:=fun w _=>laidMetH Tryz.prog laidW w) (fun _ _ _ hh h=>h.of_heap hh) own started (by kernel_rfl) Tryz.func4
  (ChangeSpec.witness_shaped (enc:=enc) (C:=Tryz.checked) (os:=os) (X:=fun w _=>laidMetH Tryz.prog laidW w) false (World.doorLaid Tryz.prog 19 os) #[.agg #[.int .u64 0,.int .i64 0,.int .i64 0,.int .i64 0,.int .i64 0,.slice none 0 0]] 8 rfl (World.shaped_of_RefB (by kernel_rfl) (by kernel_rfl)) (by kernel_rfl) (by kernel_rfl) (by kernel_rfl) (door_met os _)) ?_
 intro W base args ds gs before hval0 hW _ _ hL _
 have hW':=hW
 obtain ⟨p,q,hA0,hV,rfl,hfz,hnd⟩:=hW
 have hA:DataW.TrodAll enc Tryz.prog W 0 (fun _=>true) true Tryz.f4.params.toList args.toList ds p:=hA0
 rw [Tryz.params4] at hA
 obtain ⟨v,d,rfl,rfl,hd⟩:=trodAll_one hA
 have hval:Value.okWide Tryz.prog W .any base 44 v:=hval0 0 44 v (by rw [Tryz.params4];rfl) rfl
 obtain ⟨rfl,rfl⟩:=trodVars_none hV
 have hlt:∀ x∈p,x.block<W.heap.size:=fun x hx=>by simpa using hW'.lt x (by simp [hx])
 refine (new_calls hL hval).mono fun e W' ⟨he,bel⟩=>?_
 subst he
 exact ⟨_,rfl,_,_,_,[],_,[],hW',trodAll_mk1 (shut_bool Tryz.underlying4 _),trodAll_mk1 (Below.trod p2 (by kernel_rfl) (of_decide_eq_true (by kernel_rfl)) hd bel hlt),rfl,bel.frame _,fun h=>by cases h⟩
theorem cacheNew_wrap:Tryz.f4.isWrapper Tryz.prog Rows.cacheNewRow.wrapper Rows.cacheNewRow.mainSum:=by
 unfold Func.isWrapper
 rw [if_neg (of_decide_eq_false (by kernel_rfl))]
 exact ⟨rfl,rfl⟩
theorem cacheNew_inst:Tryz.f4.isInstance Tryz.prog Rows.cacheNewRow.origin Rows.cacheNewRow.targs:=of_decide_eq_true (by kernel_rfl)
theorem cacheNew_said:Rows.CacheNewSaid :=
 OpenClaim.holds_of_wide 4 Tryz.f4 rfl rfl rfl rfl rfl rfl rfl ⟨rfl,rfl,rfl,rfl,rfl⟩ rfl rfl rfl rfl rfl cacheNew_jn Tryz.func4 cacheNew_facts
  cacheNew_inst cacheNew_wrap
  (fun os started H enc _=>cacheNew_lifted os started H enc)
theorem cacheNew_stand (f:FuncId) (fn:Func) (hf:Tryz.prog.funcNamed Rows.cacheNewRow.func=some f) (hfn:Tryz.prog.funcs[f]?=some fn):true=Tryz.prog.looks [] /\ ∀ (j:Nat) t,fn.params[j]?=some t -> Tryz.prog.wantsStandIn t=false:=by
 obtain rfl:f=4:=(Option.some.inj ((cacheNew_jn).symm.trans hf)).symm
 obtain rfl:fn=Tryz.f4:=(Option.some.inj (Tryz.func4.symm.trans hfn)).symm
 refine ⟨pLooks,fun j t ht=>?_⟩
 rw [Tryz.params4] at ht
 match j,ht with
 | 0,ht=>simp at ht;subst ht;exact (by kernel_rfl:Tryz.prog.wantsStandIn 44=false)
 |j+1,ht=>simp at ht
theorem cacheNew_card_holds:Rows.CacheNewCardSaid :=
 Claim7.holds_tied_plain_at .later [] [.data] true (true, "817c758723e18fd19d055998a437fb7a2393ac040341109b507c7ace94e1ce7e") true
  cacheNew_said (fun _ h=>by cases h) cacheNew_jw (fun _ h=>by cases h) cacheNew_row_tie rfl ⟨rfl,rfl⟩ pMain rfl
  cacheNew_stand cacheNew_jg
#print axioms cacheNew_card_holds
end Go.Proofs.YtlgmpheammbacaaGreatDoor
