/- The law croft/croftlaw15.ArenaKept returns true whatever the sizes: the heap and the arena are walked over a deterministic machine that is proved sound for the model's programs. Conditions: the program's text is the dump that the given Prog text loads; the variable croft/slab.widths reads as the program's text lays it (tied card). -/
import Derived.Test.YtlgmpheammbacaaGreatDoorKtStart
import Derived.Test.YtlgmpheammbacaaGreatDoorKal
import Derived.Carry
import Derived.Test.YtlgmpheammbacaaGreatDoorKtFB
import Derived.SevenTiedAt
import Derived.Test.YtlgmpheammbacaaGreatDoorCards
import Derived.Test.YtlgmpheammbacaaGreatDoorTie

set_option maxRecDepth 1000000
set_option maxHeartbeats 4000000
namespace Go.Proofs.YtlgmpheammbacaaGreatDoor
open Go.ChangeShapes Go.WideShapes Go.ChangeAt Go.WideMaps Go.WideElems Go.RowKit
open AM
theorem u64_slice : Tryz.prog.underlying 22 = some (.slice 28) := by kernel_rfl
theorem kept_calls {W : World} {H : Type} {enc : TypeId × Value -> H} {base : Nat} {v : Value} {d : DataW H} {p : List MemPlace} (h : laidMetH Tryz.prog laidW W) (hval : Value.okWide Tryz.prog W .any base 22 v) (hd : DataW.Trod enc Tryz.prog W 0 (fun _ => true) true 22 v d p) :
  Calls Tryz.prog 3 #[v] W fun e W' => e = .returned (.bool true) /\ Below W.heap.size W W' := by
 have c1 : Tryz.prog.cellsOf 28 = 1 := by kernel_rfl
 have hΓ : EnvOk Tryz.prog Tryz.prog.globals.size G0 := envOkB
 rcases arg_slice u64_slice hval hd (by rw [c1]; omega) with rfl | ⟨b, off, len, cap, C, E, fz, rfl, hC, hlc, hcm, hfit, hel⟩
 ·refine calls_of_runs (l := []) (xs := [.slice none 0 0]) hΓ h (fun x hx => nomatch hx) (by exact ⟨_, _, rfl, ⟨rfl, rfl⟩, rfl⟩) g3 ?_
  exact r_ArenaKept (hasK := fun k => k = .sizes /\ 0 < 0) (AK := fun _ => 0) (cK := fun _ => .ro 0 0 fun i => .int .u64 ((0 : Nat) : Int)) (n := 0) (o := 0) (f := fun _ => 0) ⟨xGW _, xWid _, (fun h => absurd h.2 (by omega)), (fun _ _ h => absurd h.2 (by omega)), (fun _ h => absurd h.2 (by omega)), (fun _ _ _ h => absurd h.2 (by omega))⟩
   (fun i hi => absurd hi (by omega)) (by omega) (fun h => absurd h (by omega)) (fun _ => Iff.rfl) rfl
 ·rw [c1] at hfit hel
  have hint : ∀ i, i < len -> ∃ n : Nat, n < 18446744073709551616 /\ C[off + i]? = some (.int .u64 n) := by
   intro i hi
   obtain ⟨cs, n, y, h1, h2, h3⟩ := hel i hi
   obtain ⟨k, e1, _, e3⟩ := DataW.trod_int Tryz.underlying28 h3
   have := h2 0 (by omega)
   rw [Nat.mul_one, Nat.add_zero, e1] at this
   have hk : 0 <= k /\ k < 18446744073709551616 := by
    simp [Lit.wf] at e3
    have a1 : IntKind.u64.min = 0 := by decide
    have a2 : IntKind.u64.max = 18446744073709551615 := by decide
    omega
   exact ⟨k.toNat, by omega, by rw [this]; simp; omega⟩
  obtain ⟨f, hf⟩ : ∃ f : Nat -> Nat, ∀ i, i < len -> f i < 18446744073709551616 /\ C[off + i]? = some (.int .u64 (f i)) :=
   ⟨fun i => if h : i < len then (hint i h).choose else 0, fun i hi => by simp only [hi, dite_true]; exact (hint i hi).choose_spec⟩
  have hbs : b < W.heap.size := (Array.getElem?_eq_some_iff.1 hC).1
  have hml : maxLen < 9223372036854775808 := by decide
  rcases Nat.eq_zero_or_pos len with h0 | h0
  ·subst h0
   refine calls_of_runs (l := [⟨b, off + cap, none⟩]) (xs := [.slice (some (1, off)) 0 1]) hΓ h ?_ ?_ g3 ?_
   ·intro x hx
    rw [List.mem_singleton] at hx; subst hx
    exact ⟨hbs, fun p hp => nomatch hp⟩
   ·exact ⟨_, _, rfl, ⟨b, off + cap, off, cap, rfl, rfl, hlc, by omega, .inl rfl⟩, rfl⟩
   ·exact r_ArenaKept (hasK := fun k => k = .sizes /\ 0 < 0) (AK := fun _ => 0) (cK := fun _ => .ro 0 0 fun i => .int .u64 ((0 : Nat) : Int)) (n := 0) (o := 0) (f := fun _ => 0) ⟨xGW _, xWid _, (fun h => absurd h.2 (by omega)), (fun _ _ h => absurd h.2 (by omega)), (fun _ h => absurd h.2 (by omega)), (fun _ _ _ h => absurd h.2 (by omega))⟩
     (fun i hi => absurd hi (by omega)) (by omega) (fun h => absurd h (by omega)) (fun _ => Iff.rfl) rfl
  ·have hvl : ((List.range len).map fun i => V.int .u64 (f i)).length = len := by simp
   refine calls_of_runs (l := [⟨b, C.size, some (off, (List.range len).map fun i => .int .u64 (f i))⟩]) (xs := [.slice (some (1, off)) len 1]) hΓ h ?_ ?_ g3 ?_
   ·intro x hx
    rw [List.mem_singleton] at hx; subst hx
    refine ⟨hbs, fun p hp => ?_⟩
    simp only [Option.some.injEq] at hp
    subst hp
    have := hfit (by omega)
    refine ⟨C, E, fz, hC, rfl, by rw [hvl]; omega, fun i v hi => ?_⟩
    rw [List.getElem?_map] at hi
    obtain ⟨j, hj, rfl⟩ := Option.map_eq_some_iff.1 hi
    have hil : i < len := by
     have := (List.getElem?_eq_some_iff.1 hj).1; simpa using this
    rw [List.getElem?_range hil] at hj
    cases hj
    exact ⟨_, (hf i hil).2, rfl⟩
   ·have := hfit (by omega)
    exact ⟨_, _, rfl, ⟨b, C.size, off, cap, rfl, rfl, hlc, by omega, .inl rfl⟩, rfl⟩
   ·refine r_ArenaKept (hasK := fun k => k = .sizes /\ 0 < len) (AK := fun _ => 1) (cK := fun _ => .ro off len fun i => .int .u64 (f i)) (n := len) (o := off) (f := f) ⟨xGW _, xWid _, ?_, ?_, ?_, ?_⟩ (fun i hi => (hf i hi).1) (by omega) (fun _ => ⟨rfl, rfl⟩) (fun _ => Iff.rfl) rfl
    ·intro i _; decide
    ·rintro i j ⟨rfl, _⟩ ⟨rfl, _⟩ _; rfl
    ·rintro i _
     have hr := xRow [⟨b, C.size, some (off, (List.range len).map fun i => .int .u64 (f i))⟩] (i := 0) rfl rfl
     rw [hvl] at hr
     refine hr.congr (Nat.le_refl _) fun j hj => ?_
     unfold lst
     rw [List.getD_eq_getElem?_getD, List.getElem?_map, List.getElem?_range hj]
     rfl
    ·rintro i j o ⟨rfl, _⟩ ⟨rfl, _⟩ hne
     exact (hne rfl).elim
theorem arenaKept_lifted (os : Os) (started : os.Started) (H : Type) (enc : TypeId × Value -> H) :
  ReturnsInHanded {} Tryz.checked os 3 .any (fun w args => (Rows.arenaKeptSpec.pre enc Tryz.prog Tryz.f3 [] false w args /\ laidMetH Tryz.prog laidW w) /\ sizedMet enc Tryz.prog Tryz.f3 (OpenSpec.ofChange Rows.arenaKeptSpec) false w args)
   (Rows.arenaKeptSpec.post enc Tryz.prog Tryz.f3 false true false false) := by
 refine returnsInHanded_of_change_and (C := Tryz.checked) (X := fun w _ => laidMetH Tryz.prog laidW w) (fun _ _ _ hh h => h.of_heap hh) own started (by kernel_rfl) Tryz.func3
  (ChangeSpec.witness_shaped (enc := enc) (C := Tryz.checked) (os := os) (X := fun w _ => laidMetH Tryz.prog laidW w) false (World.doorLaid Tryz.prog 19 os) #[.slice none 0 0] 8 rfl (World.shaped_of_RefB (by kernel_rfl) (by kernel_rfl)) (by kernel_rfl) (by kernel_rfl) (by kernel_rfl) (door_met os _)) ?_
 intro W base args ds gs before hval0 hW _ _ hL _
 have hW' := hW
 obtain ⟨p, q, hA0, hV, rfl, hfz, hnd⟩ := hW
 have hA : DataW.TrodAll enc Tryz.prog W 0 (fun _ => true) true Tryz.f3.params.toList args.toList ds p := hA0
 rw [Tryz.params3] at hA
 obtain ⟨v, d, rfl, rfl, hd⟩ := trodAll_one hA
 have hval : Value.okWide Tryz.prog W .any base 22 v := hval0 0 22 v (by rw [Tryz.params3]; rfl) rfl
 obtain ⟨rfl, rfl⟩ := trodVars_none hV
 have hlt : ∀ x ∈ p, x.block < W.heap.size := fun x hx => by simpa using hW'.lt x (by simp [hx])
 refine (kept_calls hL hval hd).mono fun e W' ⟨he, bel⟩ => ?_
 subst he
 exact ⟨_, rfl, _, _, _, [], _, [], hW', trodAll_mk1 (shut_bool Tryz.underlying4 _), trodAll_mk1 (Below.trod p2 (by kernel_rfl) (of_decide_eq_true (by kernel_rfl)) hd bel hlt), rfl, bel.frame _, fun h => by cases h⟩
theorem arenaKept_wrap : Tryz.f3.isWrapper Tryz.prog Rows.arenaKeptRow.wrapper Rows.arenaKeptRow.mainSum := by
 unfold Func.isWrapper
 rw [if_neg (of_decide_eq_false (by kernel_rfl))]
 exact ⟨rfl, rfl⟩
theorem arenaKept_inst : Tryz.f3.isInstance Tryz.prog Rows.arenaKeptRow.origin Rows.arenaKeptRow.targs := of_decide_eq_true (by kernel_rfl)
theorem arenaKept_said : Rows.ArenaKeptSaid :=
 OpenClaim.holds_of_wide 3 Tryz.f3 rfl rfl rfl rfl rfl rfl rfl ⟨rfl, rfl, rfl, rfl, rfl⟩ rfl rfl rfl rfl rfl arenaKept_jn Tryz.func3 arenaKept_facts
  arenaKept_inst arenaKept_wrap
  (fun os started H enc _ => arenaKept_lifted os started H enc)
theorem arenaKept_stand (f : FuncId) (fn : Func) (hf : Tryz.prog.funcNamed Rows.arenaKeptRow.func = some f) (hfn : Tryz.prog.funcs[f]? = some fn) : true = Tryz.prog.looks [] /\ ∀ (j : Nat) t, fn.params[j]? = some t -> Tryz.prog.wantsStandIn t = false := by
 obtain rfl : f = 3 := (Option.some.inj ((arenaKept_jn).symm.trans hf)).symm
 obtain rfl : fn = Tryz.f3 := (Option.some.inj (Tryz.func3.symm.trans hfn)).symm
 refine ⟨pLooks, fun j t ht => ?_⟩
 rw [Tryz.params3] at ht
 match j, ht with
 | 0, ht => simp at ht; subst ht; exact (by kernel_rfl : Tryz.prog.wantsStandIn 22 = false)
 |j + 1, ht => simp at ht
theorem arenaKept_card_holds : Rows.ArenaKeptCardSaid :=
 Claim7.holds_tied_plain_at .later [] [.data] true (true, "817c758723e18fd19d055998a437fb7a2393ac040341109b507c7ace94e1ce7e") true
  arenaKept_said (fun _ h => by cases h) arenaKept_jw (fun _ h => by cases h) arenaKept_row_tie rfl ⟨rfl, rfl⟩ pMain rfl
  arenaKept_stand arenaKept_jg
#print axioms arenaKept_card_holds
end Go.Proofs.YtlgmpheammbacaaGreatDoor
