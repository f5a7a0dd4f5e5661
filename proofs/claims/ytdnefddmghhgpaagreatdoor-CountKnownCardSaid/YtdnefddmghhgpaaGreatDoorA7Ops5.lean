import Derived.Test.YtdnefddmghhgpaaGreatDoorA7Ops4
import Derived.IntWalk
namespace AM
open Go Go.RowKit
set_option linter.unusedVariables false
set_option linter.unusedSimpArgs false
variable {P : Program} {φ : Phi} {tm : T V} {a : Act} {w : World} {w0 : Base} {σ : St} {G B : Nat}

/-- what is appended: 'k' elements, the cells 'xs', told in the world 'w' and behind a draw -/
def App (P : Program) (ts : Array TypeId) (e : TypeId) (s : Nat) (x : Value) (k : Nat) (xs : List Value) (w : World) : Prop :=
  ∀ (ty : TypeId) (t : TypeId), ts[0]? = some t → P.underlying t = some (.slice e) → ∀ (base : Option Addr) (sLen sCap : Nat),
    ((Builtin.append_ ts ty #[.slice base sLen sCap, x]).run P w =
      if sLen + k ≤ sCap then
        ((match base with | some a => storeCells (a.add (sLen * s)) xs | none => pure () : Sem Unit).run P w).andThen fun _ w' => .ok (.slice base (sLen + k) sCap) w'
      else
        ((Builtin.firstCells s sLen (.slice base sLen sCap)).run P w.drew).andThen fun old w' =>
          ((zeroValue e).run P w').andThen fun z w' =>
            .ok (.slice (some ⟨w'.heap.size, 0, none⟩) (sLen + k) (grownCap w (sLen + k) sCap e))
              (w'.alloc (.cells (old ++ xs.toArray ++ Builtin.zeroCells z.cells (grownCap w (sLen + k) sCap e - (sLen + k))) e)))

theorem bytesOf_info {t : TypeId} {n : Nat} (h : bytesOf P t = some n) : ∃ i, P.info? t = some i ∧ i.bytes = n := by
  unfold bytesOf at h
  cases hi : P.info? t with
  | none => simp [hi] at h
  | some i => simp [hi] at h; exact ⟨i, rfl, h⟩

theorem app_slice {ts : Array TypeId} {u e e2 : TypeId} {s bytes k c : Nat} {ad : Addr} {xs : List Value} (hu1 : ts[1]? = some u) (hu : P.underlying u = some (.slice e2)) (hs : szOf P e = some s) (hb : bytesOf P e = some bytes)
    (hl : xs.length = k * s) (hcell : ∀ j v, xs[j]? = some v → w.cell? (ad.add j) = some v) {base : Option Addr} {sLen sCap : Nat} (h1 : (sLen + k) * bytes ≤ 140737488355328) (h2 : sLen + k ≤ 140737488355328)
    {ty t : TypeId} (ht0 : ts[0]? = some t) (ht : P.underlying t = some (.slice e)) :
    (Builtin.append_ ts ty #[.slice base sLen sCap, .slice (some ad) k c]).run P w =
      if sLen + k ≤ sCap then
        ((match base with | some a => storeCells (a.add (sLen * s)) xs | none => pure () : Sem Unit).run P w).andThen fun _ w' => .ok (.slice base (sLen + k) sCap) w'
      else
        ((Builtin.firstCells s sLen (.slice base sLen sCap)).run P w.drew).andThen fun old w' =>
          ((Builtin.firstCells s k (.slice (some ad) k c)).run P w').andThen fun new w' =>
            ((zeroValue e).run P w').andThen fun z w' =>
              .ok (.slice (some ⟨w'.heap.size, 0, none⟩) (sLen + k) (grownCap w (sLen + k) sCap e))
                (w'.alloc (.cells (old ++ new ++ Builtin.zeroCells z.cells (grownCap w (sLen + k) sCap e - (sLen + k))) e)) := by
  obtain ⟨i, hi, rfl⟩ := szOf_info hs
  obtain ⟨i', hi', rfl⟩ := bytesOf_info hb
  rw [hi] at hi'; cases hi'
  have hf := run_firstCells_some (P := P) w i.size k ad k c xs hl hcell
  by_cases hroom : sLen + k ≤ sCap
  · rw [if_pos hroom]
    cases base with
    | none => simp [Builtin.append_, ht0, hu1, run_underlying' ht, run_underlying' hu, Go.sizeOf, typeInfo, hi, Builtin.lenOf, hroom, hf]
    | some b =>
      simp [Builtin.append_, ht0, hu1, run_underlying' ht, run_underlying' hu, Go.sizeOf, typeInfo, hi, Builtin.lenOf, hroom, hf]
  · rw [if_neg hroom]
    have h63' : ¬ (9223372036854775807 < ((sLen : Int) + (k : Int))) := by omega
    have hg : Builtin.nextslicecap (sLen + k) sCap * i.bytes ≤ 281474976710656 := growslice_fits (by omega) h1
    have h48' : ¬ (281474976710656 < Builtin.nextslicecap (sLen + k) sCap * i.bytes) := by omega
    simp [Builtin.append_, ht0, hu1, run_underlying' ht, run_underlying' hu, Go.sizeOf, typeInfo, hi, Builtin.lenOf, hroom, h63', h48', Question.forced, newRow, grownCap]

theorem app_zero {ts : Array TypeId} {u e : TypeId} {k0 : IntKind} {s bytes k : Nat} {kk : IntKind} {n : Int} {z : List V} (hu1 : ts[1]? = some u) (hu : P.underlying u = some (.int k0)) (hs : szOf P e = some s) (hb : bytesOf P e = some bytes)
    (hn : n = k) (hk : 0 < k) (hk2 : k ≤ 1000000000000) (hspos : 0 < s) {base : Option Addr} {sLen sCap : Nat} (h1 : (sLen + k) * bytes ≤ 140737488355328) (h2 : sLen + k ≤ 140737488355328)
    {Z : Value} (hz : ∀ w, (zeroValue e).run P w = .ok Z w) {ty t : TypeId} (ht0 : ts[0]? = some t) (ht : P.underlying t = some (.slice e)) :
    (Builtin.append_ ts ty #[.slice base sLen sCap, .int kk n]).run P w =
      if sLen + k ≤ sCap then
        ((match base with | some a => storeCells (a.add (sLen * s)) (Builtin.zeroCells Z.cells k).toList | none => pure () : Sem Unit).run P w).andThen fun _ w' => .ok (.slice base (sLen + k) sCap) w'
      else
        ((Builtin.firstCells s sLen (.slice base sLen sCap)).run P w.drew).andThen fun old w' =>
              .ok (.slice (some ⟨w'.heap.size, 0, none⟩) (sLen + k) (grownCap w (sLen + k) sCap e))
                (w'.alloc (.cells (old ++ Builtin.zeroCells Z.cells k ++ Builtin.zeroCells Z.cells (grownCap w (sLen + k) sCap e - (sLen + k))) e)) := by
  obtain ⟨i, hi, rfl⟩ := szOf_info hs
  obtain ⟨i', hi', rfl⟩ := bytesOf_info hb
  rw [hi] at hi'; cases hi'
  subst hn
  have hw : IntKind.i64.wrap (k : Int) = k := by
    have := IntWalk.i64_in (n := (k : Int)) (by omega)
    exact this
  have hneg : ¬ ((k : Int) < 0) := by omega
  have hbig : ¬ (281474976710656 < (k : Int) * (i.bytes : Int)) := by
    have : k * i.bytes ≤ (sLen + k) * i.bytes := Nat.mul_le_mul_right _ (by omega)
    have : (k : Int) * (i.bytes : Int) = ((k * i.bytes : Nat) : Int) := by simp
    omega
  have hks : ¬ (k * i.size = 0) := by have := Nat.mul_pos hk hspos; omega
  by_cases hroom : sLen + k ≤ sCap
  · rw [if_pos hroom]
    cases base with
    | none => simp [Builtin.append_, ht0, hu1, run_underlying' ht, run_underlying' hu, Go.sizeOf, typeInfo, hi, asInt, asIntOf, hw, hneg, hbig, hroom, hks, hz]
    | some b =>
      simp [Builtin.append_, ht0, hu1, run_underlying' ht, run_underlying' hu, Go.sizeOf, typeInfo, hi, asInt, asIntOf, hw, hneg, hbig, hroom, hks, hz]
  · rw [if_neg hroom]
    have h63' : ¬ (9223372036854775807 < ((sLen : Int) + (k : Int))) := by omega
    have h63'' : ¬ (IntKind.i64.max < ((sLen : Int) + (k : Int))) := by show ¬ ((9223372036854775807 : Int) < _); omega
    have hg : Builtin.nextslicecap (sLen + k) sCap * i.bytes ≤ 281474976710656 := growslice_fits (by omega) h1
    have h48' : ¬ (281474976710656 < Builtin.nextslicecap (sLen + k) sCap * i.bytes) := by omega
    simp [Builtin.append_, ht0, hu1, run_underlying' ht, run_underlying' hu, Go.sizeOf, typeInfo, hi, asInt, asIntOf, hw, hneg, hbig, hroom, hks, hz, h63', h63'', h48', Question.forced, newRow, grownCap]

theorem loadCellsFrom_world (a : Addr) : ∀ (n i : Nat) (acc : Array Value) (w w' : World) (c : Array Value), (loadCellsFrom a i n acc).run P w = .ok c w' → w' = w
  | 0, i, acc, w, w', c, h => by simp [loadCellsFrom] at h; exact h.2.symm
  | n + 1, i, acc, w, w', c, h => by
    simp only [loadCellsFrom, Sem.run_bind, run_load] at h
    split at h
    · exact loadCellsFrom_world a n (i + 1) _ w w' c h
    · split at h
      · exact loadCellsFrom_world a n (i + 1) _ w w' c h
      · simp [Result.andThen] at h

theorem firstCells_world {s n : Nat} {v : Value} {w w' : World} {c : Array Value} (h : (Builtin.firstCells s n v).run P w = .ok c w') : w' = w := by
  unfold Builtin.firstCells at h
  split at h
  · exact loadCellsFrom_world _ _ _ _ _ _ _ h
  · simp at h; exact h.2.symm
  · simp at h; exact h.2.symm
  · simp at h

theorem append_rel (P : Program) {esz bytes k xl xe : Nat} {vs : List V} {xs : List Value} {xa : Option (Nat × Nat)} {v : V} {σ' : St} {S : Value} {R : Result Value}
    (h : Rel G B w0 φ σ w) (hap : appendL σ esz bytes k vs xa xl = some (v, σ')) (hS : VR φ (.slice xa xl xe) S) (hxe : xa.isSome = true → xe = esz) (hr : LR φ vs xs) (hlen : xs.length = k * esz) (hk : 0 < k) (hesz : 0 < esz)
    (hrun : ∀ base sLen sCap, S = .slice base sLen sCap → ∃ cap' rest E, sLen + k ≤ cap' ∧ Array.size rest = (cap' - (sLen + k)) * esz ∧ R =
      if sLen + k ≤ sCap then
        ((match base with | some a => storeCells (a.add (sLen * esz)) xs | none => pure () : Sem Unit).run P w).andThen fun _ w' => .ok (.slice base (sLen + k) sCap) w'
      else
        ((Builtin.firstCells esz sLen (.slice base sLen sCap)).run P w.drew).andThen fun old w' =>
          .ok (.slice (some ⟨w'.heap.size, 0, none⟩) (sLen + k) cap') (w'.alloc (.cells (old ++ xs.toArray ++ rest) E))) :
    ∃ X w' φ', R = .ok X w' ∧ φ.le φ' ∧ Rel G B w0 φ' σ' w' ∧ VR φ' v X := by
  unfold appendL at hap
  split at hap
  · rename_i hcond
    obtain ⟨hb1, hb2, hflat⟩ := hcond
    have hone : ∀ x ∈ xs, x.oneCell' = true := by
      intro x hx
      obtain ⟨i, hi, rfl⟩ := List.getElem_of_mem hx
      have hil : i < vs.length := by have := hr.length; omega
      obtain ⟨y, hy, hv⟩ := hr.get i vs[i] (by simp [hil])
      simp [hi] at hy; subst hy
      exact hv.oneCell (by simpa using List.all_eq_true.1 hflat vs[i] (by simp))
    split at hap
    · -- nil
      split at hap
      · rename_i hx0
        subst hx0
        simp only [Option.some.injEq, Prod.mk.injEq] at hap
        obtain ⟨rfl, rfl⟩ := hap
        obtain ⟨_, rfl⟩ := hS
        obtain ⟨cap', rest, E, hc1, hc2, hR⟩ := hrun none 0 0 rfl
        rw [if_neg (by omega)] at hR
        simp only [Builtin.firstCells, Sem.run_pure, Result.andThen_ok, Nat.zero_add] at hR hc1 hc2
        have hnew := h.drew.newCells vs xs rest.toList E hr
        refine ⟨_, _, _, hR, hnew.2, ?_, ?_⟩
        · have e : (#[] ++ xs.toArray ++ rest) = (xs ++ rest.toList).toArray := by apply Array.ext'; simp
          rw [e]; exact hnew.1
        · refine ⟨w.drew.heap.size, (xs ++ rest.toList).length, 0, cap', Phi.upd_same _ _ _, rfl, hc1, ?_, .inl rfl⟩
          simp only [List.length_append, Array.length_toList, hlen, hc2]
          rw [← Nat.add_mul]; simp; exact Nat.mul_le_mul_right _ (by omega)
      · cases hap
    · rename_i id off
      split at hap
      · rename_i hoff
        subst hoff
        split at hap
        · rename_i g n z t ho
          split at hap
          · cases hap
          · rename_i old hold
            simp only [Option.some.injEq, Prod.mk.injEq] at hap
            obtain ⟨rfl, rfl⟩ := hap
            obtain ⟨b, m, o', cap, hb, rfl, hlc, hfit, ho'⟩ := hS
            have hxe := hxe rfl
            subst hxe
            obtain ⟨cap', rest, E, hc1, hc2, hR⟩ := hrun _ _ _ rfl
            have hload : σ.load id 0 (xl * xe) = some old := by unfold St.load; rw [ho]; exact hold
            obtain ⟨olds, hor, hol, hocell⟩ := h.load hload hb
            obtain ⟨C, E0, fz, d1, d2, d3, d4, d5⟩ := h.obj id _ b m ho hb
            obtain ⟨rfl, hBb⟩ := d3 rfl
            have hocell' : ∀ i, i < xl * xe → C[i]? = olds[i]? := by
              intro i hi
              have hi' : i < olds.length := by omega
              have := hocell i olds[i] (by simp [hi'])
              rw [add_none] at this
              simp [World.cell?, d1] at this
              simp [this, hi']
            have holdlen := hor.length
            by_cases hroom : xl + k ≤ cap
            · rw [if_pos hroom] at hR
              have hoo : o' = 0 := by rcases ho' with hh | ⟨_, hh⟩; exact hh; omega
              subst hoo
              simp only [add_none, Nat.zero_add] at hR
              have hkm : (xl + k) * xe ≤ cap * xe := Nat.mul_le_mul_right _ hroom
              rw [Nat.add_mul] at hkm
              have hst := run_storeCells_at P b (xl * xe) E0 xs 0 C w d1 (by simp; omega) hone
              simp only [Nat.add_zero] at hst
              rw [hst] at hR
              simp only [Result.andThen_ok] at hR
              generalize hC' : (C.toList.take (xl * xe) ++ xs ++ C.toList.drop (xl * xe + xs.length)).toArray = C' at hR
              have hCsz : C'.size = C.size := by rw [← hC']; simp; omega
              have hget : ∀ i, C'[i]? = if xl * xe ≤ i ∧ i < xl * xe + xs.length then xs[i - xl * xe]? else C[i]? := by
                intro i
                rw [← hC']
                simp only [List.getElem?_toArray]
                by_cases c1 : i < xl * xe
                · rw [if_neg (by omega), List.append_assoc, List.getElem?_append_left (by simp; omega), List.getElem?_take]; simp [c1]
                · by_cases c2 : i < xl * xe + xs.length
                  · rw [if_pos (by omega), List.append_assoc, List.getElem?_append_right (by simp; omega), List.getElem?_append_left (by simp; omega)]
                    simp only [List.length_take, Array.length_toList]
                    rw [show min (xl * xe) C.size = xl * xe by omega]
                  · rw [if_neg (by omega), List.getElem?_append_right (by simp; omega)]
                    simp only [List.length_append, List.length_take, Array.length_toList, List.getElem?_drop, Array.getElem?_toList]
                    congr 1; omega
              have happ := h.appended (w' := w.setRow b C') (C' := C') (E' := E0) (all := old ++ vs) (e := xl * xe) ho hb d1 rfl (below_setRow h.below hBb C') (by simp) (.inl ⟨rfl, rfl⟩)
                (setRow_heap w b C C' E0 _ d1) (by omega) hBb (fun k _ hk => setRow_other w b k C' hk) (fun _ i hi => by rw [hget, if_neg (by omega)])
                (fun i v hi => by
                  rw [hget]
                  by_cases c : i < old.length
                  · rw [List.getElem?_append_left c] at hi
                    rw [if_neg (by omega), hocell' i (by omega)]
                    exact hor.get i v hi
                  · rw [List.getElem?_append_right (by omega)] at hi
                    obtain ⟨x, hx, hv⟩ := hr.get _ v hi
                    have : i - old.length < xs.length := by
                      rcases Nat.lt_or_ge (i - old.length) xs.length with q | q
                      · exact q
                      · rw [List.getElem?_eq_none q] at hx; cases hx
                    refine ⟨x, ?_, hv⟩
                    rw [if_pos (by omega)]
                    rw [show i - xl * xe = i - old.length by omega]; exact hx)
                (by have := hr.length; simp; omega)
              refine ⟨_, _, _, hR, happ.2, happ.1, ?_⟩
              exact ⟨b, m, 0, cap, Phi.upd_same _ _ _, rfl, by omega, by simpa using hfit, .inl rfl⟩
            · rw [if_neg hroom] at hR
              have hfirst : (Builtin.firstCells xe xl (.slice (some ⟨b, o', none⟩) xl cap)).run P w.drew = .ok olds.toArray w.drew := by
                refine run_firstCells_some (P := P) w.drew xe xl ⟨b, o', none⟩ xl cap olds (by omega) ?_
                rcases ho' with rfl | ⟨rfl, _⟩
                · exact hocell
                · have : olds = [] := List.eq_nil_of_length_eq_zero (by omega)
                  subst this; simp
              rw [hfirst] at hR
              simp only [Result.andThen_ok] at hR
              have happ := h.drew.appended (b' := w.heap.size) (n' := (olds.toArray ++ xs.toArray ++ rest).size) (w' := w.drew.alloc (.cells (olds.toArray ++ xs.toArray ++ rest) E)) (C' := olds.toArray ++ xs.toArray ++ rest) (E' := E) (all := old ++ vs) (e := xl * xe) ho hb d1 rfl
                (h.drew.below.alloc h.drew.B_le _) (by simp) (.inr ⟨rfl, by simp⟩) (heap_alloc_new w.drew _) rfl h.B_le (fun k hk _ => heap_alloc_old w.drew _ k hk)
                (fun hbb i hi => by have := (h.dom id b m hb).2; omega)
                (fun i v hi => by
                  have hr2 := LR.append hor hr
                  obtain ⟨x, hx, hv⟩ := hr2.get i v hi
                  refine ⟨x, ?_, hv⟩
                  have hlt : i < (olds ++ xs).length := by
                    rcases Nat.lt_or_ge i (olds ++ xs).length with q | q
                    · exact q
                    · rw [List.getElem?_eq_none q] at hx; cases hx
                  have e : (olds.toArray ++ xs.toArray ++ rest) = ((olds ++ xs) ++ rest.toList).toArray := by apply Array.ext'; simp
                  rw [e, List.getElem?_toArray, List.getElem?_append_left hlt]; exact hx)
                (by have := hr.length; simp; omega)
              refine ⟨_, _, _, hR, happ.2, happ.1, ?_⟩
              refine ⟨w.heap.size, _, 0, cap', Phi.upd_same _ _ _, rfl, hc1, ?_, .inl rfl⟩
              simp only [Array.size_append, List.size_toArray, hol, hlen, hc2, Nat.zero_add]
              rw [← Nat.add_mul, ← Nat.add_mul]
              exact Nat.mul_le_mul_right _ (by omega)
        · cases hap
      · cases hap
  · cases hap
end AM
