import Derived.Test.YtdnefddmghhgpaaGreatDoorA7Comp
namespace AM
open Go Go.RowKit
set_option linter.unusedVariables false
set_option linter.unusedSimpArgs false

abbrev Phi := Nat → Option (Nat × Nat)

def Phi.le (φ ψ : Phi) : Prop := ∀ a x, φ a = some x → ψ a = some x
theorem Phi.le.refl (φ : Phi) : φ.le φ := fun _ _ h => h
theorem Phi.le.trans {φ ψ χ : Phi} (h : φ.le ψ) (k : ψ.le χ) : φ.le χ := fun a x hx => k a x (h a x hx)

def Phi.upd (φ : Phi) (a : Nat) (x : Nat × Nat) : Phi := fun b => if b = a then some x else φ b
theorem Phi.upd_same (φ : Phi) (a : Nat) (x : Nat × Nat) : φ.upd a x a = some x := by simp [Phi.upd]
theorem Phi.upd_ne (φ : Phi) {a b : Nat} (x : Nat × Nat) (h : b ≠ a) : φ.upd a x b = φ b := by simp [Phi.upd, h]
theorem Phi.le_upd (φ : Phi) {a : Nat} (x : Nat × Nat) (h : φ a = none) : φ.le (φ.upd a x) := by
  intro b y hy
  by_cases e : b = a
  · subst e; rw [h] at hy; cases hy
  · rw [Phi.upd_ne φ x e]; exact hy

mutual
def VR (φ : Phi) : V → Value → Prop
  | .bool b, v => v = .bool b
  | .int k n, v => v = .int k n
  | .str s, v => ∃ bs : ByteArray, v = .string bs ∧ bs.data.toList.map (·.toNat) = s
  | .ptr none, v => v = .pointer none
  | .ptr (some (a, o)), v => ∃ b n, φ a = some (b, n) ∧ v = .pointer (some ⟨b, o, none⟩)
  | .slice none l _, v => l = 0 ∧ v = .slice none 0 0
  | .slice (some (a, o)) l e, v => ∃ b n o' cap, φ a = some (b, n) ∧ v = .slice (some ⟨b, o', none⟩) l cap ∧ l ≤ cap ∧ o' + cap * e ≤ n ∧ (o' = o ∨ (l = 0 ∧ cap = 0))
  | .sliceC (a, o) l e c, v => ∃ b n o' cap, φ a = some (b, n) ∧ v = .slice (some ⟨b, o', none⟩) l cap ∧ l ≤ c ∧ c ≤ cap ∧ o' + cap * e ≤ n ∧ (o' = o ∨ (l = 0 ∧ cap = 0))
  | .map none, v => v = .map none
  | .map (some a), v => ∃ b n, φ a = some (b, n) ∧ v = .map (some b)
  | .func f x c, v => ∃ X C, v = .func (.func f) X C ∧ LR φ x X.toList ∧ LR φ c C.toList
  | .yield l, v => ∃ b n, φ l = some (b, n) ∧ v = .func (.yield b) #[] #[]
  | .mval nm t y, v => ∃ Y, v = .func (.method nm) #[.iface t Y] #[] ∧ VR φ y Y
  | .nilFunc, v => v = .nilFunc
  | .iface t x, v => ∃ y, v = .iface t y ∧ VR φ x y
  | .nilIface, v => v = .nilIface
  | .agg cs, v => ∃ C, v = .agg C ∧ LR φ cs C.toList
  | .tuple cs, v => ∃ C, v = .tuple C ∧ LR φ cs C.toList
def LR (φ : Phi) : List V → List Value → Prop
  | [], m => m = []
  | a :: r, m => ∃ b s, m = b :: s ∧ VR φ a b ∧ LR φ r s
end

theorem LR.nil {φ : Phi} : LR φ [] [] := rfl
theorem LR.cons {φ : Phi} {a : V} {b : Value} {r : List V} {s : List Value} (h : VR φ a b) (k : LR φ r s) : LR φ (a :: r) (b :: s) := ⟨b, s, rfl, h, k⟩

mutual
theorem VR.mono {φ ψ : Phi} (h : φ.le ψ) : ∀ (v : V) (x : Value), VR φ v x → VR ψ v x
  | .bool b, v, hv => hv
  | .int k n, v, hv => hv
  | .str s, v, hv => hv
  | .ptr none, v, hv => hv
  | .ptr (some (a, o)), v, ⟨b, n, ha, hv⟩ => ⟨b, n, h _ _ ha, hv⟩
  | .slice none l e, v, hv => hv
  | .slice (some (a, o)) l e, v, ⟨b, n, o', cap, ha, hv⟩ => ⟨b, n, o', cap, h _ _ ha, hv⟩
  | .sliceC (a, o) l e c, v, ⟨b, n, o', cap, ha, hv⟩ => ⟨b, n, o', cap, h _ _ ha, hv⟩
  | .map none, v, hv => hv
  | .map (some a), v, ⟨b, n, ha, hv⟩ => ⟨b, n, h _ _ ha, hv⟩
  | .func f x c, v, ⟨X, C, hv, hx, hc⟩ => ⟨X, C, hv, LR.mono h x _ hx, LR.mono h c _ hc⟩
  | .yield l, v, ⟨b, n, ha, hv⟩ => ⟨b, n, h _ _ ha, hv⟩
  | .mval nm t y, v, ⟨Y, hv, hy⟩ => ⟨Y, hv, VR.mono h y Y hy⟩
  | .nilFunc, v, hv => hv
  | .iface t x, v, ⟨y, hv, hx⟩ => ⟨y, hv, VR.mono h x y hx⟩
  | .nilIface, v, hv => hv
  | .agg cs, v, ⟨C, hv, hx⟩ => ⟨C, hv, LR.mono h cs _ hx⟩
  | .tuple cs, v, ⟨C, hv, hx⟩ => ⟨C, hv, LR.mono h cs _ hx⟩
theorem LR.mono {φ ψ : Phi} (h : φ.le ψ) : ∀ (l : List V) (m : List Value), LR φ l m → LR ψ l m
  | [], m, hm => hm
  | a :: r, m, ⟨b, s, hm, ha, hr⟩ => ⟨b, s, hm, VR.mono h a b ha, LR.mono h r s hr⟩
end

theorem LR.length {φ : Phi} : ∀ {l : List V} {m : List Value}, LR φ l m → m.length = l.length
  | [], m, h => by cases h; rfl
  | a :: r, m, ⟨b, s, hm, ha, hr⟩ => by subst hm; simp [LR.length hr]

theorem LR.get {φ : Phi} : ∀ {l : List V} {m : List Value}, LR φ l m → ∀ (i : Nat) (v : V), l[i]? = some v → ∃ x, m[i]? = some x ∧ VR φ v x
  | [], m, h, i, v, hi => by simp at hi
  | a :: r, m, ⟨b, s, hm, ha, hr⟩, i, v, hi => by
    subst hm
    cases i with
    | zero => simp at hi; subst hi; exact ⟨b, rfl, ha⟩
    | succ i => simpa using LR.get hr i v (by simpa using hi)

theorem LR.of_get {φ : Phi} : ∀ {l : List V} {m : List Value}, m.length = l.length → (∀ (i : Nat) (v : V), l[i]? = some v → ∃ x, m[i]? = some x ∧ VR φ v x) → LR φ l m
  | [], m, hl, h => by cases m with | nil => rfl | cons a b => simp at hl
  | a :: r, m, hl, h => by
    cases m with
    | nil => simp at hl
    | cons b s =>
      obtain ⟨x, hx, hv⟩ := h 0 a rfl
      simp at hx; subst hx
      exact ⟨b, s, rfl, hv, LR.of_get (by simpa using hl) fun i v hi => by simpa using h (i + 1) v (by simpa using hi)⟩

theorem LR.append {φ : Phi} : ∀ {l : List V} {m : List Value} {l' : List V} {m' : List Value}, LR φ l m → LR φ l' m' → LR φ (l ++ l') (m ++ m')
  | [], m, l', m', h, h' => by cases h; exact h'
  | a :: r, m, l', m', ⟨b, s, hm, ha, hr⟩, h' => by subst hm; exact ⟨b, _, rfl, ha, LR.append hr h'⟩

theorem LR.take {φ : Phi} : ∀ {l : List V} {m : List Value} (n : Nat), LR φ l m → LR φ (l.take n) (m.take n)
  | l, m, 0, h => by simp; exact LR.nil
  | [], m, n + 1, h => by cases h; exact LR.nil
  | a :: r, m, n + 1, ⟨b, s, hm, ha, hr⟩ => by subst hm; exact ⟨b, _, rfl, ha, LR.take n hr⟩

theorem LR.drop {φ : Phi} : ∀ {l : List V} {m : List Value} (n : Nat), LR φ l m → LR φ (l.drop n) (m.drop n)
  | l, m, 0, h => by simpa using h
  | [], m, n + 1, h => by cases h; exact LR.nil
  | a :: r, m, n + 1, ⟨b, s, hm, ha, hr⟩ => by subst hm; simpa using LR.drop n hr

theorem VR.agg {φ : Phi} {cs : List V} {C : Array Value} (h : LR φ cs C.toList) : VR φ (.agg cs) (.agg C) := ⟨C, rfl, h⟩
theorem VR.tuple {φ : Phi} {cs : List V} {C : Array Value} (h : LR φ cs C.toList) : VR φ (.tuple cs) (.tuple C) := ⟨C, rfl, h⟩
theorem VR.undef {φ : Phi} : VR φ .undef Go.undef := ⟨#[], rfl, rfl⟩

theorem VR.cells {φ : Phi} {v : V} {x : Value} (h : VR φ v x) : LR φ v.cells x.cells.toList := by
  cases v with
  | agg cs => obtain ⟨C, rfl, hc⟩ := h; exact hc
  | tuple cs => obtain ⟨C, rfl, hc⟩ := h; exact LR.cons ⟨C, rfl, hc⟩ LR.nil
  | bool b => cases h; exact LR.cons rfl LR.nil
  | int k n => cases h; exact LR.cons rfl LR.nil
  | str s => obtain ⟨bs, rfl, hb⟩ := h; exact LR.cons ⟨bs, rfl, hb⟩ LR.nil
  | ptr a =>
    cases a with
    | none => cases h; exact LR.cons rfl LR.nil
    | some a => obtain ⟨b, n, ha, rfl⟩ := h; exact LR.cons ⟨b, n, ha, rfl⟩ LR.nil
  | slice a l e =>
    cases a with
    | none => obtain ⟨hl, rfl⟩ := h; exact LR.cons ⟨hl, rfl⟩ LR.nil
    | some a => obtain ⟨b, n, o', cap, ha, rfl, hr⟩ := h; exact LR.cons ⟨b, n, o', cap, ha, rfl, hr⟩ LR.nil
  | map r =>
    cases r with
    | none => cases h; exact LR.cons rfl LR.nil
    | some a => obtain ⟨b, n, ha, rfl⟩ := h; exact LR.cons ⟨b, n, ha, rfl⟩ LR.nil
  | func f x c => obtain ⟨X, C, rfl, hr⟩ := h; exact LR.cons ⟨X, C, rfl, hr⟩ LR.nil
  | yield l => obtain ⟨b, n, ha, rfl⟩ := h; exact LR.cons ⟨b, n, ha, rfl⟩ LR.nil
  | sliceC a l e c => obtain ⟨b, n, o', cap, ha, rfl, hr⟩ := h; exact LR.cons ⟨b, n, o', cap, ha, rfl, hr⟩ LR.nil
  | mval nm t y => obtain ⟨Y, rfl, hy⟩ := h; exact LR.cons ⟨Y, rfl, hy⟩ LR.nil
  | nilFunc => cases h; exact LR.cons rfl LR.nil
  | iface t y => obtain ⟨z, rfl, hz⟩ := h; exact LR.cons ⟨z, rfl, hz⟩ LR.nil
  | nilIface => cases h; exact LR.cons rfl LR.nil

theorem VR.oneCell {φ : Phi} {v : V} {x : Value} (h : VR φ v x) (hf : v.flat = true) : x.oneCell' = true := by
  cases v with
  | agg cs => simp [V.flat] at hf
  | tuple cs => simp [V.flat] at hf
  | bool b => cases h; rfl
  | int k n => cases h; rfl
  | str s => obtain ⟨bs, rfl, hb⟩ := h; rfl
  | ptr a =>
    cases a with
    | none => cases h; rfl
    | some a => obtain ⟨b, n, ha, rfl⟩ := h; rfl
  | slice a l e =>
    cases a with
    | none => obtain ⟨hl, rfl⟩ := h; rfl
    | some a => obtain ⟨b, n, o', cap, ha, rfl, hr⟩ := h; rfl
  | map r =>
    cases r with
    | none => cases h; rfl
    | some a => obtain ⟨b, n, ha, rfl⟩ := h; rfl
  | func f x c => obtain ⟨X, C, rfl, hr⟩ := h; rfl
  | yield l => obtain ⟨b, n, ha, rfl⟩ := h; rfl
  | sliceC a l e c => obtain ⟨b, n, o', cap, ha, rfl, hr⟩ := h; rfl
  | mval nm t y => obtain ⟨Y, rfl, hy⟩ := h; rfl
  | nilFunc => cases h; rfl
  | iface t y => obtain ⟨z, rfl, hz⟩ := h; rfl
  | nilIface => cases h; rfl

theorem VR.norm {φ : Phi} {v : V} {x : Value} (h : VR φ v x) : VR φ (norm v) x := by
  cases v with
  | sliceC a l e c =>
    obtain ⟨a, o⟩ := a
    obtain ⟨b, n, o', cap, ha, rfl, h1, h2, h3, h4⟩ := h
    exact ⟨b, n, o', cap, ha, rfl, Nat.le_trans h1 h2, h3, h4⟩
  | _ => exact h

/-! ## constants -/
mutual
theorem toV_rel (φ : Phi) : ∀ (x : Value) (v : V), toV x = some v → VR φ v x
  | .bool b, v, h => by simp [toV] at h; subst h; rfl
  | .int k n, v, h => by simp [toV] at h; subst h; rfl
  | .string s, v, h => by simp [toV] at h; subst h; exact ⟨s, rfl, rfl⟩
  | .pointer none, v, h => by simp [toV] at h; subst h; rfl
  | .pointer (some a), v, h => by simp [toV] at h
  | .slice none l c, v, h => by simp [toV] at h; obtain ⟨⟨rfl, rfl⟩, rfl⟩ := h; exact ⟨rfl, rfl⟩
  | .slice (some a) l c, v, h => by simp [toV] at h
  | .map none, v, h => by simp [toV] at h; subst h; rfl
  | .map (some r), v, h => by simp [toV] at h
  | .nilFunc, v, h => by simp [toV] at h; subst h; rfl
  | .nilIface, v, h => by simp [toV] at h; subst h; rfl
  | .agg ⟨cs⟩, v, h => by
    simp only [toV] at h
    split at h
    · rename_i l hl; simp at h; subst h; exact ⟨⟨cs⟩, rfl, toVs_rel φ cs l hl⟩
    · cases h
  | .tuple ⟨cs⟩, v, h => by
    simp only [toV] at h
    split at h
    · rename_i l hl; simp at h; subst h; exact ⟨⟨cs⟩, rfl, toVs_rel φ cs l hl⟩
    · cases h
  | .float _ _, v, h => by simp [toV] at h
  | .complex _ _ _, v, h => by simp [toV] at h
  | .chan _, v, h => by simp [toV] at h
  | .func _ _ _, v, h => by simp [toV] at h
  | .iface _ _, v, h => by simp [toV] at h
theorem toVs_rel (φ : Phi) : ∀ (x : List Value) (v : List V), toVs x = some v → LR φ v x
  | [], v, h => by simp [toVs] at h; subst h; rfl
  | a :: r, v, h => by
    simp only [toVs] at h
    split at h
    · rename_i x y hx hy; simp at h; subst h; exact ⟨a, r, rfl, toV_rel φ a x hx, toVs_rel φ r y hy⟩
    · cases h
end

/-! ## The relation of memories -/
def ER (φ : Phi) (l : List (V × V)) (m : List MapEntry) : Prop :=
  m.length = l.length ∧ ∀ (i : Nat) k v, l[i]? = some (k, v) → ∃ e, m[i]? = some e ∧ VR φ k e.key ∧ VR φ v e.val

def Obj.live : Obj → Bool
  | .dead => false
  | _ => true
def Obj.mut : Obj → Bool
  | .cells ro _ _ _ _ => !ro
  | .map .. => true
  | .iter .. => true
  | .dfr => true
  | .loop .. => true
  | .dead => false
def Obj.grp : Obj → Nat
  | .cells _ g _ _ _ => g
  | _ => 0

def LSt.to : LSt → LoopState
  | .ready => .ready
  | .busy => .busy
  | .done => .done

/-- a jump that is pending, as the model has it -/
def jumpC : Option Ex → Option Code
  | none => none
  | some .normal => some .skip
  | some (.exit id) => some (.exit id)
  | some (.goto l) => some (.goto l)
  | some .ret => some .ret

/-- a record of a loop over a function -/
def LoopR (P : Program) (φ : Phi) (st : LSt) (pe : Option Ex) (tm : T V) (ps : List Nat) (asg body : AC) (r : Loop) : Prop :=
  r.state = st.to ∧ r.pending = jumpC pe ∧ (∀ t, VR φ ((tm.get t).getD .undef) (r.tmps.getD t Go.undef)) ∧ r.params.toList = ps ∧
    ∃ n, n ≤ r.tmps.size ∧ (∀ q ∈ ps, q < n) ∧ asg = comp P true n r.assign ∧ body = comp P true n r.body

/-- what is laid in block b for an object -/
def ObjR (P : Program) (φ : Phi) (B b n : Nat) (w : World) : Obj → Prop
  | .cells ro _ k z t => ∃ C E fz, w.heap[b]? = some (.cells C E fz) ∧ C.size = n ∧ (ro = false → fz = (0, 0) ∧ B ≤ b) ∧ k ≤ n ∧
      ∀ i v, cellOf k z t i = some v → ∃ x, C[i]? = some x ∧ VR φ v x
  | .map es bs clk => B ≤ b ∧ ∃ m, w.heap[b]? = some (.map m clk) ∧ ER φ es m.toList ∧ m.toList.map (·.born) = bs
  | .iter none _ _ _ => B ≤ b ∧ ∃ s e l, w.heap[b]? = some (.mapIter none s e l)
  | .iter (some r) since seen last => B ≤ b ∧ ∃ rb k e, φ r = some (rb, k) ∧ w.heap[b]? = some (.mapIter (some rb) since e last) ∧ e.toList = seen
  | .dfr => B ≤ b ∧ w.heap[b]? = some (.deferred (some []))
  | .loop st pe tm ps asg body => B ≤ b ∧ ∃ r, w.heap[b]? = some (.loop r) ∧ LoopR P φ st pe tm ps asg body r
  | .dead => True

/-- where the calls began: the world, and numbers that stand for nothing yet -/
structure Base where
  P : Program
  w : World
  X : Nat → Prop

structure Rel (G B : Nat) (w0 : Base) (φ : Phi) (σ : St) (w : World) : Prop where
  below : Below B w0.w w
  B_le : B ≤ w.heap.size
  dom : ∀ a b n, φ a = some (b, n) → a < σ.next ∧ b < w.heap.size
  glob : ∀ g, g < G → g < σ.next ∧ ∃ n, φ g = some (g, n)
  obj : ∀ a o b n, σ.objs.get a = some o → φ a = some (b, n) → ObjR w0.P φ B b n w o
  fresh : ∀ a, σ.next ≤ a → σ.objs.get a = none
  sep : ∀ a a' o o' b n n', a ≠ a' → σ.objs.get a = some o → σ.objs.get a' = some o' → o.mut = true → o'.live = true →
    φ a = some (b, n) → φ a' = some (b, n') → o.grp ≠ 0 ∧ o.grp = o'.grp
  grp : ∀ a o, σ.objs.get a = some o → o.grp ≠ 0 → o.grp < σ.next ∧ a ∈ (σ.grps.get o.grp).getD []
  gfresh : ∀ g, σ.next ≤ g → σ.grps.get g = none
  pend : ∀ a, w0.X a → φ a = none ∧ a < σ.next

variable {G B : Nat} {w0 : Base} {φ : Phi} {σ : St} {w : World}

theorem ER.mono {φ ψ : Phi} (h : φ.le ψ) {l : List (V × V)} {m : List MapEntry} (k : ER φ l m) : ER ψ l m :=
  ⟨k.1, fun i a v hi => let ⟨e, he, ha, hv⟩ := k.2 i a v hi; ⟨e, he, VR.mono h _ _ ha, VR.mono h _ _ hv⟩⟩

theorem LoopR.mono {φ ψ : Phi} (h : φ.le ψ) {P : Program} {st : LSt} {pe : Option Ex} {tm : T V} {ps : List Nat} {asg body : AC} {r : Loop} (k : LoopR P φ st pe tm ps asg body r) : LoopR P ψ st pe tm ps asg body r :=
  ⟨k.1, k.2.1, fun t => VR.mono h _ _ (k.2.2.1 t), k.2.2.2⟩

theorem ObjR.mono {P : Program} {φ ψ : Phi} (h : φ.le ψ) {B b n : Nat} {w : World} {o : Obj} (k : ObjR P φ B b n w o) : ObjR P ψ B b n w o := by
  cases o with
  | cells ro g k z t =>
    obtain ⟨C, E, fz, h1, h2, h3, h4, h5⟩ := k
    exact ⟨C, E, fz, h1, h2, h3, h4, fun i v hi => let ⟨x, hx, hv⟩ := h5 i v hi; ⟨x, hx, VR.mono h _ _ hv⟩⟩
  | map es bs ck => obtain ⟨hB, m, h1, h2, h3⟩ := k; exact ⟨hB, m, h1, h2.mono h, h3⟩
  | iter m s e l =>
    cases m with
    | none => exact k
    | some r => obtain ⟨hB, rb, q, e', h1, h2⟩ := k; exact ⟨hB, rb, q, e', h _ _ h1, h2⟩
  | dfr => exact k
  | loop st pe tm ps a b => obtain ⟨hB, r, h1, h2⟩ := k; exact ⟨hB, r, h1, h2.mono h⟩
  | dead => trivial

theorem ObjR.of_block {P : Program} {φ : Phi} {B b n : Nat} {w w' : World} {o : Obj} (k : ObjR P φ B b n w o) (h : w'.heap[b]? = w.heap[b]?) : ObjR P φ B b n w' o := by
  cases o with
  | cells ro g k z t => obtain ⟨C, E, fz, h1, h2⟩ := k; exact ⟨C, E, fz, h.trans h1, h2⟩
  | map es bs ck => obtain ⟨hB, m, h1, h2⟩ := k; exact ⟨hB, m, h.trans h1, h2⟩
  | iter m s e l =>
    cases m with
    | none => obtain ⟨hB, s, e, l, h1⟩ := k; exact ⟨hB, s, e, l, h.trans h1⟩
    | some r => obtain ⟨hB, rb, q, e', h1, h2, h3⟩ := k; exact ⟨hB, rb, q, e', h1, h.trans h2, h3⟩
  | dfr => exact ⟨k.1, h.trans k.2⟩
  | loop st pe tm ps a b => obtain ⟨hB, r, h1, h2⟩ := k; exact ⟨hB, r, h.trans h1, h2⟩
  | dead => trivial

/-- A draw. -/
theorem Rel.drew (h : Rel G B w0 φ σ w) : Rel G B w0 φ σ w.drew :=
  ⟨h.below.drew, h.B_le, h.dom, h.glob, fun a o b n ho ha => (h.obj a o b n ho ha).of_block rfl, h.fresh, h.sep, h.grp, h.gfresh, h.pend⟩

theorem Rel.lt (h : Rel G B w0 φ σ w) {a : Nat} {o : Obj} (ho : σ.objs.get a = some o) : a < σ.next := by
  rcases Nat.lt_or_ge a σ.next with k | k
  · exact k
  · rw [h.fresh a k] at ho; cases ho

/-! ### reading -/
theorem Rel.cell (h : Rel G B w0 φ σ w) {id off b n : Nat} {v : V} (hc : σ.cell id off = some v) (ha : φ id = some (b, n)) :
    ∃ x, w.cell? ⟨b, off, none⟩ = some x ∧ VR φ v x := by
  unfold St.cell at hc
  split at hc
  · rename_i ro g k z t ho
    obtain ⟨C, E, fz, h1, h2, h3, h4, h5⟩ := h.obj id _ b n ho ha
    obtain ⟨x, hx, hv⟩ := h5 off v hc
    exact ⟨x, by simp [World.cell?, h1, hx], hv⟩
  · cases hc

theorem loadN_get {n : Nat} {z : List V} {t : T V} : ∀ {k off : Nat} {l : List V}, loadN n z t off k = some l → l.length = k ∧ ∀ i v, l[i]? = some v → cellOf n z t (off + i) = some v
  | 0, off, l, h => by simp [loadN] at h; subst h; simp
  | k + 1, off, l, h => by
    simp only [loadN] at h
    split at h
    · rename_i v hv
      split at h
      · rename_i r hr
        simp at h; subst h
        obtain ⟨hl, hg⟩ := loadN_get hr
        refine ⟨by simp [hl], fun i u hi => ?_⟩
        cases i with
        | zero => simp at hi; subst hi; exact hv
        | succ i => have := hg i u (by simpa using hi); rwa [show off + (i + 1) = off + 1 + i by omega]
      · cases h
    · cases h

theorem St.load_get {σ : St} {id off k : Nat} {l : List V} (h : σ.load id off k = some l) : l.length = k ∧ ∀ i v, l[i]? = some v → σ.cell id (off + i) = some v := by
  unfold St.load at h
  split at h
  · rename_i ro g n z t ho
    obtain ⟨h1, h2⟩ := loadN_get h
    exact ⟨h1, fun i v hi => by unfold St.cell; rw [ho]; exact h2 i v hi⟩
  · cases h

theorem add_none (b o j : Nat) : (⟨b, o, none⟩ : Addr).add j = ⟨b, o + j, none⟩ := by
  unfold Addr.add; split <;> simp_all

theorem Rel.load (h : Rel G B w0 φ σ w) {id off k b n : Nat} {l : List V} (hl : σ.load id off k = some l) (ha : φ id = some (b, n)) :
    ∃ xs : List Value, LR φ l xs ∧ xs.length = k ∧ ∀ j v, xs[j]? = some v → w.cell? ((⟨b, off, none⟩ : Addr).add j) = some v := by
  obtain ⟨hlen, hget⟩ := St.load_get hl
  have : ∀ i, i < l.length → ∃ x, w.cell? ⟨b, off + i, none⟩ = some x ∧ ∀ v, l[i]? = some v → VR φ v x := by
    intro i hi
    obtain ⟨x, hx, hv⟩ := h.cell (hget i l[i] (by simp [hi])) ha
    exact ⟨x, hx, fun v hv' => by simp [hi] at hv'; subst hv'; exact hv⟩
  refine ⟨(List.range k).map fun i => (w.cell? ⟨b, off + i, none⟩).getD Go.undef, ?_, by simp, ?_⟩
  · refine LR.of_get (by simp [hlen]) fun i v hi => ?_
    have hil : i < l.length := by
      rcases Nat.lt_or_ge i l.length with k | k
      · exact k
      · rw [List.getElem?_eq_none k] at hi; cases hi
    obtain ⟨x, hx, hv⟩ := this i hil
    refine ⟨x, ?_, hv v hi⟩
    have : i < k := by omega
    simp [this, hx]
  · intro j v hj
    have hjk : j < k := by
      rcases Nat.lt_or_ge j k with q | q
      · exact q
      · rw [List.getElem?_eq_none (by simpa using q)] at hj; cases hj
    obtain ⟨x, hx, _⟩ := this j (by omega)
    simp [hjk, hx] at hj
    subst hj
    rw [add_none]; exact hx

/-! ### new objects -/
theorem Rel.new (h : Rel G B w0 φ σ w) (o : Obj) (O : Go.Obj) (n : Nat) (hg : o.grp = 0) (hB : o.mut = true ∨ True)
    (ho : ObjR w0.P (φ.upd σ.next (w.heap.size, n)) B w.heap.size n (w.alloc O) o) :
    Rel G B w0 (φ.upd σ.next (w.heap.size, n)) (σ.new o) (w.alloc O) ∧ φ.le (φ.upd σ.next (w.heap.size, n)) := by
  have hn : φ σ.next = none := by
    cases hc : φ σ.next with
    | none => rfl
    | some x => obtain ⟨b, m⟩ := x; have := (h.dom _ _ _ hc).1; omega
  have hle := φ.le_upd (a := σ.next) (w.heap.size, n) hn
  refine ⟨⟨h.below.alloc h.B_le O, by simp; have := h.B_le; omega, ?_, ?_, ?_, ?_, ?_, ?_, ?_, ?_⟩, hle⟩
  · intro a b m ha
    by_cases e : a = σ.next
    · subst e; rw [Phi.upd_same] at ha; simp at ha; obtain ⟨rfl, rfl⟩ := ha; simp [St.new]
    · rw [Phi.upd_ne φ _ e] at ha; obtain ⟨h1, h2⟩ := h.dom a b m ha; simp [St.new]; omega
  · intro g hg'
    obtain ⟨h1, m, hm⟩ := h.glob g hg'
    exact ⟨by simp [St.new]; omega, m, hle _ _ hm⟩
  · intro a o' b m ho' ha
    simp only [St.new, T.get_set] at ho'
    by_cases e : a = σ.next
    · subst e
      rw [if_pos rfl] at ho'; simp at ho'; subst ho'
      rw [Phi.upd_same] at ha; simp at ha; obtain ⟨rfl, rfl⟩ := ha
      exact ho
    · rw [if_neg e] at ho'
      rw [Phi.upd_ne φ _ e] at ha
      refine ((h.obj a o' b m ho' ha).mono hle).of_block ?_
      exact Below.heap_alloc w O b (h.dom a b m ha).2
  · intro a ha
    simp only [St.new, T.get_set] at ha ⊢
    rw [if_neg (by omega)]; exact h.fresh a (by omega)
  · intro a a' o1 o2 b m m' hne h1 h2 hm hl ha ha'
    simp only [St.new, T.get_set] at h1 h2
    by_cases e : a = σ.next
    · subst e
      rw [Phi.upd_same] at ha; simp at ha; obtain ⟨rfl, rfl⟩ := ha
      rw [Phi.upd_ne φ _ (Ne.symm hne)] at ha'
      have := (h.dom _ _ _ ha').2; omega
    · by_cases e' : a' = σ.next
      · subst e'
        rw [Phi.upd_same] at ha'; simp at ha'; obtain ⟨rfl, rfl⟩ := ha'
        rw [Phi.upd_ne φ _ e] at ha
        have := (h.dom _ _ _ ha).2; omega
      · rw [if_neg e] at h1; rw [if_neg e'] at h2
        rw [Phi.upd_ne φ _ e] at ha; rw [Phi.upd_ne φ _ e'] at ha'
        exact h.sep a a' o1 o2 b m m' hne h1 h2 hm hl ha ha'
  · intro a o1 h1 hg1
    simp only [St.new, T.get_set] at h1 ⊢
    by_cases e : a = σ.next
    · rw [if_pos e] at h1; simp at h1; subst h1; exact (hg1 hg).elim
    · rw [if_neg e] at h1
      obtain ⟨k1, k2⟩ := h.grp a o1 h1 hg1
      exact ⟨by omega, k2⟩
  · intro g hg'; simp only [St.new] at hg' ⊢; exact h.gfresh g (by omega)
  · intro a hX
    obtain ⟨p1, p2⟩ := h.pend a hX
    exact ⟨by rw [Phi.upd_ne φ _ (by omega)]; exact p1, by simp [St.new]; omega⟩

end AM
