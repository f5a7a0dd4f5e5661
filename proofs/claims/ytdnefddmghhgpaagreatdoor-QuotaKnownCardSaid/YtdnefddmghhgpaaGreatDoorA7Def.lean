import Derived.Conc.MuLone
import Derived.Recover
import Derived.Orders
import Derived.Below
namespace AM
open Go
set_option linter.unusedVariables false

/-! ## Tries -/
inductive T (α : Type) where
  | nil
  | node (v : Option α) (l r : T α)
  deriving Inhabited

noncomputable section

def T.get {α : Type} (t : T α) : Nat → Option α :=
  T.rec (motive := fun _ => Nat → Option α) (fun _ => none) (fun v _ _ gl gr i => Bool.rec (motive := fun _ => Option α) (Bool.rec (motive := fun _ => Option α) (gr (Nat.sub (Nat.div i 2) 1)) (gl (Nat.div i 2)) (Nat.beq (Nat.mod i 2) 1)) v (Nat.beq i 0)) t

def T.oneF {α : Type} (x : Option α) (f : Nat) : Nat → T α :=
  Nat.rec (motive := fun _ => Nat → T α) (fun _ => .nil) (fun _ one i => Bool.rec (motive := fun _ => T α) (Bool.rec (motive := fun _ => T α) (.node none .nil (one (Nat.sub (Nat.div i 2) 1))) (.node none (one (Nat.div i 2)) .nil) (Nat.beq (Nat.mod i 2) 1)) (.node x .nil .nil) (Nat.beq i 0)) f

def T.setF {α : Type} (x : Option α) (t : T α) : Nat → T α :=
  T.rec (motive := fun _ => Nat → T α) (fun i => T.oneF x (Nat.succ i) i)
    (fun v l r sl sr i => Bool.rec (motive := fun _ => T α) (Bool.rec (motive := fun _ => T α) (.node v l (sr (Nat.sub (Nat.div i 2) 1))) (.node v (sl (Nat.div i 2)) r) (Nat.beq (Nat.mod i 2) 1)) (.node x l r) (Nat.beq i 0)) t

def T.set {α : Type} (t : T α) (i : Nat) (x : α) : T α := T.setF (some x) t i

theorem T.get_nil {α : Type} (i : Nat) : (T.nil : T α).get i = none := rfl
theorem T.get_zero {α : Type} (v : Option α) (l r : T α) : (T.node v l r).get 0 = v := rfl
theorem div_odd (k : Nat) : Nat.div (2 * k + 1) 2 = k := by show (2 * k + 1) / 2 = k; omega
theorem div_even (k : Nat) : Nat.sub (Nat.div (2 * k + 2) 2) 1 = k := by show (2 * k + 2) / 2 - 1 = k; omega
theorem mod_odd (k : Nat) : Nat.beq (Nat.mod (2 * k + 1) 2) 1 = true := by have : Nat.mod (2 * k + 1) 2 = 1 := by { show (2 * k + 1) % 2 = 1; omega }
                                                                           rw [this]; rfl
theorem mod_even (k : Nat) : Nat.beq (Nat.mod (2 * k + 2) 2) 1 = false := by have : Nat.mod (2 * k + 2) 2 = 0 := by { show (2 * k + 2) % 2 = 0; omega }
                                                                             rw [this]; rfl
theorem T.get_odd {α : Type} (v : Option α) (l r : T α) (k : Nat) : (T.node v l r).get (2 * k + 1) = l.get k := by
  show Bool.rec (motive := fun _ => Option α) (Bool.rec (motive := fun _ => Option α) (r.get (Nat.sub (Nat.div (2 * k + 1) 2) 1)) (l.get (Nat.div (2 * k + 1) 2)) (Nat.beq (Nat.mod (2 * k + 1) 2) 1)) v (Nat.beq (2 * k + 1) 0) = _
  rw [mod_odd, div_odd]; rfl
theorem T.get_even {α : Type} (v : Option α) (l r : T α) (k : Nat) : (T.node v l r).get (2 * k + 2) = r.get k := by
  show Bool.rec (motive := fun _ => Option α) (Bool.rec (motive := fun _ => Option α) (r.get (Nat.sub (Nat.div (2 * k + 2) 2) 1)) (l.get (Nat.div (2 * k + 2) 2)) (Nat.beq (Nat.mod (2 * k + 2) 2) 1)) v (Nat.beq (2 * k + 2) 0) = _
  rw [mod_even, div_even]; rfl
theorem T.one_zero {α : Type} (x : Option α) (f : Nat) : T.oneF x (f + 1) 0 = .node x .nil .nil := rfl
theorem T.one_odd {α : Type} (x : Option α) (f k : Nat) : T.oneF x (f + 1) (2 * k + 1) = .node none (T.oneF x f k) .nil := by
  show Bool.rec (motive := fun _ => T α) (Bool.rec (motive := fun _ => T α) (.node none .nil (T.oneF x f (Nat.sub (Nat.div (2 * k + 1) 2) 1))) (.node none (T.oneF x f (Nat.div (2 * k + 1) 2)) .nil) (Nat.beq (Nat.mod (2 * k + 1) 2) 1)) (.node x .nil .nil) (Nat.beq (2 * k + 1) 0) = _
  rw [mod_odd, div_odd]; rfl
theorem T.one_even {α : Type} (x : Option α) (f k : Nat) : T.oneF x (f + 1) (2 * k + 2) = .node none .nil (T.oneF x f k) := by
  show Bool.rec (motive := fun _ => T α) (Bool.rec (motive := fun _ => T α) (.node none .nil (T.oneF x f (Nat.sub (Nat.div (2 * k + 2) 2) 1))) (.node none (T.oneF x f (Nat.div (2 * k + 2) 2)) .nil) (Nat.beq (Nat.mod (2 * k + 2) 2) 1)) (.node x .nil .nil) (Nat.beq (2 * k + 2) 0) = _
  rw [mod_even, div_even]; rfl
theorem T.set_zero {α : Type} (x : Option α) (v : Option α) (l r : T α) : T.setF x (.node v l r) 0 = .node x l r := rfl
theorem T.set_odd {α : Type} (x : Option α) (v : Option α) (l r : T α) (k : Nat) : T.setF x (.node v l r) (2 * k + 1) = .node v (T.setF x l k) r := by
  show Bool.rec (motive := fun _ => T α) (Bool.rec (motive := fun _ => T α) (.node v l (T.setF x r (Nat.sub (Nat.div (2 * k + 1) 2) 1))) (.node v (T.setF x l (Nat.div (2 * k + 1) 2)) r) (Nat.beq (Nat.mod (2 * k + 1) 2) 1)) (.node x l r) (Nat.beq (2 * k + 1) 0) = _
  rw [mod_odd, div_odd]; rfl
theorem T.set_even {α : Type} (x : Option α) (v : Option α) (l r : T α) (k : Nat) : T.setF x (.node v l r) (2 * k + 2) = .node v l (T.setF x r k) := by
  show Bool.rec (motive := fun _ => T α) (Bool.rec (motive := fun _ => T α) (.node v l (T.setF x r (Nat.sub (Nat.div (2 * k + 2) 2) 1))) (.node v (T.setF x l (Nat.div (2 * k + 2) 2)) r) (Nat.beq (Nat.mod (2 * k + 2) 2) 1)) (.node x l r) (Nat.beq (2 * k + 2) 0) = _
  rw [mod_even, div_even]; rfl

theorem nat_parts (i : Nat) : i = 0 ∨ (∃ k, i = 2 * k + 1) ∨ ∃ k, i = 2 * k + 2 := by
  rcases Nat.eq_zero_or_pos i with h | h
  · exact .inl h
  · rcases Nat.mod_two_eq_zero_or_one i with e | e
    · exact .inr (.inr ⟨i / 2 - 1, by omega⟩)
    · exact .inr (.inl ⟨i / 2, by omega⟩)

theorem T.get_one {α : Type} (x : Option α) : ∀ (f i j : Nat), i < f → (T.oneF x f i).get j = if j = i then x else none := by
  intro f
  induction f with
  | zero => intro i j h; omega
  | succ f ih =>
    intro i j h
    rcases nat_parts i with rfl | ⟨k, rfl⟩ | ⟨k, rfl⟩ <;> rcases nat_parts j with rfl | ⟨m, rfl⟩ | ⟨m, rfl⟩
    · rw [T.one_zero, T.get_zero, if_pos rfl]
    · rw [T.one_zero, T.get_odd, T.get_nil, if_neg (by omega)]
    · rw [T.one_zero, T.get_even, T.get_nil, if_neg (by omega)]
    · rw [T.one_odd, T.get_zero, if_neg (by omega)]
    · rw [T.one_odd, T.get_odd, ih _ _ (by omega)]
      by_cases e : m = k
      · rw [if_pos e, if_pos (by omega)]
      · rw [if_neg e, if_neg (by omega)]
    · rw [T.one_odd, T.get_even, T.get_nil, if_neg (by omega)]
    · rw [T.one_even, T.get_zero, if_neg (by omega)]
    · rw [T.one_even, T.get_odd, T.get_nil, if_neg (by omega)]
    · rw [T.one_even, T.get_even, ih _ _ (by omega)]
      by_cases e : m = k
      · rw [if_pos e, if_pos (by omega)]
      · rw [if_neg e, if_neg (by omega)]

theorem T.get_setF {α : Type} (x : Option α) : ∀ (t : T α) (i j : Nat), (T.setF x t i).get j = if j = i then x else t.get j := by
  intro t
  induction t with
  | nil => intro i j; exact T.get_one x (i + 1) i j (by omega)
  | node v l r ihl ihr =>
    intro i j
    rcases nat_parts i with rfl | ⟨k, rfl⟩ | ⟨k, rfl⟩ <;> rcases nat_parts j with rfl | ⟨m, rfl⟩ | ⟨m, rfl⟩
    · rw [T.set_zero, T.get_zero, if_pos rfl]
    · rw [T.set_zero, T.get_odd, T.get_odd, if_neg (by omega)]
    · rw [T.set_zero, T.get_even, T.get_even, if_neg (by omega)]
    · rw [T.set_odd, T.get_zero, T.get_zero, if_neg (by omega)]
    · rw [T.set_odd, T.get_odd, ihl, T.get_odd]
      by_cases e : m = k
      · rw [if_pos e, if_pos (by omega)]
      · rw [if_neg e, if_neg (by omega)]
    · rw [T.set_odd, T.get_even, T.get_even, if_neg (by omega)]
    · rw [T.set_even, T.get_zero, T.get_zero, if_neg (by omega)]
    · rw [T.set_even, T.get_odd, T.get_odd, if_neg (by omega)]
    · rw [T.set_even, T.get_even, ihr, T.get_even]
      by_cases e : m = k
      · rw [if_pos e, if_pos (by omega)]
      · rw [if_neg e, if_neg (by omega)]

theorem T.get_set {α : Type} (t : T α) (i j : Nat) (x : α) : (t.set i x).get j = if j = i then some x else t.get j :=
  T.get_setF _ _ _ _

/-! ## Values -/
inductive V where
  | bool (b : Bool)
  | int (k : IntKind) (n : Int)
  | str (s : List Nat)
  | ptr (a : Option (Nat × Nat))
  | slice (a : Option (Nat × Nat)) (len esz : Nat)
  | sliceC (a : Nat × Nat) (len esz c : Nat)
  | map (r : Option Nat)
  | func (f : FuncId) (first cap : List V)
  | yield (l : Nat)
  | mval (name : String) (t : TypeId) (v : V)
  | nilFunc
  | iface (t : TypeId) (v : V)
  | nilIface
  | agg (cs : List V)
  | tuple (vs : List V)
  deriving Inhabited, Repr

def V.undef : V := .tuple []

def V.cells : V → List V
  | .agg cs => cs
  | v => [v]

/-- a value of one cell -/
def V.flat : V → Bool
  | .agg _ => false
  | .tuple _ => false
  | _ => true

mutual
def sameV : V → V → Bool
  | .bool a, .bool b => a == b
  | .int k a, .int k' b => k == k' && a == b
  | .str a, .str b => a == b
  | .ptr a, .ptr b => a == b
  | .slice a l e, .slice b m f => a == b && l == m && e == f
  | .sliceC a l e c, .sliceC b m f d => a == b && l == m && e == f && c == d
  | .map a, .map b => a == b
  | .func f a b, .func g c d => f == g && sameL a c && sameL b d
  | .yield a, .yield b => a == b
  | .mval n t v, .mval m u w => n == m && t == u && sameV v w
  | .nilFunc, .nilFunc => true
  | .iface t v, .iface u w => t == u && sameV v w
  | .nilIface, .nilIface => true
  | .agg a, .agg b => sameL a b
  | .tuple a, .tuple b => sameL a b
  | _, _ => false
def sameL : List V → List V → Bool
  | [], [] => true
  | a :: r, b :: s => sameV a b && sameL r s
  | _, _ => false
end

mutual
theorem sameV_eq : ∀ (x y : V), sameV x y = true → x = y
  | .bool a, y, h => by cases y <;> simp_all [sameV]
  | .int k n, y, h => by cases y <;> simp_all [sameV]
  | .str s, y, h => by cases y <;> simp_all [sameV]
  | .ptr a, y, h => by cases y <;> simp_all [sameV]
  | .slice a l e, y, h => by cases y <;> simp_all [sameV]
  | .sliceC a l e c, y, h => by cases y <;> simp_all [sameV]
  | .map a, y, h => by cases y <;> simp_all [sameV]
  | .func f a b, y, h => by
    cases y <;> simp [sameV] at h
    rename_i g c d
    obtain ⟨⟨h1, h2⟩, h3⟩ := h
    rw [h1, sameL_eq a c h2, sameL_eq b d h3]
  | .yield a, y, h => by cases y <;> simp_all [sameV]
  | .mval n t v, y, h => by
    cases y <;> simp [sameV] at h
    rename_i m u w
    rw [h.1.1, h.1.2, sameV_eq v w h.2]
  | .nilFunc, y, h => by cases y <;> simp_all [sameV]
  | .iface t v, y, h => by
    cases y <;> simp [sameV] at h
    rename_i u v'
    rw [h.1, sameV_eq v v' h.2]
  | .nilIface, y, h => by cases y <;> simp_all [sameV]
  | .agg cs, y, h => by
    cases y <;> simp [sameV] at h
    rename_i ds; rw [sameL_eq cs ds h]
  | .tuple cs, y, h => by
    cases y <;> simp [sameV] at h
    rename_i ds; rw [sameL_eq cs ds h]
theorem sameL_eq : ∀ (x y : List V), sameL x y = true → x = y
  | [], y, h => by cases y <;> simp_all [sameL]
  | a :: r, y, h => by
    cases y <;> simp [sameL] at h
    rename_i b s; rw [sameV_eq a b h.1, sameL_eq r s h.2]
end


mutual
theorem sameV_refl : ∀ (x : V), sameV x x = true
  | .bool a => by simp [sameV]
  | .int k n => by simp [sameV]
  | .str s => by simp [sameV]
  | .ptr a => by simp [sameV]
  | .slice a l e => by simp [sameV]
  | .sliceC a l e c => by simp [sameV]
  | .map a => by simp [sameV]
  | .func f a b => by simp [sameV, sameL_refl a, sameL_refl b]
  | .yield a => by simp [sameV]
  | .mval n t v => by simp [sameV, sameV_refl v]
  | .nilFunc => by simp [sameV]
  | .iface t v => by simp [sameV, sameV_refl v]
  | .nilIface => by simp [sameV]
  | .agg cs => by simp [sameV, sameL_refl cs]
  | .tuple cs => by simp [sameV, sameL_refl cs]
theorem sameL_refl : ∀ (x : List V), sameL x x = true
  | [] => by simp [sameL]
  | a :: r => by simp [sameL, sameV_refl a, sameL_refl r]
end
instance : DecidableEq V := fun x y => if h : sameV x y = true then isTrue (sameV_eq x y h) else isFalse (fun e => h (e ▸ sameV_refl x))

/-! ## Operations -/
inductive Opd where
  | tmp (t : Nat) | const (v : V) | glob (g : Nat)
  deriving Inhabited, Repr, DecidableEq

inductive Bn where
  | add | sub | mul | quo | rem | and | or | xor | andNot | shl | shr | eql | neq | lss | leq | gtr | geq
  deriving DecidableEq, Inhabited, Repr

/-- the kinds of types at which values are held equal by one cell -/
inductive Ek where
  | bool | ptr | slice | map | func | iface
  deriving DecidableEq, Inhabited, Repr

/-- the kinds of keys -/
inductive Kk where
  | int | str | bool
  deriving DecidableEq, Inhabited, Repr

inductive AOp where
  | mv (x : Opd)
  | pick (c a b : Opd)
  | alloc (z : List V)
  | box (n : Nat) (x : Opd)
  | build (z : List V) (parts : List (Nat × Nat × Opd))
  | mkSlice (len esz : Nat) (z : List V) (parts : List (Nat × Nat × Opd))
  | load (agg : Bool) (n : Nat) (a : Opd)
  | store (n : Nat) (a x : Opd)
  | nilCheck (x : Opd)
  | bin (op : Bn) (x y : Opd)
  | eq1 (neg : Bool) (k : Ek) (x y : Opd)
  | eqs (neg : Bool) (ks : List Bool) (x y : Opd)
  | neg (x : Opd) | not (x : Opd) | compl (x : Opd)
  | conv (k : IntKind) (x : Opd)
  | makeSlice (esz bytes : Nat) (z : List V) (l c : Opd)
  | sliceOf (esz : Nat) (x : Opd) (lo hi : Option Opd)
  | sliceArr (n esz : Nat) (x : Opd) (lo hi : Option Opd)
  | part (agg : Bool) (off n : Nat) (x : Opd)
  | faddr (off : Nat) (x : Opd)
  | iaddrS (esz : Nat) (x i : Opd)
  | iaddrA (len esz : Nat) (x i : Opd)
  | indexA (len esz : Nat) (agg : Bool) (x i : Opd)
  | indexS (x i : Opd)
  | extract (x : Opd) (i : Nat)
  | lenS (x : Opd)
  | lenM (x : Opd)
  | lenArr (n : Nat)
  | append (esz bytes : Nat) (x y : Opd)
  | appendZ (esz bytes : Nat) (z : List V) (x n : Opd)
  | copy (esz : Nat) (x y : Opd)
  | clearS (z : List V) (x : Opd)
  | clearM (x : Opd)
  | maxmin (max : Bool) (xs : List Opd)
  | recover
  | makeFunc (f : FuncId) (first cap : List Opd)
  | makeMap
  | rangeM (x : Opd)
  | entryM (x : Opd)
  | toStr (x : Opd)
  | strish (x : Opd)
  | toBytes (x : Opd)
  | sBin (op : Bn) (x y : Opd)
  | slice3 (esz : Nat) (x lo hi mx : Opd)
  | mkIface (t : TypeId) (x : Opd)
  | eqP (neg : Bool) (x y : Opd)
  | sliceOfC (esz : Nat) (x : Opd) (lo hi : Option Opd)
  | appendC (esz bytes : Nat) (x y : Opd)
  | mval (name : String) (x : Opd)
  | nilCheckM (name : String) (tbl : List (TypeId × FuncId)) (x : Opd)
  | invoke (tbl : List (TypeId × FuncId)) (x : Opd) (xs : List Opd)
  | deferD (kk : Kk) (m k : Opd)
  | nextM (x : Opd)
  | lookup (kk : Kk) (z : V) (ok : Bool) (m k : Opd)
  | mapUpdate (kk : Kk) (m k v : Opd)
  | delete (kk : Kk) (m k : Opd)
  | call (f : FuncId) (xs : List Opd)
  | callv (f : Opd) (xs : List Opd)
  | defer (f : FuncId) (xs : List Opd)
  | deferv (f : Opd) (xs : List Opd)
  | bad (why : String)
  deriving Inhabited, Repr, DecidableEq

structure AOper where
  dst : Option Nat
  op : AOp
  guard : Option (Nat × Bool)
  deriving Inhabited, Repr, DecidableEq

/-- an operation of a region that draws: with the epochs at which it may run -/
structure DOper where
  o : AOper
  lo : Nat
  hi : Nat
  deriving Inhabited, Repr, DecidableEq

inductive AC where
  | skip
  | region (ops : List AOper)
  | regionR (dst : Option Nat) (ops : List AOper)
  | draw (ops : List DOper)
  | seq (a b : AC)
  | cond (c : Opd) (a b : AC)
  | block (id : Nat) (b : AC)
  | loop (b : AC)
  | exit (id : Nat)
  | ret
  | scope (b : AC)
  | rangeFunc (g : Opd) (ps : List Nat) (asg body : AC)
  | label (l : Nat)
  | goto (l : Nat)
  | bad (why : String)
  deriving Inhabited, Repr, DecidableEq

inductive Res where
  | tmp (t : Nat)
  | cell (t : Nat) (agg : Bool) (n : Nat)
  deriving Inhabited, Repr

inductive Ext where
  | lock | unlock | loadU32 | storeU32
  | valueOf (t G : Nat) | vlen (t G : Nat) | swapper (t e G f1 f2 f5 : Nat) | swap5 (e G : Nat)
  deriving Inhabited, Repr, DecidableEq

structure AFunc where
  results : List Res
  body : AC
  deriving Inhabited, Repr

inductive AF where
  | code (f : AFunc)
  | ext (e : Ext)
  deriving Inhabited, Repr

inductive Ex where
  | normal | exit (id : Nat) | goto (l : Nat) | ret
  deriving Inhabited, Repr, DecidableEq

/-- how a loop over a function stands -/
inductive LSt where
  | ready | busy | done
  deriving Inhabited, Repr, DecidableEq

/-- Objects. 'cells ro grp n z t': n cells; cell i is t's, or else the pattern z's. -/
inductive Obj where
  | cells (ro : Bool) (grp n : Nat) (z : List V) (t : T V)
  | map (es : List (V × V)) (bs : List Nat) (clk : Nat)
  | iter (m : Option Nat) (since : Nat) (seen : List Nat) (last : Nat)
  | dfr
  | loop (st : LSt) (pend : Option Ex) (tmps : T V) (ps : List Nat) (asg body : AC)
  | dead
  deriving Inhabited

structure St where
  next : Nat
  objs : T Obj
  grps : T (List Nat)
  deriving Inhabited

def cellOf (n : Nat) (z : List V) (t : T V) (i : Nat) : Option V :=
  if i < n then (match t.get i with | some v => some v | none => z[i % z.length]?) else none

def St.cell (σ : St) (id off : Nat) : Option V :=
  match σ.objs.get id with
  | some (.cells _ _ n z t) => cellOf n z t off
  | _ => none

def loadN (n : Nat) (z : List V) (t : T V) (off : Nat) : Nat → Option (List V)
  | 0 => some []
  | k + 1 => match cellOf n z t off with
    | some v => match loadN n z t (off + 1) k with
      | some r => some (v :: r)
      | none => none
    | none => none

def St.load (σ : St) (id off k : Nat) : Option (List V) :=
  match σ.objs.get id with
  | some (.cells _ _ n z t) => loadN n z t off k
  | _ => none

def putN (t : T V) (off : Nat) : List V → T V
  | [] => t
  | v :: r => putN (t.set off v) (off + 1) r

/-- cut the other members of a group down to size i -/
def cutOthers (x i : Nat) : List Nat → T Obj → T Obj
  | [], o => o
  | m :: r, o => cutOthers x i r (if m = x then o else match o.get m with
    | some (.cells ro g n z t) => o.set m (.cells ro g (min n i) z t)
    | _ => o)

/-- objects that are told no more -/
def killAll : List Nat → T Obj → T Obj
  | [], o => o
  | m :: r, o => killAll r (match o.get m with
    | some _ => o.set m .dead
    | none => o)

def St.store (σ : St) (id off : Nat) (vs : List V) : Option St :=
  match σ.objs.get id with
  | some (.cells false g n z t) =>
    if off + vs.length ≤ n ∧ vs.all V.flat = true then
      let o := σ.objs.set id (.cells false g n z (putN t off vs))
      some { σ with objs := if g = 0 then o else cutOthers id off ((σ.grps.get g).getD []) o }
    else none
  | _ => none

def St.new (σ : St) (o : Obj) : St := { σ with next := σ.next + 1, objs := σ.objs.set σ.next o }

def ofList (vs : List V) : T V := putN .nil 0 vs

def St.newCells (σ : St) (vs : List V) : St := σ.new (.cells false 0 vs.length [] (ofList vs))

/-! ## Evaluation -/
inductive Df where
  | call (g : FuncId) (xs : List V)
  | mark (a : Nat)
  | del (kk : Kk) (m k : V)
  deriving Inhabited, Repr
abbrev Dfs := List Df

structure Fr where
  tmps : T V
  defers : Dfs
  deriving Inhabited

def Opd.raw (tm : T V) : Opd → V
  | .tmp t => (tm.get t).getD .undef
  | .const v => v
  | .glob g => .ptr (some (g, 0))

/-- a slice of which more of its capacity is known, as a slice -/
def norm : V → V
  | .sliceC a l e _ => .slice (some a) l e
  | v => v

def Opd.eval (tm : T V) (x : Opd) : V := norm (x.raw tm)

def binI (op : Bn) (k : IntKind) (x y : Int) : Option V :=
  match op with
  | .add => some (.int k (k.wrap (x + y)))
  | .sub => some (.int k (k.wrap (x - y)))
  | .mul => some (.int k (k.wrap (x * y)))
  | .quo => if y = 0 then none else some (.int k (k.wrap (x.tdiv y)))
  | .rem => if y = 0 then none else some (.int k (x.tmod y))
  | .and => some (.int k (k.wrap (BitVec.ofInt k.bits x &&& BitVec.ofInt k.bits y).toNat))
  | .or => some (.int k (k.wrap (BitVec.ofInt k.bits x ||| BitVec.ofInt k.bits y).toNat))
  | .xor => some (.int k (k.wrap (BitVec.ofInt k.bits x ^^^ BitVec.ofInt k.bits y).toNat))
  | .andNot => some (.int k (k.wrap (BitVec.ofInt k.bits x &&& ~~~ BitVec.ofInt k.bits y).toNat))
  | .eql => some (.bool (x == y))
  | .neq => some (.bool (x != y))
  | .lss => some (.bool (decide (x < y)))
  | .leq => some (.bool (decide (x ≤ y)))
  | .gtr => some (.bool (decide (x > y)))
  | .geq => some (.bool (decide (x ≥ y)))
  | _ => none

def shiftI (op : Bn) (k : IntKind) (x y : Int) : Option V :=
  if y < 0 then none else
  match op with
  | .shl => some (.int k (k.wrap (x * 2 ^ (min y.toNat k.bits))))
  | .shr => some (.int k (x.fdiv (2 ^ (min y.toNat k.bits))))
  | _ => none

def bin (op : Bn) (x y : V) : Option V :=
  match x, y with
  | .int k a, .int k' b =>
    if op = .shl ∨ op = .shr then shiftI op k a b
    else if k = k' then binI op k a b else none
  | _, _ => none

def eqV : Ek → V → V → Option Bool
  | .bool, .bool a, .bool b => some (a == b)
  | .ptr, .ptr none, .ptr b => some b.isNone
  | .ptr, .ptr (some _), .ptr none => some false
  | .slice, .slice none _ _, .slice b _ _ => some b.isNone
  | .slice, .slice (some _) _ _, .slice none _ _ => some false
  | .map, .map none, .map b => some b.isNone
  | .map, .map (some _), .map none => some false
  | .func, .nilFunc, .nilFunc => some true
  | .func, .nilFunc, .func _ _ _ => some false
  | .func, .func _ _ _, .nilFunc => some false
  | .iface, .nilIface, .nilIface => some true
  | .iface, .nilIface, .iface _ _ => some false
  | .iface, .iface _ _, .nilIface => some false
  | _, _, _ => none

/-- cells of a plain type: true: an integer; false: a bool -/
def eqPlain : Bool → V → V → Option Bool
  | false, .bool a, .bool b => some (a == b)
  | true, .int k a, .int k' b => if k = k' then some (a == b) else none
  | _, _, _ => none

def eqCells : List Bool → List V → List V → Option Bool
  | [], [], [] => some true
  | k :: ks, a :: r, b :: s => match eqPlain k a b with
    | some false => some false
    | some true => eqCells ks r s
    | none => none
  | _, _, _ => none

def fillP (cells : List V) : List (Nat × Nat × V) → Option (List V)
  | [] => some cells
  | (off, size, v) :: r =>
    if v.cells.length = size ∧ off + size ≤ cells.length then fillP (cells.take off ++ v.cells ++ cells.drop (off + size)) r else none

def evalParts (tm : T V) (ps : List (Nat × Nat × Opd)) : List (Nat × Nat × V) := ps.map fun p => (p.1, p.2.1, p.2.2.eval tm)

def repeatZ (z : List V) : Nat → List V
  | 0 => []
  | n + 1 => z ++ repeatZ z n

def maxLenBytes : Nat := 2 ^ 47

/-- 'vs': the new cells, k elements of them (k > 0). -/
def appendL (σ : St) (esz bytes k : Nat) (vs : List V) (xa : Option (Nat × Nat)) (xl : Nat) : Option (V × St) :=
  if (xl + k) * bytes ≤ maxLenBytes ∧ xl + k ≤ maxLenBytes ∧ vs.all V.flat = true then
    match xa with
    | none => if xl = 0 then some (.slice (some (σ.next, 0)) k esz, σ.newCells vs) else none
    | some (id, off) =>
      if off = 0 then
        match σ.objs.get id with
        | some (.cells false g n z t) =>
          match loadN n z t 0 (xl * esz) with
          | none => none
          | some old =>
            some (.slice (some (σ.next, 0)) (xl + k) esz,
              { next := σ.next + 1
                objs := T.set
                  (killAll (if g = 0 then [] else ((σ.grps.get g).getD []).drop 8)
                    (cutOthers id (xl * esz) (if g = 0 then [] else (σ.grps.get g).getD []) (σ.objs.set id (.cells false (if g = 0 then σ.next else g) (min n (xl * esz)) z t))))
                  σ.next (.cells false (if g = 0 then σ.next else g) (old ++ vs).length [] (ofList (old ++ vs)))
                grps := σ.grps.set (if g = 0 then σ.next else g) (σ.next :: (if g = 0 then [id] else ((σ.grps.get g).getD []).take 8)) })
        | _ => none
      else none
  else none

def appendV (σ : St) (esz bytes : Nat) (x y : V) : Option (V × St) :=
  match x, y with
  | .slice xa xl xe, .slice ya yl _ =>
    if esz = 0 ∨ xe ≠ esz ∧ xa.isSome then none else
    if yl = 0 then some (.slice xa xl xe, σ) else
    match ya with
    | none => none
    | some (id, off) => match σ.load id off (yl * esz) with
      | none => none
      | some vs => appendL σ esz bytes yl vs xa xl
  | _, _ => none

def appendZV (σ : St) (esz bytes : Nat) (z : List V) (x n : V) : Option (V × St) :=
  match x, n with
  | .slice xa xl xe, .int _ i =>
    if esz = 0 ∨ xe ≠ esz ∧ xa.isSome then none else
    if 0 < i ∧ i ≤ 1000000000000 then appendL σ esz bytes i.toNat (repeatZ z i.toNat) xa xl else none
  | _, _ => none

def boundB (x : V) (y : Nat) : Option Nat :=
  match x with
  | .int _ i => if 0 ≤ i ∧ i ≤ y then some i.toNat else none
  | _ => none

def loB (lo : Option V) (h : Nat) : Option (Nat × Nat) :=
  match lo with
  | none => some (0, h)
  | some x => match boundB x h with
    | some l => some (l, h)
    | none => none

def sliceB (lo hi : Option V) (len cap : Nat) : Option (Nat × Nat) :=
  match hi with
  | none => loB lo len
  | some y => match boundB y cap with
    | none => none
    | some h => loB lo h

def keyEq : Kk → V → V → Option Bool
  | .int, .int k a, .int k' b => if k = k' then some (a == b) else none
  | .str, .str a, .str b => some (a == b)
  | .bool, .bool a, .bool b => some (a == b)
  | _, _, _ => none

def isKey : Kk → V → Bool
  | .int, .int _ _ => true
  | .str, .str _ => true
  | .bool, .bool _ => true
  | _, _ => false

/-- the entry's place and value -/
def mapFind (kk : Kk) (k : V) : List (V × V) → Nat → Option (Option (Nat × V))
  | [], _ => if isKey kk k then some none else none
  | (a, v) :: r, i => match keyEq kk k a with
    | some true => some (some (i, v))
    | some false => mapFind kk k r (i + 1)
    | none => none

def maxV (mx : Bool) : V → List V → Option V
  | a, [] => some a
  | .int k x, .int k' y :: r => if k = k' then maxV mx (.int k (if mx then (if y > x then y else x) else (if y < x then y else x))) r else none
  | _, _ => none

def sameN : List Nat → List Nat → Bool
  | [], [] => true
  | a :: r, b :: s => a == b && sameN r s
  | _, _ => false
/-- a slice, with what is known of its capacity -/
def capOf : V → Option (Option (Nat × Nat) × Nat × Nat × Nat)
  | .slice a l e => some (a, l, e, l)
  | .sliceC a l e c => some (some a, l, e, c)
  | _ => none
def mkC (a : Nat × Nat) (l e c : Nat) : V := if l = c then .slice (some a) l e else .sliceC a l e c

def tblGet (t : TypeId) : List (TypeId × FuncId) → Option FuncId
  | [] => none
  | (u, f) :: r => if u = t then some f else tblGet t r

def strBin (op : Bn) (a b : List Nat) : Option V := match op with
  | .add => if a.length + b.length ≤ 1000000000000 then some (.str (a ++ b)) else none
  | .eql => some (.bool (sameN a b))
  | .neq => some (.bool (!(sameN a b)))
  | _ => none

def bytesV : List V → Option (List Nat)
  | [] => some []
  | .int .u8 n :: r => if 0 ≤ n ∧ n < 256 then (match bytesV r with | some s => some (n.toNat :: s) | none => none) else none
  | _ => none

/-- The operations that look at no memory. -/
def pureOp (op : AOp) (tm : T V) : Option V :=
  match op with
  | .mv x => some (x.raw tm)
  | .pick c a b => match c.eval tm with | .bool t => some (if t then a.eval tm else b.eval tm) | _ => none
  | .build z ps => match fillP z (evalParts tm ps) with | some cs => some (.agg cs) | none => none
  | .nilCheck x => match x.eval tm with
    | .ptr (some a) => some (.ptr (some a))
    | .func f a b => some (.func f a b)
    | .yield l => some (.yield l)
    | _ => none
  | .bin op x y => bin op (x.eval tm) (y.eval tm)
  | .eq1 neg k x y => match eqV k (x.eval tm) (y.eval tm) with | some b => some (.bool (if neg then !b else b)) | none => none
  | .eqs neg ks x y => match x.eval tm, y.eval tm with
    | .agg a, .agg b => match eqCells ks a b with | some r => some (.bool (if neg then !r else r)) | none => none
    | _, _ => none
  | .neg x => match x.eval tm with | .int k n => some (.int k (k.wrap (0 - n))) | _ => none
  | .not x => match x.eval tm with | .bool b => some (.bool (!b)) | _ => none
  | .compl x => match x.eval tm with | .int k n => binI .xor k (if k.signed then -1 else k.max) n | _ => none
  | .conv k x => match x.eval tm with | .int _ n => some (.int k (k.wrap n)) | _ => none
  | .sliceOf esz x lo hi => match x.eval tm with
    | .slice a len e => match sliceB (lo.map (·.eval tm)) (hi.map (·.eval tm)) len len with
      | some (l, h) => match a with
        | none => some (.slice none (h - l) e)
        | some (id, off) => if e = esz then some (.slice (some (id, off + l * esz)) (h - l) e) else none
      | none => none
    | _ => none
  | .part agg off n x => match x.eval tm with
    | .agg cs => if agg then (if off + n ≤ cs.length then some (.agg ((cs.drop off).take n)) else none) else cs[off]?
    | _ => none
  | .faddr off x => match x.eval tm with | .ptr (some (id, o)) => some (.ptr (some (id, o + off))) | _ => none
  | .iaddrS esz x i => match x.eval tm, i.eval tm with
    | .slice (some (id, off)) len _, .int _ n => if 0 ≤ n ∧ n < len then some (.ptr (some (id, off + n.toNat * esz))) else none
    | _, _ => none
  | .iaddrA len esz x i => match x.eval tm, i.eval tm with
    | .ptr (some (id, off)), .int _ n => if 0 ≤ n ∧ n < len then some (.ptr (some (id, off + n.toNat * esz))) else none
    | _, _ => none
  | .indexA len esz agg x i => match x.eval tm, i.eval tm with
    | .agg cs, .int _ n => if 0 ≤ n ∧ n < len then
        (if agg then (if n.toNat * esz + esz ≤ cs.length then some (.agg ((cs.drop (n.toNat * esz)).take esz)) else none) else cs[n.toNat * esz]?) else none
    | _, _ => none
  | .indexS x i => match x.eval tm, i.eval tm with
    | .str s, .int _ n => if 0 ≤ n then (match s[n.toNat]? with | some b => some (.int .u8 b) | none => none) else none
    | _, _ => none
  | .extract x i => match x.eval tm with | .tuple vs => vs[i]? | _ => none
  | .lenS x => match x.eval tm with
    | .slice _ n _ => some (.int .i64 n)
    | _ => none
  | .lenArr n => some (.int .i64 n)
  | .maxmin mx xs => match xs.map (·.eval tm) with | [] => none | a :: r => maxV mx a r
  | .makeFunc f first cap => some (.func f (first.map (·.eval tm)) (cap.map (·.eval tm)))
  | .sBin op x y => match x.eval tm, y.eval tm with
    | .str a, .str b => strBin op a b
    | _, _ => none
  | .mkIface t x => some (.iface t (x.eval tm))
  | .sliceOfC esz x lo hi => match capOf (x.raw tm) with
    | some (a, len, e, c) => match sliceB (lo.map (·.eval tm)) (hi.map (·.eval tm)) len c with
      | some (l, h) => match a with
        | none => some (.slice none (h - l) e)
        | some (id, off) => if e = esz then some (mkC (id, off + l * esz) (h - l) e (c - l)) else none
      | none => none
    | none => none
  | .mval name x => match x.eval tm with
    | .iface t v => some (.mval name t v)
    | _ => none
  | .nilCheckM name tbl x => match x.eval tm with
    | .mval nm t v => if nm = name ∧ (tblGet t tbl).isSome = true then some (.mval nm t v) else none
    | _ => none
  | .slice3 esz x lo hi mx => match x.eval tm with
    | .slice (some (id, off)) len e => if e = esz then (match boundB (mx.eval tm) len with
      | none => none
      | some m => match boundB (hi.eval tm) m with
        | none => none
        | some h => match boundB (lo.eval tm) h with
          | none => none
          | some l => some (.slice (some (id, off + l * esz)) (h - l) e)) else none
    | _ => none
  | _ => none

/-- the entry of a stamp -/
def findB (b : Nat) : List Nat → List (V × V) → Option (V × V)
  | c :: r, e :: s => if c = b then some e else findB b r s
  | _, _ => none

/-- The operations that look at memory and leave it. -/
def readOp (op : AOp) (tm : T V) (σ : St) : Option V :=
  match op with
  | .load agg n a => match a.eval tm with
    | .ptr (some (id, off)) => if agg then (match σ.load id off n with | some vs => some (.agg vs) | none => none) else σ.cell id off
    | _ => none
  | .sliceArr n esz x lo hi => match x.eval tm with
    | .ptr (some (id, off)) => match sliceB (lo.map (·.eval tm)) (hi.map (·.eval tm)) n n with
      | some (l, h) => if l = 0 ∧ h = n then (match σ.objs.get id with
        | some (.cells _ _ k _ _) => if off + n * esz ≤ k then some (.slice (some (id, off)) n esz) else none
        | _ => none) else none
      | none => none
    | _ => none
  | .lenM x => match x.eval tm with
    | .map none => some (.int .i64 0)
    | .map (some r) => match σ.objs.get r with | some (.map es bs ck) => some (.int .i64 es.length) | _ => none
    | _ => none
  | .eqP neg x y => match x.eval tm, y.eval tm with
    | .ptr (some (i, a)), .ptr (some (j, b)) =>
      if i = j then some (.bool (if neg then !(a == b) else a == b))
      else (match σ.objs.get i, σ.objs.get j with
        | some (.cells false 0 _ _ _), some (.cells false _ _ _ _) => some (.bool neg)
        | _, _ => none)
    | u, v => match eqV .ptr u v with | some b => some (.bool (if neg then !b else b)) | none => none
  | .toStr x => match x.eval tm with
    | .slice none _ _ => some (.str [])
    | .slice (some (id, off)) len _ => if len = 0 then some (.str []) else (match σ.load id off len with
      | some vs => match bytesV vs with | some s => some (.str s) | none => none
      | none => none)
    | _ => none
  | .entryM x => match x.eval tm with
    | .ptr (some (r, 0)) => match σ.objs.get r with
      | some (.iter (some m) _ seen last) => match σ.objs.get m with
        | some (.map es bs ck) => match seen.getLast? with
          | some b => if ck = last then (match findB b bs es with
            | some (k, v) => some (.tuple [k, v])
            | none => none) else none
          | none => none
        | _ => none
      | _ => none
    | _ => none
  | .lookup kk z ok m k =>
    match (match m.eval tm with
      | .map none => some []
      | .map (some r) => match σ.objs.get r with | some (.map es bs ck) => some es | _ => none
      | _ => none : Option (List (V × V))) with
    | none => none
    | some es => match mapFind kk (k.eval tm) es 0 with
      | none => none
      | some r => match r with
        | none => some (if ok then .tuple [z, .bool false] else z)
        | some (_, v) => some (if ok then .tuple [v, .bool true] else v)
  | _ => none

/-- an entry leaves a map -/
def delV (kk : Kk) (m k : V) (σ : St) : Option St := match m with
  | .map (some r) => match σ.objs.get r with
    | some (.map es bs ck) => match mapFind kk k es 0 with
      | none => none
      | some none => some { σ with objs := σ.objs.set r (.map es bs ck) }
      | some (some (i, _)) => some { σ with objs := σ.objs.set r (.map (es.eraseIdx i) (bs.eraseIdx i) ck) }
    | _ => none
  | _ => none

/-- append within what is known of the capacity -/
def appendIn (σ : St) (esz bytes : Nat) (x y : V) : Option (V × St) := match x, y with
  | .sliceC a l e c, .slice _ 0 _ => if e = esz ∧ 0 < esz then some (.sliceC a l e c, σ) else none
  | .sliceC (id, off) l e c, .slice (some (jd, joff)) k _ =>
    if e = esz ∧ 0 < esz ∧ 0 < k ∧ l + k ≤ c ∧ (l + k) * bytes ≤ maxLenBytes ∧ l + k ≤ maxLenBytes then
      (match σ.load jd joff (k * esz) with
      | some vs => match σ.store id (off + l * esz) vs with
        | some σ => some (mkC (id, off) (l + k) e c, σ)
        | none => none
      | none => none) else none
  | _, _ => none

/-- The operations that change memory and enter no function. -/
def writeOp (op : AOp) (tm : T V) (σ : St) : Option (V × St) :=
  match op with
  | .alloc z => some (.ptr (some (σ.next, 0)), σ.new (.cells false 0 z.length z .nil))
  | .box n x => if (x.eval tm).cells.length = n then some (.ptr (some (σ.next, 0)), σ.newCells (x.eval tm).cells) else none
  | .mkSlice len esz z ps => match fillP (repeatZ z len) (evalParts tm ps) with
    | some cs => some (.slice (some (σ.next, 0)) len esz, σ.newCells cs)
    | none => none
  | .store n a x => match a.eval tm with
    | .ptr (some (id, off)) => if (x.eval tm).cells.length = n then (match σ.store id off (x.eval tm).cells with | some σ => some (.undef, σ) | none => none) else none
    | _ => none
  | .makeSlice esz bytes z l c => match l.eval tm, c.eval tm with
    | .int _ a, .int _ b =>
      if 0 ≤ a ∧ a ≤ b ∧ b.toNat * bytes ≤ maxLenBytes ∧ b < 9223372036854775808 then
        some (.slice (some (σ.next, 0)) a.toNat esz, σ.new (.cells false 0 (b.toNat * esz) z .nil))
      else none
    | _, _ => none
  | .append esz bytes x y => appendV σ esz bytes (x.eval tm) (y.eval tm)
  | .appendZ esz bytes z x n => appendZV σ esz bytes z (x.eval tm) (n.eval tm)
  | .appendC esz bytes x y => match appendIn σ esz bytes (x.raw tm) (y.eval tm) with
    | some r => some r
    | none => appendV σ esz bytes (x.eval tm) (y.eval tm)
  | .copy esz x y => match x.eval tm, y.eval tm with
    | .slice xa xl _, .slice ya yl _ =>
      match (if min yl xl * esz = 0 then some [] else match ya with | none => none | some (id, off) => σ.load id off (min yl xl * esz) : Option (List V)), xa with
      | some [], _ => some (.int .i64 (min yl xl : Nat), σ)
      | some vs, some (id, off) => match σ.store id off vs with | some σ => some (.int .i64 (min yl xl : Nat), σ) | none => none
      | _, _ => none
    | _, _ => none
  | .clearS z x => match x.eval tm with
    | .slice none _ _ => some (.tuple [], σ)
    | .slice (some (id, off)) n _ => if n = 0 then some (.tuple [], σ) else match σ.store id off (repeatZ z n) with | some σ => some (.tuple [], σ) | none => none
    | _ => none
  | .clearM x => match x.eval tm with
    | .map none => some (.tuple [], σ)
    | .map (some r) => match σ.objs.get r with | some (.map _ _ ck) => some (.tuple [], { σ with objs := σ.objs.set r (.map [] [] ck) }) | _ => none
    | _ => none
  | .makeMap => some (.map (some σ.next), σ.new (.map [] [] 0))
  | .strish x => match x.eval tm with
    | .slice (some (id, off)) len e => match σ.objs.get id with
      | some (.cells false 0 n z t) => some (.slice (some (id, off)) len e, { σ with objs := σ.objs.set id (.cells true 0 n z t) })
      | _ => none
    | _ => none
  | .toBytes x => match x.eval tm with
    | .str s => some (.slice (some (σ.next, 0)) s.length 1, σ.new (.cells true 0 s.length [] (ofList (s.map fun b => V.int .u8 (Int.ofNat b)))))
    | _ => none
  | .rangeM x => match x.eval tm with
    | .map none => some (.ptr (some (σ.next, 0)), σ.new (.iter none 0 [] 0))
    | .map (some r) => match σ.objs.get r with
      | some (.map _ _ ck) => some (.ptr (some (σ.next, 0)), σ.new (.iter (some r) ck [] ck))
      | _ => none
    | _ => none
  | .mapUpdate kk m k v => match m.eval tm with
    | .map (some r) => match σ.objs.get r with
      | some (.map es bs ck) => match mapFind kk (k.eval tm) es 0 with
        | none => none
        | some none => some (.undef, { σ with objs := σ.objs.set r (.map (es ++ [(k.eval tm, v.eval tm)]) (bs ++ [ck]) (ck + 1)) })
        | some (some (i, _)) => some (.undef, { σ with objs := σ.objs.set r (.map (es.set i (k.eval tm, v.eval tm)) bs ck) })
      | _ => none
    | _ => none
  | .delete kk m k => match delV kk (m.eval tm) (k.eval tm) σ with
    | some σ => some (.tuple [], σ)
    | none => none
  | _ => none

def isPure : AOp → Bool
  | .mv _ | .pick .. | .build .. | .nilCheck _ | .bin .. | .eq1 .. | .eqs .. | .neg _ | .not _ | .compl _ | .conv .. | .sliceOf .. | .part .. | .faddr ..
  | .iaddrS .. | .iaddrA .. | .indexA .. | .indexS .. | .extract .. | .lenS _ | .lenArr _ | .maxmin .. | .makeFunc .. | .sBin .. | .slice3 .. | .mkIface .. | .mval .. | .nilCheckM .. | .sliceOfC .. => true
  | _ => false

def isRead : AOp → Bool
  | .load .. | .lenM _ | .lookup .. | .sliceArr .. | .entryM _ | .toStr _ | .eqP .. => true
  | _ => false

/-- what is called: a function, or a round of a loop over a function -/
inductive Ce where
  | fn (g : FuncId)
  | rd (l : Nat)
  deriving Inhabited, Repr

abbrev CallT := Ce → List V → St → Option (V × St)
/-- calls whose outcome may hang on an order that is left open: all outcomes -/
abbrev CallN := Ce → List V → St → Option (List (V × St))

def detC (call : CallN) : CallT := fun g xs σ => match call g xs σ with
  | some [r] => some r
  | _ => none

/-- for all of them, what comes of each, in one row -/
def allL {α β : Type} (f : α → Option (List β)) : List α → Option (List β)
  | [] => some []
  | x :: l => match f x with
    | none => none
    | some o => match l with
      | [] => some o
      | y :: l' => match allL f (y :: l') with
        | some q => some (o ++ q)
        | none => none

def allO {α β : Type} (r : Option (List α)) (f : α → Option (List β)) : Option (List β) := match r with
  | some l => allL f l
  | none => none

/-- One operation: what it yields, the deferred calls and the memory behind it. -/
def evalOp (call : CallT) (op : AOp) (tm : T V) (ds : Dfs) (σ : St) : Option (V × Dfs × St) :=
  if isPure op then (match pureOp op tm with | some v => some (v, ds, σ) | none => none)
  else if isRead op then (match readOp op tm σ with | some v => some (v, ds, σ) | none => none)
  else match op with
  | .call g xs => match call (.fn g) (xs.map (·.eval tm)) σ with
    | some (v, σ) => some (v, ds, σ)
    | none => none
  | .callv g xs => match g.eval tm with
    | .func g first cap => match call (.fn g) (first ++ xs.map (·.eval tm) ++ cap) σ with
      | some (v, σ) => some (v, ds, σ)
      | none => none
    | .yield l => match call (.rd l) (xs.map (·.eval tm)) σ with
      | some (v, σ) => some (v, ds, σ)
      | none => none
    | _ => none
  | .invoke tbl x xs => match x.eval tm with
    | .iface t v => match tblGet t tbl with
      | some f => match call (.fn f) (v :: xs.map (·.eval tm)) σ with
        | some (u, σ) => some (u, ds, σ)
        | none => none
      | none => none
    | _ => none
  | .deferD kk m k => some (.undef, .del kk (m.eval tm) (k.eval tm) :: ds, σ)
  | .defer g xs => some (.undef, .call g (xs.map (·.eval tm)) :: ds, σ)
  | .deferv g xs => match g.eval tm with
    | .func g first cap => some (.undef, .call g (first ++ xs.map (·.eval tm) ++ cap) :: ds, σ)
    | _ => none
  | op => match writeOp op tm σ with | some (v, σ) => some (v, ds, σ) | none => none

def putD (tm : T V) : Option Nat → V → T V
  | some d, v => tm.set d v
  | none, _ => tm

def wantedA (g : Option (Nat × Bool)) (tm : T V) : Bool :=
  match g with
  | none => true
  | some (t, b) => match tm.get t with
    | some (.bool c) => c == b
    | _ => false

/-- what an iterator over a map may tell next: the places of the entries that are left; none: something the machine does not speak of -/
def iterLeft (bs : List Nat) (since : Nat) (seen : List Nat) (last : Nat) : Option (List Nat) :=
  if since ≤ last ∧ bs.all (fun b => decide (b < since)) = true then
    some ((List.range bs.length).filter fun i => match bs[i]? with | some b => !seen.contains b | none => false)
  else none

/-- one step of an iterator over a map: every outcome -/
def nextN (it : V) (σ : St) : Option (List (V × St)) :=
  match it with
  | .ptr (some (r, 0)) => match σ.objs.get r with
    | some (.iter none _ _ _) => some [(.tuple [.bool false], σ)]
    | some (.iter (some m) since seen last) => match σ.objs.get m with
      | some (.map es bs ck) => match iterLeft bs since seen last with
        | none => none
        | some [] => some [(.tuple [.bool false], σ)]
        | some l => allL (fun i => match es[i]?, bs[i]? with
          | some (k, v), some b => some [(.tuple [.bool true, k, v], { σ with objs := σ.objs.set r (.iter (some m) since (seen ++ [b]) ck) })]
          | _, _ => none) l
      | _ => none
    | _ => none
  | _ => none

/-- one operation: every outcome -/
def evalN (call : CallN) (op : AOp) (tm : T V) (ds : Dfs) (σ : St) : Option (List (V × Dfs × St)) :=
  match op with
  | .call g xs => match call (.fn g) (xs.map (·.eval tm)) σ with
    | some l => some (l.map fun r => (r.1, ds, r.2))
    | none => none
  | .callv g xs => match g.eval tm with
    | .func g first cap => match call (.fn g) (first ++ xs.map (·.eval tm) ++ cap) σ with
      | some l => some (l.map fun r => (r.1, ds, r.2))
      | none => none
    | .yield l => match call (.rd l) (xs.map (·.eval tm)) σ with
      | some l => some (l.map fun r => (r.1, ds, r.2))
      | none => none
    | _ => none
  | .invoke tbl x xs => match x.eval tm with
    | .iface t v => match tblGet t tbl with
      | some f => match call (.fn f) (v :: xs.map (·.eval tm)) σ with
        | some l => some (l.map fun r => (r.1, ds, r.2))
        | none => none
      | none => none
    | _ => none
  | .nextM x => match nextN (x.eval tm) σ with
    | some l => some (l.map fun r => (r.1, ds, r.2))
    | none => none
  | op => match evalOp (detC call) op tm ds σ with
    | some r => some [r]
    | none => none

/-- a region in the order of its text -/
def runOps (call : CallN) : List AOper → Fr → St → Option (List (Fr × St))
  | [], fr, σ => some [(fr, σ)]
  | o :: r, fr, σ =>
    if wantedA o.guard fr.tmps then
      allO (evalN call o.op fr.tmps fr.defers σ) fun q => runOps call r ⟨putD fr.tmps o.dst q.1, q.2.1⟩ q.2.2
    else runOps call r ⟨putD fr.tmps o.dst .undef, fr.defers⟩ σ

/-! ### a region that draws -/
def isAlloc : AOp → Bool
  | .alloc _ => true
  | _ => false

def isEff (op : AOp) : Bool := !isPure op && !isRead op && !isAlloc op

/-- the plain new variables are made first -/
def hoist : List DOper → St → St
  | [], σ => σ
  | d :: r, σ => match d.o.op with
    | .alloc z => hoist r (σ.new (.cells false 0 z.length z .nil))
    | _ => hoist r σ

/-- In the order of the text; 'h': the next variable that was made first. What is handed back: the frame, and, for each operation, the frame before it and what it put; and the memory behind each effect. -/
def runD (call : CallT) : List DOper → Nat → Fr → St → Option (Fr × List (T V × V) × List (Dfs × St))
  | [], _, fr, _ => some (fr, [], [])
  | d :: r, h, fr, σ =>
    if wantedA d.o.guard fr.tmps then
      if isAlloc d.o.op then
        match runD call r (h + 1) ⟨putD fr.tmps d.o.dst (.ptr (some (h, 0))), fr.defers⟩ σ with
        | some (f', tr, es) => some (f', (fr.tmps, .ptr (some (h, 0))) :: tr, es)
        | none => none
      else match evalOp call d.o.op fr.tmps fr.defers σ with
        | some (v, ds, σ') => match runD call r h ⟨putD fr.tmps d.o.dst v, ds⟩ σ' with
          | some (f', tr, es) => some (f', (fr.tmps, v) :: tr, if isEff d.o.op then (ds, σ') :: es else es)
          | none => none
        | none => none
    else if isAlloc d.o.op then none
    else match runD call r h ⟨putD fr.tmps d.o.dst .undef, fr.defers⟩ σ with
      | some (f', tr, es) => some (f', (fr.tmps, .undef) :: tr, if isEff d.o.op then (fr.defers, σ) :: es else es)
      | none => none

/-- at each epoch from lo to hi the read tells v -/
def checkR (op : AOp) (tm : T V) (v : V) (lo hi : Nat) : Nat → List (Dfs × St) → Bool
  | _, [] => true
  | m, (_, σ) :: r => (if lo ≤ m ∧ m ≤ hi then (match readOp op tm σ with | some u => sameV u v | none => false) else true) && checkR op tm v lo hi (m + 1) r

/-- the variable made first is as it was made, at each epoch up to hi -/
def checkH (h : Nat) (z : List V) (hi : Nat) : Nat → List (Dfs × St) → Bool
  | _, [] => true
  | m, (_, σ) :: r => (if m ≤ hi then (match σ.objs.get h with
    | some (.cells false 0 n z' .nil) => n == z.length && sameL z' z
    | _ => false) else true) && checkH h z hi (m + 1) r

def checkD (es : List (Dfs × St)) : List DOper → Nat → List (T V × V) → Bool
  | [], _, _ => true
  | d :: r, h, (tm, v) :: tr =>
    (if isRead d.o.op && wantedA d.o.guard tm then checkR d.o.op tm v d.lo d.hi 0 es else true) &&
    (match d.o.op with
     | .alloc z => checkH h z d.hi 0 es && checkD es r (h + 1) tr
     | _ => checkD es r h tr)
  | _ :: _, _, [] => false

def lastSt (σ : St) : List (Dfs × St) → St
  | [] => σ
  | (_, σ') :: r => lastSt σ' r

def runDraw (call : CallT) (ops : List DOper) (fr : Fr) (σ : St) : Option (Fr × St) :=
  match runD call ops σ.next fr (hoist ops σ) with
  | some (fr', tr, es) => if checkD ((fr.defers, hoist ops σ) :: es) ops σ.next tr then some (fr', lastSt (hoist ops σ) es) else none
  | none => none

def findLabel : AC → Nat → Option AC
  | .seq a b, l => match findLabel a l with
    | some r => some (.seq r b)
    | none => findLabel b l
  | .label l', l => if l' == l then some .skip else none
  | _, _ => none

def readResults (tm : T V) (σ : St) : List Res → Option (List V)
  | [] => some []
  | .tmp t :: r => match readResults tm σ r with | some l => some ((tm.get t).getD .undef :: l) | none => none
  | .cell t agg n :: r => match (tm.get t).getD .undef with
    | .ptr (some (id, off)) => match readResults tm σ r with
      | none => none
      | some l => if agg then (match σ.load id off n with | some vs => some (.agg vs :: l) | none => none) else (match σ.cell id off with | some v => some (v :: l) | none => none)
    | _ => none

def retV : List V → V
  | [v] => v
  | vs => .tuple vs

def extCall (e : Ext) (xs : List V) (σ : St) : Option (V × St) :=
  match e, xs with
  | .lock, [.ptr (some (id, off))] => match σ.cell id off with
    | some (.int .i32 0) => (σ.store id off [.int .i32 1]).map (.tuple [], ·)
    | _ => none
  | .unlock, [.ptr (some (id, off))] => match σ.cell id off with
    | some (.int .i32 1) => (σ.store id off [.int .i32 0]).map (.tuple [], ·)
    | _ => none
  | .loadU32, [.ptr (some (id, off))] => match σ.cell id off with
    | some (.int .u32 n) => some (.int .u32 n, σ)
    | _ => none
  | .storeU32, [.ptr (some (id, off)), .int .u32 n] => match σ.cell id off with
    | some (.int .u32 _) => (σ.store id off [.int .u32 n]).map (.tuple [], ·)
    | _ => none
  | .valueOf t G, [.iface t' (.slice a n e)] =>
    if t' = t then some (.agg [.ptr (some (G, t)), .ptr (some (σ.next, 0)), .int .u64 151], σ.newCells [.slice a n e]) else none
  | .vlen t G, [.agg [.ptr (some (g, t')), .ptr (some (id, off)), .int .u64 151]] =>
    if g = G ∧ t' = t then (match σ.cell id off with
      | some (.slice _ n _) => some (.int .i64 n, σ)
      | _ => none) else none
  | .swapper t e G f1 f2 f5, [.iface t' (.slice a n z)] =>
    if t' = t then some (if n = 0 then .func f1 [] [] else if n = 1 then .func f2 [] [] else .func f5 [] [.slice a n z, .ptr (some (G, e))], σ) else none
  | .swap5 e G, [.int .i64 i, .int .i64 j, .slice (some (id, off)) n _, .ptr (some (g, e'))] =>
    if g = G ∧ e' = e ∧ 0 ≤ i ∧ i < n ∧ 0 ≤ j ∧ j < n then
      (match σ.cell id (off + i.toNat), σ.cell id (off + j.toNat) with
      | some x, some y => match σ.store id (off + i.toNat) [y] with
        | some σ1 => match σ1.store id (off + j.toNat) [x] with
          | some σ2 => some (.tuple [], σ2)
          | none => none
        | none => none
      | _, _ => none) else none
  | _, _ => none

def enter (xs : List V) : Fr := ⟨ofList xs, []⟩

/-! ### what is known of calls already -/
def sameT {α : Type} (f : α → α → Bool) : T α → T α → Bool
  | .nil, .nil => true
  | .node v l r, .node v' l' r' => (match v, v' with | none, none => true | some x, some y => f x y | _, _ => false) && sameT f l l' && sameT f r r'
  | _, _ => false
def sameE : List (V × V) → List (V × V) → Bool
  | [], [] => true
  | (a, b) :: r, (c, d) :: s => sameV a c && sameV b d && sameE r s
  | _, _ => false
def sameO : Obj → Obj → Bool
  | .cells a g n z t, .cells a' g' n' z' t' => a == a' && g == g' && n == n' && sameL z z' && sameT sameV t t'
  | .map e b c, .map e' b' c' => sameE e e' && sameN b b' && c == c'
  | .iter m s e l, .iter m' s' e' l' => m == m' && s == s' && sameN e e' && l == l'
  | .dfr, .dfr => true
  | .loop st pe tm ps a b, .loop st' pe' tm' ps' a' b' => decide (st = st') && decide (pe = pe') && sameT sameV tm tm' && sameN ps ps' && decide (a = a') && decide (b = b')
  | .dead, .dead => true
  | _, _ => false
def sameSt (a b : St) : Bool := a.next == b.next && sameT sameO a.objs b.objs && sameT sameN a.grps b.grps

def sameDs : Dfs → Dfs → Bool
  | [], [] => true
  | .call f a :: r, .call g b :: s => f == g && sameL a b && sameDs r s
  | .mark a :: r, .mark b :: s => a == b && sameDs r s
  | .del k a b :: r, .del l c d :: s => decide (k = l) && sameV a c && sameV b d && sameDs r s
  | _, _ => false
def sameFr (a b : Fr) : Bool := sameT sameV a.tmps b.tmps && sameDs a.defers b.defers

/-- a loop, at the head of one of its rounds, and where it ends -/
structure LMemo where
  b : AC
  fr : Fr
  σ : St
  ex : Ex
  fr' : Fr
  σ' : St

def loopGet : List LMemo → AC → Fr → St → Option (Ex × Fr × St)
  | [], _, _, _ => none
  | m :: r, b, fr, σ => if m.σ.next == σ.next && (sameFr m.fr fr && (sameSt m.σ σ && decide (m.b = b))) then some (m.ex, m.fr', m.σ') else loopGet r b fr σ

def putArgs : T V → List Nat → List V → Option (T V)
  | tm, [], [] => some tm
  | tm, p :: ps, x :: xs => putArgs (tm.set p x) ps xs
  | _, _, _ => none

/-- behind the call of the function that is ranged over -/
def endLoopA (l : Nat) (fr : Fr) (σ : St) : Option (List (Ex × Fr × St)) :=
  match σ.objs.get l with
  | some (.loop .ready none _ _ _ _) => some [(.normal, fr, { σ with objs := σ.objs.set l .dead })]
  | some (.loop .done (some e) _ _ _ _) => some [(e, fr, { σ with objs := σ.objs.set l .dead })]
  | _ => none

def exec (call : CallN) (L : List LMemo) : Nat → AC → Fr → St → Option (List (Ex × Fr × St))
  | 0, _, _, _ => none
  | f + 1, c, fr, σ => match c with
    | .skip => some [(.normal, fr, σ)]
    | .region ops => match runOps call ops fr σ with
      | some l => some (l.map fun r => (.normal, r.1, r.2))
      | none => none
    | .regionR d ops => match runOps call ops ⟨putD fr.tmps d .nilIface, fr.defers⟩ σ with
      | some l => some (l.map fun r => (.normal, r.1, r.2))
      | none => none
    | .draw ops => match runDraw (detC call) ops fr σ with | some (fr, σ) => some [(.normal, fr, σ)] | none => none
    | .seq a b => allO (exec call L f a fr σ) fun r => match r with
      | (.normal, fr, σ) => exec call L f b fr σ
      | r => some [r]
    | .cond c a b => match c.eval fr.tmps with
      | .bool t => if t then exec call L f a fr σ else exec call L f b fr σ
      | _ => none
    | .block id b => allO (exec call L f b fr σ) fun r => match r with
      | (.exit i, fr, σ) => if i = id then some [(.normal, fr, σ)] else some [(.exit i, fr, σ)]
      | r => some [r]
    | .loop b => match loopGet L b fr σ with
      | some r => some [r]
      | none => allO (exec call L f b fr σ) fun r => match r with
        | (.normal, fr, σ) => exec call L f (.loop b) fr σ
        | r => some [r]
    | .exit id => some [(.exit id, fr, σ)]
    | .ret => some [(.ret, fr, σ)]
    | .scope b => allO (exec call L f b fr σ) fun r => match r with
      | (.goto l, fr, σ) => scopeLoop (exec call L f) b f l fr σ
      | r => some [r]
    | .label _ => some [(.normal, fr, σ)]
    | .goto l => some [(.goto l, fr, σ)]
    | .rangeFunc g ps asg body => match g.eval fr.tmps with
      | .func g first cap =>
        allO (call (.fn g) (first ++ [.yield (σ.next + 1)] ++ cap) ((σ.new .dfr).new (.loop .ready none fr.tmps ps asg body))) fun r =>
          endLoopA (σ.next + 1) ⟨fr.tmps, .mark σ.next :: fr.defers⟩ r.2
      | _ => none
    | .bad _ => none
where
  scopeLoop (run : AC → Fr → St → Option (List (Ex × Fr × St))) (b : AC) : Nat → Nat → Fr → St → Option (List (Ex × Fr × St))
    | 0, _, _, _ => none
    | n + 1, l, fr, σ => match findLabel b l with
      | none => some [(.goto l, fr, σ)]
      | some r => allO (run r fr σ) fun r => match r with
        | (.goto l, fr, σ) => scopeLoop run b n l fr σ
        | r => some [r]

def runDefers (call : CallT) : Dfs → St → Option St
  | [], σ => some σ
  | .call g xs :: r, σ => match call (.fn g) xs σ with
    | some (_, σ) => runDefers call r σ
    | none => none
  | .mark a :: r, σ => match σ.objs.get a with
    | some .dfr => runDefers call r { σ with objs := σ.objs.set a .dead }
    | _ => none
  | .del kk m k :: r, σ => match delV kk m k σ with
    | some σ => runDefers call r σ
    | none => none

structure Memo where
  g : FuncId
  xs : List V
  σ : St
  v : V
  σ' : St

def memoGet : List Memo → FuncId → List V → St → Option (V × St)
  | [], _, _, _ => none
  | m :: r, g, xs, σ => if m.g == g && (m.σ.next == σ.next && (sameL m.xs xs && sameSt m.σ σ)) then some (m.v, m.σ') else memoGet r g xs σ

/-- of the calls, those that may be laid by -/
def defOnly (Γ : T AF) (call : CallN) : CallT := fun g xs σ => match g with
  | .fn h => (match Γ.get h with
    | some (.code _) => detC call (.fn h) xs σ
    | some (.ext .unlock) => detC call (.fn h) xs σ
    | _ => none)
  | .rd _ => none

/-- behind a function's code -/
def leaveF (call : CallT) (res : List Res) (r : Ex × Fr × St) : Option (List (V × St)) :=
  if r.1 = .normal ∨ r.1 = .ret then
    match runDefers call r.2.1.defers r.2.2 with
    | some σ => match readResults r.2.1.tmps σ res with | some vs => some [(retV vs, σ)] | none => none
    | none => none
  else none

/-- behind a round -/
def endRoundA (l : Nat) (r : Ex × Fr × St) : Option (List (V × St)) :=
  match r.2.2.objs.get l with
  | some (.loop .busy _ tm ps asg body) =>
    some [(.bool (decide (r.1 = .normal)), { r.2.2 with objs := r.2.2.objs.set l (.loop (if r.1 = .normal then .ready else .done) (if r.1 = .normal then none else some r.1) tm ps asg body) })]
  | _ => none

/-- behind the assignments to a loop's left sides -/
def beginRoundA (l : Nat) (run : Fr → St → Option (List (Ex × Fr × St))) (r : Ex × Fr × St) : Option (List (V × St)) :=
  match r with
  | (.normal, fr, σ) => match σ.objs.get l with
    | some (.loop .ready pe tm ps asg body) => allO (run fr { σ with objs := σ.objs.set l (.loop .busy pe tm ps asg body) }) (endRoundA l)
    | _ => none
  | _ => none

def callF (Γ : T AF) (M : List Memo) (L : List LMemo) : Nat → CallN
  | 0, _, _, _ => none
  | f + 1, c, xs, σ => match c with
    | .fn g => (match memoGet M g xs σ with
      | some r => some [r]
      | none => match Γ.get g with
        | some (.ext e) => (match extCall e xs σ with
          | some r => some [r]
          | none => none)
        | some (.code fn) => allO (exec (callF Γ M L f) L f fn.body (enter xs) σ) (leaveF (defOnly Γ (callF Γ M L f)) fn.results)
        | none => none)
    | .rd l => (match σ.objs.get l with
      | some (.loop .ready _ tm ps asg body) => (match putArgs tm ps xs with
        | some tm => allO (exec (callF Γ M L f) L f asg ⟨tm, []⟩ σ) (beginRoundA l (exec (callF Γ M L f) L f body))
        | none => none)
      | _ => none)
end
end AM
