import Derived.Test.YtdnefddmghhgpaaGreatDoorA7Def
namespace AM
open Go

mutual
def toV : Value → Option V
  | .bool b => some (.bool b)
  | .int k n => some (.int k n)
  | .string s => some (.str (s.data.toList.map (·.toNat)))
  | .pointer none => some (.ptr none)
  | .slice none l c => if l = 0 ∧ c = 0 then some (.slice none 0 0) else none
  | .map none => some (.map none)
  | .nilFunc => some .nilFunc
  | .nilIface => some .nilIface
  | .agg ⟨cs⟩ => match toVs cs with | some l => some (.agg l) | none => none
  | .tuple ⟨cs⟩ => match toVs cs with | some l => some (.tuple l) | none => none
  | _ => none
def toVs : List Value → Option (List V)
  | [] => some []
  | v :: r => match toV v, toVs r with
    | some a, some b => some (a :: b)
    | _, _ => none
end

section
variable (P : Program)
def szOf (t : TypeId) : Option Nat := (P.info? t).map (·.size)
def bytesOf (t : TypeId) : Option Nat := (P.info? t).map (·.bytes)
def zeroV (t : TypeId) : Option V := (P.info? t).bind fun i => i.zero.bind toV
/-- the cells of a type's zero value, as many as the type has -/
def zeroC (t : TypeId) : Option (List V) := match zeroV P t, szOf P t with
  | some z, some n => if z.cells.length = n then some z.cells else none
  | _, _ => none
def aggT (t : TypeId) : Option Bool := (P.underlying t).map fun d => match d with | .struct _ | .array _ _ => true | _ => false
def opd : Operand → Option Opd
  | .tmp t => some (.tmp t)
  | .const v => match toV v with | some x => some (.const x) | none => none
  | .global g => if g < P.globals.size then some (.glob g) else none
  | .func f => some (.const (.func f [] []))
def opds : List Operand → Option (List Opd)
  | [] => some []
  | x :: r => match opd P x, opds r with
    | some a, some b => some (a :: b)
    | _, _ => none
def parts (place : Nat → Option (Nat × Nat)) : List (Nat × Operand) → Option (List (Nat × Nat × Opd))
  | [] => some []
  | (i, x) :: r => match place i, opd P x, parts place r with
    | some (o, s), some a, some b => some ((o, s, a) :: b)
    | _, _, _ => none
def oopd : Option Operand → Option (Option Opd)
  | none => some none
  | some x => match opd P x with | some a => some (some a) | none => none
def bn : BinOp → Bn
  | .add => .add | .sub => .sub | .mul => .mul | .quo => .quo | .rem => .rem | .and => .and | .or => .or | .xor => .xor | .andNot => .andNot
  | .shl => .shl | .shr => .shr | .eql => .eql | .neq => .neq | .lss => .lss | .leq => .leq | .gtr => .gtr | .geq => .geq
def scalarK (t : TypeId) : Option Bool :=
  if szOf P t = some 1 then (match P.underlying t with
    | some .bool => some false
    | some (.int _) => some true
    | _ => none) else none
def fieldK (t : TypeId) : Option (List Bool) := match P.underlying t with
  | some (.array n e) => if szOf P t = some n then (match scalarK P e with | some k => some (List.replicate n k) | none => none) else none
  | _ => match scalarK P t with | some k => some [k] | none => none
def fieldsK : List Field → Nat → Option (List Bool)
  | [], _ => some []
  | f :: r, off => if f.offset = off ∧ f.name ≠ "_" then (match fieldK P f.type with
    | some l => match fieldsK r (off + l.length) with | some m => some (l ++ m) | none => none
    | none => none) else none
def kindsOf (t : TypeId) : Option (List Bool) := match P.underlying t with
  | some (.struct fs) => if P.stoodInHeld t = false then fieldsK P fs.toList 0 else none
  | _ => none
def isC : Operand → Bool
  | .const _ => true
  | _ => false
def ekOf (t : TypeId) (x y : Operand) : Option Ek := match P.underlying t with
  | some .bool => some .bool
  | some (.pointer _) => some .ptr
  | some (.slice _) => some .slice
  | some (.map _ _) => some .map
  | some (.func _ _ _) => some .func
  | some (.interface _) => if isC x || isC y then some .iface else none
  | _ => none
def okKey (t : TypeId) : Option Kk := match P.underlying t with
  | some (.int _) => some .int
  | some .string => some .str
  | some .bool => some .bool
  | _ => none

def cLoad (t : TypeId) (a : Operand) : Option AOp := match aggT P t, szOf P t, opd P a with
  | some g, some n, some a => some (.load g n a)
  | _, _, _ => none

def cBin (op : BinOp) (t : TypeId) (x y : Operand) : Option AOp :=
  match opd P x, opd P y with
  | some a, some b => match P.underlying t with
    | some (.int _) => some (.bin (bn op) a b)
    | some (.struct _) | some (.array _ _) =>
      if (op = .eql ∨ op = .neq) ∧ P.eqGuardType P.depth t = false then (match kindsOf P t with | some ks => some (.eqs (op == .neq) ks a b) | none => none) else none
    | _ => if op = .eql ∨ op = .neq then (match ekOf P t x y with | some k => some (.eq1 (op == .neq) k a b) | none => none) else none
  | _, _ => none

def cSlice (t : TypeId) (x : Operand) (lo hi mx : Option Operand) : Option AOp :=
  if mx.isSome then none else
  match opd P x, oopd P lo, oopd P hi with
  | some x, some lo, some hi => match P.underlying t with
    | some (.array n e) => (match szOf P e with | some s => some (.sliceArr n s x lo hi) | none => none)
    | some (.slice e) => (match szOf P e with | some s => some (.sliceOf s x lo hi) | none => none)
    | _ => none
  | _, _, _ => none

def cBuiltin (b : Builtin) (ts : Array TypeId) (args : List Operand) : Option AOp :=
  match b, ts[0]?, args with
  | .len, some t, [x] => match P.underlying t, opd P x with
    | some (.array n _), _ => some (.lenArr n)
    | some (.slice _), some a => some (.lenS a)
    | some (.map _ _), some a => some (.lenM a)
    | _, _ => none
  | .append, some t, [x, y] => match P.underlying t with
    | some (.slice e) => match szOf P e, bytesOf P e, zeroC P e, opd P x, opd P y with
      | some s, some bs, some z, some x, some y =>
        (match ts[1]? with
        | some u => match P.underlying u with
          | some (.int _) => some (.appendZ s bs z x y)
          | some (.slice _) => some (.append s bs x y)
          | _ => none
        | none => none)
      | _, _, _, _, _ => none
    | _ => none
  | .copy, some t, [x, y] => match P.underlying t with
    | some (.slice e) => match szOf P e, opd P x, opd P y with
      | some s, some x, some y => some (.copy s x y)
      | _, _, _ => none
    | _ => none
  | .clear, some t, [x] => match P.underlying t, opd P x with
    | some (.slice e), some a => (match zeroC P e with | some z => some (.clearS z a) | none => none)
    | some (.map _ _), some a => some (.clearM a)
    | _, _ => none
  | .max, _, xs => match opds P xs with | some l => some (.maxmin true l) | none => none
  | .min, _, xs => match opds P xs with | some l => some (.maxmin false l) | none => none
  | .delete, some t, [x, y] => match P.underlying t, opd P x, opd P y with
    | some (.map k _), some a, some b => (match okKey P k with | some kk => some (.delete kk a b) | none => none)
    | _, _, _ => none
  | _, _, _ => none

def compOp0 (o : Oper) : Option AOp :=
  match o.op with
  | .move x | .assign x => match opd P x with | some a => some (.mv a) | none => none
  | .pick c a b => match opd P c, opd P a, opd P b with | some c, some a, some b => some (.pick c a b) | _, _, _ => none
  | .alloc t => match zeroC P t with | some z => some (.alloc z) | none => none
  | .box t x => match szOf P t, opd P x with | some n, some a => some (.box n a) | _, _ => none
  | .build t ps => match zeroC P t, P.underlying t with
    | some z, some (.struct fs) => (match parts P (fun i => match fs[i]? with | some f => (match szOf P f.type with | some s => some (f.offset, s) | none => none) | none => none) ps.toList with
      | some l => if fs.all fun f => (szOf P f.type).isSome then some (.build z l) else none
      | none => none)
    | some z, some (.array _ e) => (match szOf P e with
      | some s => match parts P (fun i => some (i * s, s)) ps.toList with | some l => some (.build z l) | none => none
      | none => none)
    | _, _ => none
  | .buildSlice t len ps => match P.underlying t with
    | some (.slice e) => match szOf P e, zeroC P e with
      | some s, some z => if len * s ≤ 2 ^ 24 ∧ 0 < s then (match parts P (fun i => some (i * s, s)) ps.toList with | some l => some (.mkSlice len s z l) | none => none) else none
      | _, _ => none
    | _ => none
  | .load t a => cLoad P t a
  | .store t a x => match szOf P t, opd P a, opd P x with | some n, some a, some x => some (.store n a x) | _, _, _ => none
  | .nilCheck x => match opd P x with | some a => some (.nilCheck a) | none => none
  | .binOp op t x y _ => cBin P op t x y
  | .unOp op _ x => match op, opd P x with
    | .neg, some a => some (.neg a)
    | .not, some a => some (.not a)
    | .xor, some a => some (.compl a)
    | _, _ => none
  | .convert s d x => match P.underlying s, P.underlying d, opd P x with
    | some (.int _), some (.int k), some a => some (.conv k a)
    | _, _, _ => none
  | .makeSlice t l c => match P.underlying t with
    | some (.slice e) => match szOf P e, bytesOf P e, zeroC P e, opd P l, opd P c with
      | some s, some b, some z, some l, some c => if 0 < s then some (.makeSlice s b z l c) else none
      | _, _, _, _, _ => none
    | _ => none
  | .slice t x lo hi mx => cSlice P t x lo hi mx
  | .fieldAddr s x i => match P.underlying s, opd P x with
    | some (.struct fs), some a => match fs[i]? with
      | some f => (match szOf P f.type with | some n => if n = 0 then none else some (.faddr f.offset a) | none => none)
      | none => none
    | _, _ => none
  | .field t x i => match P.underlying t, opd P x with
    | some (.struct fs), some a => match fs[i]? with
      | some f => match aggT P f.type, szOf P f.type with | some g, some n => some (.part g f.offset n a) | _, _ => none
      | none => none
    | _, _ => none
  | .indexAddr t x i => match P.underlying t, opd P x, opd P i with
    | some (.slice e), some a, some b => (match szOf P e with | some s => some (.iaddrS s a b) | none => none)
    | some (.array n e), some a, some b => (match szOf P e with | some s => some (.iaddrA n s a b) | none => none)
    | _, _, _ => none
  | .index t x i => match P.underlying t, opd P x, opd P i with
    | some (.array n e), some a, some b => (match szOf P e, aggT P e with | some s, some g => some (.indexA n s g a b) | _, _ => none)
    | some .string, some a, some b => some (.indexS a b)
    | _, _, _ => none
  | .lookup t m k ok => match P.underlying t, opd P m, opd P k with
    | some (.map kt e), some m, some k => (match zeroV P e with | some z => (match okKey P kt with | some kk => some (.lookup kk z ok m k) | none => none) | none => none)
    | _, _, _ => none
  | .mapUpdate t m k v => match P.underlying t, opd P m, opd P k, opd P v with
    | some (.map kt _), some m, some k, some v => (match okKey P kt with | some kk => some (.mapUpdate kk m k v) | none => none)
    | _, _, _, _ => none
  | .makeMap _ none => some .makeMap
  | .extract x i => match opd P x with | some a => some (.extract a i) | none => none
  | .makeFunc (.func f) a c => match opds P a.toList, opds P c.toList with | some a, some c => some (.makeFunc f a c) | _, _ => none
  | .call c => match c.callee with
    | .value f => match opds P c.args.toList with
      | some xs => (match f with
        | .func g => some (.call g xs)
        | f => match opd P f with | some a => some (.callv a xs) | none => none)
      | none => none
    | .builtin b => cBuiltin P b c.argTypes c.args.toList
    | _ => none
  | .defer c => match c.callee with
    | .value f => match opds P c.args.toList with
      | some xs => (match f with
        | .func g => some (.defer g xs)
        | f => match opd P f with | some a => some (.deferv a xs) | none => none)
      | none => none
    | _ => none
  | _ => none

/-- a type's own method, reached by no embedding: the function -/
def methRow (name : String) (t : TypeId) : Option FuncId := match P.info? t with
  | some i => match i.methods.find? (·.name == name) with
    | some m => if m.path.isEmpty then (match m.func, P.underlying t with
      | some (f, true), some (.pointer _) => some f
      | some (f, false), some (.struct _) => some f
      | _, _ => none) else none
    | none => none
  | none => none
def methTbl (name : String) : List (TypeId × FuncId) := (List.range P.types.size).filterMap fun t => match methRow P name t with | some f => some (t, f) | none => none

def isByte (e : TypeId) : Bool := match P.underlying e with
  | some (.int .u8) => true
  | _ => false

/-- operations of a second kind: maps in open order, strings -/
def compX (o : Oper) : Option AOp :=
  match o.op with
  | .range t x => match P.underlying t, opd P x with
    | some (.map _ _), some a => some (.rangeM a)
    | _, _ => none
  | .entry x => match opd P x with | some a => some (.entryM a) | none => none
  | .next x false => match opd P x with | some a => some (.nextM a) | none => none
  | .convert s d x => match P.underlying s, P.underlying d, opd P x with
    | some (.slice e), some .string, some a => if isByte P e = true then some (.toStr a) else none
    | some (.slice _), some (.slice e), some a => if s = d ∧ isByte P e = true then some (.strish a) else none
    | some .string, some (.slice e), some a => if isByte P e = true then some (.toBytes a) else none
    | _, _, _ => none
  | .binOp op t x y _ => match P.underlying t, opd P x, opd P y with
    | some .string, some a, some b => some (.sBin (bn op) a b)
    | _, _, _ => none
  | .slice t x (some lo) (some hi) (some mx) => match P.underlying t, opd P x, opd P lo, opd P hi, opd P mx with
    | some (.slice e), some x, some lo, some hi, some mx => (match szOf P e with | some s => some (.slice3 s x lo hi mx) | none => none)
    | _, _, _, _, _ => none
  | .makeInterface t x => match P.underlying t, opd P x with
    | some (.interface _), _ => none
    | some _, some a => some (.mkIface t a)
    | _, _ => none
  | .makeFunc (.method name) fs cs => match fs.toList, cs.toList with
    | [x], [] => (match opd P x with | some a => some (.mval name a) | none => none)
    | _, _ => none
  | .call c => match c.callee with
    | .invoke r name => match opd P r, opds P c.args.toList with
      | some a, some xs => some (.invoke (methTbl P name) a xs)
      | _, _ => none
    | _ => none
  | .defer c => match c.callee with
    | .builtin .delete => match c.argTypes[0]?, c.args.toList with
      | some t, [x, y] => match P.underlying t, opd P x, opd P y with
        | some (.map k _), some a, some b => (match okKey P k with | some kk => some (.deferD kk a b) | none => none)
        | _, _, _ => none
      | _, _ => none
    | _ => none
  | _ => none

/-- a check that looks at a method's value, made in the same region -/
def compM (ops : Array Oper) (o : Oper) : Option AOp := match o.op with
  | .nilCheck (.tmp t) => match ops.toList.find? (fun q => decide (q.dst = some t)) with
    | some q => (match q.op with
      | .makeFunc (.method name) _ _ => some (.nilCheckM name (methTbl P name) (.tmp t))
      | _ => none)
    | none => none
  | .binOp op t x y _ => match P.underlying t with
    | some (.pointer e) =>
      if (op = .eql ∨ op = .neq) ∧ isC x = false ∧ isC y = false ∧ 0 < (szOf P e).getD 0 then (match opd P x, opd P y with
        | some a, some b => some (.eqP (op == .neq) a b)
        | _, _ => none) else none
    | _ => none
  | _ => none

/-- slices, with what is known of their capacity -/
def compC (o : Oper) : Option AOp := match o.op with
  | .slice t x lo hi none => match P.underlying t, opd P x, oopd P lo, oopd P hi with
    | some (.slice e), some x, some lo, some hi => (match szOf P e with | some s => some (.sliceOfC s x lo hi) | none => none)
    | _, _, _, _ => none
  | .call c => match c.callee with
    | .builtin .append => match c.argTypes[0]?, c.argTypes[1]?, c.args.toList with
      | some t, some u, [x, y] => match P.underlying t, P.underlying u with
        | some (.slice e), some (.slice _) => match szOf P e, bytesOf P e, zeroC P e, opd P x, opd P y with
          | some s, some bs, some _, some x, some y => some (.appendC s bs x y)
          | _, _, _, _, _ => none
        | _, _ => none
      | _, _, _ => none
    | _ => none
  | _ => none

def compOp (ops : Array Oper) (o : Oper) : Option AOp := match compM P ops o with
  | some a => some a
  | none => match compC P o with
   | some a => some a
   | none => match compOp0 P o with
    | some a => some a
    | none => compX P o

def dstOk (n : Nat) : Option Nat → Bool
  | some d => decide (d < n)
  | none => true

/-- n: the frame's size -/
def compOper (n : Nat) (ops : Array Oper) (o : Oper) : Option AOper :=
  if dstOk n o.dst = true then
    match compOp P ops o with
    | none => none
    | some a => match o.guard with
      | none => some ⟨o.dst, a, none⟩
      | some (j, b) => match (ops[j]?).bind (·.dst) with
        | some t => some ⟨o.dst, a, some (t, b)⟩
        | none => none
  else none

def compOpers (n : Nat) (ops : Array Oper) : List Oper → Option (List AOper)
  | [] => some []
  | o :: r => match compOper P n ops o, compOpers n ops r with
    | some a, some b => some (a :: b)
    | _, _ => none

/-! ### a region that draws -/
def maskOf (acc : List Nat) (es : List Edge) : Nat :=
  es.foldl (fun s e => if Region.binds .any e then s ||| 2 ^ e.on ||| acc.getD e.on 0 else s) 0
/-- for each operation the set of those that run before it -/
def befs (acc : List Nat) : List Oper → List Nat
  | [] => acc
  | o :: r => befs (acc ++ [maskOf acc o.after.toList]) r

def Opd.tmps : Opd → List Nat
  | .tmp t => [t]
  | _ => []
def oTmps : Option Opd → List Nat
  | some x => x.tmps
  | none => []
def pTmps (l : List (Nat × Nat × Opd)) : List Nat := l.flatMap fun p => p.2.2.tmps
def lTmps (l : List Opd) : List Nat := l.flatMap (·.tmps)
def AOp.tmps : AOp → List Nat
  | .mv x | .box _ x | .load _ _ x | .nilCheck x | .neg x | .not x | .compl x | .conv _ x | .part _ _ _ x | .faddr _ x | .extract x _ | .lenS x | .lenM x | .clearS _ x | .clearM x | .rangeM x | .nextM x | .entryM x | .toStr x | .strish x | .toBytes x | .mkIface _ x | .mval _ x | .nilCheckM _ _ x => x.tmps
  | .pick c a b => c.tmps ++ a.tmps ++ b.tmps
  | .alloc _ | .lenArr _ | .recover | .makeMap | .bad _ => []
  | .build _ ps | .mkSlice _ _ _ ps => pTmps ps
  | .store _ a x | .bin _ a x | .eq1 _ _ a x | .eqs _ _ a x | .makeSlice _ _ _ a x | .iaddrS _ a x | .iaddrA _ _ a x | .indexA _ _ _ a x | .indexS a x | .append _ _ a x | .appendC _ _ a x | .appendZ _ _ _ a x | .copy _ a x
  | .lookup _ _ _ a x | .delete _ a x => a.tmps ++ x.tmps
  | .sliceOf _ x lo hi | .sliceOfC _ x lo hi | .sliceArr _ _ x lo hi => x.tmps ++ oTmps lo ++ oTmps hi
  | .maxmin _ xs => lTmps xs
  | .sBin _ x y | .deferD _ x y | .eqP _ x y => x.tmps ++ y.tmps
  | .invoke _ x xs => x.tmps ++ lTmps xs
  | .slice3 _ x lo hi mx => x.tmps ++ lo.tmps ++ hi.tmps ++ mx.tmps
  | .makeFunc _ a c => lTmps a ++ lTmps c
  | .mapUpdate _ m k v => m.tmps ++ k.tmps ++ v.tmps
  | .call _ xs | .defer _ xs => lTmps xs
  | .callv f xs | .deferv f xs => f.tmps ++ lTmps xs
def AOper.names (o : AOper) : List Nat := o.op.tmps ++ o.dst.toList ++ (match o.guard with | some (t, _) => [t] | none => [])

def notOp : AOp → Bool
  | .recover | .bad _ => false
  | _ => true

/-- The static look at a region that draws; B: befs. -/
def drawOk (B : List Nat) (l : List AOper) : Bool :=
  l.zipIdx.all fun (o, j) =>
    notOp o.op && (!isAlloc o.op || o.guard.isNone) &&
    l.zipIdx.all fun (p, i) =>
      -- effects stand in one row
      (!(isEff o.op && isEff p.op && i < j) || (B.getD j 0).testBit i) &&
      -- whoever writes what another names stands before or behind it
      (i == j || (match p.dst with | some t => !(o.names.contains t) || (B.getD (max i j) 0).testBit (min i j) | none => true))

/-- how many below k -/
def cntP (p : Nat → Bool) : Nat → Nat
  | 0 => 0
  | k + 1 => cntP p k + (if p k then 1 else 0)
def effAt (l : List AOper) (i : Nat) : Bool := match l[i]? with
  | some p => isEff p.op
  | none => false
def loOf (B : List Nat) (l : List AOper) (j : Nat) : Nat := cntP (fun i => effAt l i && (B.getD j 0).testBit i) l.length
def hiOf (B : List Nat) (l : List AOper) (j : Nat) : Nat := cntP (fun i => effAt l i && !(B.getD i 0).testBit j) l.length

/-- every edge that binds leads to an operation ahead in the text -/
def edgesOk : Nat → List Oper → Bool
  | _, [] => true
  | j, o :: r => (o.after.toList.all fun e => !Region.binds .any e || decide (e.on < j)) && edgesOk (j + 1) r

def compDraw (n : Nat) (ops : Array Oper) : Option (List DOper) :=
  match compOpers P n ops ops.toList with
  | none => none
  | some l =>
    if drawOk (befs [] ops.toList) l && edgesOk 0 ops.toList then
      some (l.zipIdx.map fun (o, j) => ⟨o, loOf (befs [] ops.toList) l j, hiOf (befs [] ops.toList) l j⟩)
    else none

def isRecover (o : Oper) : Bool := match o.op with
  | .call c => (match c.callee with | .builtin .recover => true | _ => false)
  | _ => false

def isDefer (o : Oper) : Bool := match o.op with
  | .defer _ => true
  | _ => false

/-- a region within a round: it lays no call by -/
def noDefer (rd : Bool) (ops : Array Oper) : Bool := !rd || ops.toList.all fun o => !isDefer o

/-- rd: within a round of a loop over a function -/
def comp (rd : Bool) (n : Nat) : Code → AC
  | .skip => .skip
  | .region _ ops d =>
    if noDefer rd ops then
      if d then (match compDraw P n ops with | some l => .draw l | none => .bad "draw")
      else (match ops.toList with
        | o :: r => if isRecover o = true ∧ o.guard.isNone = true ∧ dstOk n o.dst = true ∧ rd = false then (match compOpers P n ops r with | some l => .regionR o.dst l | none => .bad "region")
          else (match compOpers P n ops (o :: r) with | some l => .region l | none => .bad "region")
        | [] => .region [])
    else .bad "defer in a round"
  | .seq a b => .seq (comp rd n a) (comp rd n b)
  | .cond c a b => match opd P c with | some c => .cond c (comp rd n a) (comp rd n b) | none => .bad "cond"
  | .block id b => .block id (comp rd n b)
  | .loop b => .loop (comp rd n b)
  | .rangeFunc g ps asg body => if rd then .bad "rangeFunc in a round" else
    match opd P g with
    | some g => if ps.toList.all (fun t => decide (t < n)) then .rangeFunc g ps.toList (comp true n asg) (comp true n body) else .bad "rangeFunc"
    | none => .bad "rangeFunc"
  | .exit id => .exit id
  | .scope b => .scope (comp rd n b)
  | .label l => .label l
  | .goto l => .goto l
  | .ret => .ret
  | .refuse w => .bad w

def compRes : List ResultVar → Option (List Res)
  | [] => some []
  | .tmp t :: r => match compRes r with | some l => some (.tmp t :: l) | none => none
  | .cell a t :: r => match compRes r, aggT P t, szOf P t with | some l, some g, some n => some (.cell a g n :: l) | _, _, _ => none

def compFn (fn : Func) : Option AFunc :=
  if fn.name = "runtime.NumGoroutine" then none else
  match fn.body with
  | none => none
  | some b => match compRes P fn.results.toList with
    | some rs => some ⟨rs, comp P false fn.ntmps b⟩
    | none => none
end
end AM
