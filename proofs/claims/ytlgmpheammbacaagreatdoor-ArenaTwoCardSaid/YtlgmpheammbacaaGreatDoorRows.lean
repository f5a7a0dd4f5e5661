/-
  NARROWER THAN 'FOR EVERY INPUT', by the rows' own cells (each row's printed sentence says how): ArenaKept: laid · CacheNew: laid · ArenaSame: laid · ArenaHolds: laid · ArenaAsks: laid · ArenaPlays: laid · ArenaReturns: laid · ArenaTwo: laid · CacheZero: laid · CachePlays: laid · CacheKept: laid · CacheDrains: laid.
  DERIVED. THE GIVEN ROWS OF THIS SEAT. 12 by the template 'for every input the law returns true; each argument reads behind the call as it read before'; 0 by the template 'total and deterministic' (their statements: YtlgmpheammbacaaGreatDoorTotals.lean).
  GIVEN WITH THE SEED: the statements are not yours to turn. If you find one false, say at which input.
  Laid BY PROGRAM, IN A SANDBOX (cutbox-rows.mjs): the forced cells as the released guide's own fill.sh prints them over the translation 0c603a12fe0fdb2c… (all of the seat's roots in one cut). By AI agents, Wed Nov 11 2026. No macro, syntax, notation, axiom, sorry.
-/
import Derived.Test.YtlgmpheammbacaaGreatDoorChecked
import GoSem.Claim
import GoSem.ClaimJoined
import GoSem.ClaimMapViews
import Derived.JoinedTies
import Derived.KernelRfl
namespace Go.Proofs.YtlgmpheammbacaaGreatDoor
/- THE CELL 'sum', in the pinned program and in every row, IS THE sha256 OF THE DUMP (.gsa) THAT YtlgmpheammbacaaGreatDoorProg.lean LOADS. Nothing in Lean hashes anything: it is a label: what it is worth is what the hold of that sum in a sandbox is worth. -/
noncomputable def Tryz.pinned : Pinned := { name := "ytlgmpheammbacaagreatdoor", sum := "0c603a12fe0fdb2c4127af70861240eb9f3a74bd237faa15d9fb683d7165d757", checked := Tryz.checked }
namespace Rows
def none {H : Type} : Left H := { results := [], args := [] }

/- WHAT THE LISTED PACKAGE-LEVEL VARIABLES READ AS WHEN THE CALL BEGINS. Each datum BY PROGRAM (the guide's laid-datum.mjs) off the statement by which the dump's own 'gosem.cut.vars' lays the variable. In a bare row this is a premise. The card (YtlgmpheammbacaaGreatDoorCards.lean) ties it to the program's text. -/
def laid_croft_slab_widths {H : Type} : DataW H := .agg [.lit (.int .u64 16), .lit (.int .u64 32), .lit (.int .u64 64), .lit (.int .u64 128), .lit (.int .u64 256), .lit (.int .u64 512), .lit (.int .u64 1024), .lit (.int .u64 2048)]

/-- 'croftlaw15.ArenaKept': WHATEVER THE INPUT: true; the input reads as it did. -/
def arenaKeptSpec : ChangeSpec := { name := "arenaKept", fn := fun _ => fun
  | [d] => { results := [.lit (.bool true)], args := [d] }
  | _ => none }
def arenaKeptRow : OpenClaim := { program := "ytlgmpheammbacaagreatdoor", sum := "0c603a12fe0fdb2c4127af70861240eb9f3a74bd237faa15d9fb683d7165d757", func := "croft/croftlaw15.ArenaKept", spec := "arenaKept", inPlace := ["(*internal/sync.Mutex).Lock", "internal/race.Disable", "sync/atomic.CompareAndSwapInt32", "internal/race.Enable", "internal/race.Acquire", "(*internal/sync.Mutex).lockSlow", "internal/sync.runtime_canSpin", "internal/sync.runtime_doSpin", "internal/sync.throw", "internal/sync.runtime_nanotime", "internal/sync.runtime_SemacquireMutex", "sync/atomic.AddInt32", "(*internal/sync.Mutex).Unlock", "internal/race.ReleaseMerge", "(*internal/sync.Mutex).unlockSlow", "internal/sync.fatal", "internal/sync.runtime_Semrelease"], unfollowed := true, recurses := true, named := ["croft/slab.widths"], apart := false, laid := [("croft/slab.widths", laid_croft_slab_widths)] }
def ArenaKeptSaid : Prop := arenaKeptRow.holds Tryz.pinned (OpenSpec.ofChange arenaKeptSpec)

/-- ITS FALSE NEIGHBOUR: 'it returns false'. Refute it at one input. -/
def arenaKeptWrong : ChangeSpec := { name := "arenaKept", fn := fun _ => fun
  | [d] => { results := [.lit (.bool false)], args := [d] }
  | _ => none }
def ArenaKeptWrongFalsely : Prop := arenaKeptRow.holds Tryz.pinned (OpenSpec.ofChange arenaKeptWrong)

/-- 'croftlaw13.CacheNew': WHATEVER THE INPUT: true; the input reads as it did. -/
def cacheNewSpec : ChangeSpec := { name := "cacheNew", fn := fun _ => fun
  | [d] => { results := [.lit (.bool true)], args := [d] }
  | _ => none }
def cacheNewRow : OpenClaim := { program := "ytlgmpheammbacaagreatdoor", sum := "0c603a12fe0fdb2c4127af70861240eb9f3a74bd237faa15d9fb683d7165d757", func := "croft/croftlaw13.CacheNew", spec := "cacheNew", inPlace := ["(*internal/sync.Mutex).Lock", "internal/race.Disable", "sync/atomic.CompareAndSwapInt32", "internal/race.Enable", "internal/race.Acquire", "(*internal/sync.Mutex).lockSlow", "internal/sync.runtime_canSpin", "internal/sync.runtime_doSpin", "internal/sync.throw", "internal/sync.runtime_nanotime", "internal/sync.runtime_SemacquireMutex", "sync/atomic.AddInt32", "(*internal/sync.Mutex).Unlock", "internal/race.ReleaseMerge", "(*internal/sync.Mutex).unlockSlow", "internal/sync.fatal", "internal/sync.runtime_Semrelease"], unfollowed := true, recurses := true, named := ["croft/slab.widths"], apart := false, laid := [("croft/slab.widths", laid_croft_slab_widths)] }
def CacheNewSaid : Prop := cacheNewRow.holds Tryz.pinned (OpenSpec.ofChange cacheNewSpec)

/-- ITS FALSE NEIGHBOUR: 'it returns false'. Refute it at one input. -/
def cacheNewWrong : ChangeSpec := { name := "cacheNew", fn := fun _ => fun
  | [d] => { results := [.lit (.bool false)], args := [d] }
  | _ => none }
def CacheNewWrongFalsely : Prop := cacheNewRow.holds Tryz.pinned (OpenSpec.ofChange cacheNewWrong)

/-- 'croftlaw15.ArenaSame': WHATEVER THE INPUT: true; the input reads as it did. -/
def arenaSameSpec : ChangeSpec := { name := "arenaSame", fn := fun _ => fun
  | [d1, d2, d3] => { results := [.lit (.bool true)], args := [d1, d2, d3] }
  | _ => none }
def arenaSameRow : OpenClaim := { program := "ytlgmpheammbacaagreatdoor", sum := "0c603a12fe0fdb2c4127af70861240eb9f3a74bd237faa15d9fb683d7165d757", func := "croft/croftlaw15.ArenaSame", spec := "arenaSame", inPlace := ["(*internal/sync.Mutex).Lock", "internal/race.Disable", "sync/atomic.CompareAndSwapInt32", "internal/race.Enable", "internal/race.Acquire", "(*internal/sync.Mutex).lockSlow", "internal/sync.runtime_canSpin", "internal/sync.runtime_doSpin", "internal/sync.throw", "internal/sync.runtime_nanotime", "internal/sync.runtime_SemacquireMutex", "sync/atomic.AddInt32", "(*internal/sync.Mutex).Unlock", "internal/race.ReleaseMerge", "(*internal/sync.Mutex).unlockSlow", "internal/sync.fatal", "internal/sync.runtime_Semrelease", "sync/atomic.LoadUint32", "sync/atomic.StoreUint32"], unfollowed := true, recurses := true, named := ["croft/slab.widths"], apart := false, laid := [("croft/slab.widths", laid_croft_slab_widths)] }
def ArenaSameSaid : Prop := arenaSameRow.holds Tryz.pinned (OpenSpec.ofChange arenaSameSpec)

/-- ITS FALSE NEIGHBOUR: 'it returns false'. Refute it at one input. -/
def arenaSameWrong : ChangeSpec := { name := "arenaSame", fn := fun _ => fun
  | [d1, d2, d3] => { results := [.lit (.bool false)], args := [d1, d2, d3] }
  | _ => none }
def ArenaSameWrongFalsely : Prop := arenaSameRow.holds Tryz.pinned (OpenSpec.ofChange arenaSameWrong)

/-- 'croftlaw15.ArenaHolds': WHATEVER THE INPUT: true; the input reads as it did. -/
def arenaHoldsSpec : ChangeSpec := { name := "arenaHolds", fn := fun _ => fun
  | [d1, d2, d3] => { results := [.lit (.bool true)], args := [d1, d2, d3] }
  | _ => none }
def arenaHoldsRow : OpenClaim := { program := "ytlgmpheammbacaagreatdoor", sum := "0c603a12fe0fdb2c4127af70861240eb9f3a74bd237faa15d9fb683d7165d757", func := "croft/croftlaw15.ArenaHolds", spec := "arenaHolds", inPlace := ["(*internal/sync.Mutex).Lock", "internal/race.Disable", "sync/atomic.CompareAndSwapInt32", "internal/race.Enable", "internal/race.Acquire", "(*internal/sync.Mutex).lockSlow", "internal/sync.runtime_canSpin", "internal/sync.runtime_doSpin", "internal/sync.throw", "internal/sync.runtime_nanotime", "internal/sync.runtime_SemacquireMutex", "sync/atomic.AddInt32", "(*internal/sync.Mutex).Unlock", "internal/race.ReleaseMerge", "(*internal/sync.Mutex).unlockSlow", "internal/sync.fatal", "internal/sync.runtime_Semrelease", "sync/atomic.LoadUint32", "sync/atomic.StoreUint32"], unfollowed := true, recurses := true, named := ["croft/slab.widths"], apart := false, laid := [("croft/slab.widths", laid_croft_slab_widths)] }
def ArenaHoldsSaid : Prop := arenaHoldsRow.holds Tryz.pinned (OpenSpec.ofChange arenaHoldsSpec)

/-- ITS FALSE NEIGHBOUR: 'it returns false'. Refute it at one input. -/
def arenaHoldsWrong : ChangeSpec := { name := "arenaHolds", fn := fun _ => fun
  | [d1, d2, d3] => { results := [.lit (.bool false)], args := [d1, d2, d3] }
  | _ => none }
def ArenaHoldsWrongFalsely : Prop := arenaHoldsRow.holds Tryz.pinned (OpenSpec.ofChange arenaHoldsWrong)

/-- 'croftlaw15.ArenaAsks': WHATEVER THE INPUT: true; the input reads as it did. -/
def arenaAsksSpec : ChangeSpec := { name := "arenaAsks", fn := fun _ => fun
  | [d1, d2, d3] => { results := [.lit (.bool true)], args := [d1, d2, d3] }
  | _ => none }
def arenaAsksRow : OpenClaim := { program := "ytlgmpheammbacaagreatdoor", sum := "0c603a12fe0fdb2c4127af70861240eb9f3a74bd237faa15d9fb683d7165d757", func := "croft/croftlaw15.ArenaAsks", spec := "arenaAsks", inPlace := ["(*internal/sync.Mutex).Lock", "internal/race.Disable", "sync/atomic.CompareAndSwapInt32", "internal/race.Enable", "internal/race.Acquire", "(*internal/sync.Mutex).lockSlow", "internal/sync.runtime_canSpin", "internal/sync.runtime_doSpin", "internal/sync.throw", "internal/sync.runtime_nanotime", "internal/sync.runtime_SemacquireMutex", "sync/atomic.AddInt32", "(*internal/sync.Mutex).Unlock", "internal/race.ReleaseMerge", "(*internal/sync.Mutex).unlockSlow", "internal/sync.fatal", "internal/sync.runtime_Semrelease", "sync/atomic.LoadUint32", "sync/atomic.StoreUint32"], unfollowed := true, recurses := true, named := ["croft/slab.widths"], apart := false, laid := [("croft/slab.widths", laid_croft_slab_widths)] }
def ArenaAsksSaid : Prop := arenaAsksRow.holds Tryz.pinned (OpenSpec.ofChange arenaAsksSpec)

/-- ITS FALSE NEIGHBOUR: 'it returns false'. Refute it at one input. -/
def arenaAsksWrong : ChangeSpec := { name := "arenaAsks", fn := fun _ => fun
  | [d1, d2, d3] => { results := [.lit (.bool false)], args := [d1, d2, d3] }
  | _ => none }
def ArenaAsksWrongFalsely : Prop := arenaAsksRow.holds Tryz.pinned (OpenSpec.ofChange arenaAsksWrong)

/-- 'croftlaw15.ArenaPlays': WHATEVER THE INPUT: true; the input reads as it did. -/
def arenaPlaysSpec : ChangeSpec := { name := "arenaPlays", fn := fun _ => fun
  | [d1, d2, d3] => { results := [.lit (.bool true)], args := [d1, d2, d3] }
  | _ => none }
def arenaPlaysRow : OpenClaim := { program := "ytlgmpheammbacaagreatdoor", sum := "0c603a12fe0fdb2c4127af70861240eb9f3a74bd237faa15d9fb683d7165d757", func := "croft/croftlaw15.ArenaPlays", spec := "arenaPlays", inPlace := ["(*internal/sync.Mutex).Lock", "internal/race.Disable", "sync/atomic.CompareAndSwapInt32", "internal/race.Enable", "internal/race.Acquire", "(*internal/sync.Mutex).lockSlow", "internal/sync.runtime_canSpin", "internal/sync.runtime_doSpin", "internal/sync.throw", "internal/sync.runtime_nanotime", "internal/sync.runtime_SemacquireMutex", "sync/atomic.AddInt32", "(*internal/sync.Mutex).Unlock", "internal/race.ReleaseMerge", "(*internal/sync.Mutex).unlockSlow", "internal/sync.fatal", "internal/sync.runtime_Semrelease", "sync/atomic.LoadUint32", "sync/atomic.StoreUint32"], unfollowed := true, recurses := true, named := ["croft/slab.widths"], apart := false, laid := [("croft/slab.widths", laid_croft_slab_widths)] }
def ArenaPlaysSaid : Prop := arenaPlaysRow.holds Tryz.pinned (OpenSpec.ofChange arenaPlaysSpec)

/-- ITS FALSE NEIGHBOUR: 'it returns false'. Refute it at one input. -/
def arenaPlaysWrong : ChangeSpec := { name := "arenaPlays", fn := fun _ => fun
  | [d1, d2, d3] => { results := [.lit (.bool false)], args := [d1, d2, d3] }
  | _ => none }
def ArenaPlaysWrongFalsely : Prop := arenaPlaysRow.holds Tryz.pinned (OpenSpec.ofChange arenaPlaysWrong)

/-- 'croftlaw15.ArenaReturns': WHATEVER THE INPUT: true; the input reads as it did. -/
def arenaReturnsSpec : ChangeSpec := { name := "arenaReturns", fn := fun _ => fun
  | [d1, d2, d3, d4] => { results := [.lit (.bool true)], args := [d1, d2, d3, d4] }
  | _ => none }
def arenaReturnsRow : OpenClaim := { program := "ytlgmpheammbacaagreatdoor", sum := "0c603a12fe0fdb2c4127af70861240eb9f3a74bd237faa15d9fb683d7165d757", func := "croft/croftlaw15.ArenaReturns", spec := "arenaReturns", inPlace := ["(*internal/sync.Mutex).Lock", "internal/race.Disable", "sync/atomic.CompareAndSwapInt32", "internal/race.Enable", "internal/race.Acquire", "(*internal/sync.Mutex).lockSlow", "internal/sync.runtime_canSpin", "internal/sync.runtime_doSpin", "internal/sync.throw", "internal/sync.runtime_nanotime", "internal/sync.runtime_SemacquireMutex", "sync/atomic.AddInt32", "(*internal/sync.Mutex).Unlock", "internal/race.ReleaseMerge", "(*internal/sync.Mutex).unlockSlow", "internal/sync.fatal", "internal/sync.runtime_Semrelease", "sync/atomic.LoadUint32", "sync/atomic.StoreUint32"], unfollowed := true, recurses := true, named := ["croft/slab.widths"], apart := false, laid := [("croft/slab.widths", laid_croft_slab_widths)] }
def ArenaReturnsSaid : Prop := arenaReturnsRow.holds Tryz.pinned (OpenSpec.ofChange arenaReturnsSpec)

/-- ITS FALSE NEIGHBOUR: 'it returns false'. Refute it at one input. -/
def arenaReturnsWrong : ChangeSpec := { name := "arenaReturns", fn := fun _ => fun
  | [d1, d2, d3, d4] => { results := [.lit (.bool false)], args := [d1, d2, d3, d4] }
  | _ => none }
def ArenaReturnsWrongFalsely : Prop := arenaReturnsRow.holds Tryz.pinned (OpenSpec.ofChange arenaReturnsWrong)

/-- 'croftlaw15.ArenaTwo': WHATEVER THE INPUT: true; the input reads as it did. -/
def arenaTwoSpec : ChangeSpec := { name := "arenaTwo", fn := fun _ => fun
  | [d1, d2, d3, d4, d5] => { results := [.lit (.bool true)], args := [d1, d2, d3, d4, d5] }
  | _ => none }
def arenaTwoRow : OpenClaim := { program := "ytlgmpheammbacaagreatdoor", sum := "0c603a12fe0fdb2c4127af70861240eb9f3a74bd237faa15d9fb683d7165d757", func := "croft/croftlaw15.ArenaTwo", spec := "arenaTwo", inPlace := ["(*internal/sync.Mutex).Lock", "internal/race.Disable", "sync/atomic.CompareAndSwapInt32", "internal/race.Enable", "internal/race.Acquire", "(*internal/sync.Mutex).lockSlow", "internal/sync.runtime_canSpin", "internal/sync.runtime_doSpin", "internal/sync.throw", "internal/sync.runtime_nanotime", "internal/sync.runtime_SemacquireMutex", "sync/atomic.AddInt32", "(*internal/sync.Mutex).Unlock", "internal/race.ReleaseMerge", "(*internal/sync.Mutex).unlockSlow", "internal/sync.fatal", "internal/sync.runtime_Semrelease", "sync/atomic.LoadUint32", "sync/atomic.StoreUint32"], unfollowed := true, recurses := true, named := ["croft/slab.widths"], apart := false, laid := [("croft/slab.widths", laid_croft_slab_widths)] }
def ArenaTwoSaid : Prop := arenaTwoRow.holds Tryz.pinned (OpenSpec.ofChange arenaTwoSpec)

/-- ITS FALSE NEIGHBOUR: 'it returns false'. Refute it at one input. -/
def arenaTwoWrong : ChangeSpec := { name := "arenaTwo", fn := fun _ => fun
  | [d1, d2, d3, d4, d5] => { results := [.lit (.bool false)], args := [d1, d2, d3, d4, d5] }
  | _ => none }
def ArenaTwoWrongFalsely : Prop := arenaTwoRow.holds Tryz.pinned (OpenSpec.ofChange arenaTwoWrong)

/-- 'croftlaw13.CacheZero': WHATEVER THE INPUT: true; the input reads as it did. -/
def cacheZeroSpec : ChangeSpec := { name := "cacheZero", fn := fun _ => fun
  | [d] => { results := [.lit (.bool true)], args := [d] }
  | _ => none }
def cacheZeroRow : OpenClaim := { program := "ytlgmpheammbacaagreatdoor", sum := "0c603a12fe0fdb2c4127af70861240eb9f3a74bd237faa15d9fb683d7165d757", func := "croft/croftlaw13.CacheZero", spec := "cacheZero", inPlace := ["(*internal/sync.Mutex).Lock", "internal/race.Disable", "sync/atomic.CompareAndSwapInt32", "internal/race.Enable", "internal/race.Acquire", "(*internal/sync.Mutex).lockSlow", "internal/sync.runtime_canSpin", "internal/sync.runtime_doSpin", "internal/sync.throw", "internal/sync.runtime_nanotime", "internal/sync.runtime_SemacquireMutex", "sync/atomic.AddInt32", "(*internal/sync.Mutex).Unlock", "internal/race.ReleaseMerge", "(*internal/sync.Mutex).unlockSlow", "internal/sync.fatal", "internal/sync.runtime_Semrelease"], unfollowed := true, recurses := true, named := ["croft/slab.widths"], apart := false, laid := [("croft/slab.widths", laid_croft_slab_widths)] }
def CacheZeroSaid : Prop := cacheZeroRow.holds Tryz.pinned (OpenSpec.ofChange cacheZeroSpec)

/-- ITS FALSE NEIGHBOUR: 'it returns false'. Refute it at one input. -/
def cacheZeroWrong : ChangeSpec := { name := "cacheZero", fn := fun _ => fun
  | [d] => { results := [.lit (.bool false)], args := [d] }
  | _ => none }
def CacheZeroWrongFalsely : Prop := cacheZeroRow.holds Tryz.pinned (OpenSpec.ofChange cacheZeroWrong)

/-- 'croftlaw13.CachePlays': WHATEVER THE INPUT: true; the input reads as it did. -/
def cachePlaysSpec : ChangeSpec := { name := "cachePlays", fn := fun _ => fun
  | [d] => { results := [.lit (.bool true)], args := [d] }
  | _ => none }
def cachePlaysRow : OpenClaim := { program := "ytlgmpheammbacaagreatdoor", sum := "0c603a12fe0fdb2c4127af70861240eb9f3a74bd237faa15d9fb683d7165d757", func := "croft/croftlaw13.CachePlays", spec := "cachePlays", inPlace := ["(*internal/sync.Mutex).Lock", "internal/race.Disable", "sync/atomic.CompareAndSwapInt32", "internal/race.Enable", "internal/race.Acquire", "(*internal/sync.Mutex).lockSlow", "internal/sync.runtime_canSpin", "internal/sync.runtime_doSpin", "internal/sync.throw", "internal/sync.runtime_nanotime", "internal/sync.runtime_SemacquireMutex", "sync/atomic.AddInt32", "(*internal/sync.Mutex).Unlock", "internal/race.ReleaseMerge", "(*internal/sync.Mutex).unlockSlow", "internal/sync.fatal", "internal/sync.runtime_Semrelease"], unfollowed := true, recurses := true, named := ["croft/slab.widths"], apart := false, laid := [("croft/slab.widths", laid_croft_slab_widths)] }
def CachePlaysSaid : Prop := cachePlaysRow.holds Tryz.pinned (OpenSpec.ofChange cachePlaysSpec)

/-- ITS FALSE NEIGHBOUR: 'it returns false'. Refute it at one input. -/
def cachePlaysWrong : ChangeSpec := { name := "cachePlays", fn := fun _ => fun
  | [d] => { results := [.lit (.bool false)], args := [d] }
  | _ => none }
def CachePlaysWrongFalsely : Prop := cachePlaysRow.holds Tryz.pinned (OpenSpec.ofChange cachePlaysWrong)

/-- 'croftlaw13.CacheKept': WHATEVER THE INPUT: true; the input reads as it did. -/
def cacheKeptSpec : ChangeSpec := { name := "cacheKept", fn := fun _ => fun
  | [d1, d2] => { results := [.lit (.bool true)], args := [d1, d2] }
  | _ => none }
def cacheKeptRow : OpenClaim := { program := "ytlgmpheammbacaagreatdoor", sum := "0c603a12fe0fdb2c4127af70861240eb9f3a74bd237faa15d9fb683d7165d757", func := "croft/croftlaw13.CacheKept", spec := "cacheKept", inPlace := ["(*internal/sync.Mutex).Lock", "internal/race.Disable", "sync/atomic.CompareAndSwapInt32", "internal/race.Enable", "internal/race.Acquire", "(*internal/sync.Mutex).lockSlow", "internal/sync.runtime_canSpin", "internal/sync.runtime_doSpin", "internal/sync.throw", "internal/sync.runtime_nanotime", "internal/sync.runtime_SemacquireMutex", "sync/atomic.AddInt32", "(*internal/sync.Mutex).Unlock", "internal/race.ReleaseMerge", "(*internal/sync.Mutex).unlockSlow", "internal/sync.fatal", "internal/sync.runtime_Semrelease"], unfollowed := true, recurses := true, named := ["croft/slab.widths"], apart := false, laid := [("croft/slab.widths", laid_croft_slab_widths)] }
def CacheKeptSaid : Prop := cacheKeptRow.holds Tryz.pinned (OpenSpec.ofChange cacheKeptSpec)

/-- ITS FALSE NEIGHBOUR: 'it returns false'. Refute it at one input. -/
def cacheKeptWrong : ChangeSpec := { name := "cacheKept", fn := fun _ => fun
  | [d1, d2] => { results := [.lit (.bool false)], args := [d1, d2] }
  | _ => none }
def CacheKeptWrongFalsely : Prop := cacheKeptRow.holds Tryz.pinned (OpenSpec.ofChange cacheKeptWrong)

/-- 'croftlaw13.CacheDrains': WHATEVER THE INPUT: true; the input reads as it did. -/
def cacheDrainsSpec : ChangeSpec := { name := "cacheDrains", fn := fun _ => fun
  | [d] => { results := [.lit (.bool true)], args := [d] }
  | _ => none }
def cacheDrainsRow : OpenClaim := { program := "ytlgmpheammbacaagreatdoor", sum := "0c603a12fe0fdb2c4127af70861240eb9f3a74bd237faa15d9fb683d7165d757", func := "croft/croftlaw13.CacheDrains", spec := "cacheDrains", inPlace := ["(*internal/sync.Mutex).Lock", "internal/race.Disable", "sync/atomic.CompareAndSwapInt32", "internal/race.Enable", "internal/race.Acquire", "(*internal/sync.Mutex).lockSlow", "internal/sync.runtime_canSpin", "internal/sync.runtime_doSpin", "internal/sync.throw", "internal/sync.runtime_nanotime", "internal/sync.runtime_SemacquireMutex", "sync/atomic.AddInt32", "(*internal/sync.Mutex).Unlock", "internal/race.ReleaseMerge", "(*internal/sync.Mutex).unlockSlow", "internal/sync.fatal", "internal/sync.runtime_Semrelease"], unfollowed := true, recurses := true, named := ["croft/slab.widths"], apart := false, laid := [("croft/slab.widths", laid_croft_slab_widths)] }
def CacheDrainsSaid : Prop := cacheDrainsRow.holds Tryz.pinned (OpenSpec.ofChange cacheDrainsSpec)

/-- ITS FALSE NEIGHBOUR: 'it returns false'. Refute it at one input. -/
def cacheDrainsWrong : ChangeSpec := { name := "cacheDrains", fn := fun _ => fun
  | [d] => { results := [.lit (.bool false)], args := [d] }
  | _ => none }
def CacheDrainsWrongFalsely : Prop := cacheDrainsRow.holds Tryz.pinned (OpenSpec.ofChange cacheDrainsWrong)

/- THE SECOND FORM. 'bulk': how many values and letters a reading holds, each counted each time it is reached (what is shared counts as often as it is met; a slice's spare places count too). A statement '..UptoSaid' is the law's where the arguments, and the package variables that the reading takes, are together of bulk at most 1048576: NARROWER than '..Said'. Prove '..Said' where nothing that the law and all that it calls make is longer than what came in: it says more and counts as full. Else prove '..UptoSaid'. A law counts once. -/
mutual
def uptoBulk {H : Type} : DataW H → Nat
  | .lit (.string bytes) => bytes.length + 1
  | .lit _ => 1
  | .nil => 1
  | .ptr d => uptoBulk d + 1
  | .slice elems spare => uptoBulkAll elems + uptoBulkAll spare + 1
  | .agg parts => uptoBulkAll parts + 1
  | .iface _ d => uptoBulk d + 1
  | .map entries => uptoBulkEntries entries + 1
  | .held _ => 1
def uptoBulkAll {H : Type} : List (DataW H) → Nat
  | [] => 0
  | d :: r => uptoBulk d + uptoBulkAll r
def uptoBulkEntries {H : Type} : List (Lit × DataW H) → Nat
  | [] => 0
  | x :: r => uptoBulkEntry x + uptoBulkEntries r
def uptoBulkEntry {H : Type} : Lit × DataW H → Nat
  | (.string bytes, d) => bytes.length + uptoBulk d + 1
  | (_, d) => uptoBulk d + 1
 end
def uptoSmall : (H : Type) → List (DataW H) → Bool := fun _ ds => decide (uptoBulkAll ds ≤ 1048576)
def OpenSpec.upto (s : _root_.Go.ChangeSpec) : _root_.Go.OpenSpec := { _root_.Go.OpenSpec.ofChange s with cond := some uptoSmall }

/-- 'croftlaw15.ArenaKept', WHERE WHAT IT READS IS OF BULK AT MOST 1048576: true; the input reads as it did. -/
def arenaKeptUptoRow : OpenClaim := { program := "ytlgmpheammbacaagreatdoor", sum := "0c603a12fe0fdb2c4127af70861240eb9f3a74bd237faa15d9fb683d7165d757", func := "croft/croftlaw15.ArenaKept", spec := "arenaKept", inPlace := ["(*internal/sync.Mutex).Lock", "internal/race.Disable", "sync/atomic.CompareAndSwapInt32", "internal/race.Enable", "internal/race.Acquire", "(*internal/sync.Mutex).lockSlow", "internal/sync.runtime_canSpin", "internal/sync.runtime_doSpin", "internal/sync.throw", "internal/sync.runtime_nanotime", "internal/sync.runtime_SemacquireMutex", "sync/atomic.AddInt32", "(*internal/sync.Mutex).Unlock", "internal/race.ReleaseMerge", "(*internal/sync.Mutex).unlockSlow", "internal/sync.fatal", "internal/sync.runtime_Semrelease"], unfollowed := true, recurses := true, named := ["croft/slab.widths"], apart := false, laid := [("croft/slab.widths", laid_croft_slab_widths)], narrowed := true }
def ArenaKeptUptoSaid : Prop := arenaKeptUptoRow.holds Tryz.pinned (OpenSpec.upto arenaKeptSpec)

/-- 'croftlaw13.CacheNew', WHERE WHAT IT READS IS OF BULK AT MOST 1048576: true; the input reads as it did. -/
def cacheNewUptoRow : OpenClaim := { program := "ytlgmpheammbacaagreatdoor", sum := "0c603a12fe0fdb2c4127af70861240eb9f3a74bd237faa15d9fb683d7165d757", func := "croft/croftlaw13.CacheNew", spec := "cacheNew", inPlace := ["(*internal/sync.Mutex).Lock", "internal/race.Disable", "sync/atomic.CompareAndSwapInt32", "internal/race.Enable", "internal/race.Acquire", "(*internal/sync.Mutex).lockSlow", "internal/sync.runtime_canSpin", "internal/sync.runtime_doSpin", "internal/sync.throw", "internal/sync.runtime_nanotime", "internal/sync.runtime_SemacquireMutex", "sync/atomic.AddInt32", "(*internal/sync.Mutex).Unlock", "internal/race.ReleaseMerge", "(*internal/sync.Mutex).unlockSlow", "internal/sync.fatal", "internal/sync.runtime_Semrelease"], unfollowed := true, recurses := true, named := ["croft/slab.widths"], apart := false, laid := [("croft/slab.widths", laid_croft_slab_widths)], narrowed := true }
def CacheNewUptoSaid : Prop := cacheNewUptoRow.holds Tryz.pinned (OpenSpec.upto cacheNewSpec)

/-- 'croftlaw15.ArenaSame', WHERE WHAT IT READS IS OF BULK AT MOST 1048576: true; the input reads as it did. -/
def arenaSameUptoRow : OpenClaim := { program := "ytlgmpheammbacaagreatdoor", sum := "0c603a12fe0fdb2c4127af70861240eb9f3a74bd237faa15d9fb683d7165d757", func := "croft/croftlaw15.ArenaSame", spec := "arenaSame", inPlace := ["(*internal/sync.Mutex).Lock", "internal/race.Disable", "sync/atomic.CompareAndSwapInt32", "internal/race.Enable", "internal/race.Acquire", "(*internal/sync.Mutex).lockSlow", "internal/sync.runtime_canSpin", "internal/sync.runtime_doSpin", "internal/sync.throw", "internal/sync.runtime_nanotime", "internal/sync.runtime_SemacquireMutex", "sync/atomic.AddInt32", "(*internal/sync.Mutex).Unlock", "internal/race.ReleaseMerge", "(*internal/sync.Mutex).unlockSlow", "internal/sync.fatal", "internal/sync.runtime_Semrelease", "sync/atomic.LoadUint32", "sync/atomic.StoreUint32"], unfollowed := true, recurses := true, named := ["croft/slab.widths"], apart := false, laid := [("croft/slab.widths", laid_croft_slab_widths)], narrowed := true }
def ArenaSameUptoSaid : Prop := arenaSameUptoRow.holds Tryz.pinned (OpenSpec.upto arenaSameSpec)

/-- 'croftlaw15.ArenaHolds', WHERE WHAT IT READS IS OF BULK AT MOST 1048576: true; the input reads as it did. -/
def arenaHoldsUptoRow : OpenClaim := { program := "ytlgmpheammbacaagreatdoor", sum := "0c603a12fe0fdb2c4127af70861240eb9f3a74bd237faa15d9fb683d7165d757", func := "croft/croftlaw15.ArenaHolds", spec := "arenaHolds", inPlace := ["(*internal/sync.Mutex).Lock", "internal/race.Disable", "sync/atomic.CompareAndSwapInt32", "internal/race.Enable", "internal/race.Acquire", "(*internal/sync.Mutex).lockSlow", "internal/sync.runtime_canSpin", "internal/sync.runtime_doSpin", "internal/sync.throw", "internal/sync.runtime_nanotime", "internal/sync.runtime_SemacquireMutex", "sync/atomic.AddInt32", "(*internal/sync.Mutex).Unlock", "internal/race.ReleaseMerge", "(*internal/sync.Mutex).unlockSlow", "internal/sync.fatal", "internal/sync.runtime_Semrelease", "sync/atomic.LoadUint32", "sync/atomic.StoreUint32"], unfollowed := true, recurses := true, named := ["croft/slab.widths"], apart := false, laid := [("croft/slab.widths", laid_croft_slab_widths)], narrowed := true }
def ArenaHoldsUptoSaid : Prop := arenaHoldsUptoRow.holds Tryz.pinned (OpenSpec.upto arenaHoldsSpec)

/-- 'croftlaw15.ArenaAsks', WHERE WHAT IT READS IS OF BULK AT MOST 1048576: true; the input reads as it did. -/
def arenaAsksUptoRow : OpenClaim := { program := "ytlgmpheammbacaagreatdoor", sum := "0c603a12fe0fdb2c4127af70861240eb9f3a74bd237faa15d9fb683d7165d757", func := "croft/croftlaw15.ArenaAsks", spec := "arenaAsks", inPlace := ["(*internal/sync.Mutex).Lock", "internal/race.Disable", "sync/atomic.CompareAndSwapInt32", "internal/race.Enable", "internal/race.Acquire", "(*internal/sync.Mutex).lockSlow", "internal/sync.runtime_canSpin", "internal/sync.runtime_doSpin", "internal/sync.throw", "internal/sync.runtime_nanotime", "internal/sync.runtime_SemacquireMutex", "sync/atomic.AddInt32", "(*internal/sync.Mutex).Unlock", "internal/race.ReleaseMerge", "(*internal/sync.Mutex).unlockSlow", "internal/sync.fatal", "internal/sync.runtime_Semrelease", "sync/atomic.LoadUint32", "sync/atomic.StoreUint32"], unfollowed := true, recurses := true, named := ["croft/slab.widths"], apart := false, laid := [("croft/slab.widths", laid_croft_slab_widths)], narrowed := true }
def ArenaAsksUptoSaid : Prop := arenaAsksUptoRow.holds Tryz.pinned (OpenSpec.upto arenaAsksSpec)

/-- 'croftlaw15.ArenaPlays', WHERE WHAT IT READS IS OF BULK AT MOST 1048576: true; the input reads as it did. -/
def arenaPlaysUptoRow : OpenClaim := { program := "ytlgmpheammbacaagreatdoor", sum := "0c603a12fe0fdb2c4127af70861240eb9f3a74bd237faa15d9fb683d7165d757", func := "croft/croftlaw15.ArenaPlays", spec := "arenaPlays", inPlace := ["(*internal/sync.Mutex).Lock", "internal/race.Disable", "sync/atomic.CompareAndSwapInt32", "internal/race.Enable", "internal/race.Acquire", "(*internal/sync.Mutex).lockSlow", "internal/sync.runtime_canSpin", "internal/sync.runtime_doSpin", "internal/sync.throw", "internal/sync.runtime_nanotime", "internal/sync.runtime_SemacquireMutex", "sync/atomic.AddInt32", "(*internal/sync.Mutex).Unlock", "internal/race.ReleaseMerge", "(*internal/sync.Mutex).unlockSlow", "internal/sync.fatal", "internal/sync.runtime_Semrelease", "sync/atomic.LoadUint32", "sync/atomic.StoreUint32"], unfollowed := true, recurses := true, named := ["croft/slab.widths"], apart := false, laid := [("croft/slab.widths", laid_croft_slab_widths)], narrowed := true }
def ArenaPlaysUptoSaid : Prop := arenaPlaysUptoRow.holds Tryz.pinned (OpenSpec.upto arenaPlaysSpec)

/-- 'croftlaw15.ArenaReturns', WHERE WHAT IT READS IS OF BULK AT MOST 1048576: true; the input reads as it did. -/
def arenaReturnsUptoRow : OpenClaim := { program := "ytlgmpheammbacaagreatdoor", sum := "0c603a12fe0fdb2c4127af70861240eb9f3a74bd237faa15d9fb683d7165d757", func := "croft/croftlaw15.ArenaReturns", spec := "arenaReturns", inPlace := ["(*internal/sync.Mutex).Lock", "internal/race.Disable", "sync/atomic.CompareAndSwapInt32", "internal/race.Enable", "internal/race.Acquire", "(*internal/sync.Mutex).lockSlow", "internal/sync.runtime_canSpin", "internal/sync.runtime_doSpin", "internal/sync.throw", "internal/sync.runtime_nanotime", "internal/sync.runtime_SemacquireMutex", "sync/atomic.AddInt32", "(*internal/sync.Mutex).Unlock", "internal/race.ReleaseMerge", "(*internal/sync.Mutex).unlockSlow", "internal/sync.fatal", "internal/sync.runtime_Semrelease", "sync/atomic.LoadUint32", "sync/atomic.StoreUint32"], unfollowed := true, recurses := true, named := ["croft/slab.widths"], apart := false, laid := [("croft/slab.widths", laid_croft_slab_widths)], narrowed := true }
def ArenaReturnsUptoSaid : Prop := arenaReturnsUptoRow.holds Tryz.pinned (OpenSpec.upto arenaReturnsSpec)

/-- 'croftlaw15.ArenaTwo', WHERE WHAT IT READS IS OF BULK AT MOST 1048576: true; the input reads as it did. -/
def arenaTwoUptoRow : OpenClaim := { program := "ytlgmpheammbacaagreatdoor", sum := "0c603a12fe0fdb2c4127af70861240eb9f3a74bd237faa15d9fb683d7165d757", func := "croft/croftlaw15.ArenaTwo", spec := "arenaTwo", inPlace := ["(*internal/sync.Mutex).Lock", "internal/race.Disable", "sync/atomic.CompareAndSwapInt32", "internal/race.Enable", "internal/race.Acquire", "(*internal/sync.Mutex).lockSlow", "internal/sync.runtime_canSpin", "internal/sync.runtime_doSpin", "internal/sync.throw", "internal/sync.runtime_nanotime", "internal/sync.runtime_SemacquireMutex", "sync/atomic.AddInt32", "(*internal/sync.Mutex).Unlock", "internal/race.ReleaseMerge", "(*internal/sync.Mutex).unlockSlow", "internal/sync.fatal", "internal/sync.runtime_Semrelease", "sync/atomic.LoadUint32", "sync/atomic.StoreUint32"], unfollowed := true, recurses := true, named := ["croft/slab.widths"], apart := false, laid := [("croft/slab.widths", laid_croft_slab_widths)], narrowed := true }
def ArenaTwoUptoSaid : Prop := arenaTwoUptoRow.holds Tryz.pinned (OpenSpec.upto arenaTwoSpec)

/-- 'croftlaw13.CacheZero', WHERE WHAT IT READS IS OF BULK AT MOST 1048576: true; the input reads as it did. -/
def cacheZeroUptoRow : OpenClaim := { program := "ytlgmpheammbacaagreatdoor", sum := "0c603a12fe0fdb2c4127af70861240eb9f3a74bd237faa15d9fb683d7165d757", func := "croft/croftlaw13.CacheZero", spec := "cacheZero", inPlace := ["(*internal/sync.Mutex).Lock", "internal/race.Disable", "sync/atomic.CompareAndSwapInt32", "internal/race.Enable", "internal/race.Acquire", "(*internal/sync.Mutex).lockSlow", "internal/sync.runtime_canSpin", "internal/sync.runtime_doSpin", "internal/sync.throw", "internal/sync.runtime_nanotime", "internal/sync.runtime_SemacquireMutex", "sync/atomic.AddInt32", "(*internal/sync.Mutex).Unlock", "internal/race.ReleaseMerge", "(*internal/sync.Mutex).unlockSlow", "internal/sync.fatal", "internal/sync.runtime_Semrelease"], unfollowed := true, recurses := true, named := ["croft/slab.widths"], apart := false, laid := [("croft/slab.widths", laid_croft_slab_widths)], narrowed := true }
def CacheZeroUptoSaid : Prop := cacheZeroUptoRow.holds Tryz.pinned (OpenSpec.upto cacheZeroSpec)

/-- 'croftlaw13.CachePlays', WHERE WHAT IT READS IS OF BULK AT MOST 1048576: true; the input reads as it did. -/
def cachePlaysUptoRow : OpenClaim := { program := "ytlgmpheammbacaagreatdoor", sum := "0c603a12fe0fdb2c4127af70861240eb9f3a74bd237faa15d9fb683d7165d757", func := "croft/croftlaw13.CachePlays", spec := "cachePlays", inPlace := ["(*internal/sync.Mutex).Lock", "internal/race.Disable", "sync/atomic.CompareAndSwapInt32", "internal/race.Enable", "internal/race.Acquire", "(*internal/sync.Mutex).lockSlow", "internal/sync.runtime_canSpin", "internal/sync.runtime_doSpin", "internal/sync.throw", "internal/sync.runtime_nanotime", "internal/sync.runtime_SemacquireMutex", "sync/atomic.AddInt32", "(*internal/sync.Mutex).Unlock", "internal/race.ReleaseMerge", "(*internal/sync.Mutex).unlockSlow", "internal/sync.fatal", "internal/sync.runtime_Semrelease"], unfollowed := true, recurses := true, named := ["croft/slab.widths"], apart := false, laid := [("croft/slab.widths", laid_croft_slab_widths)], narrowed := true }
def CachePlaysUptoSaid : Prop := cachePlaysUptoRow.holds Tryz.pinned (OpenSpec.upto cachePlaysSpec)

/-- 'croftlaw13.CacheKept', WHERE WHAT IT READS IS OF BULK AT MOST 1048576: true; the input reads as it did. -/
def cacheKeptUptoRow : OpenClaim := { program := "ytlgmpheammbacaagreatdoor", sum := "0c603a12fe0fdb2c4127af70861240eb9f3a74bd237faa15d9fb683d7165d757", func := "croft/croftlaw13.CacheKept", spec := "cacheKept", inPlace := ["(*internal/sync.Mutex).Lock", "internal/race.Disable", "sync/atomic.CompareAndSwapInt32", "internal/race.Enable", "internal/race.Acquire", "(*internal/sync.Mutex).lockSlow", "internal/sync.runtime_canSpin", "internal/sync.runtime_doSpin", "internal/sync.throw", "internal/sync.runtime_nanotime", "internal/sync.runtime_SemacquireMutex", "sync/atomic.AddInt32", "(*internal/sync.Mutex).Unlock", "internal/race.ReleaseMerge", "(*internal/sync.Mutex).unlockSlow", "internal/sync.fatal", "internal/sync.runtime_Semrelease"], unfollowed := true, recurses := true, named := ["croft/slab.widths"], apart := false, laid := [("croft/slab.widths", laid_croft_slab_widths)], narrowed := true }
def CacheKeptUptoSaid : Prop := cacheKeptUptoRow.holds Tryz.pinned (OpenSpec.upto cacheKeptSpec)

/-- 'croftlaw13.CacheDrains', WHERE WHAT IT READS IS OF BULK AT MOST 1048576: true; the input reads as it did. -/
def cacheDrainsUptoRow : OpenClaim := { program := "ytlgmpheammbacaagreatdoor", sum := "0c603a12fe0fdb2c4127af70861240eb9f3a74bd237faa15d9fb683d7165d757", func := "croft/croftlaw13.CacheDrains", spec := "cacheDrains", inPlace := ["(*internal/sync.Mutex).Lock", "internal/race.Disable", "sync/atomic.CompareAndSwapInt32", "internal/race.Enable", "internal/race.Acquire", "(*internal/sync.Mutex).lockSlow", "internal/sync.runtime_canSpin", "internal/sync.runtime_doSpin", "internal/sync.throw", "internal/sync.runtime_nanotime", "internal/sync.runtime_SemacquireMutex", "sync/atomic.AddInt32", "(*internal/sync.Mutex).Unlock", "internal/race.ReleaseMerge", "(*internal/sync.Mutex).unlockSlow", "internal/sync.fatal", "internal/sync.runtime_Semrelease"], unfollowed := true, recurses := true, named := ["croft/slab.widths"], apart := false, laid := [("croft/slab.widths", laid_croft_slab_widths)], narrowed := true }
def CacheDrainsUptoSaid : Prop := cacheDrainsUptoRow.holds Tryz.pinned (OpenSpec.upto cacheDrainsSpec)

end Rows
end Go.Proofs.YtlgmpheammbacaaGreatDoor
