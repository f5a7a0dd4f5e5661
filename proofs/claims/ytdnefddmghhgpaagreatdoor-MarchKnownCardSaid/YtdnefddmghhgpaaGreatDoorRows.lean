/-
  NARROWER THAN 'FOR EVERY INPUT', by the rows' own cells (each row's printed sentence says how): ArenaKnown: laid · CacheKnown: laid · DictKnown: laid · GuardKnown: laid · MarchKnown: laid · TraceKnown: laid · CountKnown: laid · QuotaKnown: laid.
  DERIVED. THE GIVEN ROWS OF THIS SEAT. 8 by the template 'for every input the law returns true; each argument reads behind the call as it read before'; 0 by the template 'total and deterministic' (their statements: YtdnefddmghhgpaaGreatDoorTotals.lean).
  GIVEN WITH THE SEED: the statements are not yours to turn. If you find one false, say at which input.
  Laid BY PROGRAM, IN A SANDBOX (cutbox-rows.mjs): the forced cells as the released guide's own fill.sh prints them over the translation f56f53d8b2a1cf84… (all of the seat's roots in one cut). By AI agents, Wed Nov 11 2026. No macro, syntax, notation, axiom, sorry.
-/
import Derived.Test.YtdnefddmghhgpaaGreatDoorChecked
import GoSem.Claim
import GoSem.ClaimJoined
import GoSem.ClaimMapViews
import Derived.JoinedTies
import Derived.KernelRfl
namespace Go.Proofs.YtdnefddmghhgpaaGreatDoor
/- THE CELL 'sum', in the pinned program and in every row, IS THE sha256 OF THE DUMP (.gsa) THAT YtdnefddmghhgpaaGreatDoorProg.lean LOADS. Nothing in Lean hashes anything: it is a label: what it is worth is what the hold of that sum in a sandbox is worth. -/
noncomputable def Tryz.pinned : Pinned := { name := "ytdnefddmghhgpaagreatdoor", sum := "f56f53d8b2a1cf844c105c41232ce11698a37244fc3810a287cb4e3647cd9278", checked := Tryz.checked }
namespace Rows
def none {H : Type} : Left H := { results := [], args := [] }

/- WHAT THE LISTED PACKAGE-LEVEL VARIABLES READ AS WHEN THE CALL BEGINS. Each datum BY PROGRAM (the guide's laid-datum.mjs) off the statement by which the dump's own 'gosem.cut.vars' lays the variable. In a bare row this is a premise. The card (YtdnefddmghhgpaaGreatDoorCards.lean) ties it to the program's text. -/
def laid_croft_slab_widths {H : Type} : DataW H := .agg [.lit (.int .u64 16), .lit (.int .u64 32), .lit (.int .u64 64), .lit (.int .u64 128), .lit (.int .u64 256), .lit (.int .u64 512), .lit (.int .u64 1024), .lit (.int .u64 2048)]
def laid_croft_march_looks {H : Type} : DataW H := .iface "func table" (.agg [.nil, .iface "func" (.lit (.string [40, 42, 99, 114, 111, 102, 116, 47, 109, 97, 114, 99, 104, 46, 83, 116, 111, 114, 101, 41, 46, 109, 97, 114, 107])), .iface "func" (.lit (.string [40, 42, 99, 114, 111, 102, 116, 47, 109, 97, 114, 99, 104, 46, 83, 116, 111, 114, 101, 41, 46, 115, 119, 101, 101, 112]))])

/-- 'croftlaw15.ArenaKnown': WHATEVER THE INPUT: true; the input reads as it did. -/
def arenaKnownSpec : ChangeSpec := { name := "arenaKnown", fn := fun _ => fun
  | [] => { results := [.lit (.bool true)], args := [] }
  | _ => none }
def arenaKnownRow : OpenClaim := { program := "ytdnefddmghhgpaagreatdoor", sum := "f56f53d8b2a1cf844c105c41232ce11698a37244fc3810a287cb4e3647cd9278", func := "croft/croftlaw15.ArenaKnown", spec := "arenaKnown", inPlace := ["(*internal/sync.Mutex).Lock", "internal/race.Disable", "sync/atomic.CompareAndSwapInt32", "internal/race.Enable", "internal/race.Acquire", "(*internal/sync.Mutex).lockSlow", "internal/sync.runtime_canSpin", "internal/sync.runtime_doSpin", "internal/sync.throw", "internal/sync.runtime_nanotime", "internal/sync.runtime_SemacquireMutex", "sync/atomic.AddInt32", "(*internal/sync.Mutex).Unlock", "internal/race.ReleaseMerge", "(*internal/sync.Mutex).unlockSlow", "internal/sync.fatal", "internal/sync.runtime_Semrelease", "sync/atomic.LoadUint32", "sync/atomic.StoreUint32"], unfollowed := true, recurses := true, named := ["croft/slab.widths"], apart := false, laid := [("croft/slab.widths", laid_croft_slab_widths)] }
def ArenaKnownSaid : Prop := arenaKnownRow.holds Tryz.pinned (OpenSpec.ofChange arenaKnownSpec)

/-- ITS FALSE NEIGHBOUR: 'it returns false'. Refute it at one input. -/
def arenaKnownWrong : ChangeSpec := { name := "arenaKnown", fn := fun _ => fun
  | [] => { results := [.lit (.bool false)], args := [] }
  | _ => none }
def ArenaKnownWrongFalsely : Prop := arenaKnownRow.holds Tryz.pinned (OpenSpec.ofChange arenaKnownWrong)

/-- 'croftlaw13.CacheKnown': WHATEVER THE INPUT: true; the input reads as it did. -/
def cacheKnownSpec : ChangeSpec := { name := "cacheKnown", fn := fun _ => fun
  | [] => { results := [.lit (.bool true)], args := [] }
  | _ => none }
def cacheKnownRow : OpenClaim := { program := "ytdnefddmghhgpaagreatdoor", sum := "f56f53d8b2a1cf844c105c41232ce11698a37244fc3810a287cb4e3647cd9278", func := "croft/croftlaw13.CacheKnown", spec := "cacheKnown", inPlace := ["(*internal/sync.Mutex).Lock", "internal/race.Disable", "sync/atomic.CompareAndSwapInt32", "internal/race.Enable", "internal/race.Acquire", "(*internal/sync.Mutex).lockSlow", "internal/sync.runtime_canSpin", "internal/sync.runtime_doSpin", "internal/sync.throw", "internal/sync.runtime_nanotime", "internal/sync.runtime_SemacquireMutex", "sync/atomic.AddInt32", "(*internal/sync.Mutex).Unlock", "internal/race.ReleaseMerge", "(*internal/sync.Mutex).unlockSlow", "internal/sync.fatal", "internal/sync.runtime_Semrelease"], unfollowed := true, recurses := true, named := ["croft/slab.widths"], apart := false, laid := [("croft/slab.widths", laid_croft_slab_widths)] }
def CacheKnownSaid : Prop := cacheKnownRow.holds Tryz.pinned (OpenSpec.ofChange cacheKnownSpec)

/-- ITS FALSE NEIGHBOUR: 'it returns false'. Refute it at one input. -/
def cacheKnownWrong : ChangeSpec := { name := "cacheKnown", fn := fun _ => fun
  | [] => { results := [.lit (.bool false)], args := [] }
  | _ => none }
def CacheKnownWrongFalsely : Prop := cacheKnownRow.holds Tryz.pinned (OpenSpec.ofChange cacheKnownWrong)

/-- 'croftlaw19.DictKnown': WHATEVER THE INPUT: true; the input reads as it did. -/
def dictKnownSpec : ChangeSpec := { name := "dictKnown", fn := fun _ => fun
  | [] => { results := [.lit (.bool true)], args := [] }
  | _ => none }
def dictKnownRow : OpenClaim := { program := "ytdnefddmghhgpaagreatdoor", sum := "f56f53d8b2a1cf844c105c41232ce11698a37244fc3810a287cb4e3647cd9278", func := "croft/croftlaw19.DictKnown", spec := "dictKnown", inPlace := ["(*internal/sync.Mutex).Lock", "internal/race.Disable", "sync/atomic.CompareAndSwapInt32", "internal/race.Enable", "internal/race.Acquire", "(*internal/sync.Mutex).lockSlow", "internal/sync.runtime_canSpin", "internal/sync.runtime_doSpin", "internal/sync.throw", "internal/sync.runtime_nanotime", "internal/sync.runtime_SemacquireMutex", "sync/atomic.AddInt32", "(*internal/sync.Mutex).Unlock", "internal/race.ReleaseMerge", "(*internal/sync.Mutex).unlockSlow", "internal/sync.fatal", "internal/sync.runtime_Semrelease"], unfollowed := true, recurses := true, named := ["croft/slab.widths"], apart := false, laid := [("croft/slab.widths", laid_croft_slab_widths)] }
def DictKnownSaid : Prop := dictKnownRow.holds Tryz.pinned (OpenSpec.ofChange dictKnownSpec)

/-- ITS FALSE NEIGHBOUR: 'it returns false'. Refute it at one input. -/
def dictKnownWrong : ChangeSpec := { name := "dictKnown", fn := fun _ => fun
  | [] => { results := [.lit (.bool false)], args := [] }
  | _ => none }
def DictKnownWrongFalsely : Prop := dictKnownRow.holds Tryz.pinned (OpenSpec.ofChange dictKnownWrong)

/-- 'croftlaw23.GuardKnown': WHATEVER THE INPUT: true; the input reads as it did. -/
def guardKnownSpec : ChangeSpec := { name := "guardKnown", fn := fun _ => fun
  | [] => { results := [.lit (.bool true)], args := [] }
  | _ => none }
def guardKnownRow : OpenClaim := { program := "ytdnefddmghhgpaagreatdoor", sum := "f56f53d8b2a1cf844c105c41232ce11698a37244fc3810a287cb4e3647cd9278", func := "croft/croftlaw23.GuardKnown", spec := "guardKnown", inPlace := ["(*internal/sync.Mutex).Lock", "internal/race.Disable", "sync/atomic.CompareAndSwapInt32", "internal/race.Enable", "internal/race.Acquire", "(*internal/sync.Mutex).lockSlow", "internal/sync.runtime_canSpin", "internal/sync.runtime_doSpin", "internal/sync.throw", "internal/sync.runtime_nanotime", "internal/sync.runtime_SemacquireMutex", "sync/atomic.AddInt32", "(*internal/sync.Mutex).Unlock", "internal/race.ReleaseMerge", "(*internal/sync.Mutex).unlockSlow", "internal/sync.fatal", "internal/sync.runtime_Semrelease"], unfollowed := true, recurses := true, named := ["croft/slab.widths"], apart := false, laid := [("croft/slab.widths", laid_croft_slab_widths)] }
def GuardKnownSaid : Prop := guardKnownRow.holds Tryz.pinned (OpenSpec.ofChange guardKnownSpec)

/-- ITS FALSE NEIGHBOUR: 'it returns false'. Refute it at one input. -/
def guardKnownWrong : ChangeSpec := { name := "guardKnown", fn := fun _ => fun
  | [] => { results := [.lit (.bool false)], args := [] }
  | _ => none }
def GuardKnownWrongFalsely : Prop := guardKnownRow.holds Tryz.pinned (OpenSpec.ofChange guardKnownWrong)

/-- 'croftlaw22.MarchKnown': WHATEVER THE INPUT: true; the input reads as it did. -/
def marchKnownSpec : ChangeSpec := { name := "marchKnown", fn := fun _ => fun
  | [] => { results := [.lit (.bool true)], args := [] }
  | _ => none }
def marchKnownRow : OpenClaim := { program := "ytdnefddmghhgpaagreatdoor", sum := "f56f53d8b2a1cf844c105c41232ce11698a37244fc3810a287cb4e3647cd9278", func := "croft/croftlaw22.MarchKnown", spec := "marchKnown", inPlace := ["(*internal/sync.Mutex).Lock", "internal/race.Disable", "sync/atomic.CompareAndSwapInt32", "internal/race.Enable", "internal/race.Acquire", "(*internal/sync.Mutex).lockSlow", "internal/sync.runtime_canSpin", "internal/sync.runtime_doSpin", "internal/sync.throw", "internal/sync.runtime_nanotime", "internal/sync.runtime_SemacquireMutex", "sync/atomic.AddInt32", "(*internal/sync.Mutex).Unlock", "internal/race.ReleaseMerge", "(*internal/sync.Mutex).unlockSlow", "internal/sync.fatal", "internal/sync.runtime_Semrelease"], unfollowed := true, recurses := true, named := ["croft/slab.widths", "croft/march.looks"], apart := false, laid := [("croft/slab.widths", laid_croft_slab_widths), ("croft/march.looks", laid_croft_march_looks)] }
def MarchKnownSaid : Prop := marchKnownRow.holds Tryz.pinned (OpenSpec.ofChange marchKnownSpec)

/-- ITS FALSE NEIGHBOUR: 'it returns false'. Refute it at one input. -/
def marchKnownWrong : ChangeSpec := { name := "marchKnown", fn := fun _ => fun
  | [] => { results := [.lit (.bool false)], args := [] }
  | _ => none }
def MarchKnownWrongFalsely : Prop := marchKnownRow.holds Tryz.pinned (OpenSpec.ofChange marchKnownWrong)

/-- 'croftlaw17.TraceKnown': WHATEVER THE INPUT: true; the input reads as it did. -/
def traceKnownSpec : ChangeSpec := { name := "traceKnown", fn := fun _ => fun
  | [] => { results := [.lit (.bool true)], args := [] }
  | _ => none }
def traceKnownRow : OpenClaim := { program := "ytdnefddmghhgpaagreatdoor", sum := "f56f53d8b2a1cf844c105c41232ce11698a37244fc3810a287cb4e3647cd9278", func := "croft/croftlaw17.TraceKnown", spec := "traceKnown", inPlace := ["(*internal/sync.Mutex).Lock", "internal/race.Disable", "sync/atomic.CompareAndSwapInt32", "internal/race.Enable", "internal/race.Acquire", "(*internal/sync.Mutex).lockSlow", "internal/sync.runtime_canSpin", "internal/sync.runtime_doSpin", "internal/sync.throw", "internal/sync.runtime_nanotime", "internal/sync.runtime_SemacquireMutex", "sync/atomic.AddInt32", "(*internal/sync.Mutex).Unlock", "internal/race.ReleaseMerge", "(*internal/sync.Mutex).unlockSlow", "internal/sync.fatal", "internal/sync.runtime_Semrelease"], unfollowed := true, recurses := true, named := ["croft/slab.widths"], apart := false, laid := [("croft/slab.widths", laid_croft_slab_widths)] }
def TraceKnownSaid : Prop := traceKnownRow.holds Tryz.pinned (OpenSpec.ofChange traceKnownSpec)

/-- ITS FALSE NEIGHBOUR: 'it returns false'. Refute it at one input. -/
def traceKnownWrong : ChangeSpec := { name := "traceKnown", fn := fun _ => fun
  | [] => { results := [.lit (.bool false)], args := [] }
  | _ => none }
def TraceKnownWrongFalsely : Prop := traceKnownRow.holds Tryz.pinned (OpenSpec.ofChange traceKnownWrong)

/-- 'croftlaw18.CountKnown': WHATEVER THE INPUT: true; the input reads as it did. -/
def countKnownSpec : ChangeSpec := { name := "countKnown", fn := fun _ => fun
  | [] => { results := [.lit (.bool true)], args := [] }
  | _ => none }
def countKnownRow : OpenClaim := { program := "ytdnefddmghhgpaagreatdoor", sum := "f56f53d8b2a1cf844c105c41232ce11698a37244fc3810a287cb4e3647cd9278", func := "croft/croftlaw18.CountKnown", spec := "countKnown", inPlace := ["(*internal/sync.Mutex).Lock", "internal/race.Disable", "sync/atomic.CompareAndSwapInt32", "internal/race.Enable", "internal/race.Acquire", "(*internal/sync.Mutex).lockSlow", "internal/sync.runtime_canSpin", "internal/sync.runtime_doSpin", "internal/sync.throw", "internal/sync.runtime_nanotime", "internal/sync.runtime_SemacquireMutex", "sync/atomic.AddInt32", "(*internal/sync.Mutex).Unlock", "internal/race.ReleaseMerge", "(*internal/sync.Mutex).unlockSlow", "internal/sync.fatal", "internal/sync.runtime_Semrelease", "internal/reflectlite.ValueOf", "internal/reflectlite.Swapper", "(internal/reflectlite.Value).Len"], unfollowed := true, recurses := true, named := ["croft/slab.widths"], apart := false, laid := [("croft/slab.widths", laid_croft_slab_widths)] }
def CountKnownSaid : Prop := countKnownRow.holds Tryz.pinned (OpenSpec.ofChange countKnownSpec)

/-- ITS FALSE NEIGHBOUR: 'it returns false'. Refute it at one input. -/
def countKnownWrong : ChangeSpec := { name := "countKnown", fn := fun _ => fun
  | [] => { results := [.lit (.bool false)], args := [] }
  | _ => none }
def CountKnownWrongFalsely : Prop := countKnownRow.holds Tryz.pinned (OpenSpec.ofChange countKnownWrong)

/-- 'croftlaw14.QuotaKnown': WHATEVER THE INPUT: true; the input reads as it did. -/
def quotaKnownSpec : ChangeSpec := { name := "quotaKnown", fn := fun _ => fun
  | [] => { results := [.lit (.bool true)], args := [] }
  | _ => none }
def quotaKnownRow : OpenClaim := { program := "ytdnefddmghhgpaagreatdoor", sum := "f56f53d8b2a1cf844c105c41232ce11698a37244fc3810a287cb4e3647cd9278", func := "croft/croftlaw14.QuotaKnown", spec := "quotaKnown", inPlace := ["(*internal/sync.Mutex).Lock", "internal/race.Disable", "sync/atomic.CompareAndSwapInt32", "internal/race.Enable", "internal/race.Acquire", "(*internal/sync.Mutex).lockSlow", "internal/sync.runtime_canSpin", "internal/sync.runtime_doSpin", "internal/sync.throw", "internal/sync.runtime_nanotime", "internal/sync.runtime_SemacquireMutex", "sync/atomic.AddInt32", "(*internal/sync.Mutex).Unlock", "internal/race.ReleaseMerge", "(*internal/sync.Mutex).unlockSlow", "internal/sync.fatal", "internal/sync.runtime_Semrelease", "internal/reflectlite.ValueOf", "internal/reflectlite.Swapper", "(internal/reflectlite.Value).Len"], unfollowed := true, recurses := true, named := ["croft/slab.widths"], apart := false, laid := [("croft/slab.widths", laid_croft_slab_widths)] }
def QuotaKnownSaid : Prop := quotaKnownRow.holds Tryz.pinned (OpenSpec.ofChange quotaKnownSpec)

/-- ITS FALSE NEIGHBOUR: 'it returns false'. Refute it at one input. -/
def quotaKnownWrong : ChangeSpec := { name := "quotaKnown", fn := fun _ => fun
  | [] => { results := [.lit (.bool false)], args := [] }
  | _ => none }
def QuotaKnownWrongFalsely : Prop := quotaKnownRow.holds Tryz.pinned (OpenSpec.ofChange quotaKnownWrong)

/- THE SECOND FORM. 'bulk': how many values and letters a reading holds, each counted each time it is reached (what is shared counts as often as it is met; a slice's spare places count too). A statement '..UptoSaid' is the law's where the arguments, and the package variables that the reading takes, are together of bulk at most 1048576: NARROWER than '..Said'. Prove '..Said' where nothing that the law and all that it calls make is longer than what came in: it says more and counts as full. Else prove '..UptoSaid'. A law counts once. -/
mutual
def uptoBulk {H : Type} : DataW H → Nat
  | .lit (.string bytes) => bytes.length + 1
  | .lit _ => 1
  | .nil => 1
  | .ptr d => uptoBulk d + 1
  | .slice elems spare => uptoBulkAll elems + uptoBulkAll spare + 1
  | .agg parts => uptoBulkAll parts + 1
  | .iface _ d => uptoBulk d + 1
  | .map entries => uptoBulkEntries entries + 1
  | .held _ => 1
def uptoBulkAll {H : Type} : List (DataW H) → Nat
  | [] => 0
  | d :: r => uptoBulk d + uptoBulkAll r
def uptoBulkEntries {H : Type} : List (Lit × DataW H) → Nat
  | [] => 0
  | x :: r => uptoBulkEntry x + uptoBulkEntries r
def uptoBulkEntry {H : Type} : Lit × DataW H → Nat
  | (.string bytes, d) => bytes.length + uptoBulk d + 1
  | (_, d) => uptoBulk d + 1
 end
def uptoSmall : (H : Type) → List (DataW H) → Bool := fun _ ds => decide (uptoBulkAll ds ≤ 1048576)
def OpenSpec.upto (s : _root_.Go.ChangeSpec) : _root_.Go.OpenSpec := { _root_.Go.OpenSpec.ofChange s with cond := some uptoSmall }

/-- 'croftlaw15.ArenaKnown', WHERE WHAT IT READS IS OF BULK AT MOST 1048576: true; the input reads as it did. -/
def arenaKnownUptoRow : OpenClaim := { program := "ytdnefddmghhgpaagreatdoor", sum := "f56f53d8b2a1cf844c105c41232ce11698a37244fc3810a287cb4e3647cd9278", func := "croft/croftlaw15.ArenaKnown", spec := "arenaKnown", inPlace := ["(*internal/sync.Mutex).Lock", "internal/race.Disable", "sync/atomic.CompareAndSwapInt32", "internal/race.Enable", "internal/race.Acquire", "(*internal/sync.Mutex).lockSlow", "internal/sync.runtime_canSpin", "internal/sync.runtime_doSpin", "internal/sync.throw", "internal/sync.runtime_nanotime", "internal/sync.runtime_SemacquireMutex", "sync/atomic.AddInt32", "(*internal/sync.Mutex).Unlock", "internal/race.ReleaseMerge", "(*internal/sync.Mutex).unlockSlow", "internal/sync.fatal", "internal/sync.runtime_Semrelease", "sync/atomic.LoadUint32", "sync/atomic.StoreUint32"], unfollowed := true, recurses := true, named := ["croft/slab.widths"], apart := false, laid := [("croft/slab.widths", laid_croft_slab_widths)], narrowed := true }
def ArenaKnownUptoSaid : Prop := arenaKnownUptoRow.holds Tryz.pinned (OpenSpec.upto arenaKnownSpec)

/-- 'croftlaw13.CacheKnown', WHERE WHAT IT READS IS OF BULK AT MOST 1048576: true; the input reads as it did. -/
def cacheKnownUptoRow : OpenClaim := { program := "ytdnefddmghhgpaagreatdoor", sum := "f56f53d8b2a1cf844c105c41232ce11698a37244fc3810a287cb4e3647cd9278", func := "croft/croftlaw13.CacheKnown", spec := "cacheKnown", inPlace := ["(*internal/sync.Mutex).Lock", "internal/race.Disable", "sync/atomic.CompareAndSwapInt32", "internal/race.Enable", "internal/race.Acquire", "(*internal/sync.Mutex).lockSlow", "internal/sync.runtime_canSpin", "internal/sync.runtime_doSpin", "internal/sync.throw", "internal/sync.runtime_nanotime", "internal/sync.runtime_SemacquireMutex", "sync/atomic.AddInt32", "(*internal/sync.Mutex).Unlock", "internal/race.ReleaseMerge", "(*internal/sync.Mutex).unlockSlow", "internal/sync.fatal", "internal/sync.runtime_Semrelease"], unfollowed := true, recurses := true, named := ["croft/slab.widths"], apart := false, laid := [("croft/slab.widths", laid_croft_slab_widths)], narrowed := true }
def CacheKnownUptoSaid : Prop := cacheKnownUptoRow.holds Tryz.pinned (OpenSpec.upto cacheKnownSpec)

/-- 'croftlaw19.DictKnown', WHERE WHAT IT READS IS OF BULK AT MOST 1048576: true; the input reads as it did. -/
def dictKnownUptoRow : OpenClaim := { program := "ytdnefddmghhgpaagreatdoor", sum := "f56f53d8b2a1cf844c105c41232ce11698a37244fc3810a287cb4e3647cd9278", func := "croft/croftlaw19.DictKnown", spec := "dictKnown", inPlace := ["(*internal/sync.Mutex).Lock", "internal/race.Disable", "sync/atomic.CompareAndSwapInt32", "internal/race.Enable", "internal/race.Acquire", "(*internal/sync.Mutex).lockSlow", "internal/sync.runtime_canSpin", "internal/sync.runtime_doSpin", "internal/sync.throw", "internal/sync.runtime_nanotime", "internal/sync.runtime_SemacquireMutex", "sync/atomic.AddInt32", "(*internal/sync.Mutex).Unlock", "internal/race.ReleaseMerge", "(*internal/sync.Mutex).unlockSlow", "internal/sync.fatal", "internal/sync.runtime_Semrelease"], unfollowed := true, recurses := true, named := ["croft/slab.widths"], apart := false, laid := [("croft/slab.widths", laid_croft_slab_widths)], narrowed := true }
def DictKnownUptoSaid : Prop := dictKnownUptoRow.holds Tryz.pinned (OpenSpec.upto dictKnownSpec)

/-- 'croftlaw23.GuardKnown', WHERE WHAT IT READS IS OF BULK AT MOST 1048576: true; the input reads as it did. -/
def guardKnownUptoRow : OpenClaim := { program := "ytdnefddmghhgpaagreatdoor", sum := "f56f53d8b2a1cf844c105c41232ce11698a37244fc3810a287cb4e3647cd9278", func := "croft/croftlaw23.GuardKnown", spec := "guardKnown", inPlace := ["(*internal/sync.Mutex).Lock", "internal/race.Disable", "sync/atomic.CompareAndSwapInt32", "internal/race.Enable", "internal/race.Acquire", "(*internal/sync.Mutex).lockSlow", "internal/sync.runtime_canSpin", "internal/sync.runtime_doSpin", "internal/sync.throw", "internal/sync.runtime_nanotime", "internal/sync.runtime_SemacquireMutex", "sync/atomic.AddInt32", "(*internal/sync.Mutex).Unlock", "internal/race.ReleaseMerge", "(*internal/sync.Mutex).unlockSlow", "internal/sync.fatal", "internal/sync.runtime_Semrelease"], unfollowed := true, recurses := true, named := ["croft/slab.widths"], apart := false, laid := [("croft/slab.widths", laid_croft_slab_widths)], narrowed := true }
def GuardKnownUptoSaid : Prop := guardKnownUptoRow.holds Tryz.pinned (OpenSpec.upto guardKnownSpec)

/-- 'croftlaw22.MarchKnown', WHERE WHAT IT READS IS OF BULK AT MOST 1048576: true; the input reads as it did. -/
def marchKnownUptoRow : OpenClaim := { program := "ytdnefddmghhgpaagreatdoor", sum := "f56f53d8b2a1cf844c105c41232ce11698a37244fc3810a287cb4e3647cd9278", func := "croft/croftlaw22.MarchKnown", spec := "marchKnown", inPlace := ["(*internal/sync.Mutex).Lock", "internal/race.Disable", "sync/atomic.CompareAndSwapInt32", "internal/race.Enable", "internal/race.Acquire", "(*internal/sync.Mutex).lockSlow", "internal/sync.runtime_canSpin", "internal/sync.runtime_doSpin", "internal/sync.throw", "internal/sync.runtime_nanotime", "internal/sync.runtime_SemacquireMutex", "sync/atomic.AddInt32", "(*internal/sync.Mutex).Unlock", "internal/race.ReleaseMerge", "(*internal/sync.Mutex).unlockSlow", "internal/sync.fatal", "internal/sync.runtime_Semrelease"], unfollowed := true, recurses := true, named := ["croft/slab.widths", "croft/march.looks"], apart := false, laid := [("croft/slab.widths", laid_croft_slab_widths), ("croft/march.looks", laid_croft_march_looks)], narrowed := true }
def MarchKnownUptoSaid : Prop := marchKnownUptoRow.holds Tryz.pinned (OpenSpec.upto marchKnownSpec)

/-- 'croftlaw17.TraceKnown', WHERE WHAT IT READS IS OF BULK AT MOST 1048576: true; the input reads as it did. -/
def traceKnownUptoRow : OpenClaim := { program := "ytdnefddmghhgpaagreatdoor", sum := "f56f53d8b2a1cf844c105c41232ce11698a37244fc3810a287cb4e3647cd9278", func := "croft/croftlaw17.TraceKnown", spec := "traceKnown", inPlace := ["(*internal/sync.Mutex).Lock", "internal/race.Disable", "sync/atomic.CompareAndSwapInt32", "internal/race.Enable", "internal/race.Acquire", "(*internal/sync.Mutex).lockSlow", "internal/sync.runtime_canSpin", "internal/sync.runtime_doSpin", "internal/sync.throw", "internal/sync.runtime_nanotime", "internal/sync.runtime_SemacquireMutex", "sync/atomic.AddInt32", "(*internal/sync.Mutex).Unlock", "internal/race.ReleaseMerge", "(*internal/sync.Mutex).unlockSlow", "internal/sync.fatal", "internal/sync.runtime_Semrelease"], unfollowed := true, recurses := true, named := ["croft/slab.widths"], apart := false, laid := [("croft/slab.widths", laid_croft_slab_widths)], narrowed := true }
def TraceKnownUptoSaid : Prop := traceKnownUptoRow.holds Tryz.pinned (OpenSpec.upto traceKnownSpec)

/-- 'croftlaw18.CountKnown', WHERE WHAT IT READS IS OF BULK AT MOST 1048576: true; the input reads as it did. -/
def countKnownUptoRow : OpenClaim := { program := "ytdnefddmghhgpaagreatdoor", sum := "f56f53d8b2a1cf844c105c41232ce11698a37244fc3810a287cb4e3647cd9278", func := "croft/croftlaw18.CountKnown", spec := "countKnown", inPlace := ["(*internal/sync.Mutex).Lock", "internal/race.Disable", "sync/atomic.CompareAndSwapInt32", "internal/race.Enable", "internal/race.Acquire", "(*internal/sync.Mutex).lockSlow", "internal/sync.runtime_canSpin", "internal/sync.runtime_doSpin", "internal/sync.throw", "internal/sync.runtime_nanotime", "internal/sync.runtime_SemacquireMutex", "sync/atomic.AddInt32", "(*internal/sync.Mutex).Unlock", "internal/race.ReleaseMerge", "(*internal/sync.Mutex).unlockSlow", "internal/sync.fatal", "internal/sync.runtime_Semrelease", "internal/reflectlite.ValueOf", "internal/reflectlite.Swapper", "(internal/reflectlite.Value).Len"], unfollowed := true, recurses := true, named := ["croft/slab.widths"], apart := false, laid := [("croft/slab.widths", laid_croft_slab_widths)], narrowed := true }
def CountKnownUptoSaid : Prop := countKnownUptoRow.holds Tryz.pinned (OpenSpec.upto countKnownSpec)

/-- 'croftlaw14.QuotaKnown', WHERE WHAT IT READS IS OF BULK AT MOST 1048576: true; the input reads as it did. -/
def quotaKnownUptoRow : OpenClaim := { program := "ytdnefddmghhgpaagreatdoor", sum := "f56f53d8b2a1cf844c105c41232ce11698a37244fc3810a287cb4e3647cd9278", func := "croft/croftlaw14.QuotaKnown", spec := "quotaKnown", inPlace := ["(*internal/sync.Mutex).Lock", "internal/race.Disable", "sync/atomic.CompareAndSwapInt32", "internal/race.Enable", "internal/race.Acquire", "(*internal/sync.Mutex).lockSlow", "internal/sync.runtime_canSpin", "internal/sync.runtime_doSpin", "internal/sync.throw", "internal/sync.runtime_nanotime", "internal/sync.runtime_SemacquireMutex", "sync/atomic.AddInt32", "(*internal/sync.Mutex).Unlock", "internal/race.ReleaseMerge", "(*internal/sync.Mutex).unlockSlow", "internal/sync.fatal", "internal/sync.runtime_Semrelease", "internal/reflectlite.ValueOf", "internal/reflectlite.Swapper", "(internal/reflectlite.Value).Len"], unfollowed := true, recurses := true, named := ["croft/slab.widths"], apart := false, laid := [("croft/slab.widths", laid_croft_slab_widths)], narrowed := true }
def QuotaKnownUptoSaid : Prop := quotaKnownUptoRow.holds Tryz.pinned (OpenSpec.upto quotaKnownSpec)

end Rows
end Go.Proofs.YtdnefddmghhgpaaGreatDoor
