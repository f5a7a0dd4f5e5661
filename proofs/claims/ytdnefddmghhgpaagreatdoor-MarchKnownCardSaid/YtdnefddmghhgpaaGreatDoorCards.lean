/-
  DERIVED. GIVEN WITH THE SEED: THE CARDS: each row of YtdnefddmghhgpaaGreatDoorRows.lean that lists a variable, with what it lists TIED to the program's text (the seventh form; the later family's looks); each row that meets fmt, with fmt's text TOLD by the authors' own Lean function (tested against real Go, not proved from fmt's source: count such statements apart). THE CARD IS WHAT COUNTS. Prove the row's statement (the work); the ties are given (YtdnefddmghhgpaaGreatDoorTie.lean); close each card by the builder's one call (the guide's Derived/Test/ToyasCard.lean, 'card_holds'). Laid BY PROGRAM, IN A SANDBOX (cutbox-door.mjs). By AI agents, Wed Nov 11 2026. No macro, syntax, notation, axiom, sorry.
-/
import Derived.Test.YtdnefddmghhgpaaGreatDoorRows
import GoSem.ClaimSeven
namespace Go.Proofs.YtdnefddmghhgpaaGreatDoor
namespace Rows

/-- THE TIED CARD OF 'croftlaw15.ArenaKnown'. -/
def arenaKnownCard : Claim7 := { stood := { row := arenaKnownRow, standIns := [], harness := (true, "d6c4d136f33ae509d5e1b8d0e590986420a72b4daa374938f70fd4b03eb5a7b8"), looks := true }, kinds := [], alts := [], laidByText := true, laidKinds := [.data], laidTests := true, laidLooks := .later }
def ArenaKnownCardSaid : Prop := Claim7.holds Tryz.pinned (.plain (OpenSpec.ofChange arenaKnownSpec)) arenaKnownCard

/-- THE TIED CARD OF 'croftlaw13.CacheKnown'. -/
def cacheKnownCard : Claim7 := { stood := { row := cacheKnownRow, standIns := [], harness := (true, "d6c4d136f33ae509d5e1b8d0e590986420a72b4daa374938f70fd4b03eb5a7b8"), looks := true }, kinds := [], alts := [], laidByText := true, laidKinds := [.data], laidTests := true, laidLooks := .later }
def CacheKnownCardSaid : Prop := Claim7.holds Tryz.pinned (.plain (OpenSpec.ofChange cacheKnownSpec)) cacheKnownCard

/-- THE TIED CARD OF 'croftlaw19.DictKnown'. -/
def dictKnownCard : Claim7 := { stood := { row := dictKnownRow, standIns := [], harness := (true, "d6c4d136f33ae509d5e1b8d0e590986420a72b4daa374938f70fd4b03eb5a7b8"), looks := true }, kinds := [], alts := [], laidByText := true, laidKinds := [.data], laidTests := true, laidLooks := .later }
def DictKnownCardSaid : Prop := Claim7.holds Tryz.pinned (.plain (OpenSpec.ofChange dictKnownSpec)) dictKnownCard

/-- THE TIED CARD OF 'croftlaw23.GuardKnown'. -/
def guardKnownCard : Claim7 := { stood := { row := guardKnownRow, standIns := [], harness := (true, "d6c4d136f33ae509d5e1b8d0e590986420a72b4daa374938f70fd4b03eb5a7b8"), looks := true }, kinds := [], alts := [], laidByText := true, laidKinds := [.data], laidTests := true, laidLooks := .later }
def GuardKnownCardSaid : Prop := Claim7.holds Tryz.pinned (.plain (OpenSpec.ofChange guardKnownSpec)) guardKnownCard

/-- THE TIED CARD OF 'croftlaw22.MarchKnown'. -/
def marchKnownCard : Claim7 := { stood := { row := marchKnownRow, standIns := [], harness := (true, "d6c4d136f33ae509d5e1b8d0e590986420a72b4daa374938f70fd4b03eb5a7b8"), looks := true }, kinds := [], alts := [], laidByText := true, laidKinds := [.data, .funcs], laidTests := true, laidLooks := .later }
def MarchKnownCardSaid : Prop := Claim7.holds Tryz.pinned (.plain (OpenSpec.ofChange marchKnownSpec)) marchKnownCard

/-- THE TIED CARD OF 'croftlaw17.TraceKnown'. -/
def traceKnownCard : Claim7 := { stood := { row := traceKnownRow, standIns := [], harness := (true, "d6c4d136f33ae509d5e1b8d0e590986420a72b4daa374938f70fd4b03eb5a7b8"), looks := true }, kinds := [], alts := [], laidByText := true, laidKinds := [.data], laidTests := true, laidLooks := .later }
def TraceKnownCardSaid : Prop := Claim7.holds Tryz.pinned (.plain (OpenSpec.ofChange traceKnownSpec)) traceKnownCard

/-- THE TIED CARD OF 'croftlaw18.CountKnown'. -/
def countKnownCard : Claim7 := { stood := { row := countKnownRow, standIns := [], harness := (true, "d6c4d136f33ae509d5e1b8d0e590986420a72b4daa374938f70fd4b03eb5a7b8"), looks := true }, kinds := [], alts := [], laidByText := true, laidKinds := [.data], laidTests := true, laidLooks := .later }
def CountKnownCardSaid : Prop := Claim7.holds Tryz.pinned (.plain (OpenSpec.ofChange countKnownSpec)) countKnownCard

/-- THE TIED CARD OF 'croftlaw14.QuotaKnown'. -/
def quotaKnownCard : Claim7 := { stood := { row := quotaKnownRow, standIns := [], harness := (true, "d6c4d136f33ae509d5e1b8d0e590986420a72b4daa374938f70fd4b03eb5a7b8"), looks := true }, kinds := [], alts := [], laidByText := true, laidKinds := [.data], laidTests := true, laidLooks := .later }
def QuotaKnownCardSaid : Prop := Claim7.holds Tryz.pinned (.plain (OpenSpec.ofChange quotaKnownSpec)) quotaKnownCard

/-- THE SECOND FORM's CARD OF 'croftlaw15.ArenaKnown'. -/
def arenaKnownUptoCard : Claim7 := { stood := { row := arenaKnownUptoRow, standIns := [], harness := (true, "d6c4d136f33ae509d5e1b8d0e590986420a72b4daa374938f70fd4b03eb5a7b8"), looks := true }, kinds := [], alts := [], laidByText := true, laidKinds := [.data], laidTests := true, laidLooks := .later }
def ArenaKnownUptoCardSaid : Prop := Claim7.holds Tryz.pinned (.plain (OpenSpec.upto arenaKnownSpec)) arenaKnownUptoCard

/-- THE SECOND FORM's CARD OF 'croftlaw13.CacheKnown'. -/
def cacheKnownUptoCard : Claim7 := { stood := { row := cacheKnownUptoRow, standIns := [], harness := (true, "d6c4d136f33ae509d5e1b8d0e590986420a72b4daa374938f70fd4b03eb5a7b8"), looks := true }, kinds := [], alts := [], laidByText := true, laidKinds := [.data], laidTests := true, laidLooks := .later }
def CacheKnownUptoCardSaid : Prop := Claim7.holds Tryz.pinned (.plain (OpenSpec.upto cacheKnownSpec)) cacheKnownUptoCard

/-- THE SECOND FORM's CARD OF 'croftlaw19.DictKnown'. -/
def dictKnownUptoCard : Claim7 := { stood := { row := dictKnownUptoRow, standIns := [], harness := (true, "d6c4d136f33ae509d5e1b8d0e590986420a72b4daa374938f70fd4b03eb5a7b8"), looks := true }, kinds := [], alts := [], laidByText := true, laidKinds := [.data], laidTests := true, laidLooks := .later }
def DictKnownUptoCardSaid : Prop := Claim7.holds Tryz.pinned (.plain (OpenSpec.upto dictKnownSpec)) dictKnownUptoCard

/-- THE SECOND FORM's CARD OF 'croftlaw23.GuardKnown'. -/
def guardKnownUptoCard : Claim7 := { stood := { row := guardKnownUptoRow, standIns := [], harness := (true, "d6c4d136f33ae509d5e1b8d0e590986420a72b4daa374938f70fd4b03eb5a7b8"), looks := true }, kinds := [], alts := [], laidByText := true, laidKinds := [.data], laidTests := true, laidLooks := .later }
def GuardKnownUptoCardSaid : Prop := Claim7.holds Tryz.pinned (.plain (OpenSpec.upto guardKnownSpec)) guardKnownUptoCard

/-- THE SECOND FORM's CARD OF 'croftlaw22.MarchKnown'. -/
def marchKnownUptoCard : Claim7 := { stood := { row := marchKnownUptoRow, standIns := [], harness := (true, "d6c4d136f33ae509d5e1b8d0e590986420a72b4daa374938f70fd4b03eb5a7b8"), looks := true }, kinds := [], alts := [], laidByText := true, laidKinds := [.data, .funcs], laidTests := true, laidLooks := .later }
def MarchKnownUptoCardSaid : Prop := Claim7.holds Tryz.pinned (.plain (OpenSpec.upto marchKnownSpec)) marchKnownUptoCard

/-- THE SECOND FORM's CARD OF 'croftlaw17.TraceKnown'. -/
def traceKnownUptoCard : Claim7 := { stood := { row := traceKnownUptoRow, standIns := [], harness := (true, "d6c4d136f33ae509d5e1b8d0e590986420a72b4daa374938f70fd4b03eb5a7b8"), looks := true }, kinds := [], alts := [], laidByText := true, laidKinds := [.data], laidTests := true, laidLooks := .later }
def TraceKnownUptoCardSaid : Prop := Claim7.holds Tryz.pinned (.plain (OpenSpec.upto traceKnownSpec)) traceKnownUptoCard

/-- THE SECOND FORM's CARD OF 'croftlaw18.CountKnown'. -/
def countKnownUptoCard : Claim7 := { stood := { row := countKnownUptoRow, standIns := [], harness := (true, "d6c4d136f33ae509d5e1b8d0e590986420a72b4daa374938f70fd4b03eb5a7b8"), looks := true }, kinds := [], alts := [], laidByText := true, laidKinds := [.data], laidTests := true, laidLooks := .later }
def CountKnownUptoCardSaid : Prop := Claim7.holds Tryz.pinned (.plain (OpenSpec.upto countKnownSpec)) countKnownUptoCard

/-- THE SECOND FORM's CARD OF 'croftlaw14.QuotaKnown'. -/
def quotaKnownUptoCard : Claim7 := { stood := { row := quotaKnownUptoRow, standIns := [], harness := (true, "d6c4d136f33ae509d5e1b8d0e590986420a72b4daa374938f70fd4b03eb5a7b8"), looks := true }, kinds := [], alts := [], laidByText := true, laidKinds := [.data], laidTests := true, laidLooks := .later }
def QuotaKnownUptoCardSaid : Prop := Claim7.holds Tryz.pinned (.plain (OpenSpec.upto quotaKnownSpec)) quotaKnownUptoCard
end Rows
end Go.Proofs.YtdnefddmghhgpaaGreatDoor
