/-
  DERIVED. GIVEN WITH THE SEED: THE CARDS: each row of YtlgmpheammbacaaGreatDoorRows.lean that lists a variable, with what it lists TIED to the program's text (the seventh form; the later family's looks); each row that meets fmt, with fmt's text TOLD by the authors' own Lean function (tested against real Go, not proved from fmt's source: count such statements apart). THE CARD IS WHAT COUNTS. Prove the row's statement (the work); the ties are given (YtlgmpheammbacaaGreatDoorTie.lean); close each card by the builder's one call (the guide's Derived/Test/ToyasCard.lean, 'card_holds'). Laid BY PROGRAM, IN A SANDBOX (cutbox-door.mjs). By AI agents, Wed Nov 11 2026. No macro, syntax, notation, axiom, sorry.
-/
import Derived.Test.YtlgmpheammbacaaGreatDoorRows
import GoSem.ClaimSeven
namespace Go.Proofs.YtlgmpheammbacaaGreatDoor
namespace Rows

/-- THE TIED CARD OF 'croftlaw15.ArenaKept'. -/
def arenaKeptCard : Claim7 := { stood := { row := arenaKeptRow, standIns := [], harness := (true, "817c758723e18fd19d055998a437fb7a2393ac040341109b507c7ace94e1ce7e"), looks := true }, kinds := [], alts := [], laidByText := true, laidKinds := [.data], laidTests := true, laidLooks := .later }
def ArenaKeptCardSaid : Prop := Claim7.holds Tryz.pinned (.plain (OpenSpec.ofChange arenaKeptSpec)) arenaKeptCard

/-- THE TIED CARD OF 'croftlaw13.CacheNew'. -/
def cacheNewCard : Claim7 := { stood := { row := cacheNewRow, standIns := [], harness := (true, "817c758723e18fd19d055998a437fb7a2393ac040341109b507c7ace94e1ce7e"), looks := true }, kinds := [], alts := [], laidByText := true, laidKinds := [.data], laidTests := true, laidLooks := .later }
def CacheNewCardSaid : Prop := Claim7.holds Tryz.pinned (.plain (OpenSpec.ofChange cacheNewSpec)) cacheNewCard

/-- THE TIED CARD OF 'croftlaw15.ArenaSame'. -/
def arenaSameCard : Claim7 := { stood := { row := arenaSameRow, standIns := [], harness := (true, "817c758723e18fd19d055998a437fb7a2393ac040341109b507c7ace94e1ce7e"), looks := true }, kinds := [], alts := [], laidByText := true, laidKinds := [.data], laidTests := true, laidLooks := .later }
def ArenaSameCardSaid : Prop := Claim7.holds Tryz.pinned (.plain (OpenSpec.ofChange arenaSameSpec)) arenaSameCard

/-- THE TIED CARD OF 'croftlaw15.ArenaHolds'. -/
def arenaHoldsCard : Claim7 := { stood := { row := arenaHoldsRow, standIns := [], harness := (true, "817c758723e18fd19d055998a437fb7a2393ac040341109b507c7ace94e1ce7e"), looks := true }, kinds := [], alts := [], laidByText := true, laidKinds := [.data], laidTests := true, laidLooks := .later }
def ArenaHoldsCardSaid : Prop := Claim7.holds Tryz.pinned (.plain (OpenSpec.ofChange arenaHoldsSpec)) arenaHoldsCard

/-- THE TIED CARD OF 'croftlaw15.ArenaAsks'. -/
def arenaAsksCard : Claim7 := { stood := { row := arenaAsksRow, standIns := [], harness := (true, "817c758723e18fd19d055998a437fb7a2393ac040341109b507c7ace94e1ce7e"), looks := true }, kinds := [], alts := [], laidByText := true, laidKinds := [.data], laidTests := true, laidLooks := .later }
def ArenaAsksCardSaid : Prop := Claim7.holds Tryz.pinned (.plain (OpenSpec.ofChange arenaAsksSpec)) arenaAsksCard

/-- THE TIED CARD OF 'croftlaw15.ArenaPlays'. -/
def arenaPlaysCard : Claim7 := { stood := { row := arenaPlaysRow, standIns := [], harness := (true, "817c758723e18fd19d055998a437fb7a2393ac040341109b507c7ace94e1ce7e"), looks := true }, kinds := [], alts := [], laidByText := true, laidKinds := [.data], laidTests := true, laidLooks := .later }
def ArenaPlaysCardSaid : Prop := Claim7.holds Tryz.pinned (.plain (OpenSpec.ofChange arenaPlaysSpec)) arenaPlaysCard

/-- THE TIED CARD OF 'croftlaw15.ArenaReturns'. -/
def arenaReturnsCard : Claim7 := { stood := { row := arenaReturnsRow, standIns := [], harness := (true, "817c758723e18fd19d055998a437fb7a2393ac040341109b507c7ace94e1ce7e"), looks := true }, kinds := [], alts := [], laidByText := true, laidKinds := [.data], laidTests := true, laidLooks := .later }
def ArenaReturnsCardSaid : Prop := Claim7.holds Tryz.pinned (.plain (OpenSpec.ofChange arenaReturnsSpec)) arenaReturnsCard

/-- THE TIED CARD OF 'croftlaw15.ArenaTwo'. -/
def arenaTwoCard : Claim7 := { stood := { row := arenaTwoRow, standIns := [], harness := (true, "817c758723e18fd19d055998a437fb7a2393ac040341109b507c7ace94e1ce7e"), looks := true }, kinds := [], alts := [], laidByText := true, laidKinds := [.data], laidTests := true, laidLooks := .later }
def ArenaTwoCardSaid : Prop := Claim7.holds Tryz.pinned (.plain (OpenSpec.ofChange arenaTwoSpec)) arenaTwoCard

/-- THE TIED CARD OF 'croftlaw13.CacheZero'. -/
def cacheZeroCard : Claim7 := { stood := { row := cacheZeroRow, standIns := [], harness := (true, "817c758723e18fd19d055998a437fb7a2393ac040341109b507c7ace94e1ce7e"), looks := true }, kinds := [], alts := [], laidByText := true, laidKinds := [.data], laidTests := true, laidLooks := .later }
def CacheZeroCardSaid : Prop := Claim7.holds Tryz.pinned (.plain (OpenSpec.ofChange cacheZeroSpec)) cacheZeroCard

/-- THE TIED CARD OF 'croftlaw13.CachePlays'. -/
def cachePlaysCard : Claim7 := { stood := { row := cachePlaysRow, standIns := [], harness := (true, "817c758723e18fd19d055998a437fb7a2393ac040341109b507c7ace94e1ce7e"), looks := true }, kinds := [], alts := [], laidByText := true, laidKinds := [.data], laidTests := true, laidLooks := .later }
def CachePlaysCardSaid : Prop := Claim7.holds Tryz.pinned (.plain (OpenSpec.ofChange cachePlaysSpec)) cachePlaysCard

/-- THE TIED CARD OF 'croftlaw13.CacheKept'. -/
def cacheKeptCard : Claim7 := { stood := { row := cacheKeptRow, standIns := [], harness := (true, "817c758723e18fd19d055998a437fb7a2393ac040341109b507c7ace94e1ce7e"), looks := true }, kinds := [], alts := [], laidByText := true, laidKinds := [.data], laidTests := true, laidLooks := .later }
def CacheKeptCardSaid : Prop := Claim7.holds Tryz.pinned (.plain (OpenSpec.ofChange cacheKeptSpec)) cacheKeptCard

/-- THE TIED CARD OF 'croftlaw13.CacheDrains'. -/
def cacheDrainsCard : Claim7 := { stood := { row := cacheDrainsRow, standIns := [], harness := (true, "817c758723e18fd19d055998a437fb7a2393ac040341109b507c7ace94e1ce7e"), looks := true }, kinds := [], alts := [], laidByText := true, laidKinds := [.data], laidTests := true, laidLooks := .later }
def CacheDrainsCardSaid : Prop := Claim7.holds Tryz.pinned (.plain (OpenSpec.ofChange cacheDrainsSpec)) cacheDrainsCard

/-- THE SECOND FORM's CARD OF 'croftlaw15.ArenaKept'. -/
def arenaKeptUptoCard : Claim7 := { stood := { row := arenaKeptUptoRow, standIns := [], harness := (true, "817c758723e18fd19d055998a437fb7a2393ac040341109b507c7ace94e1ce7e"), looks := true }, kinds := [], alts := [], laidByText := true, laidKinds := [.data], laidTests := true, laidLooks := .later }
def ArenaKeptUptoCardSaid : Prop := Claim7.holds Tryz.pinned (.plain (OpenSpec.upto arenaKeptSpec)) arenaKeptUptoCard

/-- THE SECOND FORM's CARD OF 'croftlaw13.CacheNew'. -/
def cacheNewUptoCard : Claim7 := { stood := { row := cacheNewUptoRow, standIns := [], harness := (true, "817c758723e18fd19d055998a437fb7a2393ac040341109b507c7ace94e1ce7e"), looks := true }, kinds := [], alts := [], laidByText := true, laidKinds := [.data], laidTests := true, laidLooks := .later }
def CacheNewUptoCardSaid : Prop := Claim7.holds Tryz.pinned (.plain (OpenSpec.upto cacheNewSpec)) cacheNewUptoCard

/-- THE SECOND FORM's CARD OF 'croftlaw15.ArenaSame'. -/
def arenaSameUptoCard : Claim7 := { stood := { row := arenaSameUptoRow, standIns := [], harness := (true, "817c758723e18fd19d055998a437fb7a2393ac040341109b507c7ace94e1ce7e"), looks := true }, kinds := [], alts := [], laidByText := true, laidKinds := [.data], laidTests := true, laidLooks := .later }
def ArenaSameUptoCardSaid : Prop := Claim7.holds Tryz.pinned (.plain (OpenSpec.upto arenaSameSpec)) arenaSameUptoCard

/-- THE SECOND FORM's CARD OF 'croftlaw15.ArenaHolds'. -/
def arenaHoldsUptoCard : Claim7 := { stood := { row := arenaHoldsUptoRow, standIns := [], harness := (true, "817c758723e18fd19d055998a437fb7a2393ac040341109b507c7ace94e1ce7e"), looks := true }, kinds := [], alts := [], laidByText := true, laidKinds := [.data], laidTests := true, laidLooks := .later }
def ArenaHoldsUptoCardSaid : Prop := Claim7.holds Tryz.pinned (.plain (OpenSpec.upto arenaHoldsSpec)) arenaHoldsUptoCard

/-- THE SECOND FORM's CARD OF 'croftlaw15.ArenaAsks'. -/
def arenaAsksUptoCard : Claim7 := { stood := { row := arenaAsksUptoRow, standIns := [], harness := (true, "817c758723e18fd19d055998a437fb7a2393ac040341109b507c7ace94e1ce7e"), looks := true }, kinds := [], alts := [], laidByText := true, laidKinds := [.data], laidTests := true, laidLooks := .later }
def ArenaAsksUptoCardSaid : Prop := Claim7.holds Tryz.pinned (.plain (OpenSpec.upto arenaAsksSpec)) arenaAsksUptoCard

/-- THE SECOND FORM's CARD OF 'croftlaw15.ArenaPlays'. -/
def arenaPlaysUptoCard : Claim7 := { stood := { row := arenaPlaysUptoRow, standIns := [], harness := (true, "817c758723e18fd19d055998a437fb7a2393ac040341109b507c7ace94e1ce7e"), looks := true }, kinds := [], alts := [], laidByText := true, laidKinds := [.data], laidTests := true, laidLooks := .later }
def ArenaPlaysUptoCardSaid : Prop := Claim7.holds Tryz.pinned (.plain (OpenSpec.upto arenaPlaysSpec)) arenaPlaysUptoCard

/-- THE SECOND FORM's CARD OF 'croftlaw15.ArenaReturns'. -/
def arenaReturnsUptoCard : Claim7 := { stood := { row := arenaReturnsUptoRow, standIns := [], harness := (true, "817c758723e18fd19d055998a437fb7a2393ac040341109b507c7ace94e1ce7e"), looks := true }, kinds := [], alts := [], laidByText := true, laidKinds := [.data], laidTests := true, laidLooks := .later }
def ArenaReturnsUptoCardSaid : Prop := Claim7.holds Tryz.pinned (.plain (OpenSpec.upto arenaReturnsSpec)) arenaReturnsUptoCard

/-- THE SECOND FORM's CARD OF 'croftlaw15.ArenaTwo'. -/
def arenaTwoUptoCard : Claim7 := { stood := { row := arenaTwoUptoRow, standIns := [], harness := (true, "817c758723e18fd19d055998a437fb7a2393ac040341109b507c7ace94e1ce7e"), looks := true }, kinds := [], alts := [], laidByText := true, laidKinds := [.data], laidTests := true, laidLooks := .later }
def ArenaTwoUptoCardSaid : Prop := Claim7.holds Tryz.pinned (.plain (OpenSpec.upto arenaTwoSpec)) arenaTwoUptoCard

/-- THE SECOND FORM's CARD OF 'croftlaw13.CacheZero'. -/
def cacheZeroUptoCard : Claim7 := { stood := { row := cacheZeroUptoRow, standIns := [], harness := (true, "817c758723e18fd19d055998a437fb7a2393ac040341109b507c7ace94e1ce7e"), looks := true }, kinds := [], alts := [], laidByText := true, laidKinds := [.data], laidTests := true, laidLooks := .later }
def CacheZeroUptoCardSaid : Prop := Claim7.holds Tryz.pinned (.plain (OpenSpec.upto cacheZeroSpec)) cacheZeroUptoCard

/-- THE SECOND FORM's CARD OF 'croftlaw13.CachePlays'. -/
def cachePlaysUptoCard : Claim7 := { stood := { row := cachePlaysUptoRow, standIns := [], harness := (true, "817c758723e18fd19d055998a437fb7a2393ac040341109b507c7ace94e1ce7e"), looks := true }, kinds := [], alts := [], laidByText := true, laidKinds := [.data], laidTests := true, laidLooks := .later }
def CachePlaysUptoCardSaid : Prop := Claim7.holds Tryz.pinned (.plain (OpenSpec.upto cachePlaysSpec)) cachePlaysUptoCard

/-- THE SECOND FORM's CARD OF 'croftlaw13.CacheKept'. -/
def cacheKeptUptoCard : Claim7 := { stood := { row := cacheKeptUptoRow, standIns := [], harness := (true, "817c758723e18fd19d055998a437fb7a2393ac040341109b507c7ace94e1ce7e"), looks := true }, kinds := [], alts := [], laidByText := true, laidKinds := [.data], laidTests := true, laidLooks := .later }
def CacheKeptUptoCardSaid : Prop := Claim7.holds Tryz.pinned (.plain (OpenSpec.upto cacheKeptSpec)) cacheKeptUptoCard

/-- THE SECOND FORM's CARD OF 'croftlaw13.CacheDrains'. -/
def cacheDrainsUptoCard : Claim7 := { stood := { row := cacheDrainsUptoRow, standIns := [], harness := (true, "817c758723e18fd19d055998a437fb7a2393ac040341109b507c7ace94e1ce7e"), looks := true }, kinds := [], alts := [], laidByText := true, laidKinds := [.data], laidTests := true, laidLooks := .later }
def CacheDrainsUptoCardSaid : Prop := Claim7.holds Tryz.pinned (.plain (OpenSpec.upto cacheDrainsSpec)) cacheDrainsUptoCard
end Rows
end Go.Proofs.YtlgmpheammbacaaGreatDoor
