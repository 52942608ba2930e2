/-
  DERIVED. GIVEN WITH THE SEED: THE CARDS: each row of YthpmmnpjdpgamaaDoorRows.lean that lists a variable, with what it lists TIED to the program's text (the seventh form; the later family's looks); each row that meets fmt, with fmt's text TOLD by the authors' own Lean function (tested against real Go, not proved from fmt's source: count such statements apart). THE CARD IS WHAT COUNTS. Prove the row's statement (the work); the ties are given (YthpmmnpjdpgamaaDoorTie.lean); close each card by the builder's one call (the guide's Derived/Test/ToyasCard.lean, 'card_holds'). Laid BY PROGRAM, IN A SANDBOX (cutbox-door.mjs). By AI agents, Wed Nov 11 2026. No macro, syntax, notation, axiom, sorry.
-/
import Derived.Test.YthpmmnpjdpgamaaDoorRows
import GoSem.ClaimSeven
namespace Go.Proofs.YthpmmnpjdpgamaaDoor
namespace Rows

/-- THE TIED CARD OF 'terrazzolaw07.EntryChecks'. -/
def entryChecksCard : Claim7 := { stood := { row := entryChecksRow, standIns := [], harness := (true, "cd7d71fcb2a79817651a95244c924090964e3e69bc3ae1db6a8cc228639b578a"), looks := false }, kinds := [], alts := [], laidByText := true, laidKinds := [.data, .data, .data, .data, .data], laidTests := true, laidLooks := .later }
def EntryChecksCardSaid : Prop := Claim7.holds Tryd.pinned (.plain (OpenSpec.ofChange entryChecksSpec)) entryChecksCard

/-- THE TIED CARD OF 'terrazzolaw07.EntryPacks'. -/
def entryPacksCard : Claim7 := { stood := { row := entryPacksRow, standIns := [], harness := (true, "cd7d71fcb2a79817651a95244c924090964e3e69bc3ae1db6a8cc228639b578a"), looks := false }, kinds := [], alts := [], laidByText := true, laidKinds := [.data, .data, .data, .data, .data], laidTests := true, laidLooks := .later }
def EntryPacksCardSaid : Prop := Claim7.holds Tryd.pinned (.plain (OpenSpec.ofChange entryPacksSpec)) entryPacksCard

/-- THE TIED CARD OF 'terrazzolaw07.EntryNames'. -/
def entryNamesCard : Claim7 := { stood := { row := entryNamesRow, standIns := [], harness := (true, "cd7d71fcb2a79817651a95244c924090964e3e69bc3ae1db6a8cc228639b578a"), looks := false }, kinds := [], alts := [], laidByText := true, laidKinds := [.data, .data, .data, .data, .data], laidTests := true, laidLooks := .later }
def EntryNamesCardSaid : Prop := Claim7.holds Tryd.pinned (.plain (OpenSpec.ofChange entryNamesSpec)) entryNamesCard

/-- THE TIED CARD OF 'terrazzolaw07.EntryBack'. -/
def entryBackCard : Claim7 := { stood := { row := entryBackRow, standIns := [], harness := (true, "cd7d71fcb2a79817651a95244c924090964e3e69bc3ae1db6a8cc228639b578a"), looks := false }, kinds := [], alts := [], laidByText := true, laidKinds := [.data, .data, .data, .data, .data], laidTests := true, laidLooks := .later }
def EntryBackCardSaid : Prop := Claim7.holds Tryd.pinned (.plain (OpenSpec.ofChange entryBackSpec)) entryBackCard

/-- THE TIED CARD OF 'terrazzolaw07.EntryTurned'. -/
def entryTurnedCard : Claim7 := { stood := { row := entryTurnedRow, standIns := [], harness := (true, "cd7d71fcb2a79817651a95244c924090964e3e69bc3ae1db6a8cc228639b578a"), looks := false }, kinds := [], alts := [], laidByText := true, laidKinds := [.data, .data, .data, .data, .data], laidTests := true, laidLooks := .later }
def EntryTurnedCardSaid : Prop := Claim7.holds Tryd.pinned (.plain (OpenSpec.ofChange entryTurnedSpec)) entryTurnedCard

/-- THE TIED CARD OF 'terrazzolaw07.EntryOwn'. -/
def entryOwnCard : Claim7 := { stood := { row := entryOwnRow, standIns := [], harness := (true, "cd7d71fcb2a79817651a95244c924090964e3e69bc3ae1db6a8cc228639b578a"), looks := false }, kinds := [], alts := [], laidByText := true, laidKinds := [.data, .data, .data, .data, .data], laidTests := true, laidLooks := .later }
def EntryOwnCardSaid : Prop := Claim7.holds Tryd.pinned (.plain (OpenSpec.ofChange entryOwnSpec)) entryOwnCard

/-- THE SECOND FORM's CARD OF 'terrazzolaw07.EntryChecks'. -/
def entryChecksUptoCard : Claim7 := { stood := { row := entryChecksUptoRow, standIns := [], harness := (true, "cd7d71fcb2a79817651a95244c924090964e3e69bc3ae1db6a8cc228639b578a"), looks := false }, kinds := [], alts := [], laidByText := true, laidKinds := [.data, .data, .data, .data, .data], laidTests := true, laidLooks := .later }
def EntryChecksUptoCardSaid : Prop := Claim7.holds Tryd.pinned (.plain (OpenSpec.upto entryChecksSpec)) entryChecksUptoCard

/-- THE SECOND FORM's CARD OF 'terrazzolaw07.EntryPacks'. -/
def entryPacksUptoCard : Claim7 := { stood := { row := entryPacksUptoRow, standIns := [], harness := (true, "cd7d71fcb2a79817651a95244c924090964e3e69bc3ae1db6a8cc228639b578a"), looks := false }, kinds := [], alts := [], laidByText := true, laidKinds := [.data, .data, .data, .data, .data], laidTests := true, laidLooks := .later }
def EntryPacksUptoCardSaid : Prop := Claim7.holds Tryd.pinned (.plain (OpenSpec.upto entryPacksSpec)) entryPacksUptoCard

/-- THE SECOND FORM's CARD OF 'terrazzolaw07.EntryNames'. -/
def entryNamesUptoCard : Claim7 := { stood := { row := entryNamesUptoRow, standIns := [], harness := (true, "cd7d71fcb2a79817651a95244c924090964e3e69bc3ae1db6a8cc228639b578a"), looks := false }, kinds := [], alts := [], laidByText := true, laidKinds := [.data, .data, .data, .data, .data], laidTests := true, laidLooks := .later }
def EntryNamesUptoCardSaid : Prop := Claim7.holds Tryd.pinned (.plain (OpenSpec.upto entryNamesSpec)) entryNamesUptoCard

/-- THE SECOND FORM's CARD OF 'terrazzolaw07.EntryBack'. -/
def entryBackUptoCard : Claim7 := { stood := { row := entryBackUptoRow, standIns := [], harness := (true, "cd7d71fcb2a79817651a95244c924090964e3e69bc3ae1db6a8cc228639b578a"), looks := false }, kinds := [], alts := [], laidByText := true, laidKinds := [.data, .data, .data, .data, .data], laidTests := true, laidLooks := .later }
def EntryBackUptoCardSaid : Prop := Claim7.holds Tryd.pinned (.plain (OpenSpec.upto entryBackSpec)) entryBackUptoCard

/-- THE SECOND FORM's CARD OF 'terrazzolaw07.EntryTurned'. -/
def entryTurnedUptoCard : Claim7 := { stood := { row := entryTurnedUptoRow, standIns := [], harness := (true, "cd7d71fcb2a79817651a95244c924090964e3e69bc3ae1db6a8cc228639b578a"), looks := false }, kinds := [], alts := [], laidByText := true, laidKinds := [.data, .data, .data, .data, .data], laidTests := true, laidLooks := .later }
def EntryTurnedUptoCardSaid : Prop := Claim7.holds Tryd.pinned (.plain (OpenSpec.upto entryTurnedSpec)) entryTurnedUptoCard

/-- THE SECOND FORM's CARD OF 'terrazzolaw07.EntryOwn'. -/
def entryOwnUptoCard : Claim7 := { stood := { row := entryOwnUptoRow, standIns := [], harness := (true, "cd7d71fcb2a79817651a95244c924090964e3e69bc3ae1db6a8cc228639b578a"), looks := false }, kinds := [], alts := [], laidByText := true, laidKinds := [.data, .data, .data, .data, .data], laidTests := true, laidLooks := .later }
def EntryOwnUptoCardSaid : Prop := Claim7.holds Tryd.pinned (.plain (OpenSpec.upto entryOwnSpec)) entryOwnUptoCard
end Rows
end Go.Proofs.YthpmmnpjdpgamaaDoor
