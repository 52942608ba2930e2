/-
  DERIVED. GIVEN WITH THE SEED: THE CARDS: each row of YtodfejeifbhoeaaDoorRows.lean that lists a variable, with what it lists TIED to the program's text (the seventh form; the later family's looks); each row that meets fmt, with fmt's text TOLD by the authors' own Lean function (tested against real Go, not proved from fmt's source: count such statements apart). THE CARD IS WHAT COUNTS. Prove the row's statement (the work); the ties are given (YtodfejeifbhoeaaDoorTie.lean); close each card by the builder's one call (the guide's Derived/Test/ToyasCard.lean, 'card_holds'). Laid BY PROGRAM, IN A SANDBOX (cutbox-door.mjs). By AI agents, Wed Nov 11 2026. No macro, syntax, notation, axiom, sorry.
-/
import Derived.Test.YtodfejeifbhoeaaDoorRows
import GoSem.ClaimSeven
namespace Go.Proofs.YtodfejeifbhoeaaDoor
namespace Rows

/-- THE TIED CARD OF 'terrazzolaw10.MediumKeeps'. -/
def mediumKeepsCard : Claim7 := { stood := { row := mediumKeepsRow, standIns := [], harness := (true, "0eb663ff6c1b3cc928eb0bda83fc4d601d64313d07723e129eaaf25fb25fc93c"), looks := false }, kinds := [], alts := [], laidByText := true, laidKinds := [.data], laidTests := true, laidLooks := .later }
def MediumKeepsCardSaid : Prop := Claim7.holds Tryd.pinned (.plain (OpenSpec.ofChange mediumKeepsSpec)) mediumKeepsCard

/-- THE TIED CARD OF 'terrazzolaw10.MediumCuts'. -/
def mediumCutsCard : Claim7 := { stood := { row := mediumCutsRow, standIns := [], harness := (true, "0eb663ff6c1b3cc928eb0bda83fc4d601d64313d07723e129eaaf25fb25fc93c"), looks := false }, kinds := [], alts := [], laidByText := true, laidKinds := [.data], laidTests := true, laidLooks := .later }
def MediumCutsCardSaid : Prop := Claim7.holds Tryd.pinned (.plain (OpenSpec.ofChange mediumCutsSpec)) mediumCutsCard

/-- THE TIED CARD OF 'terrazzolaw10.MediumRoom'. -/
def mediumRoomCard : Claim7 := { stood := { row := mediumRoomRow, standIns := [], harness := (true, "0eb663ff6c1b3cc928eb0bda83fc4d601d64313d07723e129eaaf25fb25fc93c"), looks := false }, kinds := [], alts := [], laidByText := true, laidKinds := [.data], laidTests := true, laidLooks := .later }
def MediumRoomCardSaid : Prop := Claim7.holds Tryd.pinned (.plain (OpenSpec.ofChange mediumRoomSpec)) mediumRoomCard

/-- THE TIED CARD OF 'terrazzolaw10.MediumOrder'. -/
def mediumOrderCard : Claim7 := { stood := { row := mediumOrderRow, standIns := [], harness := (true, "0eb663ff6c1b3cc928eb0bda83fc4d601d64313d07723e129eaaf25fb25fc93c"), looks := false }, kinds := [], alts := [], laidByText := true, laidKinds := [.data], laidTests := true, laidLooks := .later }
def MediumOrderCardSaid : Prop := Claim7.holds Tryd.pinned (.plain (OpenSpec.ofChange mediumOrderSpec)) mediumOrderCard

/-- THE TIED CARD OF 'terrazzolaw10.MediumPlays'. -/
def mediumPlaysCard : Claim7 := { stood := { row := mediumPlaysRow, standIns := [], harness := (true, "0eb663ff6c1b3cc928eb0bda83fc4d601d64313d07723e129eaaf25fb25fc93c"), looks := false }, kinds := [], alts := [], laidByText := true, laidKinds := [.data], laidTests := true, laidLooks := .later }
def MediumPlaysCardSaid : Prop := Claim7.holds Tryd.pinned (.plain (OpenSpec.ofChange mediumPlaysSpec)) mediumPlaysCard

/-- THE TIED CARD OF 'terrazzolaw10.MediumSpoilt'. -/
def mediumSpoiltCard : Claim7 := { stood := { row := mediumSpoiltRow, standIns := [], harness := (true, "0eb663ff6c1b3cc928eb0bda83fc4d601d64313d07723e129eaaf25fb25fc93c"), looks := false }, kinds := [], alts := [], laidByText := true, laidKinds := [.data], laidTests := true, laidLooks := .later }
def MediumSpoiltCardSaid : Prop := Claim7.holds Tryd.pinned (.plain (OpenSpec.ofChange mediumSpoiltSpec)) mediumSpoiltCard

/-- THE TIED CARD OF 'terrazzolaw10.MediumNone'. -/
def mediumNoneCard : Claim7 := { stood := { row := mediumNoneRow, standIns := [], harness := (true, "0eb663ff6c1b3cc928eb0bda83fc4d601d64313d07723e129eaaf25fb25fc93c"), looks := false }, kinds := [], alts := [], laidByText := true, laidKinds := [.data], laidTests := true, laidLooks := .later }
def MediumNoneCardSaid : Prop := Claim7.holds Tryd.pinned (.plain (OpenSpec.ofChange mediumNoneSpec)) mediumNoneCard

/-- THE SECOND FORM's CARD OF 'terrazzolaw10.MediumKeeps'. -/
def mediumKeepsUptoCard : Claim7 := { stood := { row := mediumKeepsUptoRow, standIns := [], harness := (true, "0eb663ff6c1b3cc928eb0bda83fc4d601d64313d07723e129eaaf25fb25fc93c"), looks := false }, kinds := [], alts := [], laidByText := true, laidKinds := [.data], laidTests := true, laidLooks := .later }
def MediumKeepsUptoCardSaid : Prop := Claim7.holds Tryd.pinned (.plain (OpenSpec.upto mediumKeepsSpec)) mediumKeepsUptoCard

/-- THE SECOND FORM's CARD OF 'terrazzolaw10.MediumCuts'. -/
def mediumCutsUptoCard : Claim7 := { stood := { row := mediumCutsUptoRow, standIns := [], harness := (true, "0eb663ff6c1b3cc928eb0bda83fc4d601d64313d07723e129eaaf25fb25fc93c"), looks := false }, kinds := [], alts := [], laidByText := true, laidKinds := [.data], laidTests := true, laidLooks := .later }
def MediumCutsUptoCardSaid : Prop := Claim7.holds Tryd.pinned (.plain (OpenSpec.upto mediumCutsSpec)) mediumCutsUptoCard

/-- THE SECOND FORM's CARD OF 'terrazzolaw10.MediumRoom'. -/
def mediumRoomUptoCard : Claim7 := { stood := { row := mediumRoomUptoRow, standIns := [], harness := (true, "0eb663ff6c1b3cc928eb0bda83fc4d601d64313d07723e129eaaf25fb25fc93c"), looks := false }, kinds := [], alts := [], laidByText := true, laidKinds := [.data], laidTests := true, laidLooks := .later }
def MediumRoomUptoCardSaid : Prop := Claim7.holds Tryd.pinned (.plain (OpenSpec.upto mediumRoomSpec)) mediumRoomUptoCard

/-- THE SECOND FORM's CARD OF 'terrazzolaw10.MediumOrder'. -/
def mediumOrderUptoCard : Claim7 := { stood := { row := mediumOrderUptoRow, standIns := [], harness := (true, "0eb663ff6c1b3cc928eb0bda83fc4d601d64313d07723e129eaaf25fb25fc93c"), looks := false }, kinds := [], alts := [], laidByText := true, laidKinds := [.data], laidTests := true, laidLooks := .later }
def MediumOrderUptoCardSaid : Prop := Claim7.holds Tryd.pinned (.plain (OpenSpec.upto mediumOrderSpec)) mediumOrderUptoCard

/-- THE SECOND FORM's CARD OF 'terrazzolaw10.MediumPlays'. -/
def mediumPlaysUptoCard : Claim7 := { stood := { row := mediumPlaysUptoRow, standIns := [], harness := (true, "0eb663ff6c1b3cc928eb0bda83fc4d601d64313d07723e129eaaf25fb25fc93c"), looks := false }, kinds := [], alts := [], laidByText := true, laidKinds := [.data], laidTests := true, laidLooks := .later }
def MediumPlaysUptoCardSaid : Prop := Claim7.holds Tryd.pinned (.plain (OpenSpec.upto mediumPlaysSpec)) mediumPlaysUptoCard

/-- THE SECOND FORM's CARD OF 'terrazzolaw10.MediumSpoilt'. -/
def mediumSpoiltUptoCard : Claim7 := { stood := { row := mediumSpoiltUptoRow, standIns := [], harness := (true, "0eb663ff6c1b3cc928eb0bda83fc4d601d64313d07723e129eaaf25fb25fc93c"), looks := false }, kinds := [], alts := [], laidByText := true, laidKinds := [.data], laidTests := true, laidLooks := .later }
def MediumSpoiltUptoCardSaid : Prop := Claim7.holds Tryd.pinned (.plain (OpenSpec.upto mediumSpoiltSpec)) mediumSpoiltUptoCard

/-- THE SECOND FORM's CARD OF 'terrazzolaw10.MediumNone'. -/
def mediumNoneUptoCard : Claim7 := { stood := { row := mediumNoneUptoRow, standIns := [], harness := (true, "0eb663ff6c1b3cc928eb0bda83fc4d601d64313d07723e129eaaf25fb25fc93c"), looks := false }, kinds := [], alts := [], laidByText := true, laidKinds := [.data], laidTests := true, laidLooks := .later }
def MediumNoneUptoCardSaid : Prop := Claim7.holds Tryd.pinned (.plain (OpenSpec.upto mediumNoneSpec)) mediumNoneUptoCard
end Rows
end Go.Proofs.YtodfejeifbhoeaaDoor
