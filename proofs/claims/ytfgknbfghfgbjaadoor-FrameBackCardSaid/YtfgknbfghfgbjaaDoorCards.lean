/-
  DERIVED. GIVEN WITH THE SEED: THE CARDS: each row of YtfgknbfghfgbjaaDoorRows.lean that lists a variable, with what it lists TIED to the program's text (the seventh form; the later family's looks); each row that meets fmt, with fmt's text TOLD by the authors' own Lean function (tested against real Go, not proved from fmt's source: count such statements apart). THE CARD IS WHAT COUNTS. Prove the row's statement (the work); the ties are given (YtfgknbfghfgbjaaDoorTie.lean); close each card by the builder's one call (the guide's Derived/Test/ToyasCard.lean, 'card_holds'). Laid BY PROGRAM, IN A SANDBOX (cutbox-door.mjs). By AI agents, Wed Nov 11 2026. No macro, syntax, notation, axiom, sorry.
-/
import Derived.Test.YtfgknbfghfgbjaaDoorRows
import GoSem.ClaimSeven
namespace Go.Proofs.YtfgknbfghfgbjaaDoor
namespace Rows

/-- THE TIED CARD OF 'terrazzolaw02.FrameSums'. -/
def frameSumsCard : Claim7 := { stood := { row := frameSumsRow, standIns := [], harness := (true, "943f52421962e815ee5bf2837bd5edc14a3a8ed15296fe333076390afb178b5d"), looks := false }, kinds := [], alts := [], laidByText := true, laidKinds := [.data], laidTests := true, laidLooks := .later }
def FrameSumsCardSaid : Prop := Claim7.holds Tryd.pinned (.plain (OpenSpec.ofChange frameSumsSpec)) frameSumsCard

/-- THE TIED CARD OF 'terrazzolaw02.FrameNexts'. -/
def frameNextsCard : Claim7 := { stood := { row := frameNextsRow, standIns := [], harness := (true, "943f52421962e815ee5bf2837bd5edc14a3a8ed15296fe333076390afb178b5d"), looks := false }, kinds := [], alts := [], laidByText := true, laidKinds := [.data], laidTests := true, laidLooks := .later }
def FrameNextsCardSaid : Prop := Claim7.holds Tryd.pinned (.plain (OpenSpec.ofChange frameNextsSpec)) frameNextsCard

/-- THE TIED CARD OF 'terrazzolaw02.FrameWholes'. -/
def frameWholesCard : Claim7 := { stood := { row := frameWholesRow, standIns := [], harness := (true, "943f52421962e815ee5bf2837bd5edc14a3a8ed15296fe333076390afb178b5d"), looks := false }, kinds := [], alts := [], laidByText := true, laidKinds := [.data], laidTests := true, laidLooks := .later }
def FrameWholesCardSaid : Prop := Claim7.holds Tryd.pinned (.plain (OpenSpec.ofChange frameWholesSpec)) frameWholesCard

/-- THE TIED CARD OF 'terrazzolaw02.FrameBack'. -/
def frameBackCard : Claim7 := { stood := { row := frameBackRow, standIns := [], harness := (true, "943f52421962e815ee5bf2837bd5edc14a3a8ed15296fe333076390afb178b5d"), looks := false }, kinds := [], alts := [], laidByText := true, laidKinds := [.data], laidTests := true, laidLooks := .later }
def FrameBackCardSaid : Prop := Claim7.holds Tryd.pinned (.plain (OpenSpec.ofChange frameBackSpec)) frameBackCard

/-- THE TIED CARD OF 'terrazzolaw02.FrameTurned'. -/
def frameTurnedCard : Claim7 := { stood := { row := frameTurnedRow, standIns := [], harness := (true, "943f52421962e815ee5bf2837bd5edc14a3a8ed15296fe333076390afb178b5d"), looks := false }, kinds := [], alts := [], laidByText := true, laidKinds := [.data], laidTests := true, laidLooks := .later }
def FrameTurnedCardSaid : Prop := Claim7.holds Tryd.pinned (.plain (OpenSpec.ofChange frameTurnedSpec)) frameTurnedCard

/-- THE TIED CARD OF 'terrazzolaw02.FrameOwn'. -/
def frameOwnCard : Claim7 := { stood := { row := frameOwnRow, standIns := [], harness := (true, "943f52421962e815ee5bf2837bd5edc14a3a8ed15296fe333076390afb178b5d"), looks := false }, kinds := [], alts := [], laidByText := true, laidKinds := [.data], laidTests := true, laidLooks := .later }
def FrameOwnCardSaid : Prop := Claim7.holds Tryd.pinned (.plain (OpenSpec.ofChange frameOwnSpec)) frameOwnCard

/-- THE SECOND FORM's CARD OF 'terrazzolaw02.FrameSums'. -/
def frameSumsUptoCard : Claim7 := { stood := { row := frameSumsUptoRow, standIns := [], harness := (true, "943f52421962e815ee5bf2837bd5edc14a3a8ed15296fe333076390afb178b5d"), looks := false }, kinds := [], alts := [], laidByText := true, laidKinds := [.data], laidTests := true, laidLooks := .later }
def FrameSumsUptoCardSaid : Prop := Claim7.holds Tryd.pinned (.plain (OpenSpec.upto frameSumsSpec)) frameSumsUptoCard

/-- THE SECOND FORM's CARD OF 'terrazzolaw02.FrameNexts'. -/
def frameNextsUptoCard : Claim7 := { stood := { row := frameNextsUptoRow, standIns := [], harness := (true, "943f52421962e815ee5bf2837bd5edc14a3a8ed15296fe333076390afb178b5d"), looks := false }, kinds := [], alts := [], laidByText := true, laidKinds := [.data], laidTests := true, laidLooks := .later }
def FrameNextsUptoCardSaid : Prop := Claim7.holds Tryd.pinned (.plain (OpenSpec.upto frameNextsSpec)) frameNextsUptoCard

/-- THE SECOND FORM's CARD OF 'terrazzolaw02.FrameWholes'. -/
def frameWholesUptoCard : Claim7 := { stood := { row := frameWholesUptoRow, standIns := [], harness := (true, "943f52421962e815ee5bf2837bd5edc14a3a8ed15296fe333076390afb178b5d"), looks := false }, kinds := [], alts := [], laidByText := true, laidKinds := [.data], laidTests := true, laidLooks := .later }
def FrameWholesUptoCardSaid : Prop := Claim7.holds Tryd.pinned (.plain (OpenSpec.upto frameWholesSpec)) frameWholesUptoCard

/-- THE SECOND FORM's CARD OF 'terrazzolaw02.FrameBack'. -/
def frameBackUptoCard : Claim7 := { stood := { row := frameBackUptoRow, standIns := [], harness := (true, "943f52421962e815ee5bf2837bd5edc14a3a8ed15296fe333076390afb178b5d"), looks := false }, kinds := [], alts := [], laidByText := true, laidKinds := [.data], laidTests := true, laidLooks := .later }
def FrameBackUptoCardSaid : Prop := Claim7.holds Tryd.pinned (.plain (OpenSpec.upto frameBackSpec)) frameBackUptoCard

/-- THE SECOND FORM's CARD OF 'terrazzolaw02.FrameTurned'. -/
def frameTurnedUptoCard : Claim7 := { stood := { row := frameTurnedUptoRow, standIns := [], harness := (true, "943f52421962e815ee5bf2837bd5edc14a3a8ed15296fe333076390afb178b5d"), looks := false }, kinds := [], alts := [], laidByText := true, laidKinds := [.data], laidTests := true, laidLooks := .later }
def FrameTurnedUptoCardSaid : Prop := Claim7.holds Tryd.pinned (.plain (OpenSpec.upto frameTurnedSpec)) frameTurnedUptoCard

/-- THE SECOND FORM's CARD OF 'terrazzolaw02.FrameOwn'. -/
def frameOwnUptoCard : Claim7 := { stood := { row := frameOwnUptoRow, standIns := [], harness := (true, "943f52421962e815ee5bf2837bd5edc14a3a8ed15296fe333076390afb178b5d"), looks := false }, kinds := [], alts := [], laidByText := true, laidKinds := [.data], laidTests := true, laidLooks := .later }
def FrameOwnUptoCardSaid : Prop := Claim7.holds Tryd.pinned (.plain (OpenSpec.upto frameOwnSpec)) frameOwnUptoCard
end Rows
end Go.Proofs.YtfgknbfghfgbjaaDoor
