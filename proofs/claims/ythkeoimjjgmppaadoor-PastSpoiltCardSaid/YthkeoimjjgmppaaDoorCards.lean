/-
  DERIVED. GIVEN WITH THE SEED: THE CARDS: each row of YthkeoimjjgmppaaDoorRows.lean that lists a variable, with what it lists TIED to the program's text (the seventh form; the later family's looks); each row that meets fmt, with fmt's text TOLD by the authors' own Lean function (tested against real Go, not proved from fmt's source: count such statements apart). THE CARD IS WHAT COUNTS. Prove the row's statement (the work); the ties are given (YthkeoimjjgmppaaDoorTie.lean); close each card by the builder's one call (the guide's Derived/Test/ToyasCard.lean, 'card_holds'). Laid BY PROGRAM, IN A SANDBOX (cutbox-door.mjs). By AI agents, Wed Nov 11 2026. No macro, syntax, notation, axiom, sorry.
-/
import Derived.Test.YthkeoimjjgmppaaDoorRows
import GoSem.ClaimSeven
namespace Go.Proofs.YthkeoimjjgmppaaDoor
namespace Rows

/-- THE TIED CARD OF 'terrazzolaw23.PastOpen'. -/
def pastOpenCard : Claim7 := { stood := { row := pastOpenRow, standIns := [], harness := (true, "72bb0ddee28707c79f730e5cfbe9deaa4bb8fda1189f4aefcc9cf1eaee260915"), looks := false }, kinds := [], alts := [], laidByText := true, laidKinds := [.data], laidTests := true, laidLooks := .later }
def PastOpenCardSaid : Prop := Claim7.holds Tryd.pinned (.plain (OpenSpec.ofChange pastOpenSpec)) pastOpenCard

/-- THE TIED CARD OF 'terrazzolaw23.PastCuts'. -/
def pastCutsCard : Claim7 := { stood := { row := pastCutsRow, standIns := [], harness := (true, "72bb0ddee28707c79f730e5cfbe9deaa4bb8fda1189f4aefcc9cf1eaee260915"), looks := false }, kinds := [], alts := [], laidByText := true, laidKinds := [.data], laidTests := true, laidLooks := .later }
def PastCutsCardSaid : Prop := Claim7.holds Tryd.pinned (.plain (OpenSpec.ofChange pastCutsSpec)) pastCutsCard

/-- THE TIED CARD OF 'terrazzolaw23.PastRights'. -/
def pastRightsCard : Claim7 := { stood := { row := pastRightsRow, standIns := [], harness := (true, "72bb0ddee28707c79f730e5cfbe9deaa4bb8fda1189f4aefcc9cf1eaee260915"), looks := false }, kinds := [], alts := [], laidByText := true, laidKinds := [.data], laidTests := true, laidLooks := .later }
def PastRightsCardSaid : Prop := Claim7.holds Tryd.pinned (.plain (OpenSpec.ofChange pastRightsSpec)) pastRightsCard

/-- THE TIED CARD OF 'terrazzolaw23.PastImages'. -/
def pastImagesCard : Claim7 := { stood := { row := pastImagesRow, standIns := [], harness := (true, "72bb0ddee28707c79f730e5cfbe9deaa4bb8fda1189f4aefcc9cf1eaee260915"), looks := false }, kinds := [], alts := [], laidByText := true, laidKinds := [.data], laidTests := true, laidLooks := .later }
def PastImagesCardSaid : Prop := Claim7.holds Tryd.pinned (.plain (OpenSpec.ofChange pastImagesSpec)) pastImagesCard

/-- THE TIED CARD OF 'terrazzolaw23.PastHonest'. -/
def pastHonestCard : Claim7 := { stood := { row := pastHonestRow, standIns := [], harness := (true, "72bb0ddee28707c79f730e5cfbe9deaa4bb8fda1189f4aefcc9cf1eaee260915"), looks := false }, kinds := [], alts := [], laidByText := true, laidKinds := [.data], laidTests := true, laidLooks := .later }
def PastHonestCardSaid : Prop := Claim7.holds Tryd.pinned (.plain (OpenSpec.ofChange pastHonestSpec)) pastHonestCard

/-- THE TIED CARD OF 'terrazzolaw23.PastSpoilt'. -/
def pastSpoiltCard : Claim7 := { stood := { row := pastSpoiltRow, standIns := [], harness := (true, "72bb0ddee28707c79f730e5cfbe9deaa4bb8fda1189f4aefcc9cf1eaee260915"), looks := false }, kinds := [], alts := [], laidByText := true, laidKinds := [.data], laidTests := true, laidLooks := .later }
def PastSpoiltCardSaid : Prop := Claim7.holds Tryd.pinned (.plain (OpenSpec.ofChange pastSpoiltSpec)) pastSpoiltCard

/-- THE SECOND FORM's CARD OF 'terrazzolaw23.PastOpen'. -/
def pastOpenUptoCard : Claim7 := { stood := { row := pastOpenUptoRow, standIns := [], harness := (true, "72bb0ddee28707c79f730e5cfbe9deaa4bb8fda1189f4aefcc9cf1eaee260915"), looks := false }, kinds := [], alts := [], laidByText := true, laidKinds := [.data], laidTests := true, laidLooks := .later }
def PastOpenUptoCardSaid : Prop := Claim7.holds Tryd.pinned (.plain (OpenSpec.upto pastOpenSpec)) pastOpenUptoCard

/-- THE SECOND FORM's CARD OF 'terrazzolaw23.PastCuts'. -/
def pastCutsUptoCard : Claim7 := { stood := { row := pastCutsUptoRow, standIns := [], harness := (true, "72bb0ddee28707c79f730e5cfbe9deaa4bb8fda1189f4aefcc9cf1eaee260915"), looks := false }, kinds := [], alts := [], laidByText := true, laidKinds := [.data], laidTests := true, laidLooks := .later }
def PastCutsUptoCardSaid : Prop := Claim7.holds Tryd.pinned (.plain (OpenSpec.upto pastCutsSpec)) pastCutsUptoCard

/-- THE SECOND FORM's CARD OF 'terrazzolaw23.PastRights'. -/
def pastRightsUptoCard : Claim7 := { stood := { row := pastRightsUptoRow, standIns := [], harness := (true, "72bb0ddee28707c79f730e5cfbe9deaa4bb8fda1189f4aefcc9cf1eaee260915"), looks := false }, kinds := [], alts := [], laidByText := true, laidKinds := [.data], laidTests := true, laidLooks := .later }
def PastRightsUptoCardSaid : Prop := Claim7.holds Tryd.pinned (.plain (OpenSpec.upto pastRightsSpec)) pastRightsUptoCard

/-- THE SECOND FORM's CARD OF 'terrazzolaw23.PastImages'. -/
def pastImagesUptoCard : Claim7 := { stood := { row := pastImagesUptoRow, standIns := [], harness := (true, "72bb0ddee28707c79f730e5cfbe9deaa4bb8fda1189f4aefcc9cf1eaee260915"), looks := false }, kinds := [], alts := [], laidByText := true, laidKinds := [.data], laidTests := true, laidLooks := .later }
def PastImagesUptoCardSaid : Prop := Claim7.holds Tryd.pinned (.plain (OpenSpec.upto pastImagesSpec)) pastImagesUptoCard

/-- THE SECOND FORM's CARD OF 'terrazzolaw23.PastHonest'. -/
def pastHonestUptoCard : Claim7 := { stood := { row := pastHonestUptoRow, standIns := [], harness := (true, "72bb0ddee28707c79f730e5cfbe9deaa4bb8fda1189f4aefcc9cf1eaee260915"), looks := false }, kinds := [], alts := [], laidByText := true, laidKinds := [.data], laidTests := true, laidLooks := .later }
def PastHonestUptoCardSaid : Prop := Claim7.holds Tryd.pinned (.plain (OpenSpec.upto pastHonestSpec)) pastHonestUptoCard

/-- THE SECOND FORM's CARD OF 'terrazzolaw23.PastSpoilt'. -/
def pastSpoiltUptoCard : Claim7 := { stood := { row := pastSpoiltUptoRow, standIns := [], harness := (true, "72bb0ddee28707c79f730e5cfbe9deaa4bb8fda1189f4aefcc9cf1eaee260915"), looks := false }, kinds := [], alts := [], laidByText := true, laidKinds := [.data], laidTests := true, laidLooks := .later }
def PastSpoiltUptoCardSaid : Prop := Claim7.holds Tryd.pinned (.plain (OpenSpec.upto pastSpoiltSpec)) pastSpoiltUptoCard
end Rows
end Go.Proofs.YthkeoimjjgmppaaDoor
