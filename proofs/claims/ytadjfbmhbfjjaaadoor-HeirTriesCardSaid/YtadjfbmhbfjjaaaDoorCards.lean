/-
  DERIVED. GIVEN WITH THE SEED: THE CARDS: each row of YtadjfbmhbfjjaaaDoorRows.lean that lists a variable, with what it lists TIED to the program's text (the seventh form; the later family's looks); each row that meets fmt, with fmt's text TOLD by the authors' own Lean function (tested against real Go, not proved from fmt's source: count such statements apart). THE CARD IS WHAT COUNTS. Prove the row's statement (the work); the ties are given (YtadjfbmhbfjjaaaDoorTie.lean); close each card by the builder's one call (the guide's Derived/Test/ToyasCard.lean, 'card_holds'). Laid BY PROGRAM, IN A SANDBOX (cutbox-door.mjs). By AI agents, Wed Nov 11 2026. No macro, syntax, notation, axiom, sorry.
-/
import Derived.Test.YtadjfbmhbfjjaaaDoorRows
import GoSem.ClaimSeven
namespace Go.Proofs.YtadjfbmhbfjjaaaDoor
namespace Rows

/-- THE TIED CARD OF 'instarlaw10.HeirAll'. -/
def heirAllCard : Claim7 := { stood := { row := heirAllRow, standIns := [], harness := (true, "9a25f292ff9b40122fbd5b189386aaa4859d5055cd32b2bf2041ca1d93425f72"), looks := false }, kinds := [], alts := [], laidByText := true, laidKinds := [.listed, .data], laidTests := true, laidLooks := .later }
def HeirAllCardSaid : Prop := Claim7.holds Tryd.pinned (.plain (OpenSpec.ofChange heirAllSpec)) heirAllCard

/-- THE TIED CARD OF 'instarlaw10.HeirTries'. -/
def heirTriesCard : Claim7 := { stood := { row := heirTriesRow, standIns := [], harness := (true, "9a25f292ff9b40122fbd5b189386aaa4859d5055cd32b2bf2041ca1d93425f72"), looks := false }, kinds := [], alts := [], laidByText := true, laidKinds := [.listed, .data], laidTests := true, laidLooks := .later }
def HeirTriesCardSaid : Prop := Claim7.holds Tryd.pinned (.plain (OpenSpec.ofChange heirTriesSpec)) heirTriesCard

/-- THE SECOND FORM's CARD OF 'instarlaw10.HeirAll'. -/
def heirAllUptoCard : Claim7 := { stood := { row := heirAllUptoRow, standIns := [], harness := (true, "9a25f292ff9b40122fbd5b189386aaa4859d5055cd32b2bf2041ca1d93425f72"), looks := false }, kinds := [], alts := [], laidByText := true, laidKinds := [.listed, .data], laidTests := true, laidLooks := .later }
def HeirAllUptoCardSaid : Prop := Claim7.holds Tryd.pinned (.plain (OpenSpec.upto heirAllSpec)) heirAllUptoCard

/-- THE SECOND FORM's CARD OF 'instarlaw10.HeirTries'. -/
def heirTriesUptoCard : Claim7 := { stood := { row := heirTriesUptoRow, standIns := [], harness := (true, "9a25f292ff9b40122fbd5b189386aaa4859d5055cd32b2bf2041ca1d93425f72"), looks := false }, kinds := [], alts := [], laidByText := true, laidKinds := [.listed, .data], laidTests := true, laidLooks := .later }
def HeirTriesUptoCardSaid : Prop := Claim7.holds Tryd.pinned (.plain (OpenSpec.upto heirTriesSpec)) heirTriesUptoCard
end Rows
end Go.Proofs.YtadjfbmhbfjjaaaDoor
