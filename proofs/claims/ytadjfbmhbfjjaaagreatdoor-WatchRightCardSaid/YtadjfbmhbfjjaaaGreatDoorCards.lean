/-
  DERIVED. GIVEN WITH THE SEED: THE CARDS: each row of YtadjfbmhbfjjaaaGreatDoorRows.lean that lists a variable, with what it lists TIED to the program's text (the seventh form; the later family's looks); each row that meets fmt, with fmt's text TOLD by the authors' own Lean function (tested against real Go, not proved from fmt's source: count such statements apart). THE CARD IS WHAT COUNTS. Prove the row's statement (the work); the ties are given (YtadjfbmhbfjjaaaGreatDoorTie.lean); close each card by the builder's one call (the guide's Derived/Test/ToyasCard.lean, 'card_holds'). Laid BY PROGRAM, IN A SANDBOX (cutbox-door.mjs). By AI agents, Wed Nov 11 2026. No macro, syntax, notation, axiom, sorry.
-/
import Derived.Test.YtadjfbmhbfjjaaaGreatDoorRows
import GoSem.ClaimSeven
namespace Go.Proofs.YtadjfbmhbfjjaaaGreatDoor
namespace Rows

/-- THE TIED CARD OF 'instarlaw10.HeirRight'. -/
def heirRightCard : Claim7 := { stood := { row := heirRightRow, standIns := [], harness := (true, "6128e7d566beedb430fbdc412a9f4d51f2ef3b78679f54659af867f52a3333f1"), looks := false }, kinds := [], alts := [], laidByText := true, laidKinds := [.listed, .data], laidTests := true, laidLooks := .later }
def HeirRightCardSaid : Prop := Claim7.holds Tryz.pinned (.plain (OpenSpec.ofChange heirRightSpec)) heirRightCard

/-- THE TIED CARD OF 'instarlaw12.WatchRight'. -/
def watchRightCard : Claim7 := { stood := { row := watchRightRow, standIns := [], harness := (true, "6128e7d566beedb430fbdc412a9f4d51f2ef3b78679f54659af867f52a3333f1"), looks := false }, kinds := [], alts := [], laidByText := true, laidKinds := [.listed, .data], laidTests := true, laidLooks := .later }
def WatchRightCardSaid : Prop := Claim7.holds Tryz.pinned (.plain (OpenSpec.ofChange watchRightSpec)) watchRightCard

/-- THE TIED CARD OF 'instarlaw12.WatchDue'. -/
def watchDueCard : Claim7 := { stood := { row := watchDueRow, standIns := [], harness := (true, "6128e7d566beedb430fbdc412a9f4d51f2ef3b78679f54659af867f52a3333f1"), looks := false }, kinds := [], alts := [], laidByText := true, laidKinds := [.listed, .data], laidTests := true, laidLooks := .later }
def WatchDueCardSaid : Prop := Claim7.holds Tryz.pinned (.plain (OpenSpec.ofChange watchDueSpec)) watchDueCard

/-- THE TIED CARD OF 'instarlaw12.WatchFirst'. -/
def watchFirstCard : Claim7 := { stood := { row := watchFirstRow, standIns := [], harness := (true, "6128e7d566beedb430fbdc412a9f4d51f2ef3b78679f54659af867f52a3333f1"), looks := false }, kinds := [], alts := [], laidByText := true, laidKinds := [.listed, .data], laidTests := true, laidLooks := .later }
def WatchFirstCardSaid : Prop := Claim7.holds Tryz.pinned (.plain (OpenSpec.ofChange watchFirstSpec)) watchFirstCard

/-- THE TIED CARD OF 'instarlaw12.WatchApart'. -/
def watchApartCard : Claim7 := { stood := { row := watchApartRow, standIns := [], harness := (true, "6128e7d566beedb430fbdc412a9f4d51f2ef3b78679f54659af867f52a3333f1"), looks := false }, kinds := [], alts := [], laidByText := true, laidKinds := [.listed, .data], laidTests := true, laidLooks := .later }
def WatchApartCardSaid : Prop := Claim7.holds Tryz.pinned (.plain (OpenSpec.ofChange watchApartSpec)) watchApartCard

/-- THE SECOND FORM's CARD OF 'instarlaw10.HeirRight'. -/
def heirRightUptoCard : Claim7 := { stood := { row := heirRightUptoRow, standIns := [], harness := (true, "6128e7d566beedb430fbdc412a9f4d51f2ef3b78679f54659af867f52a3333f1"), looks := false }, kinds := [], alts := [], laidByText := true, laidKinds := [.listed, .data], laidTests := true, laidLooks := .later }
def HeirRightUptoCardSaid : Prop := Claim7.holds Tryz.pinned (.plain (OpenSpec.upto heirRightSpec)) heirRightUptoCard

/-- THE SECOND FORM's CARD OF 'instarlaw12.WatchRight'. -/
def watchRightUptoCard : Claim7 := { stood := { row := watchRightUptoRow, standIns := [], harness := (true, "6128e7d566beedb430fbdc412a9f4d51f2ef3b78679f54659af867f52a3333f1"), looks := false }, kinds := [], alts := [], laidByText := true, laidKinds := [.listed, .data], laidTests := true, laidLooks := .later }
def WatchRightUptoCardSaid : Prop := Claim7.holds Tryz.pinned (.plain (OpenSpec.upto watchRightSpec)) watchRightUptoCard

/-- THE SECOND FORM's CARD OF 'instarlaw12.WatchDue'. -/
def watchDueUptoCard : Claim7 := { stood := { row := watchDueUptoRow, standIns := [], harness := (true, "6128e7d566beedb430fbdc412a9f4d51f2ef3b78679f54659af867f52a3333f1"), looks := false }, kinds := [], alts := [], laidByText := true, laidKinds := [.listed, .data], laidTests := true, laidLooks := .later }
def WatchDueUptoCardSaid : Prop := Claim7.holds Tryz.pinned (.plain (OpenSpec.upto watchDueSpec)) watchDueUptoCard

/-- THE SECOND FORM's CARD OF 'instarlaw12.WatchFirst'. -/
def watchFirstUptoCard : Claim7 := { stood := { row := watchFirstUptoRow, standIns := [], harness := (true, "6128e7d566beedb430fbdc412a9f4d51f2ef3b78679f54659af867f52a3333f1"), looks := false }, kinds := [], alts := [], laidByText := true, laidKinds := [.listed, .data], laidTests := true, laidLooks := .later }
def WatchFirstUptoCardSaid : Prop := Claim7.holds Tryz.pinned (.plain (OpenSpec.upto watchFirstSpec)) watchFirstUptoCard

/-- THE SECOND FORM's CARD OF 'instarlaw12.WatchApart'. -/
def watchApartUptoCard : Claim7 := { stood := { row := watchApartUptoRow, standIns := [], harness := (true, "6128e7d566beedb430fbdc412a9f4d51f2ef3b78679f54659af867f52a3333f1"), looks := false }, kinds := [], alts := [], laidByText := true, laidKinds := [.listed, .data], laidTests := true, laidLooks := .later }
def WatchApartUptoCardSaid : Prop := Claim7.holds Tryz.pinned (.plain (OpenSpec.upto watchApartSpec)) watchApartUptoCard
end Rows
end Go.Proofs.YtadjfbmhbfjjaaaGreatDoor
