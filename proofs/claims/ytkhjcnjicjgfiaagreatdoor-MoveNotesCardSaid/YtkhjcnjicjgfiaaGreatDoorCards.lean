/-
  DERIVED. GIVEN WITH THE SEED: THE CARDS: each row of YtkhjcnjicjgfiaaGreatDoorRows.lean that lists a variable, with what it lists TIED to the program's text (the seventh form; the later family's looks); each row that meets fmt, with fmt's text TOLD by the authors' own Lean function (tested against real Go, not proved from fmt's source: count such statements apart). THE CARD IS WHAT COUNTS. Prove the row's statement (the work); the ties are given (YtkhjcnjicjgfiaaGreatDoorTie.lean); close each card by the builder's one call (the guide's Derived/Test/ToyasCard.lean, 'card_holds'). Laid BY PROGRAM, IN A SANDBOX (cutbox-door.mjs). By AI agents, Wed Nov 11 2026. No macro, syntax, notation, axiom, sorry.
-/
import Derived.Test.YtkhjcnjicjgfiaaGreatDoorRows
import GoSem.ClaimSeven
namespace Go.Proofs.YtkhjcnjicjgfiaaGreatDoor
namespace Rows

/-- THE TIED CARD OF 'instarlaw14.AbleMore'. -/
def ableMoreCard : Claim7 := { stood := { row := ableMoreRow, standIns := [], harness := (true, "0f1997641acc2bca4934c8c1f734450a105ae91ac096fbc992db8dd07149691a"), looks := true }, kinds := [], alts := [], laidByText := true, laidKinds := [.handle], laidTests := true, laidLooks := .later }
def AbleMoreCardSaid : Prop := Claim7.holds Tryz.pinned (.plain (OpenSpec.ofChange ableMoreSpec)) ableMoreCard

/-- THE TIED CARD OF 'instarlaw14.AbleBack'. -/
def ableBackCard : Claim7 := { stood := { row := ableBackRow, standIns := [], harness := (true, "0f1997641acc2bca4934c8c1f734450a105ae91ac096fbc992db8dd07149691a"), looks := true }, kinds := [], alts := [], laidByText := true, laidKinds := [.handle], laidTests := true, laidLooks := .later }
def AbleBackCardSaid : Prop := Claim7.holds Tryz.pinned (.plain (OpenSpec.ofChange ableBackSpec)) ableBackCard

/-- THE TIED CARD OF 'instarlaw06.MovePut'. -/
def movePutCard : Claim7 := { stood := { row := movePutRow, standIns := [], harness := (true, "0f1997641acc2bca4934c8c1f734450a105ae91ac096fbc992db8dd07149691a"), looks := true }, kinds := [], alts := [], laidByText := true, laidKinds := [.handle], laidTests := true, laidLooks := .later }
def MovePutCardSaid : Prop := Claim7.holds Tryz.pinned (.plain (OpenSpec.ofChange movePutSpec)) movePutCard

/-- THE TIED CARD OF 'instarlaw06.MoveBack'. -/
def moveBackCard : Claim7 := { stood := { row := moveBackRow, standIns := [], harness := (true, "0f1997641acc2bca4934c8c1f734450a105ae91ac096fbc992db8dd07149691a"), looks := true }, kinds := [], alts := [], laidByText := true, laidKinds := [.handle], laidTests := true, laidLooks := .later }
def MoveBackCardSaid : Prop := Claim7.holds Tryz.pinned (.plain (OpenSpec.ofChange moveBackSpec)) moveBackCard

/-- THE TIED CARD OF 'instarlaw06.MoveRight'. -/
def moveRightCard : Claim7 := { stood := { row := moveRightRow, standIns := [], harness := (true, "0f1997641acc2bca4934c8c1f734450a105ae91ac096fbc992db8dd07149691a"), looks := true }, kinds := [], alts := [], laidByText := true, laidKinds := [.handle], laidTests := true, laidLooks := .later }
def MoveRightCardSaid : Prop := Claim7.holds Tryz.pinned (.plain (OpenSpec.ofChange moveRightSpec)) moveRightCard

/-- THE TIED CARD OF 'instarlaw06.MoveAgain'. -/
def moveAgainCard : Claim7 := { stood := { row := moveAgainRow, standIns := [], harness := (true, "0f1997641acc2bca4934c8c1f734450a105ae91ac096fbc992db8dd07149691a"), looks := true }, kinds := [], alts := [], laidByText := true, laidKinds := [.handle], laidTests := true, laidLooks := .later }
def MoveAgainCardSaid : Prop := Claim7.holds Tryz.pinned (.plain (OpenSpec.ofChange moveAgainSpec)) moveAgainCard

/-- THE TIED CARD OF 'instarlaw06.MoveAttrs'. -/
def moveAttrsCard : Claim7 := { stood := { row := moveAttrsRow, standIns := [], harness := (true, "0f1997641acc2bca4934c8c1f734450a105ae91ac096fbc992db8dd07149691a"), looks := true }, kinds := [], alts := [], laidByText := true, laidKinds := [.handle], laidTests := true, laidLooks := .later }
def MoveAttrsCardSaid : Prop := Claim7.holds Tryz.pinned (.plain (OpenSpec.ofChange moveAttrsSpec)) moveAttrsCard

/-- THE TIED CARD OF 'instarlaw06.MoveNotes'. -/
def moveNotesCard : Claim7 := { stood := { row := moveNotesRow, standIns := [], harness := (true, "0f1997641acc2bca4934c8c1f734450a105ae91ac096fbc992db8dd07149691a"), looks := true }, kinds := [], alts := [], laidByText := true, laidKinds := [.handle], laidTests := true, laidLooks := .later }
def MoveNotesCardSaid : Prop := Claim7.holds Tryz.pinned (.plain (OpenSpec.ofChange moveNotesSpec)) moveNotesCard

/-- THE TIED CARD OF 'instarlaw14.AbleOut'. -/
def ableOutCard : Claim7 := { stood := { row := ableOutRow, standIns := [], harness := (true, "0f1997641acc2bca4934c8c1f734450a105ae91ac096fbc992db8dd07149691a"), looks := true }, kinds := [], alts := [], laidByText := true, laidKinds := [.handle], laidTests := true, laidLooks := .later }
def AbleOutCardSaid : Prop := Claim7.holds Tryz.pinned (.plain (OpenSpec.ofChange ableOutSpec)) ableOutCard

/-- THE TIED CARD OF 'instarlaw13.OwnerMoves'. -/
def ownerMovesCard : Claim7 := { stood := { row := ownerMovesRow, standIns := [], harness := (true, "0f1997641acc2bca4934c8c1f734450a105ae91ac096fbc992db8dd07149691a"), looks := true }, kinds := [], alts := [], laidByText := true, laidKinds := [.handle], laidTests := true, laidLooks := .later }
def OwnerMovesCardSaid : Prop := Claim7.holds Tryz.pinned (.plain (OpenSpec.ofChange ownerMovesSpec)) ownerMovesCard

/-- THE TIED CARD OF 'instarlaw13.OwnerBack'. -/
def ownerBackCard : Claim7 := { stood := { row := ownerBackRow, standIns := [], harness := (true, "0f1997641acc2bca4934c8c1f734450a105ae91ac096fbc992db8dd07149691a"), looks := true }, kinds := [], alts := [], laidByText := true, laidKinds := [.handle], laidTests := true, laidLooks := .later }
def OwnerBackCardSaid : Prop := Claim7.holds Tryz.pinned (.plain (OpenSpec.ofChange ownerBackSpec)) ownerBackCard

/-- THE TIED CARD OF 'instarlaw15.DutyMoves'. -/
def dutyMovesCard : Claim7 := { stood := { row := dutyMovesRow, standIns := [], harness := (true, "0f1997641acc2bca4934c8c1f734450a105ae91ac096fbc992db8dd07149691a"), looks := true }, kinds := [], alts := [], laidByText := true, laidKinds := [.handle, .listed, .data], laidTests := true, laidLooks := .later }
def DutyMovesCardSaid : Prop := Claim7.holds Tryz.pinned (.plain (OpenSpec.ofChange dutyMovesSpec)) dutyMovesCard

/-- THE SECOND FORM's CARD OF 'instarlaw14.AbleMore'. -/
def ableMoreUptoCard : Claim7 := { stood := { row := ableMoreUptoRow, standIns := [], harness := (true, "0f1997641acc2bca4934c8c1f734450a105ae91ac096fbc992db8dd07149691a"), looks := true }, kinds := [], alts := [], laidByText := true, laidKinds := [.handle], laidTests := true, laidLooks := .later }
def AbleMoreUptoCardSaid : Prop := Claim7.holds Tryz.pinned (.plain (OpenSpec.upto ableMoreSpec)) ableMoreUptoCard

/-- THE SECOND FORM's CARD OF 'instarlaw14.AbleBack'. -/
def ableBackUptoCard : Claim7 := { stood := { row := ableBackUptoRow, standIns := [], harness := (true, "0f1997641acc2bca4934c8c1f734450a105ae91ac096fbc992db8dd07149691a"), looks := true }, kinds := [], alts := [], laidByText := true, laidKinds := [.handle], laidTests := true, laidLooks := .later }
def AbleBackUptoCardSaid : Prop := Claim7.holds Tryz.pinned (.plain (OpenSpec.upto ableBackSpec)) ableBackUptoCard

/-- THE SECOND FORM's CARD OF 'instarlaw06.MovePut'. -/
def movePutUptoCard : Claim7 := { stood := { row := movePutUptoRow, standIns := [], harness := (true, "0f1997641acc2bca4934c8c1f734450a105ae91ac096fbc992db8dd07149691a"), looks := true }, kinds := [], alts := [], laidByText := true, laidKinds := [.handle], laidTests := true, laidLooks := .later }
def MovePutUptoCardSaid : Prop := Claim7.holds Tryz.pinned (.plain (OpenSpec.upto movePutSpec)) movePutUptoCard

/-- THE SECOND FORM's CARD OF 'instarlaw06.MoveBack'. -/
def moveBackUptoCard : Claim7 := { stood := { row := moveBackUptoRow, standIns := [], harness := (true, "0f1997641acc2bca4934c8c1f734450a105ae91ac096fbc992db8dd07149691a"), looks := true }, kinds := [], alts := [], laidByText := true, laidKinds := [.handle], laidTests := true, laidLooks := .later }
def MoveBackUptoCardSaid : Prop := Claim7.holds Tryz.pinned (.plain (OpenSpec.upto moveBackSpec)) moveBackUptoCard

/-- THE SECOND FORM's CARD OF 'instarlaw06.MoveRight'. -/
def moveRightUptoCard : Claim7 := { stood := { row := moveRightUptoRow, standIns := [], harness := (true, "0f1997641acc2bca4934c8c1f734450a105ae91ac096fbc992db8dd07149691a"), looks := true }, kinds := [], alts := [], laidByText := true, laidKinds := [.handle], laidTests := true, laidLooks := .later }
def MoveRightUptoCardSaid : Prop := Claim7.holds Tryz.pinned (.plain (OpenSpec.upto moveRightSpec)) moveRightUptoCard

/-- THE SECOND FORM's CARD OF 'instarlaw06.MoveAgain'. -/
def moveAgainUptoCard : Claim7 := { stood := { row := moveAgainUptoRow, standIns := [], harness := (true, "0f1997641acc2bca4934c8c1f734450a105ae91ac096fbc992db8dd07149691a"), looks := true }, kinds := [], alts := [], laidByText := true, laidKinds := [.handle], laidTests := true, laidLooks := .later }
def MoveAgainUptoCardSaid : Prop := Claim7.holds Tryz.pinned (.plain (OpenSpec.upto moveAgainSpec)) moveAgainUptoCard

/-- THE SECOND FORM's CARD OF 'instarlaw06.MoveAttrs'. -/
def moveAttrsUptoCard : Claim7 := { stood := { row := moveAttrsUptoRow, standIns := [], harness := (true, "0f1997641acc2bca4934c8c1f734450a105ae91ac096fbc992db8dd07149691a"), looks := true }, kinds := [], alts := [], laidByText := true, laidKinds := [.handle], laidTests := true, laidLooks := .later }
def MoveAttrsUptoCardSaid : Prop := Claim7.holds Tryz.pinned (.plain (OpenSpec.upto moveAttrsSpec)) moveAttrsUptoCard

/-- THE SECOND FORM's CARD OF 'instarlaw06.MoveNotes'. -/
def moveNotesUptoCard : Claim7 := { stood := { row := moveNotesUptoRow, standIns := [], harness := (true, "0f1997641acc2bca4934c8c1f734450a105ae91ac096fbc992db8dd07149691a"), looks := true }, kinds := [], alts := [], laidByText := true, laidKinds := [.handle], laidTests := true, laidLooks := .later }
def MoveNotesUptoCardSaid : Prop := Claim7.holds Tryz.pinned (.plain (OpenSpec.upto moveNotesSpec)) moveNotesUptoCard

/-- THE SECOND FORM's CARD OF 'instarlaw14.AbleOut'. -/
def ableOutUptoCard : Claim7 := { stood := { row := ableOutUptoRow, standIns := [], harness := (true, "0f1997641acc2bca4934c8c1f734450a105ae91ac096fbc992db8dd07149691a"), looks := true }, kinds := [], alts := [], laidByText := true, laidKinds := [.handle], laidTests := true, laidLooks := .later }
def AbleOutUptoCardSaid : Prop := Claim7.holds Tryz.pinned (.plain (OpenSpec.upto ableOutSpec)) ableOutUptoCard

/-- THE SECOND FORM's CARD OF 'instarlaw13.OwnerMoves'. -/
def ownerMovesUptoCard : Claim7 := { stood := { row := ownerMovesUptoRow, standIns := [], harness := (true, "0f1997641acc2bca4934c8c1f734450a105ae91ac096fbc992db8dd07149691a"), looks := true }, kinds := [], alts := [], laidByText := true, laidKinds := [.handle], laidTests := true, laidLooks := .later }
def OwnerMovesUptoCardSaid : Prop := Claim7.holds Tryz.pinned (.plain (OpenSpec.upto ownerMovesSpec)) ownerMovesUptoCard

/-- THE SECOND FORM's CARD OF 'instarlaw13.OwnerBack'. -/
def ownerBackUptoCard : Claim7 := { stood := { row := ownerBackUptoRow, standIns := [], harness := (true, "0f1997641acc2bca4934c8c1f734450a105ae91ac096fbc992db8dd07149691a"), looks := true }, kinds := [], alts := [], laidByText := true, laidKinds := [.handle], laidTests := true, laidLooks := .later }
def OwnerBackUptoCardSaid : Prop := Claim7.holds Tryz.pinned (.plain (OpenSpec.upto ownerBackSpec)) ownerBackUptoCard

/-- THE SECOND FORM's CARD OF 'instarlaw15.DutyMoves'. -/
def dutyMovesUptoCard : Claim7 := { stood := { row := dutyMovesUptoRow, standIns := [], harness := (true, "0f1997641acc2bca4934c8c1f734450a105ae91ac096fbc992db8dd07149691a"), looks := true }, kinds := [], alts := [], laidByText := true, laidKinds := [.handle, .listed, .data], laidTests := true, laidLooks := .later }
def DutyMovesUptoCardSaid : Prop := Claim7.holds Tryz.pinned (.plain (OpenSpec.upto dutyMovesSpec)) dutyMovesUptoCard
end Rows
end Go.Proofs.YtkhjcnjicjgfiaaGreatDoor
