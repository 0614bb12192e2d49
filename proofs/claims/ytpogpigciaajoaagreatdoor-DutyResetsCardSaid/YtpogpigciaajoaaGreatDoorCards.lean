/-
  DERIVED. GIVEN WITH THE SEED: THE CARDS: each row of YtpogpigciaajoaaGreatDoorRows.lean that lists a variable, with what it lists TIED to the program's text (the seventh form; the later family's looks); each row that meets fmt, with fmt's text TOLD by the authors' own Lean function (tested against real Go, not proved from fmt's source: count such statements apart). THE CARD IS WHAT COUNTS. Prove the row's statement (the work); the ties are given (YtpogpigciaajoaaGreatDoorTie.lean); close each card by the builder's one call (the guide's Derived/Test/ToyasCard.lean, 'card_holds'). Laid BY PROGRAM, IN A SANDBOX (cutbox-door.mjs). By AI agents, Wed Nov 11 2026. No macro, syntax, notation, axiom, sorry.
-/
import Derived.Test.YtpogpigciaajoaaGreatDoorRows
import GoSem.ClaimSeven
namespace Go.Proofs.YtpogpigciaajoaaGreatDoor
namespace Rows

/-- THE TIED CARD OF 'instarlaw10.HeirAdds'. -/
def heirAddsCard : Claim7 := { stood := { row := heirAddsRow, standIns := [], harness := (true, "a272aa6dc0024143dc385abbc62e3b2035de30b7f5d1ae761c7ce7e39482514d"), looks := true }, kinds := [], alts := [], laidByText := true, laidKinds := [.listed, .data], laidTests := true, laidLooks := .later }
def HeirAddsCardSaid : Prop := Claim7.holds Tryz.pinned (.plain (OpenSpec.ofChange heirAddsSpec)) heirAddsCard

/-- THE TIED CARD OF 'instarlaw15.DutyRight'. -/
def dutyRightCard : Claim7 := { stood := { row := dutyRightRow, standIns := [], harness := (true, "a272aa6dc0024143dc385abbc62e3b2035de30b7f5d1ae761c7ce7e39482514d"), looks := true }, kinds := [], alts := [], laidByText := true, laidKinds := [.listed, .data], laidTests := true, laidLooks := .later }
def DutyRightCardSaid : Prop := Claim7.holds Tryz.pinned (.plain (OpenSpec.ofChange dutyRightSpec)) dutyRightCard

/-- THE TIED CARD OF 'instarlaw15.DutyRestores'. -/
def dutyRestoresCard : Claim7 := { stood := { row := dutyRestoresRow, standIns := [], harness := (true, "a272aa6dc0024143dc385abbc62e3b2035de30b7f5d1ae761c7ce7e39482514d"), looks := true }, kinds := [], alts := [], laidByText := true, laidKinds := [.listed, .data], laidTests := true, laidLooks := .later }
def DutyRestoresCardSaid : Prop := Claim7.holds Tryz.pinned (.plain (OpenSpec.ofChange dutyRestoresSpec)) dutyRestoresCard

/-- THE TIED CARD OF 'instarlaw15.DutyOnce'. -/
def dutyOnceCard : Claim7 := { stood := { row := dutyOnceRow, standIns := [], harness := (true, "a272aa6dc0024143dc385abbc62e3b2035de30b7f5d1ae761c7ce7e39482514d"), looks := true }, kinds := [], alts := [], laidByText := true, laidKinds := [.listed, .data], laidTests := true, laidLooks := .later }
def DutyOnceCardSaid : Prop := Claim7.holds Tryz.pinned (.plain (OpenSpec.ofChange dutyOnceSpec)) dutyOnceCard

/-- THE TIED CARD OF 'instarlaw15.DutyResets'. -/
def dutyResetsCard : Claim7 := { stood := { row := dutyResetsRow, standIns := [], harness := (true, "a272aa6dc0024143dc385abbc62e3b2035de30b7f5d1ae761c7ce7e39482514d"), looks := true }, kinds := [], alts := [], laidByText := true, laidKinds := [.listed, .data], laidTests := true, laidLooks := .later }
def DutyResetsCardSaid : Prop := Claim7.holds Tryz.pinned (.plain (OpenSpec.ofChange dutyResetsSpec)) dutyResetsCard

/-- THE TIED CARD OF 'instarlaw13.OwnerRight'. -/
def ownerRightCard : Claim7 := { stood := { row := ownerRightRow, standIns := [], harness := (true, "a272aa6dc0024143dc385abbc62e3b2035de30b7f5d1ae761c7ce7e39482514d"), looks := true }, kinds := [], alts := [], laidByText := true, laidKinds := [.handle], laidTests := true, laidLooks := .later }
def OwnerRightCardSaid : Prop := Claim7.holds Tryz.pinned (.plain (OpenSpec.ofChange ownerRightSpec)) ownerRightCard

/-- THE TIED CARD OF 'instarlaw13.OwnerNamed'. -/
def ownerNamedCard : Claim7 := { stood := { row := ownerNamedRow, standIns := [], harness := (true, "a272aa6dc0024143dc385abbc62e3b2035de30b7f5d1ae761c7ce7e39482514d"), looks := true }, kinds := [], alts := [], laidByText := true, laidKinds := [.handle], laidTests := true, laidLooks := .later }
def OwnerNamedCardSaid : Prop := Claim7.holds Tryz.pinned (.plain (OpenSpec.ofChange ownerNamedSpec)) ownerNamedCard

/-- THE TIED CARD OF 'instarlaw13.OwnerParts'. -/
def ownerPartsCard : Claim7 := { stood := { row := ownerPartsRow, standIns := [], harness := (true, "a272aa6dc0024143dc385abbc62e3b2035de30b7f5d1ae761c7ce7e39482514d"), looks := true }, kinds := [], alts := [], laidByText := true, laidKinds := [.handle], laidTests := true, laidLooks := .later }
def OwnerPartsCardSaid : Prop := Claim7.holds Tryz.pinned (.plain (OpenSpec.ofChange ownerPartsSpec)) ownerPartsCard

/-- THE TIED CARD OF 'instarlaw13.OwnerNear'. -/
def ownerNearCard : Claim7 := { stood := { row := ownerNearRow, standIns := [], harness := (true, "a272aa6dc0024143dc385abbc62e3b2035de30b7f5d1ae761c7ce7e39482514d"), looks := true }, kinds := [], alts := [], laidByText := true, laidKinds := [.handle], laidTests := true, laidLooks := .later }
def OwnerNearCardSaid : Prop := Claim7.holds Tryz.pinned (.plain (OpenSpec.ofChange ownerNearSpec)) ownerNearCard

/-- THE SECOND FORM's CARD OF 'instarlaw10.HeirAdds'. -/
def heirAddsUptoCard : Claim7 := { stood := { row := heirAddsUptoRow, standIns := [], harness := (true, "a272aa6dc0024143dc385abbc62e3b2035de30b7f5d1ae761c7ce7e39482514d"), looks := true }, kinds := [], alts := [], laidByText := true, laidKinds := [.listed, .data], laidTests := true, laidLooks := .later }
def HeirAddsUptoCardSaid : Prop := Claim7.holds Tryz.pinned (.plain (OpenSpec.upto heirAddsSpec)) heirAddsUptoCard

/-- THE SECOND FORM's CARD OF 'instarlaw15.DutyRight'. -/
def dutyRightUptoCard : Claim7 := { stood := { row := dutyRightUptoRow, standIns := [], harness := (true, "a272aa6dc0024143dc385abbc62e3b2035de30b7f5d1ae761c7ce7e39482514d"), looks := true }, kinds := [], alts := [], laidByText := true, laidKinds := [.listed, .data], laidTests := true, laidLooks := .later }
def DutyRightUptoCardSaid : Prop := Claim7.holds Tryz.pinned (.plain (OpenSpec.upto dutyRightSpec)) dutyRightUptoCard

/-- THE SECOND FORM's CARD OF 'instarlaw15.DutyRestores'. -/
def dutyRestoresUptoCard : Claim7 := { stood := { row := dutyRestoresUptoRow, standIns := [], harness := (true, "a272aa6dc0024143dc385abbc62e3b2035de30b7f5d1ae761c7ce7e39482514d"), looks := true }, kinds := [], alts := [], laidByText := true, laidKinds := [.listed, .data], laidTests := true, laidLooks := .later }
def DutyRestoresUptoCardSaid : Prop := Claim7.holds Tryz.pinned (.plain (OpenSpec.upto dutyRestoresSpec)) dutyRestoresUptoCard

/-- THE SECOND FORM's CARD OF 'instarlaw15.DutyOnce'. -/
def dutyOnceUptoCard : Claim7 := { stood := { row := dutyOnceUptoRow, standIns := [], harness := (true, "a272aa6dc0024143dc385abbc62e3b2035de30b7f5d1ae761c7ce7e39482514d"), looks := true }, kinds := [], alts := [], laidByText := true, laidKinds := [.listed, .data], laidTests := true, laidLooks := .later }
def DutyOnceUptoCardSaid : Prop := Claim7.holds Tryz.pinned (.plain (OpenSpec.upto dutyOnceSpec)) dutyOnceUptoCard

/-- THE SECOND FORM's CARD OF 'instarlaw15.DutyResets'. -/
def dutyResetsUptoCard : Claim7 := { stood := { row := dutyResetsUptoRow, standIns := [], harness := (true, "a272aa6dc0024143dc385abbc62e3b2035de30b7f5d1ae761c7ce7e39482514d"), looks := true }, kinds := [], alts := [], laidByText := true, laidKinds := [.listed, .data], laidTests := true, laidLooks := .later }
def DutyResetsUptoCardSaid : Prop := Claim7.holds Tryz.pinned (.plain (OpenSpec.upto dutyResetsSpec)) dutyResetsUptoCard

/-- THE SECOND FORM's CARD OF 'instarlaw13.OwnerRight'. -/
def ownerRightUptoCard : Claim7 := { stood := { row := ownerRightUptoRow, standIns := [], harness := (true, "a272aa6dc0024143dc385abbc62e3b2035de30b7f5d1ae761c7ce7e39482514d"), looks := true }, kinds := [], alts := [], laidByText := true, laidKinds := [.handle], laidTests := true, laidLooks := .later }
def OwnerRightUptoCardSaid : Prop := Claim7.holds Tryz.pinned (.plain (OpenSpec.upto ownerRightSpec)) ownerRightUptoCard

/-- THE SECOND FORM's CARD OF 'instarlaw13.OwnerNamed'. -/
def ownerNamedUptoCard : Claim7 := { stood := { row := ownerNamedUptoRow, standIns := [], harness := (true, "a272aa6dc0024143dc385abbc62e3b2035de30b7f5d1ae761c7ce7e39482514d"), looks := true }, kinds := [], alts := [], laidByText := true, laidKinds := [.handle], laidTests := true, laidLooks := .later }
def OwnerNamedUptoCardSaid : Prop := Claim7.holds Tryz.pinned (.plain (OpenSpec.upto ownerNamedSpec)) ownerNamedUptoCard

/-- THE SECOND FORM's CARD OF 'instarlaw13.OwnerParts'. -/
def ownerPartsUptoCard : Claim7 := { stood := { row := ownerPartsUptoRow, standIns := [], harness := (true, "a272aa6dc0024143dc385abbc62e3b2035de30b7f5d1ae761c7ce7e39482514d"), looks := true }, kinds := [], alts := [], laidByText := true, laidKinds := [.handle], laidTests := true, laidLooks := .later }
def OwnerPartsUptoCardSaid : Prop := Claim7.holds Tryz.pinned (.plain (OpenSpec.upto ownerPartsSpec)) ownerPartsUptoCard

/-- THE SECOND FORM's CARD OF 'instarlaw13.OwnerNear'. -/
def ownerNearUptoCard : Claim7 := { stood := { row := ownerNearUptoRow, standIns := [], harness := (true, "a272aa6dc0024143dc385abbc62e3b2035de30b7f5d1ae761c7ce7e39482514d"), looks := true }, kinds := [], alts := [], laidByText := true, laidKinds := [.handle], laidTests := true, laidLooks := .later }
def OwnerNearUptoCardSaid : Prop := Claim7.holds Tryz.pinned (.plain (OpenSpec.upto ownerNearSpec)) ownerNearUptoCard
end Rows
end Go.Proofs.YtpogpigciaajoaaGreatDoor
