/-
  DERIVED. GIVEN WITH THE SEED: THE CARDS: each row of YtciccajdpmahiaaGreatDoorRows.lean that lists a variable, with what it lists TIED to the program's text (the seventh form; the later family's looks); each row that meets fmt, with fmt's text TOLD by the authors' own Lean function (tested against real Go, not proved from fmt's source: count such statements apart). THE CARD IS WHAT COUNTS. Prove the row's statement (the work); the ties are given (YtciccajdpmahiaaGreatDoorTie.lean); close each card by the builder's one call (the guide's Derived/Test/ToyasCard.lean, 'card_holds'). Laid BY PROGRAM, IN A SANDBOX (cutbox-door.mjs). By AI agents, Wed Nov 11 2026. No macro, syntax, notation, axiom, sorry.
-/
import Derived.Test.YtciccajdpmahiaaGreatDoorRows
import GoSem.ClaimSeven
namespace Go.Proofs.YtciccajdpmahiaaGreatDoor
namespace Rows

/-- THE TIED CARD OF 'instarlaw17.WorldRight'. -/
def worldRightCard : Claim7 := { stood := { row := worldRightRow, standIns := [], harness := (true, "2716f4a8d3620a06f9ebd558093d77179e52bff9c5827533c0479bd94da66a1d"), looks := false }, kinds := [], alts := [], laidByText := true, laidKinds := [.listed, .data], laidTests := true, laidLooks := .later }
def WorldRightCardSaid : Prop := Claim7.holds Tryz.pinned (.plain (OpenSpec.ofChange worldRightSpec)) worldRightCard

/-- THE TIED CARD OF 'instarlaw17.WorldTells'. -/
def worldTellsCard : Claim7 := { stood := { row := worldTellsRow, standIns := [], harness := (true, "2716f4a8d3620a06f9ebd558093d77179e52bff9c5827533c0479bd94da66a1d"), looks := false }, kinds := [], alts := [], laidByText := true, laidKinds := [.listed, .data], laidTests := true, laidLooks := .later }
def WorldTellsCardSaid : Prop := Claim7.holds Tryz.pinned (.plain (OpenSpec.ofChange worldTellsSpec)) worldTellsCard

/-- THE TIED CARD OF 'instarlaw17.WorldEnlists'. -/
def worldEnlistsCard : Claim7 := { stood := { row := worldEnlistsRow, standIns := [], harness := (true, "2716f4a8d3620a06f9ebd558093d77179e52bff9c5827533c0479bd94da66a1d"), looks := false }, kinds := [], alts := [], laidByText := true, laidKinds := [.listed, .data], laidTests := true, laidLooks := .later }
def WorldEnlistsCardSaid : Prop := Claim7.holds Tryz.pinned (.plain (OpenSpec.ofChange worldEnlistsSpec)) worldEnlistsCard

/-- THE TIED CARD OF 'instarlaw17.WorldAgain'. -/
def worldAgainCard : Claim7 := { stood := { row := worldAgainRow, standIns := [], harness := (true, "2716f4a8d3620a06f9ebd558093d77179e52bff9c5827533c0479bd94da66a1d"), looks := false }, kinds := [], alts := [], laidByText := true, laidKinds := [.listed, .data], laidTests := true, laidLooks := .later }
def WorldAgainCardSaid : Prop := Claim7.holds Tryz.pinned (.plain (OpenSpec.ofChange worldAgainSpec)) worldAgainCard

/-- THE TIED CARD OF 'instarlaw17.WorldParts'. -/
def worldPartsCard : Claim7 := { stood := { row := worldPartsRow, standIns := [], harness := (true, "2716f4a8d3620a06f9ebd558093d77179e52bff9c5827533c0479bd94da66a1d"), looks := false }, kinds := [], alts := [], laidByText := true, laidKinds := [.listed, .data], laidTests := true, laidLooks := .later }
def WorldPartsCardSaid : Prop := Claim7.holds Tryz.pinned (.plain (OpenSpec.ofChange worldPartsSpec)) worldPartsCard

/-- THE TIED CARD OF 'instarlaw19.GrowStarts'. -/
def growStartsCard : Claim7 := { stood := { row := growStartsRow, standIns := [], harness := (true, "2716f4a8d3620a06f9ebd558093d77179e52bff9c5827533c0479bd94da66a1d"), looks := false }, kinds := [], alts := [], laidByText := true, laidKinds := [.listed, .data], laidTests := true, laidLooks := .later }
def GrowStartsCardSaid : Prop := Claim7.holds Tryz.pinned (.plain (OpenSpec.ofChange growStartsSpec)) growStartsCard

/-- THE TIED CARD OF 'instarlaw19.GrowTakes'. -/
def growTakesCard : Claim7 := { stood := { row := growTakesRow, standIns := [], harness := (true, "2716f4a8d3620a06f9ebd558093d77179e52bff9c5827533c0479bd94da66a1d"), looks := false }, kinds := [], alts := [], laidByText := true, laidKinds := [.listed, .data], laidTests := true, laidLooks := .later }
def GrowTakesCardSaid : Prop := Claim7.holds Tryz.pinned (.plain (OpenSpec.ofChange growTakesSpec)) growTakesCard

/-- THE TIED CARD OF 'instarlaw19.GrowNests'. -/
def growNestsCard : Claim7 := { stood := { row := growNestsRow, standIns := [], harness := (true, "2716f4a8d3620a06f9ebd558093d77179e52bff9c5827533c0479bd94da66a1d"), looks := false }, kinds := [], alts := [], laidByText := true, laidKinds := [.listed, .data], laidTests := true, laidLooks := .later }
def GrowNestsCardSaid : Prop := Claim7.holds Tryz.pinned (.plain (OpenSpec.ofChange growNestsSpec)) growNestsCard

/-- THE TIED CARD OF 'instarlaw19.GrowBreaks'. -/
def growBreaksCard : Claim7 := { stood := { row := growBreaksRow, standIns := [], harness := (true, "2716f4a8d3620a06f9ebd558093d77179e52bff9c5827533c0479bd94da66a1d"), looks := false }, kinds := [], alts := [], laidByText := true, laidKinds := [.listed, .data], laidTests := true, laidLooks := .later }
def GrowBreaksCardSaid : Prop := Claim7.holds Tryz.pinned (.plain (OpenSpec.ofChange growBreaksSpec)) growBreaksCard

/-- THE TIED CARD OF 'instarlaw19.GrowFails'. -/
def growFailsCard : Claim7 := { stood := { row := growFailsRow, standIns := [], harness := (true, "2716f4a8d3620a06f9ebd558093d77179e52bff9c5827533c0479bd94da66a1d"), looks := false }, kinds := [], alts := [], laidByText := true, laidKinds := [.listed, .data], laidTests := true, laidLooks := .later }
def GrowFailsCardSaid : Prop := Claim7.holds Tryz.pinned (.plain (OpenSpec.ofChange growFailsSpec)) growFailsCard

/-- THE TIED CARD OF 'instarlaw19.GrowFresh'. -/
def growFreshCard : Claim7 := { stood := { row := growFreshRow, standIns := [], harness := (true, "2716f4a8d3620a06f9ebd558093d77179e52bff9c5827533c0479bd94da66a1d"), looks := false }, kinds := [], alts := [], laidByText := true, laidKinds := [.listed, .data], laidTests := true, laidLooks := .later }
def GrowFreshCardSaid : Prop := Claim7.holds Tryz.pinned (.plain (OpenSpec.ofChange growFreshSpec)) growFreshCard

/-- THE TIED CARD OF 'instarlaw19.GrowRight'. -/
def growRightCard : Claim7 := { stood := { row := growRightRow, standIns := [], harness := (true, "2716f4a8d3620a06f9ebd558093d77179e52bff9c5827533c0479bd94da66a1d"), looks := false }, kinds := [], alts := [], laidByText := true, laidKinds := [.listed, .data], laidTests := true, laidLooks := .later }
def GrowRightCardSaid : Prop := Claim7.holds Tryz.pinned (.plain (OpenSpec.ofChange growRightSpec)) growRightCard

/-- THE SECOND FORM's CARD OF 'instarlaw17.WorldRight'. -/
def worldRightUptoCard : Claim7 := { stood := { row := worldRightUptoRow, standIns := [], harness := (true, "2716f4a8d3620a06f9ebd558093d77179e52bff9c5827533c0479bd94da66a1d"), looks := false }, kinds := [], alts := [], laidByText := true, laidKinds := [.listed, .data], laidTests := true, laidLooks := .later }
def WorldRightUptoCardSaid : Prop := Claim7.holds Tryz.pinned (.plain (OpenSpec.upto worldRightSpec)) worldRightUptoCard

/-- THE SECOND FORM's CARD OF 'instarlaw17.WorldTells'. -/
def worldTellsUptoCard : Claim7 := { stood := { row := worldTellsUptoRow, standIns := [], harness := (true, "2716f4a8d3620a06f9ebd558093d77179e52bff9c5827533c0479bd94da66a1d"), looks := false }, kinds := [], alts := [], laidByText := true, laidKinds := [.listed, .data], laidTests := true, laidLooks := .later }
def WorldTellsUptoCardSaid : Prop := Claim7.holds Tryz.pinned (.plain (OpenSpec.upto worldTellsSpec)) worldTellsUptoCard

/-- THE SECOND FORM's CARD OF 'instarlaw17.WorldEnlists'. -/
def worldEnlistsUptoCard : Claim7 := { stood := { row := worldEnlistsUptoRow, standIns := [], harness := (true, "2716f4a8d3620a06f9ebd558093d77179e52bff9c5827533c0479bd94da66a1d"), looks := false }, kinds := [], alts := [], laidByText := true, laidKinds := [.listed, .data], laidTests := true, laidLooks := .later }
def WorldEnlistsUptoCardSaid : Prop := Claim7.holds Tryz.pinned (.plain (OpenSpec.upto worldEnlistsSpec)) worldEnlistsUptoCard

/-- THE SECOND FORM's CARD OF 'instarlaw17.WorldAgain'. -/
def worldAgainUptoCard : Claim7 := { stood := { row := worldAgainUptoRow, standIns := [], harness := (true, "2716f4a8d3620a06f9ebd558093d77179e52bff9c5827533c0479bd94da66a1d"), looks := false }, kinds := [], alts := [], laidByText := true, laidKinds := [.listed, .data], laidTests := true, laidLooks := .later }
def WorldAgainUptoCardSaid : Prop := Claim7.holds Tryz.pinned (.plain (OpenSpec.upto worldAgainSpec)) worldAgainUptoCard

/-- THE SECOND FORM's CARD OF 'instarlaw17.WorldParts'. -/
def worldPartsUptoCard : Claim7 := { stood := { row := worldPartsUptoRow, standIns := [], harness := (true, "2716f4a8d3620a06f9ebd558093d77179e52bff9c5827533c0479bd94da66a1d"), looks := false }, kinds := [], alts := [], laidByText := true, laidKinds := [.listed, .data], laidTests := true, laidLooks := .later }
def WorldPartsUptoCardSaid : Prop := Claim7.holds Tryz.pinned (.plain (OpenSpec.upto worldPartsSpec)) worldPartsUptoCard

/-- THE SECOND FORM's CARD OF 'instarlaw19.GrowStarts'. -/
def growStartsUptoCard : Claim7 := { stood := { row := growStartsUptoRow, standIns := [], harness := (true, "2716f4a8d3620a06f9ebd558093d77179e52bff9c5827533c0479bd94da66a1d"), looks := false }, kinds := [], alts := [], laidByText := true, laidKinds := [.listed, .data], laidTests := true, laidLooks := .later }
def GrowStartsUptoCardSaid : Prop := Claim7.holds Tryz.pinned (.plain (OpenSpec.upto growStartsSpec)) growStartsUptoCard

/-- THE SECOND FORM's CARD OF 'instarlaw19.GrowTakes'. -/
def growTakesUptoCard : Claim7 := { stood := { row := growTakesUptoRow, standIns := [], harness := (true, "2716f4a8d3620a06f9ebd558093d77179e52bff9c5827533c0479bd94da66a1d"), looks := false }, kinds := [], alts := [], laidByText := true, laidKinds := [.listed, .data], laidTests := true, laidLooks := .later }
def GrowTakesUptoCardSaid : Prop := Claim7.holds Tryz.pinned (.plain (OpenSpec.upto growTakesSpec)) growTakesUptoCard

/-- THE SECOND FORM's CARD OF 'instarlaw19.GrowNests'. -/
def growNestsUptoCard : Claim7 := { stood := { row := growNestsUptoRow, standIns := [], harness := (true, "2716f4a8d3620a06f9ebd558093d77179e52bff9c5827533c0479bd94da66a1d"), looks := false }, kinds := [], alts := [], laidByText := true, laidKinds := [.listed, .data], laidTests := true, laidLooks := .later }
def GrowNestsUptoCardSaid : Prop := Claim7.holds Tryz.pinned (.plain (OpenSpec.upto growNestsSpec)) growNestsUptoCard

/-- THE SECOND FORM's CARD OF 'instarlaw19.GrowBreaks'. -/
def growBreaksUptoCard : Claim7 := { stood := { row := growBreaksUptoRow, standIns := [], harness := (true, "2716f4a8d3620a06f9ebd558093d77179e52bff9c5827533c0479bd94da66a1d"), looks := false }, kinds := [], alts := [], laidByText := true, laidKinds := [.listed, .data], laidTests := true, laidLooks := .later }
def GrowBreaksUptoCardSaid : Prop := Claim7.holds Tryz.pinned (.plain (OpenSpec.upto growBreaksSpec)) growBreaksUptoCard

/-- THE SECOND FORM's CARD OF 'instarlaw19.GrowFails'. -/
def growFailsUptoCard : Claim7 := { stood := { row := growFailsUptoRow, standIns := [], harness := (true, "2716f4a8d3620a06f9ebd558093d77179e52bff9c5827533c0479bd94da66a1d"), looks := false }, kinds := [], alts := [], laidByText := true, laidKinds := [.listed, .data], laidTests := true, laidLooks := .later }
def GrowFailsUptoCardSaid : Prop := Claim7.holds Tryz.pinned (.plain (OpenSpec.upto growFailsSpec)) growFailsUptoCard

/-- THE SECOND FORM's CARD OF 'instarlaw19.GrowFresh'. -/
def growFreshUptoCard : Claim7 := { stood := { row := growFreshUptoRow, standIns := [], harness := (true, "2716f4a8d3620a06f9ebd558093d77179e52bff9c5827533c0479bd94da66a1d"), looks := false }, kinds := [], alts := [], laidByText := true, laidKinds := [.listed, .data], laidTests := true, laidLooks := .later }
def GrowFreshUptoCardSaid : Prop := Claim7.holds Tryz.pinned (.plain (OpenSpec.upto growFreshSpec)) growFreshUptoCard

/-- THE SECOND FORM's CARD OF 'instarlaw19.GrowRight'. -/
def growRightUptoCard : Claim7 := { stood := { row := growRightUptoRow, standIns := [], harness := (true, "2716f4a8d3620a06f9ebd558093d77179e52bff9c5827533c0479bd94da66a1d"), looks := false }, kinds := [], alts := [], laidByText := true, laidKinds := [.listed, .data], laidTests := true, laidLooks := .later }
def GrowRightUptoCardSaid : Prop := Claim7.holds Tryz.pinned (.plain (OpenSpec.upto growRightSpec)) growRightUptoCard
end Rows
end Go.Proofs.YtciccajdpmahiaaGreatDoor
