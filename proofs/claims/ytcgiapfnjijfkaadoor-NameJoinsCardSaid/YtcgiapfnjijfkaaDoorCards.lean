/-
  DERIVED. GIVEN WITH THE SEED: THE CARDS: each row of YtcgiapfnjijfkaaDoorRows.lean that lists a variable, with what it lists TIED to the program's text (the seventh form; the later family's looks); each row that meets fmt, with fmt's text TOLD by the authors' own Lean function (tested against real Go, not proved from fmt's source: count such statements apart). THE CARD IS WHAT COUNTS. Prove the row's statement (the work); the ties are given (YtcgiapfnjijfkaaDoorTie.lean); close each card by the builder's one call (the guide's Derived/Test/ToyasCard.lean, 'card_holds'). Laid BY PROGRAM, IN A SANDBOX (cutbox-door.mjs). By AI agents, Wed Nov 11 2026. No macro, syntax, notation, axiom, sorry.
-/
import Derived.Test.YtcgiapfnjijfkaaDoorRows
import GoSem.ClaimSeven
namespace Go.Proofs.YtcgiapfnjijfkaaDoor
namespace Rows

/-- THE TIED CARD OF 'instarlaw01.NameRight'. -/
def nameRightCard : Claim7 := { stood := { row := nameRightRow, standIns := [], harness := (true, "6fc860b0218e73c5d2aaf9e871f807d96c28b5f5a3024c30186657a594aaba27"), looks := false }, kinds := [], alts := [], laidByText := true, laidKinds := [.listed, .data], laidTests := true, laidLooks := .later }
def NameRightCardSaid : Prop := Claim7.holds Tryd.pinned (.plain (OpenSpec.ofChange nameRightSpec)) nameRightCard

/-- THE TIED CARD OF 'instarlaw01.NameKinds'. -/
def nameKindsCard : Claim7 := { stood := { row := nameKindsRow, standIns := [], harness := (true, "6fc860b0218e73c5d2aaf9e871f807d96c28b5f5a3024c30186657a594aaba27"), looks := false }, kinds := [], alts := [], laidByText := true, laidKinds := [.listed, .data], laidTests := true, laidLooks := .later }
def NameKindsCardSaid : Prop := Claim7.holds Tryd.pinned (.plain (OpenSpec.ofChange nameKindsSpec)) nameKindsCard

/-- THE TIED CARD OF 'instarlaw01.NameJoins'. -/
def nameJoinsCard : Claim7 := { stood := { row := nameJoinsRow, standIns := [], harness := (true, "6fc860b0218e73c5d2aaf9e871f807d96c28b5f5a3024c30186657a594aaba27"), looks := false }, kinds := [], alts := [], laidByText := true, laidKinds := [.listed, .data], laidTests := true, laidLooks := .later }
def NameJoinsCardSaid : Prop := Claim7.holds Tryd.pinned (.plain (OpenSpec.ofChange nameJoinsSpec)) nameJoinsCard

/-- THE TIED CARD OF 'instarlaw01.NameSmall'. -/
def nameSmallCard : Claim7 := { stood := { row := nameSmallRow, standIns := [], harness := (true, "6fc860b0218e73c5d2aaf9e871f807d96c28b5f5a3024c30186657a594aaba27"), looks := false }, kinds := [], alts := [], laidByText := true, laidKinds := [.listed, .data], laidTests := true, laidLooks := .later }
def NameSmallCardSaid : Prop := Claim7.holds Tryd.pinned (.plain (OpenSpec.ofChange nameSmallSpec)) nameSmallCard

/-- THE TIED CARD OF 'instarlaw01.NameParts'. -/
def namePartsCard : Claim7 := { stood := { row := namePartsRow, standIns := [], harness := (true, "6fc860b0218e73c5d2aaf9e871f807d96c28b5f5a3024c30186657a594aaba27"), looks := false }, kinds := [], alts := [], laidByText := true, laidKinds := [.listed, .data], laidTests := true, laidLooks := .later }
def NamePartsCardSaid : Prop := Claim7.holds Tryd.pinned (.plain (OpenSpec.ofChange namePartsSpec)) namePartsCard

/-- THE SECOND FORM's CARD OF 'instarlaw01.NameRight'. -/
def nameRightUptoCard : Claim7 := { stood := { row := nameRightUptoRow, standIns := [], harness := (true, "6fc860b0218e73c5d2aaf9e871f807d96c28b5f5a3024c30186657a594aaba27"), looks := false }, kinds := [], alts := [], laidByText := true, laidKinds := [.listed, .data], laidTests := true, laidLooks := .later }
def NameRightUptoCardSaid : Prop := Claim7.holds Tryd.pinned (.plain (OpenSpec.upto nameRightSpec)) nameRightUptoCard

/-- THE SECOND FORM's CARD OF 'instarlaw01.NameKinds'. -/
def nameKindsUptoCard : Claim7 := { stood := { row := nameKindsUptoRow, standIns := [], harness := (true, "6fc860b0218e73c5d2aaf9e871f807d96c28b5f5a3024c30186657a594aaba27"), looks := false }, kinds := [], alts := [], laidByText := true, laidKinds := [.listed, .data], laidTests := true, laidLooks := .later }
def NameKindsUptoCardSaid : Prop := Claim7.holds Tryd.pinned (.plain (OpenSpec.upto nameKindsSpec)) nameKindsUptoCard

/-- THE SECOND FORM's CARD OF 'instarlaw01.NameJoins'. -/
def nameJoinsUptoCard : Claim7 := { stood := { row := nameJoinsUptoRow, standIns := [], harness := (true, "6fc860b0218e73c5d2aaf9e871f807d96c28b5f5a3024c30186657a594aaba27"), looks := false }, kinds := [], alts := [], laidByText := true, laidKinds := [.listed, .data], laidTests := true, laidLooks := .later }
def NameJoinsUptoCardSaid : Prop := Claim7.holds Tryd.pinned (.plain (OpenSpec.upto nameJoinsSpec)) nameJoinsUptoCard

/-- THE SECOND FORM's CARD OF 'instarlaw01.NameSmall'. -/
def nameSmallUptoCard : Claim7 := { stood := { row := nameSmallUptoRow, standIns := [], harness := (true, "6fc860b0218e73c5d2aaf9e871f807d96c28b5f5a3024c30186657a594aaba27"), looks := false }, kinds := [], alts := [], laidByText := true, laidKinds := [.listed, .data], laidTests := true, laidLooks := .later }
def NameSmallUptoCardSaid : Prop := Claim7.holds Tryd.pinned (.plain (OpenSpec.upto nameSmallSpec)) nameSmallUptoCard

/-- THE SECOND FORM's CARD OF 'instarlaw01.NameParts'. -/
def namePartsUptoCard : Claim7 := { stood := { row := namePartsUptoRow, standIns := [], harness := (true, "6fc860b0218e73c5d2aaf9e871f807d96c28b5f5a3024c30186657a594aaba27"), looks := false }, kinds := [], alts := [], laidByText := true, laidKinds := [.listed, .data], laidTests := true, laidLooks := .later }
def NamePartsUptoCardSaid : Prop := Claim7.holds Tryd.pinned (.plain (OpenSpec.upto namePartsSpec)) namePartsUptoCard
end Rows
end Go.Proofs.YtcgiapfnjijfkaaDoor
