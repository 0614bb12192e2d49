/-
  DERIVED. GIVEN WITH THE SEED: THE CARDS: each row of YtknhlflmhonpfaaDoorRows.lean that lists a variable, with what it lists TIED to the program's text (the seventh form; the later family's looks); each row that meets fmt, with fmt's text TOLD by the authors' own Lean function (tested against real Go, not proved from fmt's source: count such statements apart). THE CARD IS WHAT COUNTS. Prove the row's statement (the work); the ties are given (YtknhlflmhonpfaaDoorTie.lean); close each card by the builder's one call (the guide's Derived/Test/ToyasCard.lean, 'card_holds'). Laid BY PROGRAM, IN A SANDBOX (cutbox-door.mjs). By AI agents, Wed Nov 11 2026. No macro, syntax, notation, axiom, sorry.
-/
import Derived.Test.YtknhlflmhonpfaaDoorRows
import GoSem.ClaimSeven
namespace Go.Proofs.YtknhlflmhonpfaaDoor
namespace Rows

/-- THE TIED CARD OF 'instarlaw09.DeskRight'. -/
def deskRightCard : Claim7 := { stood := { row := deskRightRow, standIns := [], harness := (true, "5505e01d9cb85d883d0ec50aee2eec0a845a9d6a1bfeffec6fd348fd5d3b76df"), looks := false }, kinds := [], alts := [], laidByText := true, laidKinds := [.listed, .data], laidTests := true, laidLooks := .later }
def DeskRightCardSaid : Prop := Claim7.holds Tryd.pinned (.plain (OpenSpec.ofChange deskRightSpec)) deskRightCard

/-- THE TIED CARD OF 'instarlaw09.DeskFinds'. -/
def deskFindsCard : Claim7 := { stood := { row := deskFindsRow, standIns := [], harness := (true, "5505e01d9cb85d883d0ec50aee2eec0a845a9d6a1bfeffec6fd348fd5d3b76df"), looks := false }, kinds := [], alts := [], laidByText := true, laidKinds := [.listed, .data], laidTests := true, laidLooks := .later }
def DeskFindsCardSaid : Prop := Claim7.holds Tryd.pinned (.plain (OpenSpec.ofChange deskFindsSpec)) deskFindsCard

/-- THE TIED CARD OF 'instarlaw09.DeskAdds'. -/
def deskAddsCard : Claim7 := { stood := { row := deskAddsRow, standIns := [], harness := (true, "5505e01d9cb85d883d0ec50aee2eec0a845a9d6a1bfeffec6fd348fd5d3b76df"), looks := false }, kinds := [], alts := [], laidByText := true, laidKinds := [.listed, .data], laidTests := true, laidLooks := .later }
def DeskAddsCardSaid : Prop := Claim7.holds Tryd.pinned (.plain (OpenSpec.ofChange deskAddsSpec)) deskAddsCard

/-- THE TIED CARD OF 'instarlaw09.DeskTells'. -/
def deskTellsCard : Claim7 := { stood := { row := deskTellsRow, standIns := [], harness := (true, "5505e01d9cb85d883d0ec50aee2eec0a845a9d6a1bfeffec6fd348fd5d3b76df"), looks := false }, kinds := [], alts := [], laidByText := true, laidKinds := [.listed, .data], laidTests := true, laidLooks := .later }
def DeskTellsCardSaid : Prop := Claim7.holds Tryd.pinned (.plain (OpenSpec.ofChange deskTellsSpec)) deskTellsCard

/-- THE TIED CARD OF 'instarlaw09.DeskOrder'. -/
def deskOrderCard : Claim7 := { stood := { row := deskOrderRow, standIns := [], harness := (true, "5505e01d9cb85d883d0ec50aee2eec0a845a9d6a1bfeffec6fd348fd5d3b76df"), looks := false }, kinds := [], alts := [], laidByText := true, laidKinds := [.listed, .data], laidTests := true, laidLooks := .later }
def DeskOrderCardSaid : Prop := Claim7.holds Tryd.pinned (.plain (OpenSpec.ofChange deskOrderSpec)) deskOrderCard

/-- THE SECOND FORM's CARD OF 'instarlaw09.DeskRight'. -/
def deskRightUptoCard : Claim7 := { stood := { row := deskRightUptoRow, standIns := [], harness := (true, "5505e01d9cb85d883d0ec50aee2eec0a845a9d6a1bfeffec6fd348fd5d3b76df"), looks := false }, kinds := [], alts := [], laidByText := true, laidKinds := [.listed, .data], laidTests := true, laidLooks := .later }
def DeskRightUptoCardSaid : Prop := Claim7.holds Tryd.pinned (.plain (OpenSpec.upto deskRightSpec)) deskRightUptoCard

/-- THE SECOND FORM's CARD OF 'instarlaw09.DeskFinds'. -/
def deskFindsUptoCard : Claim7 := { stood := { row := deskFindsUptoRow, standIns := [], harness := (true, "5505e01d9cb85d883d0ec50aee2eec0a845a9d6a1bfeffec6fd348fd5d3b76df"), looks := false }, kinds := [], alts := [], laidByText := true, laidKinds := [.listed, .data], laidTests := true, laidLooks := .later }
def DeskFindsUptoCardSaid : Prop := Claim7.holds Tryd.pinned (.plain (OpenSpec.upto deskFindsSpec)) deskFindsUptoCard

/-- THE SECOND FORM's CARD OF 'instarlaw09.DeskAdds'. -/
def deskAddsUptoCard : Claim7 := { stood := { row := deskAddsUptoRow, standIns := [], harness := (true, "5505e01d9cb85d883d0ec50aee2eec0a845a9d6a1bfeffec6fd348fd5d3b76df"), looks := false }, kinds := [], alts := [], laidByText := true, laidKinds := [.listed, .data], laidTests := true, laidLooks := .later }
def DeskAddsUptoCardSaid : Prop := Claim7.holds Tryd.pinned (.plain (OpenSpec.upto deskAddsSpec)) deskAddsUptoCard

/-- THE SECOND FORM's CARD OF 'instarlaw09.DeskTells'. -/
def deskTellsUptoCard : Claim7 := { stood := { row := deskTellsUptoRow, standIns := [], harness := (true, "5505e01d9cb85d883d0ec50aee2eec0a845a9d6a1bfeffec6fd348fd5d3b76df"), looks := false }, kinds := [], alts := [], laidByText := true, laidKinds := [.listed, .data], laidTests := true, laidLooks := .later }
def DeskTellsUptoCardSaid : Prop := Claim7.holds Tryd.pinned (.plain (OpenSpec.upto deskTellsSpec)) deskTellsUptoCard

/-- THE SECOND FORM's CARD OF 'instarlaw09.DeskOrder'. -/
def deskOrderUptoCard : Claim7 := { stood := { row := deskOrderUptoRow, standIns := [], harness := (true, "5505e01d9cb85d883d0ec50aee2eec0a845a9d6a1bfeffec6fd348fd5d3b76df"), looks := false }, kinds := [], alts := [], laidByText := true, laidKinds := [.listed, .data], laidTests := true, laidLooks := .later }
def DeskOrderUptoCardSaid : Prop := Claim7.holds Tryd.pinned (.plain (OpenSpec.upto deskOrderSpec)) deskOrderUptoCard
end Rows
end Go.Proofs.YtknhlflmhonpfaaDoor
