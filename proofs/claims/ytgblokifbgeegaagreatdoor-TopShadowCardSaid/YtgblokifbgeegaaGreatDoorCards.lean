/-
  DERIVED. GIVEN WITH THE SEED: THE CARDS: each row of YtgblokifbgeegaaGreatDoorRows.lean that lists a variable, with what it lists TIED to the program's text (the seventh form; the later family's looks); each row that meets fmt, with fmt's text TOLD by the authors' own Lean function (tested against real Go, not proved from fmt's source: count such statements apart). THE CARD IS WHAT COUNTS. Prove the row's statement (the work); the ties are given (YtgblokifbgeegaaGreatDoorTie.lean); close each card by the builder's one call (the guide's Derived/Test/ToyasCard.lean, 'card_holds'). Laid BY PROGRAM, IN A SANDBOX (cutbox-door.mjs). By AI agents, Wed Nov 11 2026. No macro, syntax, notation, axiom, sorry.
-/
import Derived.Test.YtgblokifbgeegaaGreatDoorRows
import GoSem.ClaimSeven
namespace Go.Proofs.YtgblokifbgeegaaGreatDoor
namespace Rows

/-- THE TIED CARD OF 'metrolablaw33.FlatSquares'. -/
def flatSquaresCard : Claim7 := { stood := { row := flatSquaresRow, standIns := [], harness := (true, "ee6f303d789abab379ad1ada03fb8faf21dc941f42fe780cb3b84566b1c70a27"), looks := true }, kinds := [], alts := [], laidByText := true, laidKinds := [.data, .data, .data, .data, .sentinel, .sentinel, .pinned], laidTests := true, laidLooks := .later }
def FlatSquaresCardSaid : Prop := Claim7.holds Tryz.pinned (.plain (OpenSpec.ofChange flatSquaresSpec)) flatSquaresCard

/-- THE TIED CARD OF 'metrolablaw33.FlatWidths'. -/
def flatWidthsCard : Claim7 := { stood := { row := flatWidthsRow, standIns := [], harness := (true, "ee6f303d789abab379ad1ada03fb8faf21dc941f42fe780cb3b84566b1c70a27"), looks := true }, kinds := [], alts := [], laidByText := true, laidKinds := [.data, .data, .data, .data, .sentinel, .sentinel, .pinned], laidTests := true, laidLooks := .later }
def FlatWidthsCardSaid : Prop := Claim7.holds Tryz.pinned (.plain (OpenSpec.ofChange flatWidthsSpec)) flatWidthsCard

/-- THE TIED CARD OF 'metrolablaw33.FlatJudges'. -/
def flatJudgesCard : Claim7 := { stood := { row := flatJudgesRow, standIns := [], harness := (true, "ee6f303d789abab379ad1ada03fb8faf21dc941f42fe780cb3b84566b1c70a27"), looks := true }, kinds := [], alts := [], laidByText := true, laidKinds := [.data, .data, .data, .data, .sentinel, .sentinel, .pinned], laidTests := true, laidLooks := .later }
def FlatJudgesCardSaid : Prop := Claim7.holds Tryz.pinned (.plain (OpenSpec.ofChange flatJudgesSpec)) flatJudgesCard

/-- THE TIED CARD OF 'metrolablaw33.FlatTouches'. -/
def flatTouchesCard : Claim7 := { stood := { row := flatTouchesRow, standIns := [], harness := (true, "ee6f303d789abab379ad1ada03fb8faf21dc941f42fe780cb3b84566b1c70a27"), looks := true }, kinds := [], alts := [], laidByText := true, laidKinds := [.data, .data, .data, .data, .sentinel, .sentinel, .pinned], laidTests := true, laidLooks := .later }
def FlatTouchesCardSaid : Prop := Claim7.holds Tryz.pinned (.plain (OpenSpec.ofChange flatTouchesSpec)) flatTouchesCard

/-- THE TIED CARD OF 'metrolablaw33.FlatMoves'. -/
def flatMovesCard : Claim7 := { stood := { row := flatMovesRow, standIns := [], harness := (true, "ee6f303d789abab379ad1ada03fb8faf21dc941f42fe780cb3b84566b1c70a27"), looks := true }, kinds := [], alts := [], laidByText := true, laidKinds := [.data, .data, .data, .data, .sentinel, .sentinel, .pinned], laidTests := true, laidLooks := .later }
def FlatMovesCardSaid : Prop := Claim7.holds Tryz.pinned (.plain (OpenSpec.ofChange flatMovesSpec)) flatMovesCard

/-- THE TIED CARD OF 'metrolablaw33.FlatZones'. -/
def flatZonesCard : Claim7 := { stood := { row := flatZonesRow, standIns := [], harness := (true, "ee6f303d789abab379ad1ada03fb8faf21dc941f42fe780cb3b84566b1c70a27"), looks := true }, kinds := [], alts := [], laidByText := true, laidKinds := [.data, .data, .data, .data, .sentinel, .sentinel, .pinned], laidTests := true, laidLooks := .later }
def FlatZonesCardSaid : Prop := Claim7.holds Tryz.pinned (.plain (OpenSpec.ofChange flatZonesSpec)) flatZonesCard

/-- THE TIED CARD OF 'metrolablaw33.FlatLeast'. -/
def flatLeastCard : Claim7 := { stood := { row := flatLeastRow, standIns := [], harness := (true, "ee6f303d789abab379ad1ada03fb8faf21dc941f42fe780cb3b84566b1c70a27"), looks := true }, kinds := [], alts := [], laidByText := true, laidKinds := [.data, .data, .data, .data, .sentinel, .sentinel, .pinned], laidTests := true, laidLooks := .later }
def FlatLeastCardSaid : Prop := Claim7.holds Tryz.pinned (.plain (OpenSpec.ofChange flatLeastSpec)) flatLeastCard

/-- THE TIED CARD OF 'metrolablaw33.FlatGrows'. -/
def flatGrowsCard : Claim7 := { stood := { row := flatGrowsRow, standIns := [], harness := (true, "ee6f303d789abab379ad1ada03fb8faf21dc941f42fe780cb3b84566b1c70a27"), looks := true }, kinds := [], alts := [], laidByText := true, laidKinds := [.data, .data, .data, .data, .sentinel, .sentinel, .pinned], laidTests := true, laidLooks := .later }
def FlatGrowsCardSaid : Prop := Claim7.holds Tryz.pinned (.plain (OpenSpec.ofChange flatGrowsSpec)) flatGrowsCard

/-- THE TIED CARD OF 'metrolabtop.TopShadow'. -/
def topShadowCard : Claim7 := { stood := { row := topShadowRow, standIns := [], harness := (true, "ee6f303d789abab379ad1ada03fb8faf21dc941f42fe780cb3b84566b1c70a27"), looks := true }, kinds := [], alts := [], laidByText := true, laidKinds := [.data, .data, .data, .data, .sentinel, .sentinel, .pinned], laidTests := true, laidLooks := .later }
def TopShadowCardSaid : Prop := Claim7.holds Tryz.pinned (.plain (OpenSpec.ofChange topShadowSpec)) topShadowCard

/-- THE TIED CARD OF 'metrolabtop.TopPrism'. -/
def topPrismCard : Claim7 := { stood := { row := topPrismRow, standIns := [], harness := (true, "ee6f303d789abab379ad1ada03fb8faf21dc941f42fe780cb3b84566b1c70a27"), looks := true }, kinds := [], alts := [], laidByText := true, laidKinds := [.data, .data, .data, .data, .sentinel, .sentinel, .pinned], laidTests := true, laidLooks := .later }
def TopPrismCardSaid : Prop := Claim7.holds Tryz.pinned (.plain (OpenSpec.ofChange topPrismSpec)) topPrismCard

/-- THE TIED CARD OF 'metrolabtop.TopTolerance'. -/
def topToleranceCard : Claim7 := { stood := { row := topToleranceRow, standIns := [], harness := (true, "ee6f303d789abab379ad1ada03fb8faf21dc941f42fe780cb3b84566b1c70a27"), looks := true }, kinds := [], alts := [], laidByText := true, laidKinds := [.data, .data, .data, .data, .sentinel, .sentinel, .pinned], laidTests := true, laidLooks := .later }
def TopToleranceCardSaid : Prop := Claim7.holds Tryz.pinned (.plain (OpenSpec.ofChange topToleranceSpec)) topToleranceCard

/-- THE SECOND FORM's CARD OF 'metrolablaw33.FlatSquares'. -/
def flatSquaresUptoCard : Claim7 := { stood := { row := flatSquaresUptoRow, standIns := [], harness := (true, "ee6f303d789abab379ad1ada03fb8faf21dc941f42fe780cb3b84566b1c70a27"), looks := true }, kinds := [], alts := [], laidByText := true, laidKinds := [.data, .data, .data, .data, .sentinel, .sentinel, .pinned], laidTests := true, laidLooks := .later }
def FlatSquaresUptoCardSaid : Prop := Claim7.holds Tryz.pinned (.plain (OpenSpec.upto flatSquaresSpec)) flatSquaresUptoCard

/-- THE SECOND FORM's CARD OF 'metrolablaw33.FlatWidths'. -/
def flatWidthsUptoCard : Claim7 := { stood := { row := flatWidthsUptoRow, standIns := [], harness := (true, "ee6f303d789abab379ad1ada03fb8faf21dc941f42fe780cb3b84566b1c70a27"), looks := true }, kinds := [], alts := [], laidByText := true, laidKinds := [.data, .data, .data, .data, .sentinel, .sentinel, .pinned], laidTests := true, laidLooks := .later }
def FlatWidthsUptoCardSaid : Prop := Claim7.holds Tryz.pinned (.plain (OpenSpec.upto flatWidthsSpec)) flatWidthsUptoCard

/-- THE SECOND FORM's CARD OF 'metrolablaw33.FlatJudges'. -/
def flatJudgesUptoCard : Claim7 := { stood := { row := flatJudgesUptoRow, standIns := [], harness := (true, "ee6f303d789abab379ad1ada03fb8faf21dc941f42fe780cb3b84566b1c70a27"), looks := true }, kinds := [], alts := [], laidByText := true, laidKinds := [.data, .data, .data, .data, .sentinel, .sentinel, .pinned], laidTests := true, laidLooks := .later }
def FlatJudgesUptoCardSaid : Prop := Claim7.holds Tryz.pinned (.plain (OpenSpec.upto flatJudgesSpec)) flatJudgesUptoCard

/-- THE SECOND FORM's CARD OF 'metrolablaw33.FlatTouches'. -/
def flatTouchesUptoCard : Claim7 := { stood := { row := flatTouchesUptoRow, standIns := [], harness := (true, "ee6f303d789abab379ad1ada03fb8faf21dc941f42fe780cb3b84566b1c70a27"), looks := true }, kinds := [], alts := [], laidByText := true, laidKinds := [.data, .data, .data, .data, .sentinel, .sentinel, .pinned], laidTests := true, laidLooks := .later }
def FlatTouchesUptoCardSaid : Prop := Claim7.holds Tryz.pinned (.plain (OpenSpec.upto flatTouchesSpec)) flatTouchesUptoCard

/-- THE SECOND FORM's CARD OF 'metrolablaw33.FlatMoves'. -/
def flatMovesUptoCard : Claim7 := { stood := { row := flatMovesUptoRow, standIns := [], harness := (true, "ee6f303d789abab379ad1ada03fb8faf21dc941f42fe780cb3b84566b1c70a27"), looks := true }, kinds := [], alts := [], laidByText := true, laidKinds := [.data, .data, .data, .data, .sentinel, .sentinel, .pinned], laidTests := true, laidLooks := .later }
def FlatMovesUptoCardSaid : Prop := Claim7.holds Tryz.pinned (.plain (OpenSpec.upto flatMovesSpec)) flatMovesUptoCard

/-- THE SECOND FORM's CARD OF 'metrolablaw33.FlatZones'. -/
def flatZonesUptoCard : Claim7 := { stood := { row := flatZonesUptoRow, standIns := [], harness := (true, "ee6f303d789abab379ad1ada03fb8faf21dc941f42fe780cb3b84566b1c70a27"), looks := true }, kinds := [], alts := [], laidByText := true, laidKinds := [.data, .data, .data, .data, .sentinel, .sentinel, .pinned], laidTests := true, laidLooks := .later }
def FlatZonesUptoCardSaid : Prop := Claim7.holds Tryz.pinned (.plain (OpenSpec.upto flatZonesSpec)) flatZonesUptoCard

/-- THE SECOND FORM's CARD OF 'metrolablaw33.FlatLeast'. -/
def flatLeastUptoCard : Claim7 := { stood := { row := flatLeastUptoRow, standIns := [], harness := (true, "ee6f303d789abab379ad1ada03fb8faf21dc941f42fe780cb3b84566b1c70a27"), looks := true }, kinds := [], alts := [], laidByText := true, laidKinds := [.data, .data, .data, .data, .sentinel, .sentinel, .pinned], laidTests := true, laidLooks := .later }
def FlatLeastUptoCardSaid : Prop := Claim7.holds Tryz.pinned (.plain (OpenSpec.upto flatLeastSpec)) flatLeastUptoCard

/-- THE SECOND FORM's CARD OF 'metrolablaw33.FlatGrows'. -/
def flatGrowsUptoCard : Claim7 := { stood := { row := flatGrowsUptoRow, standIns := [], harness := (true, "ee6f303d789abab379ad1ada03fb8faf21dc941f42fe780cb3b84566b1c70a27"), looks := true }, kinds := [], alts := [], laidByText := true, laidKinds := [.data, .data, .data, .data, .sentinel, .sentinel, .pinned], laidTests := true, laidLooks := .later }
def FlatGrowsUptoCardSaid : Prop := Claim7.holds Tryz.pinned (.plain (OpenSpec.upto flatGrowsSpec)) flatGrowsUptoCard

/-- THE SECOND FORM's CARD OF 'metrolabtop.TopShadow'. -/
def topShadowUptoCard : Claim7 := { stood := { row := topShadowUptoRow, standIns := [], harness := (true, "ee6f303d789abab379ad1ada03fb8faf21dc941f42fe780cb3b84566b1c70a27"), looks := true }, kinds := [], alts := [], laidByText := true, laidKinds := [.data, .data, .data, .data, .sentinel, .sentinel, .pinned], laidTests := true, laidLooks := .later }
def TopShadowUptoCardSaid : Prop := Claim7.holds Tryz.pinned (.plain (OpenSpec.upto topShadowSpec)) topShadowUptoCard

/-- THE SECOND FORM's CARD OF 'metrolabtop.TopPrism'. -/
def topPrismUptoCard : Claim7 := { stood := { row := topPrismUptoRow, standIns := [], harness := (true, "ee6f303d789abab379ad1ada03fb8faf21dc941f42fe780cb3b84566b1c70a27"), looks := true }, kinds := [], alts := [], laidByText := true, laidKinds := [.data, .data, .data, .data, .sentinel, .sentinel, .pinned], laidTests := true, laidLooks := .later }
def TopPrismUptoCardSaid : Prop := Claim7.holds Tryz.pinned (.plain (OpenSpec.upto topPrismSpec)) topPrismUptoCard

/-- THE SECOND FORM's CARD OF 'metrolabtop.TopTolerance'. -/
def topToleranceUptoCard : Claim7 := { stood := { row := topToleranceUptoRow, standIns := [], harness := (true, "ee6f303d789abab379ad1ada03fb8faf21dc941f42fe780cb3b84566b1c70a27"), looks := true }, kinds := [], alts := [], laidByText := true, laidKinds := [.data, .data, .data, .data, .sentinel, .sentinel, .pinned], laidTests := true, laidLooks := .later }
def TopToleranceUptoCardSaid : Prop := Claim7.holds Tryz.pinned (.plain (OpenSpec.upto topToleranceSpec)) topToleranceUptoCard
end Rows
end Go.Proofs.YtgblokifbgeegaaGreatDoor
