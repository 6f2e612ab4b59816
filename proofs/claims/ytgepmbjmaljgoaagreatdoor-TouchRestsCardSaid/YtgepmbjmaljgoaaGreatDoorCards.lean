/-
  DERIVED. GIVEN WITH THE SEED: THE CARDS: each row of YtgepmbjmaljgoaaGreatDoorRows.lean that lists a variable, with what it lists TIED to the program's text (the seventh form; the later family's looks); each row that meets fmt, with fmt's text TOLD by the authors' own Lean function (tested against real Go, not proved from fmt's source: count such statements apart). THE CARD IS WHAT COUNTS. Prove the row's statement (the work); the ties are given (YtgepmbjmaljgoaaGreatDoorTie.lean); close each card by the builder's one call (the guide's Derived/Test/ToyasCard.lean, 'card_holds'). Laid BY PROGRAM, IN A SANDBOX (cutbox-door.mjs). By AI agents, Wed Nov 11 2026. No macro, syntax, notation, axiom, sorry.
-/
import Derived.Test.YtgepmbjmaljgoaaGreatDoorRows
import GoSem.ClaimSeven
namespace Go.Proofs.YtgepmbjmaljgoaaGreatDoor
namespace Rows

/-- THE TIED CARD OF 'metrolablaw41.TouchFinds'. -/
def touchFindsCard : Claim7 := { stood := { row := touchFindsRow, standIns := [], harness := (true, "656bec1d1d00535604885df1bd173bc24c083377663c795117545d05879d50ff"), looks := true }, kinds := [], alts := [], laidByText := true, laidKinds := [.data, .data, .data, .data, .sentinel, .sentinel, .data, .pinned], laidTests := true, laidLooks := .later }
def TouchFindsCardSaid : Prop := Claim7.holds Tryz.pinned (.plain (OpenSpec.ofChange touchFindsSpec)) touchFindsCard

/-- THE TIED CARD OF 'metrolablaw41.TouchRests'. -/
def touchRestsCard : Claim7 := { stood := { row := touchRestsRow, standIns := [], harness := (true, "656bec1d1d00535604885df1bd173bc24c083377663c795117545d05879d50ff"), looks := true }, kinds := [], alts := [], laidByText := true, laidKinds := [.data, .data, .data, .data, .sentinel, .sentinel, .data, .pinned], laidTests := true, laidLooks := .later }
def TouchRestsCardSaid : Prop := Claim7.holds Tryz.pinned (.plain (OpenSpec.ofChange touchRestsSpec)) touchRestsCard

/-- THE TIED CARD OF 'metrolablaw41.TouchLevels'. -/
def touchLevelsCard : Claim7 := { stood := { row := touchLevelsRow, standIns := [], harness := (true, "656bec1d1d00535604885df1bd173bc24c083377663c795117545d05879d50ff"), looks := true }, kinds := [], alts := [], laidByText := true, laidKinds := [.data, .data, .data, .data, .sentinel, .sentinel, .data, .pinned], laidTests := true, laidLooks := .later }
def TouchLevelsCardSaid : Prop := Claim7.holds Tryz.pinned (.plain (OpenSpec.ofChange touchLevelsSpec)) touchLevelsCard

/-- THE TIED CARD OF 'metrolablaw41.TouchVerifies'. -/
def touchVerifiesCard : Claim7 := { stood := { row := touchVerifiesRow, standIns := [], harness := (true, "656bec1d1d00535604885df1bd173bc24c083377663c795117545d05879d50ff"), looks := true }, kinds := [], alts := [], laidByText := true, laidKinds := [.data, .data, .data, .data, .sentinel, .sentinel, .data, .pinned], laidTests := true, laidLooks := .later }
def TouchVerifiesCardSaid : Prop := Claim7.holds Tryz.pinned (.plain (OpenSpec.ofChange touchVerifiesSpec)) touchVerifiesCard

/-- THE TIED CARD OF 'metrolablaw41.TouchBears'. -/
def touchBearsCard : Claim7 := { stood := { row := touchBearsRow, standIns := [], harness := (true, "656bec1d1d00535604885df1bd173bc24c083377663c795117545d05879d50ff"), looks := true }, kinds := [], alts := [], laidByText := true, laidKinds := [.data, .data, .data, .data, .sentinel, .sentinel, .data, .pinned], laidTests := true, laidLooks := .later }
def TouchBearsCardSaid : Prop := Claim7.holds Tryz.pinned (.plain (OpenSpec.ofChange touchBearsSpec)) touchBearsCard

/-- THE TIED CARD OF 'metrolablaw41.TouchProves'. -/
def touchProvesCard : Claim7 := { stood := { row := touchProvesRow, standIns := [], harness := (true, "656bec1d1d00535604885df1bd173bc24c083377663c795117545d05879d50ff"), looks := true }, kinds := [], alts := [], laidByText := true, laidKinds := [.data, .data, .data, .data, .sentinel, .sentinel, .data, .pinned], laidTests := true, laidLooks := .later }
def TouchProvesCardSaid : Prop := Claim7.holds Tryz.pinned (.plain (OpenSpec.ofChange touchProvesSpec)) touchProvesCard

/-- THE TIED CARD OF 'metrolablaw41.TouchPlaces'. -/
def touchPlacesCard : Claim7 := { stood := { row := touchPlacesRow, standIns := [], harness := (true, "656bec1d1d00535604885df1bd173bc24c083377663c795117545d05879d50ff"), looks := true }, kinds := [], alts := [], laidByText := true, laidKinds := [.data, .data, .data, .data, .sentinel, .sentinel, .data, .pinned], laidTests := true, laidLooks := .later }
def TouchPlacesCardSaid : Prop := Claim7.holds Tryz.pinned (.plain (OpenSpec.ofChange touchPlacesSpec)) touchPlacesCard

/-- THE TIED CARD OF 'metrolablaw41.TouchFaces'. -/
def touchFacesCard : Claim7 := { stood := { row := touchFacesRow, standIns := [], harness := (true, "656bec1d1d00535604885df1bd173bc24c083377663c795117545d05879d50ff"), looks := true }, kinds := [], alts := [], laidByText := true, laidKinds := [.data, .data, .data, .data, .sentinel, .sentinel, .data, .pinned], laidTests := true, laidLooks := .later }
def TouchFacesCardSaid : Prop := Claim7.holds Tryz.pinned (.plain (OpenSpec.ofChange touchFacesSpec)) touchFacesCard

/-- THE SECOND FORM's CARD OF 'metrolablaw41.TouchFinds'. -/
def touchFindsUptoCard : Claim7 := { stood := { row := touchFindsUptoRow, standIns := [], harness := (true, "656bec1d1d00535604885df1bd173bc24c083377663c795117545d05879d50ff"), looks := true }, kinds := [], alts := [], laidByText := true, laidKinds := [.data, .data, .data, .data, .sentinel, .sentinel, .data, .pinned], laidTests := true, laidLooks := .later }
def TouchFindsUptoCardSaid : Prop := Claim7.holds Tryz.pinned (.plain (OpenSpec.upto touchFindsSpec)) touchFindsUptoCard

/-- THE SECOND FORM's CARD OF 'metrolablaw41.TouchRests'. -/
def touchRestsUptoCard : Claim7 := { stood := { row := touchRestsUptoRow, standIns := [], harness := (true, "656bec1d1d00535604885df1bd173bc24c083377663c795117545d05879d50ff"), looks := true }, kinds := [], alts := [], laidByText := true, laidKinds := [.data, .data, .data, .data, .sentinel, .sentinel, .data, .pinned], laidTests := true, laidLooks := .later }
def TouchRestsUptoCardSaid : Prop := Claim7.holds Tryz.pinned (.plain (OpenSpec.upto touchRestsSpec)) touchRestsUptoCard

/-- THE SECOND FORM's CARD OF 'metrolablaw41.TouchLevels'. -/
def touchLevelsUptoCard : Claim7 := { stood := { row := touchLevelsUptoRow, standIns := [], harness := (true, "656bec1d1d00535604885df1bd173bc24c083377663c795117545d05879d50ff"), looks := true }, kinds := [], alts := [], laidByText := true, laidKinds := [.data, .data, .data, .data, .sentinel, .sentinel, .data, .pinned], laidTests := true, laidLooks := .later }
def TouchLevelsUptoCardSaid : Prop := Claim7.holds Tryz.pinned (.plain (OpenSpec.upto touchLevelsSpec)) touchLevelsUptoCard

/-- THE SECOND FORM's CARD OF 'metrolablaw41.TouchVerifies'. -/
def touchVerifiesUptoCard : Claim7 := { stood := { row := touchVerifiesUptoRow, standIns := [], harness := (true, "656bec1d1d00535604885df1bd173bc24c083377663c795117545d05879d50ff"), looks := true }, kinds := [], alts := [], laidByText := true, laidKinds := [.data, .data, .data, .data, .sentinel, .sentinel, .data, .pinned], laidTests := true, laidLooks := .later }
def TouchVerifiesUptoCardSaid : Prop := Claim7.holds Tryz.pinned (.plain (OpenSpec.upto touchVerifiesSpec)) touchVerifiesUptoCard

/-- THE SECOND FORM's CARD OF 'metrolablaw41.TouchBears'. -/
def touchBearsUptoCard : Claim7 := { stood := { row := touchBearsUptoRow, standIns := [], harness := (true, "656bec1d1d00535604885df1bd173bc24c083377663c795117545d05879d50ff"), looks := true }, kinds := [], alts := [], laidByText := true, laidKinds := [.data, .data, .data, .data, .sentinel, .sentinel, .data, .pinned], laidTests := true, laidLooks := .later }
def TouchBearsUptoCardSaid : Prop := Claim7.holds Tryz.pinned (.plain (OpenSpec.upto touchBearsSpec)) touchBearsUptoCard

/-- THE SECOND FORM's CARD OF 'metrolablaw41.TouchProves'. -/
def touchProvesUptoCard : Claim7 := { stood := { row := touchProvesUptoRow, standIns := [], harness := (true, "656bec1d1d00535604885df1bd173bc24c083377663c795117545d05879d50ff"), looks := true }, kinds := [], alts := [], laidByText := true, laidKinds := [.data, .data, .data, .data, .sentinel, .sentinel, .data, .pinned], laidTests := true, laidLooks := .later }
def TouchProvesUptoCardSaid : Prop := Claim7.holds Tryz.pinned (.plain (OpenSpec.upto touchProvesSpec)) touchProvesUptoCard

/-- THE SECOND FORM's CARD OF 'metrolablaw41.TouchPlaces'. -/
def touchPlacesUptoCard : Claim7 := { stood := { row := touchPlacesUptoRow, standIns := [], harness := (true, "656bec1d1d00535604885df1bd173bc24c083377663c795117545d05879d50ff"), looks := true }, kinds := [], alts := [], laidByText := true, laidKinds := [.data, .data, .data, .data, .sentinel, .sentinel, .data, .pinned], laidTests := true, laidLooks := .later }
def TouchPlacesUptoCardSaid : Prop := Claim7.holds Tryz.pinned (.plain (OpenSpec.upto touchPlacesSpec)) touchPlacesUptoCard

/-- THE SECOND FORM's CARD OF 'metrolablaw41.TouchFaces'. -/
def touchFacesUptoCard : Claim7 := { stood := { row := touchFacesUptoRow, standIns := [], harness := (true, "656bec1d1d00535604885df1bd173bc24c083377663c795117545d05879d50ff"), looks := true }, kinds := [], alts := [], laidByText := true, laidKinds := [.data, .data, .data, .data, .sentinel, .sentinel, .data, .pinned], laidTests := true, laidLooks := .later }
def TouchFacesUptoCardSaid : Prop := Claim7.holds Tryz.pinned (.plain (OpenSpec.upto touchFacesSpec)) touchFacesUptoCard
end Rows
end Go.Proofs.YtgepmbjmaljgoaaGreatDoor
