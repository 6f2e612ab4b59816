/-
  DERIVED. GIVEN WITH THE SEED: THE CARDS: each row of YtfggdokihnopeaaGreatDoorRows.lean that lists a variable, with what it lists TIED to the program's text (the seventh form; the later family's looks); each row that meets fmt, with fmt's text TOLD by the authors' own Lean function (tested against real Go, not proved from fmt's source: count such statements apart). THE CARD IS WHAT COUNTS. Prove the row's statement (the work); the ties are given (YtfggdokihnopeaaGreatDoorTie.lean); close each card by the builder's one call (the guide's Derived/Test/ToyasCard.lean, 'card_holds'). Laid BY PROGRAM, IN A SANDBOX (cutbox-door.mjs). By AI agents, Wed Nov 11 2026. No macro, syntax, notation, axiom, sorry.
-/
import Derived.Test.YtfggdokihnopeaaGreatDoorRows
import GoSem.ClaimSeven
namespace Go.Proofs.YtfggdokihnopeaaGreatDoor
namespace Rows

/-- THE TIED CARD OF 'metrolabtop.TopPlaces'. -/
def topPlacesCard : Claim7 := { stood := { row := topPlacesRow, standIns := [], harness := (true, "f0a03f005ac066f9c159c0a5073383cd5b7376b5da8d5cacd2cdd0eebd4182dc"), looks := true }, kinds := [], alts := [], laidByText := true, laidKinds := [.data, .data, .data, .data, .sentinel, .sentinel, .data, .pinned], laidTests := true, laidLooks := .later }
def TopPlacesCardSaid : Prop := Claim7.holds Tryz.pinned (.plain (OpenSpec.ofChange topPlacesSpec)) topPlacesCard

/-- THE TIED CARD OF 'metrolablaw42.DatumsFinds'. -/
def datumsFindsCard : Claim7 := { stood := { row := datumsFindsRow, standIns := [], harness := (true, "f0a03f005ac066f9c159c0a5073383cd5b7376b5da8d5cacd2cdd0eebd4182dc"), looks := true }, kinds := [], alts := [], laidByText := true, laidKinds := [.data, .data, .data, .data, .sentinel, .sentinel, .data, .pinned], laidTests := true, laidLooks := .later }
def DatumsFindsCardSaid : Prop := Claim7.holds Tryz.pinned (.plain (OpenSpec.ofChange datumsFindsSpec)) datumsFindsCard

/-- THE TIED CARD OF 'metrolablaw42.DatumsProves'. -/
def datumsProvesCard : Claim7 := { stood := { row := datumsProvesRow, standIns := [], harness := (true, "f0a03f005ac066f9c159c0a5073383cd5b7376b5da8d5cacd2cdd0eebd4182dc"), looks := true }, kinds := [], alts := [], laidByText := true, laidKinds := [.data, .data, .data, .data, .sentinel, .sentinel, .data, .pinned], laidTests := true, laidLooks := .later }
def DatumsProvesCardSaid : Prop := Claim7.holds Tryz.pinned (.plain (OpenSpec.ofChange datumsProvesSpec)) datumsProvesCard

/-- THE TIED CARD OF 'metrolablaw42.DatumsObeys'. -/
def datumsObeysCard : Claim7 := { stood := { row := datumsObeysRow, standIns := [], harness := (true, "f0a03f005ac066f9c159c0a5073383cd5b7376b5da8d5cacd2cdd0eebd4182dc"), looks := true }, kinds := [], alts := [], laidByText := true, laidKinds := [.data, .data, .data, .data, .sentinel, .sentinel, .data, .pinned], laidTests := true, laidLooks := .later }
def DatumsObeysCardSaid : Prop := Claim7.holds Tryz.pinned (.plain (OpenSpec.ofChange datumsObeysSpec)) datumsObeysCard

/-- THE TIED CARD OF 'metrolablaw42.DatumsRests'. -/
def datumsRestsCard : Claim7 := { stood := { row := datumsRestsRow, standIns := [], harness := (true, "f0a03f005ac066f9c159c0a5073383cd5b7376b5da8d5cacd2cdd0eebd4182dc"), looks := true }, kinds := [], alts := [], laidByText := true, laidKinds := [.data, .data, .data, .data, .sentinel, .sentinel, .data, .pinned], laidTests := true, laidLooks := .later }
def DatumsRestsCardSaid : Prop := Claim7.holds Tryz.pinned (.plain (OpenSpec.ofChange datumsRestsSpec)) datumsRestsCard

/-- THE TIED CARD OF 'metrolablaw42.DatumsTakes'. -/
def datumsTakesCard : Claim7 := { stood := { row := datumsTakesRow, standIns := [], harness := (true, "f0a03f005ac066f9c159c0a5073383cd5b7376b5da8d5cacd2cdd0eebd4182dc"), looks := true }, kinds := [], alts := [], laidByText := true, laidKinds := [.data, .data, .data, .data, .sentinel, .sentinel, .data, .pinned], laidTests := true, laidLooks := .later }
def DatumsTakesCardSaid : Prop := Claim7.holds Tryz.pinned (.plain (OpenSpec.ofChange datumsTakesSpec)) datumsTakesCard

/-- THE TIED CARD OF 'metrolablaw42.DatumsMoves'. -/
def datumsMovesCard : Claim7 := { stood := { row := datumsMovesRow, standIns := [], harness := (true, "f0a03f005ac066f9c159c0a5073383cd5b7376b5da8d5cacd2cdd0eebd4182dc"), looks := true }, kinds := [], alts := [], laidByText := true, laidKinds := [.data, .data, .data, .data, .sentinel, .sentinel, .data, .pinned], laidTests := true, laidLooks := .later }
def DatumsMovesCardSaid : Prop := Claim7.holds Tryz.pinned (.plain (OpenSpec.ofChange datumsMovesSpec)) datumsMovesCard

/-- THE SECOND FORM's CARD OF 'metrolabtop.TopPlaces'. -/
def topPlacesUptoCard : Claim7 := { stood := { row := topPlacesUptoRow, standIns := [], harness := (true, "f0a03f005ac066f9c159c0a5073383cd5b7376b5da8d5cacd2cdd0eebd4182dc"), looks := true }, kinds := [], alts := [], laidByText := true, laidKinds := [.data, .data, .data, .data, .sentinel, .sentinel, .data, .pinned], laidTests := true, laidLooks := .later }
def TopPlacesUptoCardSaid : Prop := Claim7.holds Tryz.pinned (.plain (OpenSpec.upto topPlacesSpec)) topPlacesUptoCard

/-- THE SECOND FORM's CARD OF 'metrolablaw42.DatumsFinds'. -/
def datumsFindsUptoCard : Claim7 := { stood := { row := datumsFindsUptoRow, standIns := [], harness := (true, "f0a03f005ac066f9c159c0a5073383cd5b7376b5da8d5cacd2cdd0eebd4182dc"), looks := true }, kinds := [], alts := [], laidByText := true, laidKinds := [.data, .data, .data, .data, .sentinel, .sentinel, .data, .pinned], laidTests := true, laidLooks := .later }
def DatumsFindsUptoCardSaid : Prop := Claim7.holds Tryz.pinned (.plain (OpenSpec.upto datumsFindsSpec)) datumsFindsUptoCard

/-- THE SECOND FORM's CARD OF 'metrolablaw42.DatumsProves'. -/
def datumsProvesUptoCard : Claim7 := { stood := { row := datumsProvesUptoRow, standIns := [], harness := (true, "f0a03f005ac066f9c159c0a5073383cd5b7376b5da8d5cacd2cdd0eebd4182dc"), looks := true }, kinds := [], alts := [], laidByText := true, laidKinds := [.data, .data, .data, .data, .sentinel, .sentinel, .data, .pinned], laidTests := true, laidLooks := .later }
def DatumsProvesUptoCardSaid : Prop := Claim7.holds Tryz.pinned (.plain (OpenSpec.upto datumsProvesSpec)) datumsProvesUptoCard

/-- THE SECOND FORM's CARD OF 'metrolablaw42.DatumsObeys'. -/
def datumsObeysUptoCard : Claim7 := { stood := { row := datumsObeysUptoRow, standIns := [], harness := (true, "f0a03f005ac066f9c159c0a5073383cd5b7376b5da8d5cacd2cdd0eebd4182dc"), looks := true }, kinds := [], alts := [], laidByText := true, laidKinds := [.data, .data, .data, .data, .sentinel, .sentinel, .data, .pinned], laidTests := true, laidLooks := .later }
def DatumsObeysUptoCardSaid : Prop := Claim7.holds Tryz.pinned (.plain (OpenSpec.upto datumsObeysSpec)) datumsObeysUptoCard

/-- THE SECOND FORM's CARD OF 'metrolablaw42.DatumsRests'. -/
def datumsRestsUptoCard : Claim7 := { stood := { row := datumsRestsUptoRow, standIns := [], harness := (true, "f0a03f005ac066f9c159c0a5073383cd5b7376b5da8d5cacd2cdd0eebd4182dc"), looks := true }, kinds := [], alts := [], laidByText := true, laidKinds := [.data, .data, .data, .data, .sentinel, .sentinel, .data, .pinned], laidTests := true, laidLooks := .later }
def DatumsRestsUptoCardSaid : Prop := Claim7.holds Tryz.pinned (.plain (OpenSpec.upto datumsRestsSpec)) datumsRestsUptoCard

/-- THE SECOND FORM's CARD OF 'metrolablaw42.DatumsTakes'. -/
def datumsTakesUptoCard : Claim7 := { stood := { row := datumsTakesUptoRow, standIns := [], harness := (true, "f0a03f005ac066f9c159c0a5073383cd5b7376b5da8d5cacd2cdd0eebd4182dc"), looks := true }, kinds := [], alts := [], laidByText := true, laidKinds := [.data, .data, .data, .data, .sentinel, .sentinel, .data, .pinned], laidTests := true, laidLooks := .later }
def DatumsTakesUptoCardSaid : Prop := Claim7.holds Tryz.pinned (.plain (OpenSpec.upto datumsTakesSpec)) datumsTakesUptoCard

/-- THE SECOND FORM's CARD OF 'metrolablaw42.DatumsMoves'. -/
def datumsMovesUptoCard : Claim7 := { stood := { row := datumsMovesUptoRow, standIns := [], harness := (true, "f0a03f005ac066f9c159c0a5073383cd5b7376b5da8d5cacd2cdd0eebd4182dc"), looks := true }, kinds := [], alts := [], laidByText := true, laidKinds := [.data, .data, .data, .data, .sentinel, .sentinel, .data, .pinned], laidTests := true, laidLooks := .later }
def DatumsMovesUptoCardSaid : Prop := Claim7.holds Tryz.pinned (.plain (OpenSpec.upto datumsMovesSpec)) datumsMovesUptoCard
end Rows
end Go.Proofs.YtfggdokihnopeaaGreatDoor
