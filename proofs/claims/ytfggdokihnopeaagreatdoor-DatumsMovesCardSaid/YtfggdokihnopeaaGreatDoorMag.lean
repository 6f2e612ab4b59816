/- A part of the proof. -/
import Derived.Test.YtfggdokihnopeaaGreatDoorMaa
import Derived.Test.YtfggdokihnopeaaGreatDoorMab
import Derived.Test.YtfggdokihnopeaaGreatDoorMac
import Derived.Test.YtfggdokihnopeaaGreatDoorMad
import Derived.Test.YtfggdokihnopeaaGreatDoorMae
import Derived.Test.YtfggdokihnopeaaGreatDoorMaf
namespace Go.Proofs.YtfggdokihnopeaaGreatDoor
open Go Go.Vc Go.RowKit Go.ChangeShapes Go.WideShapes Go.ChangeAt Go.Joins
set_option maxRecDepth 100000
theorem q2 : joinedFacts Tryz.prog 9 Tryz.f9 Rows.datumsMovesSpec Rows.datumsMovesRow = true := by
 unfold joinedFacts
 rw [z5, z1, z2, z3, z4]
 kernel_rfl
end Go.Proofs.YtfggdokihnopeaaGreatDoor
