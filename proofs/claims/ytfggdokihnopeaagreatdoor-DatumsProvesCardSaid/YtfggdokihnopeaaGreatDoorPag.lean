/- A part of the proof. -/
import Derived.Test.YtfggdokihnopeaaGreatDoorPaa
import Derived.Test.YtfggdokihnopeaaGreatDoorPab
import Derived.Test.YtfggdokihnopeaaGreatDoorPac
import Derived.Test.YtfggdokihnopeaaGreatDoorPad
import Derived.Test.YtfggdokihnopeaaGreatDoorPae
import Derived.Test.YtfggdokihnopeaaGreatDoorPaf
namespace Go.Proofs.YtfggdokihnopeaaGreatDoor
open Go Go.Vc Go.RowKit Go.ChangeShapes Go.WideShapes Go.ChangeAt Go.Joins
set_option maxRecDepth 100000
theorem q2 : joinedFacts Tryz.prog 5 Tryz.f5 Rows.datumsProvesSpec Rows.datumsProvesRow = true := by
 unfold joinedFacts
 rw [z5, z1, z2, z3, z4]
 kernel_rfl
end Go.Proofs.YtfggdokihnopeaaGreatDoor
