/- A part of the proof. -/
import Derived.Test.YtfggdokihnopeaaGreatDoorRaa
import Derived.Test.YtfggdokihnopeaaGreatDoorRab
import Derived.Test.YtfggdokihnopeaaGreatDoorRac
import Derived.Test.YtfggdokihnopeaaGreatDoorRad
import Derived.Test.YtfggdokihnopeaaGreatDoorRae
import Derived.Test.YtfggdokihnopeaaGreatDoorRaf
namespace Go.Proofs.YtfggdokihnopeaaGreatDoor
open Go Go.Vc Go.RowKit Go.ChangeShapes Go.WideShapes Go.ChangeAt Go.Joins
set_option maxRecDepth 100000
theorem q2 : joinedFacts Tryz.prog 7 Tryz.f7 Rows.datumsRestsSpec Rows.datumsRestsRow = true := by
 unfold joinedFacts
 rw [z5, z1, z2, z3, z4]
 kernel_rfl
end Go.Proofs.YtfggdokihnopeaaGreatDoor
