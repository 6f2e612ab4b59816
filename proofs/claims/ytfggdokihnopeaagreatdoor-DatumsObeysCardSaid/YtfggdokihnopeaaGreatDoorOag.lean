/- A part of the proof. -/
import Derived.Test.YtfggdokihnopeaaGreatDoorOaa
import Derived.Test.YtfggdokihnopeaaGreatDoorOab
import Derived.Test.YtfggdokihnopeaaGreatDoorOac
import Derived.Test.YtfggdokihnopeaaGreatDoorOad
import Derived.Test.YtfggdokihnopeaaGreatDoorOae
import Derived.Test.YtfggdokihnopeaaGreatDoorOaf
namespace Go.Proofs.YtfggdokihnopeaaGreatDoor
open Go Go.Vc Go.RowKit Go.ChangeShapes Go.WideShapes Go.ChangeAt Go.Joins
set_option maxRecDepth 100000
theorem q2 : joinedFacts Tryz.prog 6 Tryz.f6 Rows.datumsObeysSpec Rows.datumsObeysRow = true := by
 unfold joinedFacts
 rw [z5, z1, z2, z3, z4]
 kernel_rfl
end Go.Proofs.YtfggdokihnopeaaGreatDoor
