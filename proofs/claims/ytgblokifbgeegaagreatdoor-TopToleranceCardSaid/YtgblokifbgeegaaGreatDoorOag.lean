/- A part of the proof. -/
import Derived.Test.YtgblokifbgeegaaGreatDoorOaa
import Derived.Test.YtgblokifbgeegaaGreatDoorOab
import Derived.Test.YtgblokifbgeegaaGreatDoorOac
import Derived.Test.YtgblokifbgeegaaGreatDoorOad
import Derived.Test.YtgblokifbgeegaaGreatDoorOae
import Derived.Test.YtgblokifbgeegaaGreatDoorOaf
namespace Go.Proofs.YtgblokifbgeegaaGreatDoor
open Go Go.Vc Go.RowKit Go.ChangeShapes Go.WideShapes Go.ChangeAt Go.Joins
set_option maxRecDepth 100000
theorem q2 : joinedFacts Tryz.prog 13 Tryz.f13 Rows.topToleranceSpec Rows.topToleranceRow = true := by
 unfold joinedFacts
 rw [z5, z1, z2, z3, z4]
 kernel_rfl
end Go.Proofs.YtgblokifbgeegaaGreatDoor
