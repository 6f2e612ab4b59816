/- A part of the proof. -/
import Derived.Test.YtgblokifbgeegaaGreatDoorZab
import Derived.Test.YtgblokifbgeegaaGreatDoorZac
import Derived.Test.YtgblokifbgeegaaGreatDoorZad
import Derived.Test.YtgblokifbgeegaaGreatDoorZae
import Derived.Test.YtgblokifbgeegaaGreatDoorZaf
import Derived.Test.YtgblokifbgeegaaGreatDoorZag
namespace Go.Proofs.YtgblokifbgeegaaGreatDoor
open Go Go.Vc Go.RowKit Go.ChangeShapes Go.WideShapes Go.ChangeAt Go.Joins
set_option maxRecDepth 100000
theorem q2 : joinedFacts Tryz.prog 8 Tryz.f8 Rows.flatZonesSpec Rows.flatZonesRow = true := by
 unfold joinedFacts
 rw [z5, z1, z2, z3, z4]
 kernel_rfl
end Go.Proofs.YtgblokifbgeegaaGreatDoor
