/- A part of the proof. -/
import Derived.Test.YtgblokifbgeegaaGreatDoorTab
import Derived.Test.YtgblokifbgeegaaGreatDoorTac
import Derived.Test.YtgblokifbgeegaaGreatDoorTad
import Derived.Test.YtgblokifbgeegaaGreatDoorTae
import Derived.Test.YtgblokifbgeegaaGreatDoorTaf
import Derived.Test.YtgblokifbgeegaaGreatDoorTag
namespace Go.Proofs.YtgblokifbgeegaaGreatDoor
open Go Go.Vc Go.RowKit Go.ChangeShapes Go.WideShapes Go.ChangeAt Go.Joins
set_option maxRecDepth 100000
theorem q2 : joinedFacts Tryz.prog 6 Tryz.f6 Rows.flatTouchesSpec Rows.flatTouchesRow = true := by
 unfold joinedFacts
 rw [z5, z1, z2, z3, z4]
 kernel_rfl
end Go.Proofs.YtgblokifbgeegaaGreatDoor
