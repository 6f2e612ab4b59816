/- A part of the proof. -/
import Derived.Test.YtgblokifbgeegaaGreatDoorMab
import Derived.Test.YtgblokifbgeegaaGreatDoorMac
import Derived.Test.YtgblokifbgeegaaGreatDoorMad
import Derived.Test.YtgblokifbgeegaaGreatDoorMae
import Derived.Test.YtgblokifbgeegaaGreatDoorMaf
import Derived.Test.YtgblokifbgeegaaGreatDoorMag
namespace Go.Proofs.YtgblokifbgeegaaGreatDoor
open Go Go.Vc Go.RowKit Go.ChangeShapes Go.WideShapes Go.ChangeAt Go.Joins
set_option maxRecDepth 100000
theorem q2 : joinedFacts Tryz.prog 7 Tryz.f7 Rows.flatMovesSpec Rows.flatMovesRow = true := by
 unfold joinedFacts
 rw [z5, z1, z2, z3, z4]
 kernel_rfl
end Go.Proofs.YtgblokifbgeegaaGreatDoor
