/- A part of the proof. -/
import Derived.Test.YtgblokifbgeegaaGreatDoorQab
import Derived.Test.YtgblokifbgeegaaGreatDoorQac
import Derived.Test.YtgblokifbgeegaaGreatDoorQad
import Derived.Test.YtgblokifbgeegaaGreatDoorQae
import Derived.Test.YtgblokifbgeegaaGreatDoorQaf
import Derived.Test.YtgblokifbgeegaaGreatDoorQag
namespace Go.Proofs.YtgblokifbgeegaaGreatDoor
open Go Go.Vc Go.RowKit Go.ChangeShapes Go.WideShapes Go.ChangeAt Go.Joins
set_option maxRecDepth 100000
theorem q2 : joinedFacts Tryz.prog 3 Tryz.f3 Rows.flatSquaresSpec Rows.flatSquaresRow = true := by
 unfold joinedFacts
 rw [z5, z1, z2, z3, z4]
 kernel_rfl
end Go.Proofs.YtgblokifbgeegaaGreatDoor
