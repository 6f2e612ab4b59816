/- A part of the proof. -/
import Derived.Test.YtgblokifbgeegaaGreatDoorSaa
import Derived.Test.YtgblokifbgeegaaGreatDoorSab
import Derived.Test.YtgblokifbgeegaaGreatDoorSac
import Derived.Test.YtgblokifbgeegaaGreatDoorSad
import Derived.Test.YtgblokifbgeegaaGreatDoorSae
import Derived.Test.YtgblokifbgeegaaGreatDoorSaf
namespace Go.Proofs.YtgblokifbgeegaaGreatDoor
open Go Go.Vc Go.RowKit Go.ChangeShapes Go.WideShapes Go.ChangeAt Go.Joins
set_option maxRecDepth 100000
theorem q2 : joinedFacts Tryz.prog 11 Tryz.f11 Rows.topShadowSpec Rows.topShadowRow = true := by
 unfold joinedFacts
 rw [z5, z1, z2, z3, z4]
 kernel_rfl
end Go.Proofs.YtgblokifbgeegaaGreatDoor
