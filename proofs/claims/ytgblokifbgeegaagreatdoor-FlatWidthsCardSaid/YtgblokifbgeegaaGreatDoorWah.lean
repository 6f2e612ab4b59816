/- A part of the proof. -/
import Derived.Test.YtgblokifbgeegaaGreatDoorWab
import Derived.Test.YtgblokifbgeegaaGreatDoorWac
import Derived.Test.YtgblokifbgeegaaGreatDoorWad
import Derived.Test.YtgblokifbgeegaaGreatDoorWae
import Derived.Test.YtgblokifbgeegaaGreatDoorWaf
import Derived.Test.YtgblokifbgeegaaGreatDoorWag
namespace Go.Proofs.YtgblokifbgeegaaGreatDoor
open Go Go.Vc Go.RowKit Go.ChangeShapes Go.WideShapes Go.ChangeAt Go.Joins
set_option maxRecDepth 100000
theorem q2 : joinedFacts Tryz.prog 4 Tryz.f4 Rows.flatWidthsSpec Rows.flatWidthsRow = true := by
 unfold joinedFacts
 rw [z5, z1, z2, z3, z4]
 kernel_rfl
end Go.Proofs.YtgblokifbgeegaaGreatDoor
