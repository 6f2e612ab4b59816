/- A part of the proof. -/
import Derived.Test.YtgblokifbgeegaaGreatDoorGab
import Derived.Test.YtgblokifbgeegaaGreatDoorGac
import Derived.Test.YtgblokifbgeegaaGreatDoorGad
import Derived.Test.YtgblokifbgeegaaGreatDoorGae
import Derived.Test.YtgblokifbgeegaaGreatDoorGaf
import Derived.Test.YtgblokifbgeegaaGreatDoorGag
namespace Go.Proofs.YtgblokifbgeegaaGreatDoor
open Go Go.Vc Go.RowKit Go.ChangeShapes Go.WideShapes Go.ChangeAt Go.Joins
set_option maxRecDepth 100000
theorem q2 : joinedFacts Tryz.prog 10 Tryz.f10 Rows.flatGrowsSpec Rows.flatGrowsRow = true := by
 unfold joinedFacts
 rw [z5, z1, z2, z3, z4]
 kernel_rfl
end Go.Proofs.YtgblokifbgeegaaGreatDoor
