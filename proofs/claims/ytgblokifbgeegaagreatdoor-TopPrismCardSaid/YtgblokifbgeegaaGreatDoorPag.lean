/- A part of the proof. -/
import Derived.Test.YtgblokifbgeegaaGreatDoorPaa
import Derived.Test.YtgblokifbgeegaaGreatDoorPab
import Derived.Test.YtgblokifbgeegaaGreatDoorPac
import Derived.Test.YtgblokifbgeegaaGreatDoorPad
import Derived.Test.YtgblokifbgeegaaGreatDoorPae
import Derived.Test.YtgblokifbgeegaaGreatDoorPaf
namespace Go.Proofs.YtgblokifbgeegaaGreatDoor
open Go Go.Vc Go.RowKit Go.ChangeShapes Go.WideShapes Go.ChangeAt Go.Joins
set_option maxRecDepth 100000
theorem q2 : joinedFacts Tryz.prog 12 Tryz.f12 Rows.topPrismSpec Rows.topPrismRow = true := by
 unfold joinedFacts
 rw [z5, z1, z2, z3, z4]
 kernel_rfl
end Go.Proofs.YtgblokifbgeegaaGreatDoor
