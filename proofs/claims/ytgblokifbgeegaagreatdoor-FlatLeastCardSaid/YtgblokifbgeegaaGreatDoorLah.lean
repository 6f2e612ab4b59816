/- A part of the proof. -/
import Derived.Test.YtgblokifbgeegaaGreatDoorLab
import Derived.Test.YtgblokifbgeegaaGreatDoorLac
import Derived.Test.YtgblokifbgeegaaGreatDoorLad
import Derived.Test.YtgblokifbgeegaaGreatDoorLae
import Derived.Test.YtgblokifbgeegaaGreatDoorLaf
import Derived.Test.YtgblokifbgeegaaGreatDoorLag
namespace Go.Proofs.YtgblokifbgeegaaGreatDoor
open Go Go.Vc Go.RowKit Go.ChangeShapes Go.WideShapes Go.ChangeAt Go.Joins
set_option maxRecDepth 100000
theorem q2 : joinedFacts Tryz.prog 9 Tryz.f9 Rows.flatLeastSpec Rows.flatLeastRow = true := by
 unfold joinedFacts
 rw [z5, z1, z2, z3, z4]
 kernel_rfl
end Go.Proofs.YtgblokifbgeegaaGreatDoor
