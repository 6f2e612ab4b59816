/- A part of the proof. -/
import Derived.Test.YtgblokifbgeegaaGreatDoorJab
import Derived.Test.YtgblokifbgeegaaGreatDoorJac
import Derived.Test.YtgblokifbgeegaaGreatDoorJad
import Derived.Test.YtgblokifbgeegaaGreatDoorJae
import Derived.Test.YtgblokifbgeegaaGreatDoorJaf
import Derived.Test.YtgblokifbgeegaaGreatDoorJag
namespace Go.Proofs.YtgblokifbgeegaaGreatDoor
open Go Go.Vc Go.RowKit Go.ChangeShapes Go.WideShapes Go.ChangeAt Go.Joins
set_option maxRecDepth 100000
theorem q2 : joinedFacts Tryz.prog 5 Tryz.f5 Rows.flatJudgesSpec Rows.flatJudgesRow = true := by
 unfold joinedFacts
 rw [z5, z1, z2, z3, z4]
 kernel_rfl
end Go.Proofs.YtgblokifbgeegaaGreatDoor
