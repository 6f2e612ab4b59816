/- A part of the proof. -/
import Derived.Test.YtgepmbjmaljgoaaGreatDoorWad
import Derived.Test.YtgepmbjmaljgoaaGreatDoorWae
import Derived.Test.YtgepmbjmaljgoaaGreatDoorWaf
import Derived.Test.YtgepmbjmaljgoaaGreatDoorWag
import Derived.Test.YtgepmbjmaljgoaaGreatDoorWah
import Derived.Test.YtgepmbjmaljgoaaGreatDoorWai
namespace Go.Proofs.YtgepmbjmaljgoaaGreatDoor
open Go Go.Vc Go.RowKit Go.ChangeShapes Go.WideShapes Go.ChangeAt Go.Joins
set_option maxRecDepth 100000
theorem q2 : joinedFacts Tryz.prog 4 Tryz.f4 Rows.touchRestsSpec Rows.touchRestsRow = true := by
 unfold joinedFacts
 rw [z5, z1, z2, z3, z4]
 kernel_rfl
end Go.Proofs.YtgepmbjmaljgoaaGreatDoor
