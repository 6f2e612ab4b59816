/- A part of the proof. -/
import Derived.Test.YtgepmbjmaljgoaaGreatDoorFad
import Derived.Test.YtgepmbjmaljgoaaGreatDoorFae
import Derived.Test.YtgepmbjmaljgoaaGreatDoorFaf
import Derived.Test.YtgepmbjmaljgoaaGreatDoorFag
import Derived.Test.YtgepmbjmaljgoaaGreatDoorFah
import Derived.Test.YtgepmbjmaljgoaaGreatDoorFai
namespace Go.Proofs.YtgepmbjmaljgoaaGreatDoor
open Go Go.Vc Go.RowKit Go.ChangeShapes Go.WideShapes Go.ChangeAt Go.Joins
set_option maxRecDepth 100000
theorem q2 : joinedFacts Tryz.prog 3 Tryz.f3 Rows.touchFindsSpec Rows.touchFindsRow = true := by
 unfold joinedFacts
 rw [z5, z1, z2, z3, z4]
 kernel_rfl
end Go.Proofs.YtgepmbjmaljgoaaGreatDoor
