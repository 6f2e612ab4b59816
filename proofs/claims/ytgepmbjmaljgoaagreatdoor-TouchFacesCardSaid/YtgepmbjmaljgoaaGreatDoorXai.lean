/- A part of the proof. -/
import Derived.Test.YtgepmbjmaljgoaaGreatDoorXac
import Derived.Test.YtgepmbjmaljgoaaGreatDoorXad
import Derived.Test.YtgepmbjmaljgoaaGreatDoorXae
import Derived.Test.YtgepmbjmaljgoaaGreatDoorXaf
import Derived.Test.YtgepmbjmaljgoaaGreatDoorXag
import Derived.Test.YtgepmbjmaljgoaaGreatDoorXah
namespace Go.Proofs.YtgepmbjmaljgoaaGreatDoor
open Go Go.Vc Go.RowKit Go.ChangeShapes Go.WideShapes Go.ChangeAt Go.Joins
set_option maxRecDepth 100000
theorem q2 : joinedFacts Tryz.prog 10 Tryz.f10 Rows.touchFacesSpec Rows.touchFacesRow = true := by
 unfold joinedFacts
 rw [z5, z1, z2, z3, z4]
 kernel_rfl
end Go.Proofs.YtgepmbjmaljgoaaGreatDoor
