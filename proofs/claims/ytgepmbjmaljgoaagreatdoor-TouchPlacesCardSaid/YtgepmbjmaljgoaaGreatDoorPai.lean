/- A part of the proof that TouchPlaces returns true at every input and that the input reads behind the call as it read before; this part states nothing of its own that is claimed. -/
import Derived.Test.YtgepmbjmaljgoaaGreatDoorPac
import Derived.Test.YtgepmbjmaljgoaaGreatDoorPad
import Derived.Test.YtgepmbjmaljgoaaGreatDoorPae
import Derived.Test.YtgepmbjmaljgoaaGreatDoorPaf
import Derived.Test.YtgepmbjmaljgoaaGreatDoorPag
import Derived.Test.YtgepmbjmaljgoaaGreatDoorPah
set_option linter.unusedVariables false
set_option linter.unusedSimpArgs false
section
namespace Go.Proofs.YtgepmbjmaljgoaaGreatDoor
open Go Go.Vc Go.RowKit Go.ChangeShapes Go.WideShapes Go.ChangeAt Go.Joins
set_option maxRecDepth 100000
theorem q2 : joinedFacts Tryz.prog 9 Tryz.f9 Rows.touchPlacesSpec Rows.touchPlacesRow = true := by
  unfold joinedFacts
  rw [z5, z1, z2, z3, z4]
  kernel_rfl
end Go.Proofs.YtgepmbjmaljgoaaGreatDoor
end
