/- A part of the proof that TouchProves returns true at every input and that the input reads behind the call as it read before; this part states nothing of its own that is claimed. -/
import Derived.Test.YtgepmbjmaljgoaaGreatDoorRac
import Derived.Test.YtgepmbjmaljgoaaGreatDoorRad
import Derived.Test.YtgepmbjmaljgoaaGreatDoorRae
import Derived.Test.YtgepmbjmaljgoaaGreatDoorRaf
import Derived.Test.YtgepmbjmaljgoaaGreatDoorRag
import Derived.Test.YtgepmbjmaljgoaaGreatDoorRah
set_option linter.unusedVariables false
set_option linter.unusedSimpArgs false
section
namespace Go.Proofs.YtgepmbjmaljgoaaGreatDoor
open Go Go.Vc Go.RowKit Go.ChangeShapes Go.WideShapes Go.ChangeAt Go.Joins
set_option maxRecDepth 100000
theorem q2 : joinedFacts Tryz.prog 8 Tryz.f8 Rows.touchProvesSpec Rows.touchProvesRow = true := by
  unfold joinedFacts
  rw [z5, z1, z2, z3, z4]
  kernel_rfl
end Go.Proofs.YtgepmbjmaljgoaaGreatDoor
end
