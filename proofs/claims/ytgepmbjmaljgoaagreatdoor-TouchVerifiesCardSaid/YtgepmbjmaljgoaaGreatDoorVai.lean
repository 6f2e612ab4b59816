/- A part of the proof that TouchVerifies returns true at every input and that the input reads behind the call as it read before; this part states nothing of its own that is claimed. -/
import Derived.Test.YtgepmbjmaljgoaaGreatDoorVac
import Derived.Test.YtgepmbjmaljgoaaGreatDoorVad
import Derived.Test.YtgepmbjmaljgoaaGreatDoorVae
import Derived.Test.YtgepmbjmaljgoaaGreatDoorVaf
import Derived.Test.YtgepmbjmaljgoaaGreatDoorVag
import Derived.Test.YtgepmbjmaljgoaaGreatDoorVah
set_option linter.unusedVariables false
set_option linter.unusedSimpArgs false
section
namespace Go.Proofs.YtgepmbjmaljgoaaGreatDoor
open Go Go.Vc Go.RowKit Go.ChangeShapes Go.WideShapes Go.ChangeAt Go.Joins
set_option maxRecDepth 100000
theorem q2 : joinedFacts Tryz.prog 6 Tryz.f6 Rows.touchVerifiesSpec Rows.touchVerifiesRow = true := by
  unfold joinedFacts
  rw [z5, z1, z2, z3, z4]
  kernel_rfl
end Go.Proofs.YtgepmbjmaljgoaaGreatDoor
end
