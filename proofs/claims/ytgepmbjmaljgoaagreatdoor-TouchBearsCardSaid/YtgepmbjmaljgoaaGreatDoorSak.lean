/- A part of the proof that TouchBears returns true at every input and that the input reads behind the call as it read before; this part states nothing of its own that is claimed. -/
import Derived.Test.YtgepmbjmaljgoaaGreatDoorSae
import Derived.Test.YtgepmbjmaljgoaaGreatDoorSaf
import Derived.Test.YtgepmbjmaljgoaaGreatDoorSag
import Derived.Test.YtgepmbjmaljgoaaGreatDoorSah
import Derived.Test.YtgepmbjmaljgoaaGreatDoorSai
import Derived.Test.YtgepmbjmaljgoaaGreatDoorSaj
set_option linter.unusedVariables false
set_option linter.unusedSimpArgs false
section
namespace Go.Proofs.YtgepmbjmaljgoaaGreatDoor
open Go Go.Vc Go.RowKit Go.ChangeShapes Go.WideShapes Go.ChangeAt Go.Joins
set_option maxRecDepth 100000
theorem q2 : joinedFacts Tryz.prog 7 Tryz.f7 Rows.touchBearsSpec Rows.touchBearsRow = true := by
  unfold joinedFacts
  rw [z5, z1, z2, z3, z4]
  kernel_rfl
end Go.Proofs.YtgepmbjmaljgoaaGreatDoor
end
