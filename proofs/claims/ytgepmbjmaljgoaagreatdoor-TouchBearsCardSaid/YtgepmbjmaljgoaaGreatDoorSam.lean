/- A part of the proof that TouchBears returns true at every input and that the input reads behind the call as it read before; this part states nothing of its own that is claimed. -/
import Derived.Test.YtgepmbjmaljgoaaGreatDoorRows
import Derived.SevenTiedAt
import Derived.KernelRfl
set_option linter.unusedVariables false
set_option linter.unusedSimpArgs false
section
namespace Go.Proofs.YtgepmbjmaljgoaaGreatDoor
open Go
set_option maxRecDepth 100000
theorem k1 : Rows.touchBearsRow.wfByText (OpenSpec.ofChange Rows.touchBearsSpec) = true := by kernel_rfl
theorem k2 : Tryz.prog.mainIs = some (true, "656bec1d1d00535604885df1bd173bc24c083377663c795117545d05879d50ff".toList) := by kernel_rfl
end Go.Proofs.YtgepmbjmaljgoaaGreatDoor
end
