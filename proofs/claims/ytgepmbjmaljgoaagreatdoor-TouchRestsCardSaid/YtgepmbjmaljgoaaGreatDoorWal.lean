/- A part of the proof. -/
import Derived.Test.YtgepmbjmaljgoaaGreatDoorRows
import Derived.SevenTiedAt
import Derived.KernelRfl
namespace Go.Proofs.YtgepmbjmaljgoaaGreatDoor
open Go
set_option maxRecDepth 100000
theorem k1 : Rows.touchRestsRow.wfByText (OpenSpec.ofChange Rows.touchRestsSpec) = true := by kernel_rfl
theorem k2 : Tryz.prog.mainIs = some (true, "656bec1d1d00535604885df1bd173bc24c083377663c795117545d05879d50ff".toList) := by kernel_rfl
end Go.Proofs.YtgepmbjmaljgoaaGreatDoor
