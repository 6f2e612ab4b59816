/- A part of the proof. -/
import Derived.Test.YtgepmbjmaljgoaaGreatDoorRows
import Derived.JoinedOf
import Derived.KernelRfl
namespace Go.Proofs.YtgepmbjmaljgoaaGreatDoor
open Go
set_option maxRecDepth 100000
theorem z5 : (Rows.touchRestsRow.wf (OpenSpec.ofChange Rows.touchRestsSpec) && laidOutB Tryz.prog && mapsRowed Tryz.prog) = true := by kernel_rfl
end Go.Proofs.YtgepmbjmaljgoaaGreatDoor
