/- A part of the proof. -/
import Derived.Test.YtgepmbjmaljgoaaGreatDoorRows
import Derived.SevenTiedAt
import Derived.KernelRfl
namespace Go.Proofs.YtgepmbjmaljgoaaGreatDoor
open Go
set_option maxRecDepth 100000
theorem kw22 : Tryz.prog.wantsStandIn 22 = false := by kernel_rfl
theorem kw3 : Tryz.prog.wantsStandIn 3 = false := by kernel_rfl
theorem kw38 : Tryz.prog.wantsStandIn 38 = false := by kernel_rfl
end Go.Proofs.YtgepmbjmaljgoaaGreatDoor
