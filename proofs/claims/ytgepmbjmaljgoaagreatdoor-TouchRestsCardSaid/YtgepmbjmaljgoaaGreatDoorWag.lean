/- A part of the proof. -/
import Derived.Test.YtgepmbjmaljgoaaGreatDoorRows
import Derived.JoinedOf
import Derived.KernelRfl
namespace Go.Proofs.YtgepmbjmaljgoaaGreatDoor
open Go
set_option maxRecDepth 100000
theorem z3 : (Rows.touchRestsRow.recurses == Tryz.prog.recurses 4) = true := by kernel_rfl
end Go.Proofs.YtgepmbjmaljgoaaGreatDoor
