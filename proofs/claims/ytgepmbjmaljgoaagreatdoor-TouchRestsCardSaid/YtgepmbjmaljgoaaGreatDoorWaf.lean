/- A part of the proof. -/
import Derived.Test.YtgepmbjmaljgoaaGreatDoorRows
import Derived.JoinedOf
import Derived.KernelRfl
namespace Go.Proofs.YtgepmbjmaljgoaaGreatDoor
open Go
set_option maxRecDepth 100000
theorem z2 : (Rows.touchRestsRow.unfollowed == Tryz.prog.unfollowed 4) = true := by kernel_rfl
end Go.Proofs.YtgepmbjmaljgoaaGreatDoor
