/- A part of the proof. -/
import Derived.Test.YtgblokifbgeegaaGreatDoorRows
import Derived.SevenTiedAt
import Derived.KernelRfl
namespace Go.Proofs.YtgblokifbgeegaaGreatDoor
open Go
set_option maxRecDepth 100000
theorem kw34 : Tryz.prog.wantsStandIn 34 = false := by kernel_rfl
theorem kw22 : Tryz.prog.wantsStandIn 22 = false := by kernel_rfl
theorem kw24 : Tryz.prog.wantsStandIn 24 = false := by kernel_rfl
end Go.Proofs.YtgblokifbgeegaaGreatDoor
