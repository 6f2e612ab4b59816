/- A part of the proof. -/
import Derived.Test.YtgblokifbgeegaaGreatDoorRows
import Derived.SevenTiedAt
import Derived.KernelRfl
namespace Go.Proofs.YtgblokifbgeegaaGreatDoor
open Go
set_option maxRecDepth 100000
theorem kw34 : Tryz.prog.wantsStandIn 34 = false := by kernel_rfl
theorem kw5 : Tryz.prog.wantsStandIn 5 = false := by kernel_rfl
end Go.Proofs.YtgblokifbgeegaaGreatDoor
