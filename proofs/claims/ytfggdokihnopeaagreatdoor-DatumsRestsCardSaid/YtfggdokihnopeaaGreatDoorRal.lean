/- A part of the proof. -/
import Derived.Test.YtfggdokihnopeaaGreatDoorRows
import Derived.SevenTiedAt
import Derived.KernelRfl
namespace Go.Proofs.YtfggdokihnopeaaGreatDoor
open Go
set_option maxRecDepth 100000
theorem kw26 : Tryz.prog.wantsStandIn 26 = false := by kernel_rfl
end Go.Proofs.YtfggdokihnopeaaGreatDoor
