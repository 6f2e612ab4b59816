/- A part of the proof. -/
import Derived.Test.YtfggdokihnopeaaGreatDoorRows
import Derived.SevenTiedAt
import Derived.KernelRfl
namespace Go.Proofs.YtfggdokihnopeaaGreatDoor
open Go
set_option maxRecDepth 100000
theorem k3 : true = Tryz.prog.looks [] := by kernel_rfl
end Go.Proofs.YtfggdokihnopeaaGreatDoor
