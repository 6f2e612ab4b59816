/- A part of the proof. -/
import Derived.Test.YtfggdokihnopeaaGreatDoorRows
import Derived.JoinedOf
import Derived.KernelRfl
namespace Go.Proofs.YtfggdokihnopeaaGreatDoor
open Go
set_option maxRecDepth 100000
theorem z2 : (Rows.datumsRestsRow.unfollowed == Tryz.prog.unfollowed 7) = true := by kernel_rfl
end Go.Proofs.YtfggdokihnopeaaGreatDoor
