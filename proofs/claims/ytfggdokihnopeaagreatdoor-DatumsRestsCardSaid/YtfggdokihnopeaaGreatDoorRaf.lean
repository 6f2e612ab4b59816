/- A part of the proof. -/
import Derived.Test.YtfggdokihnopeaaGreatDoorRows
import Derived.JoinedOf
import Derived.KernelRfl
namespace Go.Proofs.YtfggdokihnopeaaGreatDoor
open Go
set_option maxRecDepth 100000
theorem z5 : (Rows.datumsRestsRow.wf (OpenSpec.ofChange Rows.datumsRestsSpec) && laidOutB Tryz.prog && mapsRowed Tryz.prog) = true := by kernel_rfl
end Go.Proofs.YtfggdokihnopeaaGreatDoor
