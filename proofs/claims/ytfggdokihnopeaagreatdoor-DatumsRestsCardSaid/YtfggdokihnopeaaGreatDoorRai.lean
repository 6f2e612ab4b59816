/- A part of the proof. -/
import Derived.Test.YtfggdokihnopeaaGreatDoorRows
import Derived.SevenTiedAt
import Derived.KernelRfl
namespace Go.Proofs.YtfggdokihnopeaaGreatDoor
open Go
set_option maxRecDepth 100000
theorem k1 : Rows.datumsRestsRow.wfByText (OpenSpec.ofChange Rows.datumsRestsSpec) = true := by kernel_rfl
theorem k2 : Tryz.prog.mainIs = some (true, "f0a03f005ac066f9c159c0a5073383cd5b7376b5da8d5cacd2cdd0eebd4182dc".toList) := by kernel_rfl
end Go.Proofs.YtfggdokihnopeaaGreatDoor
