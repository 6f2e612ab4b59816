/- A part of the proof. -/
import Derived.Test.YtgblokifbgeegaaGreatDoorRows
import Derived.JoinedOf
import Derived.KernelRfl
namespace Go.Proofs.YtgblokifbgeegaaGreatDoor
open Go
set_option maxRecDepth 100000
theorem z5 : (Rows.topShadowRow.wf (OpenSpec.ofChange Rows.topShadowSpec) && laidOutB Tryz.prog && mapsRowed Tryz.prog) = true := by kernel_rfl
end Go.Proofs.YtgblokifbgeegaaGreatDoor
