/- A part of the proof. -/
import Derived.Test.YtgblokifbgeegaaGreatDoorRows
import Derived.SevenTiedAt
import Derived.KernelRfl
namespace Go.Proofs.YtgblokifbgeegaaGreatDoor
open Go
set_option maxRecDepth 100000
theorem k4 : false = Rows.topShadowRow.goesBy Tryz.prog := by kernel_rfl
end Go.Proofs.YtgblokifbgeegaaGreatDoor
