/- A part of the proof. -/
import Derived.Test.YtgblokifbgeegaaGreatDoorRows
import Derived.JoinedOf
import Derived.KernelRfl
namespace Go.Proofs.YtgblokifbgeegaaGreatDoor
open Go
set_option maxRecDepth 100000
theorem z3 : (Rows.topShadowRow.recurses == Tryz.prog.recurses 11) = true := by kernel_rfl
end Go.Proofs.YtgblokifbgeegaaGreatDoor
