/- A part of the proof. -/
import Derived.Test.YtgblokifbgeegaaGreatDoorRows
import Derived.JoinedOf
import Derived.KernelRfl
namespace Go.Proofs.YtgblokifbgeegaaGreatDoor
open Go
set_option maxRecDepth 100000
theorem z4 : (Rows.topShadowRow.named == Tryz.prog.varsNamed 11) = true := by kernel_rfl
end Go.Proofs.YtgblokifbgeegaaGreatDoor
