/- A part of the proof. -/
import Derived.Test.YtgblokifbgeegaaGreatDoorRows
import Derived.JoinedOf
import Derived.KernelRfl
namespace Go.Proofs.YtgblokifbgeegaaGreatDoor
open Go
set_option maxRecDepth 100000
theorem z2 : (Rows.topShadowRow.unfollowed == Tryz.prog.unfollowed 11) = true := by kernel_rfl
end Go.Proofs.YtgblokifbgeegaaGreatDoor
