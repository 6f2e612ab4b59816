/- A part of the proof. -/
import Derived.Test.YtgblokifbgeegaaGreatDoorRows
import Derived.SevenTiedAt
import Derived.KernelRfl
namespace Go.Proofs.YtgblokifbgeegaaGreatDoor
open Go
set_option maxRecDepth 100000
theorem k1 : Rows.topShadowRow.wfByText (OpenSpec.ofChange Rows.topShadowSpec) = true := by kernel_rfl
theorem k2 : Tryz.prog.mainIs = some (true, "ee6f303d789abab379ad1ada03fb8faf21dc941f42fe780cb3b84566b1c70a27".toList) := by kernel_rfl
end Go.Proofs.YtgblokifbgeegaaGreatDoor
