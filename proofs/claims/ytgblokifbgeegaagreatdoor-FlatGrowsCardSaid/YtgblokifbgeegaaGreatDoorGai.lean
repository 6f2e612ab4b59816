/- A part of the proof. -/
import Derived.Test.YtgblokifbgeegaaGreatDoorGah
namespace Go.Proofs.YtgblokifbgeegaaGreatDoor
open Go Go.Vc Go.RowKit Go.ChangeShapes Go.WideShapes Go.ChangeAt Go.Joins
set_option maxRecDepth 100000
theorem q1 : Tryz.prog.funcNamed "metrolab/metrolablaw33.FlatGrows" = some 10 := by kernel_rfl
theorem q3 : Tryz.f10.isInstance Tryz.prog Rows.flatGrowsRow.origin Rows.flatGrowsRow.targs := of_decide_eq_true (by kernel_rfl)
theorem q4 : Tryz.f10.isWrapper Tryz.prog Rows.flatGrowsRow.wrapper Rows.flatGrowsRow.mainSum := by unfold Func.isWrapper; first | (rw [if_pos (by decide +kernel)]; kernel_rfl) | (rw [if_neg (by decide +kernel)]; exact ⟨rfl, rfl⟩)
theorem flatGrows_over : Rows.flatGrowsRow.holds Tryz.pinned (OpenSpec.ofChange Rows.flatGrowsSpec) :=
 OpenClaim.holds_of_wide 10 Tryz.f10 rfl rfl rfl rfl rfl rfl rfl ⟨rfl, rfl, rfl, rfl, rfl⟩ rfl rfl rfl rfl rfl q1 Tryz.func10 q2 q3 q4
  (fun os started H enc _ => flatGrows_lifted os started H enc)
end Go.Proofs.YtgblokifbgeegaaGreatDoor
