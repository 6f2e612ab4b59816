/- A part of the proof. -/
import Derived.Test.YtgblokifbgeegaaGreatDoorWah
namespace Go.Proofs.YtgblokifbgeegaaGreatDoor
open Go Go.Vc Go.RowKit Go.ChangeShapes Go.WideShapes Go.ChangeAt Go.Joins
set_option maxRecDepth 100000
theorem q1 : Tryz.prog.funcNamed "metrolab/metrolablaw33.FlatWidths" = some 4 := by kernel_rfl
theorem q3 : Tryz.f4.isInstance Tryz.prog Rows.flatWidthsRow.origin Rows.flatWidthsRow.targs := of_decide_eq_true (by kernel_rfl)
theorem q4 : Tryz.f4.isWrapper Tryz.prog Rows.flatWidthsRow.wrapper Rows.flatWidthsRow.mainSum := by unfold Func.isWrapper; first | (rw [if_pos (by decide +kernel)]; kernel_rfl) | (rw [if_neg (by decide +kernel)]; exact ⟨rfl, rfl⟩)
theorem flatWidths_over : Rows.flatWidthsRow.holds Tryz.pinned (OpenSpec.ofChange Rows.flatWidthsSpec) :=
 OpenClaim.holds_of_wide 4 Tryz.f4 rfl rfl rfl rfl rfl rfl rfl ⟨rfl, rfl, rfl, rfl, rfl⟩ rfl rfl rfl rfl rfl q1 Tryz.func4 q2 q3 q4
  (fun os started H enc _ => flatWidths_lifted os started H enc)
end Go.Proofs.YtgblokifbgeegaaGreatDoor
