/- A part of the proof. -/
import Derived.Test.YtgblokifbgeegaaGreatDoorQah
namespace Go.Proofs.YtgblokifbgeegaaGreatDoor
open Go Go.Vc Go.RowKit Go.ChangeShapes Go.WideShapes Go.ChangeAt Go.Joins
set_option maxRecDepth 100000
theorem q1 : Tryz.prog.funcNamed "metrolab/metrolablaw33.FlatSquares" = some 3 := by kernel_rfl
theorem q3 : Tryz.f3.isInstance Tryz.prog Rows.flatSquaresRow.origin Rows.flatSquaresRow.targs := of_decide_eq_true (by kernel_rfl)
theorem q4 : Tryz.f3.isWrapper Tryz.prog Rows.flatSquaresRow.wrapper Rows.flatSquaresRow.mainSum := by unfold Func.isWrapper; first | (rw [if_pos (by decide +kernel)]; kernel_rfl) | (rw [if_neg (by decide +kernel)]; exact ⟨rfl, rfl⟩)
theorem flatSquares_over : Rows.flatSquaresRow.holds Tryz.pinned (OpenSpec.ofChange Rows.flatSquaresSpec) :=
 OpenClaim.holds_of_wide 3 Tryz.f3 rfl rfl rfl rfl rfl rfl rfl ⟨rfl, rfl, rfl, rfl, rfl⟩ rfl rfl rfl rfl rfl q1 Tryz.func3 q2 q3 q4
  (fun os started H enc _ => flatSquares_lifted os started H enc)
end Go.Proofs.YtgblokifbgeegaaGreatDoor
