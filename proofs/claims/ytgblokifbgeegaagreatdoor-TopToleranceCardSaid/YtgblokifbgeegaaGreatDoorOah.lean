/- A part of the proof. -/
import Derived.Test.YtgblokifbgeegaaGreatDoorOag
namespace Go.Proofs.YtgblokifbgeegaaGreatDoor
open Go Go.Vc Go.RowKit Go.ChangeShapes Go.WideShapes Go.ChangeAt Go.Joins
set_option maxRecDepth 100000
theorem q1 : Tryz.prog.funcNamed "metrolab/metrolabtop.TopTolerance" = some 13 := by kernel_rfl
theorem q3 : Tryz.f13.isInstance Tryz.prog Rows.topToleranceRow.origin Rows.topToleranceRow.targs := of_decide_eq_true (by kernel_rfl)
theorem q4 : Tryz.f13.isWrapper Tryz.prog Rows.topToleranceRow.wrapper Rows.topToleranceRow.mainSum := by unfold Func.isWrapper; first | (rw [if_pos (by decide +kernel)]; kernel_rfl) | (rw [if_neg (by decide +kernel)]; exact ⟨rfl, rfl⟩)
theorem topTolerance_over : Rows.topToleranceRow.holds Tryz.pinned (OpenSpec.ofChange Rows.topToleranceSpec) :=
 OpenClaim.holds_of_wide 13 Tryz.f13 rfl rfl rfl rfl rfl rfl rfl ⟨rfl, rfl, rfl, rfl, rfl⟩ rfl rfl rfl rfl rfl q1 Tryz.func13 q2 q3 q4
  (fun os started H enc _ => topTolerance_lifted os started H enc)
end Go.Proofs.YtgblokifbgeegaaGreatDoor
