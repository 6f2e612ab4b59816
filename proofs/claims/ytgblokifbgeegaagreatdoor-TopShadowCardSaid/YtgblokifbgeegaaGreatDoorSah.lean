/- A part of the proof. -/
import Derived.Test.YtgblokifbgeegaaGreatDoorSag
namespace Go.Proofs.YtgblokifbgeegaaGreatDoor
open Go Go.Vc Go.RowKit Go.ChangeShapes Go.WideShapes Go.ChangeAt Go.Joins
set_option maxRecDepth 100000
theorem q1 : Tryz.prog.funcNamed "metrolab/metrolabtop.TopShadow" = some 11 := by kernel_rfl
theorem q3 : Tryz.f11.isInstance Tryz.prog Rows.topShadowRow.origin Rows.topShadowRow.targs := of_decide_eq_true (by kernel_rfl)
theorem q4 : Tryz.f11.isWrapper Tryz.prog Rows.topShadowRow.wrapper Rows.topShadowRow.mainSum := by unfold Func.isWrapper; first | (rw [if_pos (by decide +kernel)]; kernel_rfl) | (rw [if_neg (by decide +kernel)]; exact ⟨rfl, rfl⟩)
theorem topShadow_over : Rows.topShadowRow.holds Tryz.pinned (OpenSpec.ofChange Rows.topShadowSpec) :=
 OpenClaim.holds_of_wide 11 Tryz.f11 rfl rfl rfl rfl rfl rfl rfl ⟨rfl, rfl, rfl, rfl, rfl⟩ rfl rfl rfl rfl rfl q1 Tryz.func11 q2 q3 q4
  (fun os started H enc _ => topShadow_lifted os started H enc)
end Go.Proofs.YtgblokifbgeegaaGreatDoor
