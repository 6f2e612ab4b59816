/- A part of the proof. -/
import Derived.Test.YtgepmbjmaljgoaaGreatDoorXai
namespace Go.Proofs.YtgepmbjmaljgoaaGreatDoor
open Go Go.Vc Go.RowKit Go.ChangeShapes Go.WideShapes Go.ChangeAt Go.Joins
set_option maxRecDepth 100000
theorem q1 : Tryz.prog.funcNamed "metrolab/metrolablaw41.TouchFaces" = some 10 := by kernel_rfl
theorem q3 : Tryz.f10.isInstance Tryz.prog Rows.touchFacesRow.origin Rows.touchFacesRow.targs := of_decide_eq_true (by kernel_rfl)
theorem q4 : Tryz.f10.isWrapper Tryz.prog Rows.touchFacesRow.wrapper Rows.touchFacesRow.mainSum := by unfold Func.isWrapper; first | (rw [if_pos (by decide +kernel)]; kernel_rfl) | (rw [if_neg (by decide +kernel)]; exact ⟨rfl, rfl⟩)
theorem touchFaces_over : Rows.touchFacesRow.holds Tryz.pinned (OpenSpec.ofChange Rows.touchFacesSpec) :=
 OpenClaim.holds_of_wide 10 Tryz.f10 rfl rfl rfl rfl rfl rfl rfl ⟨rfl, rfl, rfl, rfl, rfl⟩ rfl rfl rfl rfl rfl q1 Tryz.func10 q2 q3 q4
  (fun os started H enc _ => touchFaces_lifted os started H enc)
end Go.Proofs.YtgepmbjmaljgoaaGreatDoor
