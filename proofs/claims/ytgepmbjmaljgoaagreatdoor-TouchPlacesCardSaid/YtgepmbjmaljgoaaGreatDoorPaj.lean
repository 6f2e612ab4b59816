/- A part of the proof that TouchPlaces returns true at every input and that the input reads behind the call as it read before; this part states nothing of its own that is claimed. -/
import Derived.Test.YtgepmbjmaljgoaaGreatDoorPai
set_option linter.unusedVariables false
set_option linter.unusedSimpArgs false
section
namespace Go.Proofs.YtgepmbjmaljgoaaGreatDoor
open Go Go.Vc Go.RowKit Go.ChangeShapes Go.WideShapes Go.ChangeAt Go.Joins
set_option maxRecDepth 100000
theorem q1 : Tryz.prog.funcNamed "metrolab/metrolablaw41.TouchPlaces" = some 9 := by kernel_rfl
theorem q3 : Tryz.f9.isInstance Tryz.prog Rows.touchPlacesRow.origin Rows.touchPlacesRow.targs := of_decide_eq_true (by kernel_rfl)
theorem q4 : Tryz.f9.isWrapper Tryz.prog Rows.touchPlacesRow.wrapper Rows.touchPlacesRow.mainSum := by unfold Func.isWrapper; first | (rw [if_pos (by decide +kernel)]; kernel_rfl) | (rw [if_neg (by decide +kernel)]; exact ⟨rfl, rfl⟩)
theorem touchPlaces_over : Rows.touchPlacesRow.holds Tryz.pinned (OpenSpec.ofChange Rows.touchPlacesSpec) :=
  OpenClaim.holds_of_wide 9 Tryz.f9 rfl rfl rfl rfl rfl rfl rfl ⟨rfl, rfl, rfl, rfl, rfl⟩ rfl rfl rfl rfl rfl q1 Tryz.func9 q2 q3 q4
    (fun os started H enc _ => touchPlaces_lifted os started H enc)
end Go.Proofs.YtgepmbjmaljgoaaGreatDoor
end
