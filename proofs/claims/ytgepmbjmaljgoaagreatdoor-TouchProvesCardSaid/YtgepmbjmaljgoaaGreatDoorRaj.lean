/- A part of the proof that TouchProves returns true at every input and that the input reads behind the call as it read before; this part states nothing of its own that is claimed. -/
import Derived.Test.YtgepmbjmaljgoaaGreatDoorRai
set_option linter.unusedVariables false
set_option linter.unusedSimpArgs false
section
namespace Go.Proofs.YtgepmbjmaljgoaaGreatDoor
open Go Go.Vc Go.RowKit Go.ChangeShapes Go.WideShapes Go.ChangeAt Go.Joins
set_option maxRecDepth 100000
theorem q1 : Tryz.prog.funcNamed "metrolab/metrolablaw41.TouchProves" = some 8 := by kernel_rfl
theorem q3 : Tryz.f8.isInstance Tryz.prog Rows.touchProvesRow.origin Rows.touchProvesRow.targs := of_decide_eq_true (by kernel_rfl)
theorem q4 : Tryz.f8.isWrapper Tryz.prog Rows.touchProvesRow.wrapper Rows.touchProvesRow.mainSum := by unfold Func.isWrapper; first | (rw [if_pos (by decide +kernel)]; kernel_rfl) | (rw [if_neg (by decide +kernel)]; exact ⟨rfl, rfl⟩)
theorem touchProves_over : Rows.touchProvesRow.holds Tryz.pinned (OpenSpec.ofChange Rows.touchProvesSpec) :=
  OpenClaim.holds_of_wide 8 Tryz.f8 rfl rfl rfl rfl rfl rfl rfl ⟨rfl, rfl, rfl, rfl, rfl⟩ rfl rfl rfl rfl rfl q1 Tryz.func8 q2 q3 q4
    (fun os started H enc _ => touchProves_lifted os started H enc)
end Go.Proofs.YtgepmbjmaljgoaaGreatDoor
end
