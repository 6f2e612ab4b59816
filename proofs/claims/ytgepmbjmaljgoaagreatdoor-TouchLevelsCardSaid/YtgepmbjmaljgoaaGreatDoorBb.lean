/- A part of the proof that TouchLevels returns true at every input and that the input reads behind the call as it read before; this part states nothing of its own that is claimed. -/
import Derived.Test.YtgepmbjmaljgoaaGreatDoorBa
set_option linter.unusedVariables false
set_option linter.unusedSimpArgs false
section
namespace Go.Proofs.YtgepmbjmaljgoaaGreatDoor
open Go Go.Vc Go.RowKit Go.ChangeShapes Go.WideShapes Go.ChangeAt Go.Joins
set_option maxRecDepth 100000
theorem q1 : Tryz.prog.funcNamed "metrolab/metrolablaw41.TouchLevels" = some 5 := by kernel_rfl
theorem q3 : Tryz.f5.isInstance Tryz.prog Rows.touchLevelsRow.origin Rows.touchLevelsRow.targs := of_decide_eq_true (by kernel_rfl)
theorem q4 : Tryz.f5.isWrapper Tryz.prog Rows.touchLevelsRow.wrapper Rows.touchLevelsRow.mainSum := by unfold Func.isWrapper; first | (rw [if_pos (by decide +kernel)]; kernel_rfl) | (rw [if_neg (by decide +kernel)]; exact ⟨rfl, rfl⟩)
theorem touchLevels_over : Rows.touchLevelsRow.holds Tryz.pinned (OpenSpec.ofChange Rows.touchLevelsSpec) :=
  OpenClaim.holds_of_wide 5 Tryz.f5 rfl rfl rfl rfl rfl rfl rfl ⟨rfl, rfl, rfl, rfl, rfl⟩ rfl rfl rfl rfl rfl q1 Tryz.func5 q2 q3 q4
    (fun os started H enc _ => levels_lifted os started H enc)
end Go.Proofs.YtgepmbjmaljgoaaGreatDoor
end
