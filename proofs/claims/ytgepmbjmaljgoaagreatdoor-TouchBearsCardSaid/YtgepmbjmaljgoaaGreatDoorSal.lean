/- A part of the proof that TouchBears returns true at every input and that the input reads behind the call as it read before; this part states nothing of its own that is claimed. -/
import Derived.Test.YtgepmbjmaljgoaaGreatDoorSak
set_option linter.unusedVariables false
set_option linter.unusedSimpArgs false
section
namespace Go.Proofs.YtgepmbjmaljgoaaGreatDoor
open Go Go.Vc Go.RowKit Go.ChangeShapes Go.WideShapes Go.ChangeAt Go.Joins
set_option maxRecDepth 100000
theorem q1 : Tryz.prog.funcNamed "metrolab/metrolablaw41.TouchBears" = some 7 := by kernel_rfl
theorem q3 : Tryz.f7.isInstance Tryz.prog Rows.touchBearsRow.origin Rows.touchBearsRow.targs := of_decide_eq_true (by kernel_rfl)
theorem q4 : Tryz.f7.isWrapper Tryz.prog Rows.touchBearsRow.wrapper Rows.touchBearsRow.mainSum := by unfold Func.isWrapper; first | (rw [if_pos (by decide +kernel)]; kernel_rfl) | (rw [if_neg (by decide +kernel)]; exact ⟨rfl, rfl⟩)
theorem touchBears_over : Rows.touchBearsRow.holds Tryz.pinned (OpenSpec.ofChange Rows.touchBearsSpec) :=
  OpenClaim.holds_of_wide 7 Tryz.f7 rfl rfl rfl rfl rfl rfl rfl ⟨rfl, rfl, rfl, rfl, rfl⟩ rfl rfl rfl rfl rfl q1 Tryz.func7 q2 q3 q4
    (fun os started H enc _ => touchBears_lifted os started H enc)
end Go.Proofs.YtgepmbjmaljgoaaGreatDoor
end
