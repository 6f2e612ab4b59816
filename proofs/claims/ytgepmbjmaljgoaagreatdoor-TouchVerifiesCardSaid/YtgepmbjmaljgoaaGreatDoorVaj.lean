/- A part of the proof that TouchVerifies returns true at every input and that the input reads behind the call as it read before; this part states nothing of its own that is claimed. -/
import Derived.Test.YtgepmbjmaljgoaaGreatDoorVai
set_option linter.unusedVariables false
set_option linter.unusedSimpArgs false
section
namespace Go.Proofs.YtgepmbjmaljgoaaGreatDoor
open Go Go.Vc Go.RowKit Go.ChangeShapes Go.WideShapes Go.ChangeAt Go.Joins
set_option maxRecDepth 100000
theorem q1 : Tryz.prog.funcNamed "metrolab/metrolablaw41.TouchVerifies" = some 6 := by kernel_rfl
theorem q3 : Tryz.f6.isInstance Tryz.prog Rows.touchVerifiesRow.origin Rows.touchVerifiesRow.targs := of_decide_eq_true (by kernel_rfl)
theorem q4 : Tryz.f6.isWrapper Tryz.prog Rows.touchVerifiesRow.wrapper Rows.touchVerifiesRow.mainSum := by unfold Func.isWrapper; first | (rw [if_pos (by decide +kernel)]; kernel_rfl) | (rw [if_neg (by decide +kernel)]; exact ⟨rfl, rfl⟩)
theorem touchVerifies_over : Rows.touchVerifiesRow.holds Tryz.pinned (OpenSpec.ofChange Rows.touchVerifiesSpec) :=
  OpenClaim.holds_of_wide 6 Tryz.f6 rfl rfl rfl rfl rfl rfl rfl ⟨rfl, rfl, rfl, rfl, rfl⟩ rfl rfl rfl rfl rfl q1 Tryz.func6 q2 q3 q4
    (fun os started H enc _ => touchVerifies_lifted os started H enc)
end Go.Proofs.YtgepmbjmaljgoaaGreatDoor
end
