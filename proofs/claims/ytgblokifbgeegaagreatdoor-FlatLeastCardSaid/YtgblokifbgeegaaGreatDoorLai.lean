/- A part of the proof. -/
import Derived.Test.YtgblokifbgeegaaGreatDoorLah
namespace Go.Proofs.YtgblokifbgeegaaGreatDoor
open Go Go.Vc Go.RowKit Go.ChangeShapes Go.WideShapes Go.ChangeAt Go.Joins
set_option maxRecDepth 100000
theorem q1 : Tryz.prog.funcNamed "metrolab/metrolablaw33.FlatLeast" = some 9 := by kernel_rfl
theorem q3 : Tryz.f9.isInstance Tryz.prog Rows.flatLeastRow.origin Rows.flatLeastRow.targs := of_decide_eq_true (by kernel_rfl)
theorem q4 : Tryz.f9.isWrapper Tryz.prog Rows.flatLeastRow.wrapper Rows.flatLeastRow.mainSum := by unfold Func.isWrapper; first | (rw [if_pos (by decide +kernel)]; kernel_rfl) | (rw [if_neg (by decide +kernel)]; exact ⟨rfl, rfl⟩)
theorem flatLeast_over : Rows.flatLeastRow.holds Tryz.pinned (OpenSpec.ofChange Rows.flatLeastSpec) :=
 OpenClaim.holds_of_wide 9 Tryz.f9 rfl rfl rfl rfl rfl rfl rfl ⟨rfl, rfl, rfl, rfl, rfl⟩ rfl rfl rfl rfl rfl q1 Tryz.func9 q2 q3 q4
  (fun os started H enc _ => flatLeast_lifted os started H enc)
end Go.Proofs.YtgblokifbgeegaaGreatDoor
