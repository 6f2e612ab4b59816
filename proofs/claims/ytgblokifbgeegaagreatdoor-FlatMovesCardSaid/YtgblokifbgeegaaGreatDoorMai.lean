/- A part of the proof. -/
import Derived.Test.YtgblokifbgeegaaGreatDoorMah
namespace Go.Proofs.YtgblokifbgeegaaGreatDoor
open Go Go.Vc Go.RowKit Go.ChangeShapes Go.WideShapes Go.ChangeAt Go.Joins
set_option maxRecDepth 100000
theorem q1 : Tryz.prog.funcNamed "metrolab/metrolablaw33.FlatMoves" = some 7 := by kernel_rfl
theorem q3 : Tryz.f7.isInstance Tryz.prog Rows.flatMovesRow.origin Rows.flatMovesRow.targs := of_decide_eq_true (by kernel_rfl)
theorem q4 : Tryz.f7.isWrapper Tryz.prog Rows.flatMovesRow.wrapper Rows.flatMovesRow.mainSum := by unfold Func.isWrapper; first | (rw [if_pos (by decide +kernel)]; kernel_rfl) | (rw [if_neg (by decide +kernel)]; exact ⟨rfl, rfl⟩)
theorem flatMoves_over : Rows.flatMovesRow.holds Tryz.pinned (OpenSpec.ofChange Rows.flatMovesSpec) :=
 OpenClaim.holds_of_wide 7 Tryz.f7 rfl rfl rfl rfl rfl rfl rfl ⟨rfl, rfl, rfl, rfl, rfl⟩ rfl rfl rfl rfl rfl q1 Tryz.func7 q2 q3 q4
  (fun os started H enc _ => flatMoves_lifted os started H enc)
end Go.Proofs.YtgblokifbgeegaaGreatDoor
