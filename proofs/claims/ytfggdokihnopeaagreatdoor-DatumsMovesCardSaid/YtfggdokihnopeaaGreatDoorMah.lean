/- A part of the proof. -/
import Derived.Test.YtfggdokihnopeaaGreatDoorMag
namespace Go.Proofs.YtfggdokihnopeaaGreatDoor
open Go Go.Vc Go.RowKit Go.ChangeShapes Go.WideShapes Go.ChangeAt Go.Joins
set_option maxRecDepth 100000
theorem q1 : Tryz.prog.funcNamed "metrolab/metrolablaw42.DatumsMoves" = some 9 := by kernel_rfl
theorem q3 : Tryz.f9.isInstance Tryz.prog Rows.datumsMovesRow.origin Rows.datumsMovesRow.targs := of_decide_eq_true (by kernel_rfl)
theorem q4 : Tryz.f9.isWrapper Tryz.prog Rows.datumsMovesRow.wrapper Rows.datumsMovesRow.mainSum := by unfold Func.isWrapper; first | (rw [if_pos (by decide +kernel)]; kernel_rfl) | (rw [if_neg (by decide +kernel)]; exact ⟨rfl, rfl⟩)
theorem datumsMoves_over : Rows.datumsMovesRow.holds Tryz.pinned (OpenSpec.ofChange Rows.datumsMovesSpec) :=
 OpenClaim.holds_of_wide 9 Tryz.f9 rfl rfl rfl rfl rfl rfl rfl ⟨rfl, rfl, rfl, rfl, rfl⟩ rfl rfl rfl rfl rfl q1 Tryz.func9 q2 q3 q4
  (fun os started H enc _ => datumsMoves_lifted os started H enc)
end Go.Proofs.YtfggdokihnopeaaGreatDoor
