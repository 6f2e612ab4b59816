/- A part of the proof. -/
import Derived.Test.YtgblokifbgeegaaGreatDoorZah
namespace Go.Proofs.YtgblokifbgeegaaGreatDoor
open Go Go.Vc Go.RowKit Go.ChangeShapes Go.WideShapes Go.ChangeAt Go.Joins
set_option maxRecDepth 100000
theorem q1 : Tryz.prog.funcNamed "metrolab/metrolablaw33.FlatZones" = some 8 := by kernel_rfl
theorem q3 : Tryz.f8.isInstance Tryz.prog Rows.flatZonesRow.origin Rows.flatZonesRow.targs := of_decide_eq_true (by kernel_rfl)
theorem q4 : Tryz.f8.isWrapper Tryz.prog Rows.flatZonesRow.wrapper Rows.flatZonesRow.mainSum := by unfold Func.isWrapper; first | (rw [if_pos (by decide +kernel)]; kernel_rfl) | (rw [if_neg (by decide +kernel)]; exact ⟨rfl, rfl⟩)
theorem flatZones_over : Rows.flatZonesRow.holds Tryz.pinned (OpenSpec.ofChange Rows.flatZonesSpec) :=
 OpenClaim.holds_of_wide 8 Tryz.f8 rfl rfl rfl rfl rfl rfl rfl ⟨rfl, rfl, rfl, rfl, rfl⟩ rfl rfl rfl rfl rfl q1 Tryz.func8 q2 q3 q4
  (fun os started H enc _ => flatZones_lifted os started H enc)
end Go.Proofs.YtgblokifbgeegaaGreatDoor
