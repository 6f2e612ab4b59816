/- A part of the proof. -/
import Derived.Test.YtfggdokihnopeaaGreatDoorPag
namespace Go.Proofs.YtfggdokihnopeaaGreatDoor
open Go Go.Vc Go.RowKit Go.ChangeShapes Go.WideShapes Go.ChangeAt Go.Joins
set_option maxRecDepth 100000
theorem q1 : Tryz.prog.funcNamed "metrolab/metrolablaw42.DatumsProves" = some 5 := by kernel_rfl
theorem q3 : Tryz.f5.isInstance Tryz.prog Rows.datumsProvesRow.origin Rows.datumsProvesRow.targs := of_decide_eq_true (by kernel_rfl)
theorem q4 : Tryz.f5.isWrapper Tryz.prog Rows.datumsProvesRow.wrapper Rows.datumsProvesRow.mainSum := by unfold Func.isWrapper; first | (rw [if_pos (by decide +kernel)]; kernel_rfl) | (rw [if_neg (by decide +kernel)]; exact ⟨rfl, rfl⟩)
theorem datumsProves_over : Rows.datumsProvesRow.holds Tryz.pinned (OpenSpec.ofChange Rows.datumsProvesSpec) :=
 OpenClaim.holds_of_wide 5 Tryz.f5 rfl rfl rfl rfl rfl rfl rfl ⟨rfl, rfl, rfl, rfl, rfl⟩ rfl rfl rfl rfl rfl q1 Tryz.func5 q2 q3 q4
  (fun os started H enc _ => datumsProves_lifted os started H enc)
end Go.Proofs.YtfggdokihnopeaaGreatDoor
