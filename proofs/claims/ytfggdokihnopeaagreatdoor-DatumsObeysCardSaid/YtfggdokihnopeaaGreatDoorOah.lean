/- A part of the proof. -/
import Derived.Test.YtfggdokihnopeaaGreatDoorOag
namespace Go.Proofs.YtfggdokihnopeaaGreatDoor
open Go Go.Vc Go.RowKit Go.ChangeShapes Go.WideShapes Go.ChangeAt Go.Joins
set_option maxRecDepth 100000
theorem q1 : Tryz.prog.funcNamed "metrolab/metrolablaw42.DatumsObeys" = some 6 := by kernel_rfl
theorem q3 : Tryz.f6.isInstance Tryz.prog Rows.datumsObeysRow.origin Rows.datumsObeysRow.targs := of_decide_eq_true (by kernel_rfl)
theorem q4 : Tryz.f6.isWrapper Tryz.prog Rows.datumsObeysRow.wrapper Rows.datumsObeysRow.mainSum := by unfold Func.isWrapper; first | (rw [if_pos (by decide +kernel)]; kernel_rfl) | (rw [if_neg (by decide +kernel)]; exact ⟨rfl, rfl⟩)
theorem datumsObeys_over : Rows.datumsObeysRow.holds Tryz.pinned (OpenSpec.ofChange Rows.datumsObeysSpec) :=
 OpenClaim.holds_of_wide 6 Tryz.f6 rfl rfl rfl rfl rfl rfl rfl ⟨rfl, rfl, rfl, rfl, rfl⟩ rfl rfl rfl rfl rfl q1 Tryz.func6 q2 q3 q4
  (fun os started H enc _ => datumsObeys_lifted os started H enc)
end Go.Proofs.YtfggdokihnopeaaGreatDoor
