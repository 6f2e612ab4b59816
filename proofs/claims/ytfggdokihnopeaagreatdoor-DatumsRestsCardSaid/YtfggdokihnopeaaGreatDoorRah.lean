/- A part of the proof. -/
import Derived.Test.YtfggdokihnopeaaGreatDoorRag
namespace Go.Proofs.YtfggdokihnopeaaGreatDoor
open Go Go.Vc Go.RowKit Go.ChangeShapes Go.WideShapes Go.ChangeAt Go.Joins
set_option maxRecDepth 100000
theorem q1 : Tryz.prog.funcNamed "metrolab/metrolablaw42.DatumsRests" = some 7 := by kernel_rfl
theorem q3 : Tryz.f7.isInstance Tryz.prog Rows.datumsRestsRow.origin Rows.datumsRestsRow.targs := of_decide_eq_true (by kernel_rfl)
theorem q4 : Tryz.f7.isWrapper Tryz.prog Rows.datumsRestsRow.wrapper Rows.datumsRestsRow.mainSum := by unfold Func.isWrapper; first | (rw [if_pos (by decide +kernel)]; kernel_rfl) | (rw [if_neg (by decide +kernel)]; exact ⟨rfl, rfl⟩)
theorem datumsRests_over : Rows.datumsRestsRow.holds Tryz.pinned (OpenSpec.ofChange Rows.datumsRestsSpec) :=
 OpenClaim.holds_of_wide 7 Tryz.f7 rfl rfl rfl rfl rfl rfl rfl ⟨rfl, rfl, rfl, rfl, rfl⟩ rfl rfl rfl rfl rfl q1 Tryz.func7 q2 q3 q4
  (fun os started H enc _ => datumsRests_lifted os started H enc)
end Go.Proofs.YtfggdokihnopeaaGreatDoor
