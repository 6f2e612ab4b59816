/- A part of the proof. -/
import Derived.Test.YtgblokifbgeegaaGreatDoorPag
namespace Go.Proofs.YtgblokifbgeegaaGreatDoor
open Go Go.Vc Go.RowKit Go.ChangeShapes Go.WideShapes Go.ChangeAt Go.Joins
set_option maxRecDepth 100000
theorem q1 : Tryz.prog.funcNamed "metrolab/metrolabtop.TopPrism" = some 12 := by kernel_rfl
theorem q3 : Tryz.f12.isInstance Tryz.prog Rows.topPrismRow.origin Rows.topPrismRow.targs := of_decide_eq_true (by kernel_rfl)
theorem q4 : Tryz.f12.isWrapper Tryz.prog Rows.topPrismRow.wrapper Rows.topPrismRow.mainSum := by unfold Func.isWrapper; first | (rw [if_pos (by decide +kernel)]; kernel_rfl) | (rw [if_neg (by decide +kernel)]; exact ⟨rfl, rfl⟩)
theorem topPrism_over : Rows.topPrismRow.holds Tryz.pinned (OpenSpec.ofChange Rows.topPrismSpec) :=
 OpenClaim.holds_of_wide 12 Tryz.f12 rfl rfl rfl rfl rfl rfl rfl ⟨rfl, rfl, rfl, rfl, rfl⟩ rfl rfl rfl rfl rfl q1 Tryz.func12 q2 q3 q4
  (fun os started H enc _ => topPrism_lifted os started H enc)
end Go.Proofs.YtgblokifbgeegaaGreatDoor
