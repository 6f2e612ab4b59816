/- Proved here: whatever TouchBears is given, it returns true and leaves its input as it was. The condition is the card's: the laid package-level variables hold what the given texts say. -/
import Derived.Test.YtgepmbjmaljgoaaGreatDoorSal
import Derived.Test.YtgepmbjmaljgoaaGreatDoorSam
import Derived.Test.YtgepmbjmaljgoaaGreatDoorSan
import Derived.Test.YtgepmbjmaljgoaaGreatDoorSao
import Derived.Test.YtgepmbjmaljgoaaGreatDoorSap
set_option linter.unusedVariables false
set_option linter.unusedSimpArgs false
section
namespace Go.Proofs.YtgepmbjmaljgoaaGreatDoor
open Go Go.Vc Go.RowKit Go.ChangeShapes Go.WideShapes Go.ChangeAt Go.Joins
set_option maxRecDepth 100000
/-- Whatever the input: the law's function returns true and leaves what it was given. -/
theorem touchBears_card : Rows.TouchBearsCardSaid :=
  Claim7.holds_tied_plain_at .later [] [.data, .data, .data, .data, .sentinel, .sentinel, .data, .pinned] true (true, "656bec1d1d00535604885df1bd173bc24c083377663c795117545d05879d50ff") true
    touchBears_over (fun _ h => by cases h) k1 (fun _ h => by cases h) touchBears_row_tie rfl ⟨rfl, rfl⟩ k2 rfl
    (fun f fn hf hfn => by
      obtain rfl : f = 7 := Option.some.inj (q1.symm.trans hf) |>.symm
      obtain rfl : fn = Tryz.f7 := (Option.some.inj (Tryz.func7.symm.trans hfn)).symm
      exact ⟨k3, fun j t ht => by
        rw [Tryz.params7] at ht
        have h3 : t = 22 ∨ t = 5 ∨ t = 38 := by
          rcases j with _ | _ | _ | j
          · left; simpa using ht.symm
          · right; left; simpa using ht.symm
          · right; right; simpa using ht.symm
          · simp at ht
        rcases h3 with rfl | rfl | rfl
        · exact kw22
        · exact kw5
        · exact kw38⟩)
    k4
end Go.Proofs.YtgepmbjmaljgoaaGreatDoor
end
