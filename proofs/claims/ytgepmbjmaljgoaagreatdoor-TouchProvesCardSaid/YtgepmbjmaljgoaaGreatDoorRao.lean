/- Proved here: whatever TouchProves is given, it returns true and leaves its input as it was. The condition is the card's: the laid package-level variables hold what the given texts say. -/
import Derived.Test.YtgepmbjmaljgoaaGreatDoorRaj
import Derived.Test.YtgepmbjmaljgoaaGreatDoorRak
import Derived.Test.YtgepmbjmaljgoaaGreatDoorRal
import Derived.Test.YtgepmbjmaljgoaaGreatDoorRam
import Derived.Test.YtgepmbjmaljgoaaGreatDoorRan
set_option linter.unusedVariables false
set_option linter.unusedSimpArgs false
section
namespace Go.Proofs.YtgepmbjmaljgoaaGreatDoor
open Go Go.Vc Go.RowKit Go.ChangeShapes Go.WideShapes Go.ChangeAt Go.Joins
set_option maxRecDepth 100000
theorem touchProves_card : Rows.TouchProvesCardSaid :=
  Claim7.holds_tied_plain_at .later [] [.data, .data, .data, .data, .sentinel, .sentinel, .data, .pinned] true (true, "656bec1d1d00535604885df1bd173bc24c083377663c795117545d05879d50ff") true
    touchProves_over (fun _ h => by cases h) k1 (fun _ h => by cases h) touchProves_row_tie rfl ⟨rfl, rfl⟩ k2 rfl
    (fun f fn hf hfn => by
      obtain rfl : f = 8 := Option.some.inj (q1.symm.trans hf) |>.symm
      obtain rfl : fn = Tryz.f8 := (Option.some.inj (Tryz.func8.symm.trans hfn)).symm
      exact ⟨k3, fun j t ht => by
        rw [Tryz.params8] at ht
        have h3 : t = 22 ∨ t = 42 := by
          rcases j with _ | _ | j
          · left; simpa using ht.symm
          · right; simpa using ht.symm
          · simp at ht
        rcases h3 with rfl | rfl
        · exact kw22
        · exact kw42⟩)
    k4
end Go.Proofs.YtgepmbjmaljgoaaGreatDoor
end
