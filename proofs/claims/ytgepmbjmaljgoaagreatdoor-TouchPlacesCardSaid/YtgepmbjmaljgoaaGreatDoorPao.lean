/- Proved here: whatever TouchPlaces is given, it returns true and leaves its input as it was. The condition is the card's: the laid package-level variables hold what the given texts say. -/
import Derived.Test.YtgepmbjmaljgoaaGreatDoorPaj
import Derived.Test.YtgepmbjmaljgoaaGreatDoorPak
import Derived.Test.YtgepmbjmaljgoaaGreatDoorPal
import Derived.Test.YtgepmbjmaljgoaaGreatDoorPam
import Derived.Test.YtgepmbjmaljgoaaGreatDoorPan
set_option linter.unusedVariables false
set_option linter.unusedSimpArgs false
section
namespace Go.Proofs.YtgepmbjmaljgoaaGreatDoor
open Go Go.Vc Go.RowKit Go.ChangeShapes Go.WideShapes Go.ChangeAt Go.Joins
set_option maxRecDepth 100000
theorem touchPlaces_card : Rows.TouchPlacesCardSaid :=
  Claim7.holds_tied_plain_at .later [] [.data, .data, .data, .data, .sentinel, .sentinel, .data, .pinned] true (true, "656bec1d1d00535604885df1bd173bc24c083377663c795117545d05879d50ff") true
    touchPlaces_over (fun _ h => by cases h) k1 (fun _ h => by cases h) touchPlaces_row_tie rfl ⟨rfl, rfl⟩ k2 rfl
    (fun f fn hf hfn => by
      obtain rfl : f = 9 := Option.some.inj (q1.symm.trans hf) |>.symm
      obtain rfl : fn = Tryz.f9 := (Option.some.inj (Tryz.func9.symm.trans hfn)).symm
      exact ⟨k3, fun j t ht => by
        rw [Tryz.params9] at ht
        have h3 : t = 22 ∨ t = 5 ∨ t = 3 := by
          rcases j with _ | _ | _ | j
          · left; simpa using ht.symm
          · right; left; simpa using ht.symm
          · right; right; simpa using ht.symm
          · simp at ht
        rcases h3 with rfl | rfl | rfl
        · exact kw22
        · exact kw5
        · exact kw3⟩)
    k4
end Go.Proofs.YtgepmbjmaljgoaaGreatDoor
end
