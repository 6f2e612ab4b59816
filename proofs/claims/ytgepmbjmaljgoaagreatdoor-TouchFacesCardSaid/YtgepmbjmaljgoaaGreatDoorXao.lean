/- Proved here: TouchFaces returns true at every input and leaves it as it was; condition: the laid package-level variables hold what the given texts say. -/
import Derived.Test.YtgepmbjmaljgoaaGreatDoorXaj
import Derived.Test.YtgepmbjmaljgoaaGreatDoorXak
import Derived.Test.YtgepmbjmaljgoaaGreatDoorXal
import Derived.Test.YtgepmbjmaljgoaaGreatDoorXam
import Derived.Test.YtgepmbjmaljgoaaGreatDoorXan
namespace Go.Proofs.YtgepmbjmaljgoaaGreatDoor
open Go Go.Vc Go.RowKit Go.ChangeShapes Go.WideShapes Go.ChangeAt Go.Joins
set_option maxRecDepth 100000
theorem touchFaces_card : Rows.TouchFacesCardSaid :=
 Claim7.holds_tied_plain_at .later [] [.data, .data, .data, .data, .sentinel, .sentinel, .data, .pinned] true (true, "656bec1d1d00535604885df1bd173bc24c083377663c795117545d05879d50ff") true
  touchFaces_over (fun _ h => by cases h) k1 (fun _ h => by cases h) touchFaces_row_tie rfl ⟨rfl, rfl⟩ k2 rfl
  (fun f fn hf hfn => by
   obtain rfl : f = 10 := Option.some.inj (q1.symm.trans hf) |>.symm
   obtain rfl : fn = Tryz.f10 := (Option.some.inj (Tryz.func10.symm.trans hfn)).symm
   exact ⟨k3, fun j t ht => by
    rw [Tryz.params10] at ht
    have h3 : t = 22 ∨ t = 5 := by
     rcases j with _ | _ | j
     ·left; simpa using ht.symm
     ·right; simpa using ht.symm
     ·simp at ht
    rcases h3 with rfl | rfl
    ·exact kw22
    ·exact kw5⟩)
  k4
end Go.Proofs.YtgepmbjmaljgoaaGreatDoor
