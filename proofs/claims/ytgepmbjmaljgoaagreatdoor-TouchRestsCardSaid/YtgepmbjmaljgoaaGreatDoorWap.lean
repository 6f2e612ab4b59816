/- Proved here: TouchRests returns true at every input and leaves it as it was; condition: the laid package-level variables hold what the given texts say. -/
import Derived.Test.YtgepmbjmaljgoaaGreatDoorWak
import Derived.Test.YtgepmbjmaljgoaaGreatDoorWal
import Derived.Test.YtgepmbjmaljgoaaGreatDoorWam
import Derived.Test.YtgepmbjmaljgoaaGreatDoorWan
import Derived.Test.YtgepmbjmaljgoaaGreatDoorWao
namespace Go.Proofs.YtgepmbjmaljgoaaGreatDoor
open Go Go.Vc Go.RowKit Go.ChangeShapes Go.WideShapes Go.ChangeAt Go.Joins
set_option maxRecDepth 100000
theorem touchRests_card : Rows.TouchRestsCardSaid :=
 Claim7.holds_tied_plain_at .later [] [.data, .data, .data, .data, .sentinel, .sentinel, .data, .pinned] true (true, "656bec1d1d00535604885df1bd173bc24c083377663c795117545d05879d50ff") true
  touchRests_over (fun _ h => by cases h) k1 (fun _ h => by cases h) touchRests_row_tie rfl ⟨rfl, rfl⟩ k2 rfl
  (fun f fn hf hfn => by
   obtain rfl : f = 4 := Option.some.inj (q1.symm.trans hf) |>.symm
   obtain rfl : fn = Tryz.f4 := (Option.some.inj (Tryz.func4.symm.trans hfn)).symm
   exact ⟨k3, fun j t ht => by
    rw [Tryz.params4] at ht
    have h3 : t = 22 ∨ t = 3 ∨ t = 38 := by
     rcases j with _ | _ | _ | j
     ·left; simpa using ht.symm
     ·right; left; simpa using ht.symm
     ·right; right; simpa using ht.symm
     ·simp at ht
    rcases h3 with rfl | rfl | rfl
    ·exact kw22
    ·exact kw3
    ·exact kw38⟩)
  k4
end Go.Proofs.YtgepmbjmaljgoaaGreatDoor
