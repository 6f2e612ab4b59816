/- Proved here: TopShadow returns true at every input and leaves it as it was; condition: the laid package-level variables hold what the given texts say. -/
import Derived.Test.YtgblokifbgeegaaGreatDoorSah
import Derived.Test.YtgblokifbgeegaaGreatDoorSai
import Derived.Test.YtgblokifbgeegaaGreatDoorSaj
import Derived.Test.YtgblokifbgeegaaGreatDoorSak
import Derived.Test.YtgblokifbgeegaaGreatDoorSal
namespace Go.Proofs.YtgblokifbgeegaaGreatDoor
open Go Go.Vc Go.RowKit Go.ChangeShapes Go.WideShapes Go.ChangeAt Go.Joins
set_option maxRecDepth 100000
theorem topShadow_card : Rows.TopShadowCardSaid :=
 Claim7.holds_tied_plain_at .later [] [.data, .data, .data, .data, .sentinel, .sentinel, .pinned] true (true, "ee6f303d789abab379ad1ada03fb8faf21dc941f42fe780cb3b84566b1c70a27") true
  topShadow_over (fun _ h => by cases h) k1 (fun _ h => by cases h) topShadow_row_tie rfl ⟨rfl, rfl⟩ k2 rfl
  (fun f fn hf hfn => by
   obtain rfl : f = 11 := Option.some.inj (q1.symm.trans hf) |>.symm
   obtain rfl : fn = Tryz.f11 := (Option.some.inj (Tryz.func11.symm.trans hfn)).symm
   exact ⟨k3, fun j t ht => by
    rw [Tryz.params11] at ht
    have h3 : t = 34 ∨ t = 5 := by
     rcases j with _ | _ | j
     ·left; simpa using ht.symm
     ·right; simpa using ht.symm
     ·simp at ht
    rcases h3 with rfl | rfl
    ·exact kw34
    ·exact kw5⟩)
  k4
end Go.Proofs.YtgblokifbgeegaaGreatDoor
