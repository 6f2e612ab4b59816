/- Proved here: TopTolerance returns true at every input and leaves it as it was; condition: the laid package-level variables hold what the given texts say. -/
import Derived.Test.YtgblokifbgeegaaGreatDoorOah
import Derived.Test.YtgblokifbgeegaaGreatDoorOai
import Derived.Test.YtgblokifbgeegaaGreatDoorOaj
import Derived.Test.YtgblokifbgeegaaGreatDoorOak
import Derived.Test.YtgblokifbgeegaaGreatDoorOal
namespace Go.Proofs.YtgblokifbgeegaaGreatDoor
open Go Go.Vc Go.RowKit Go.ChangeShapes Go.WideShapes Go.ChangeAt Go.Joins
set_option maxRecDepth 100000
theorem topTolerance_card : Rows.TopToleranceCardSaid :=
 Claim7.holds_tied_plain_at .later [] [.data, .data, .data, .data, .sentinel, .sentinel, .pinned] true (true, "ee6f303d789abab379ad1ada03fb8faf21dc941f42fe780cb3b84566b1c70a27") true
  topTolerance_over (fun _ h => by cases h) k1 (fun _ h => by cases h) topTolerance_row_tie rfl ⟨rfl, rfl⟩ k2 rfl
  (fun f fn hf hfn => by
   obtain rfl : f = 13 := Option.some.inj (q1.symm.trans hf) |>.symm
   obtain rfl : fn = Tryz.f13 := (Option.some.inj (Tryz.func13.symm.trans hfn)).symm
   exact ⟨k3, fun j t ht => by
    rw [Tryz.params13] at ht
    have h3 : t = 80 ∨ t = 5 := by
     rcases j with _ | _ | _ | j
     ·left; simpa using ht.symm
     ·left; simpa using ht.symm
     ·right; simpa using ht.symm
     ·simp at ht
    rcases h3 with rfl | rfl
    ·exact kw80
    ·exact kw5⟩)
  k4
end Go.Proofs.YtgblokifbgeegaaGreatDoor
