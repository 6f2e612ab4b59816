/- Proved here: FlatWidths returns true at every input and leaves it as it was; condition: the laid package-level variables hold what the given texts say. -/
import Derived.Test.YtgblokifbgeegaaGreatDoorWai
import Derived.Test.YtgblokifbgeegaaGreatDoorWaj
import Derived.Test.YtgblokifbgeegaaGreatDoorWak
import Derived.Test.YtgblokifbgeegaaGreatDoorWal
import Derived.Test.YtgblokifbgeegaaGreatDoorWam
namespace Go.Proofs.YtgblokifbgeegaaGreatDoor
open Go Go.Vc Go.RowKit Go.ChangeShapes Go.WideShapes Go.ChangeAt Go.Joins
set_option maxRecDepth 100000
theorem flatWidths_card : Rows.FlatWidthsCardSaid :=
 Claim7.holds_tied_plain_at .later [] [.data, .data, .data, .data, .sentinel, .sentinel, .pinned] true (true, "ee6f303d789abab379ad1ada03fb8faf21dc941f42fe780cb3b84566b1c70a27") true
  flatWidths_over (fun _ h => by cases h) k1 (fun _ h => by cases h) flatWidths_row_tie rfl ⟨rfl, rfl⟩ k2 rfl
  (fun f fn hf hfn => by
   obtain rfl : f = 4 := Option.some.inj (q1.symm.trans hf) |>.symm
   obtain rfl : fn = Tryz.f4 := (Option.some.inj (Tryz.func4.symm.trans hfn)).symm
   exact ⟨k3, fun j t ht => by
    rw [Tryz.params4] at ht
    have h3 : t = 34 := by
     rcases j with _ | j
     ·simpa using ht.symm
     ·simp at ht
    rcases h3 with rfl
    ·exact kw34⟩)
  k4
end Go.Proofs.YtgblokifbgeegaaGreatDoor
