/- Proved here: FlatJudges returns true at every input and leaves it as it was; condition: the laid package-level variables hold what the given texts say. -/
import Derived.Test.YtgblokifbgeegaaGreatDoorJai
import Derived.Test.YtgblokifbgeegaaGreatDoorJaj
import Derived.Test.YtgblokifbgeegaaGreatDoorJak
import Derived.Test.YtgblokifbgeegaaGreatDoorJal
import Derived.Test.YtgblokifbgeegaaGreatDoorJam
namespace Go.Proofs.YtgblokifbgeegaaGreatDoor
open Go Go.Vc Go.RowKit Go.ChangeShapes Go.WideShapes Go.ChangeAt Go.Joins
set_option maxRecDepth 100000
theorem flatJudges_card : Rows.FlatJudgesCardSaid :=
 Claim7.holds_tied_plain_at .later [] [.data, .data, .data, .data, .sentinel, .sentinel, .pinned] true (true, "ee6f303d789abab379ad1ada03fb8faf21dc941f42fe780cb3b84566b1c70a27") true
  flatJudges_over (fun _ h => by cases h) k1 (fun _ h => by cases h) flatJudges_row_tie rfl ⟨rfl, rfl⟩ k2 rfl
  (fun f fn hf hfn => by
   obtain rfl : f = 5 := Option.some.inj (q1.symm.trans hf) |>.symm
   obtain rfl : fn = Tryz.f5 := (Option.some.inj (Tryz.func5.symm.trans hfn)).symm
   exact ⟨k3, fun j t ht => by
    rw [Tryz.params5] at ht
    have h3 : t = 34 ∨ t = 3 := by
     rcases j with _ | _ | j
     ·left; simpa using ht.symm
     ·right; simpa using ht.symm
     ·simp at ht
    rcases h3 with rfl | rfl
    ·exact kw34
    ·exact kw3⟩)
  k4
end Go.Proofs.YtgblokifbgeegaaGreatDoor
