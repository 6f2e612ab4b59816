/- Proved here: FlatZones returns true at every input and leaves it as it was; condition: the laid package-level variables hold what the given texts say. -/
import Derived.Test.YtgblokifbgeegaaGreatDoorZai
import Derived.Test.YtgblokifbgeegaaGreatDoorZaj
import Derived.Test.YtgblokifbgeegaaGreatDoorZak
import Derived.Test.YtgblokifbgeegaaGreatDoorZal
import Derived.Test.YtgblokifbgeegaaGreatDoorZam
namespace Go.Proofs.YtgblokifbgeegaaGreatDoor
open Go Go.Vc Go.RowKit Go.ChangeShapes Go.WideShapes Go.ChangeAt Go.Joins
set_option maxRecDepth 100000
theorem flatZones_card : Rows.FlatZonesCardSaid :=
 Claim7.holds_tied_plain_at .later [] [.data, .data, .data, .data, .sentinel, .sentinel, .pinned] true (true, "ee6f303d789abab379ad1ada03fb8faf21dc941f42fe780cb3b84566b1c70a27") true
  flatZones_over (fun _ h => by cases h) k1 (fun _ h => by cases h) flatZones_row_tie rfl ⟨rfl, rfl⟩ k2 rfl
  (fun f fn hf hfn => by
   obtain rfl : f = 8 := Option.some.inj (q1.symm.trans hf) |>.symm
   obtain rfl : fn = Tryz.f8 := (Option.some.inj (Tryz.func8.symm.trans hfn)).symm
   exact ⟨k3, fun j t ht => by
    rw [Tryz.params8] at ht
    have h3 : t = 34 ∨ t = 22 ∨ t = 24 := by
     rcases j with _ | _ | _ | j
     ·left; simpa using ht.symm
     ·right; left; simpa using ht.symm
     ·right; right; simpa using ht.symm
     ·simp at ht
    rcases h3 with rfl | rfl | rfl
    ·exact kw34
    ·exact kw22
    ·exact kw24⟩)
  k4
end Go.Proofs.YtgblokifbgeegaaGreatDoor
