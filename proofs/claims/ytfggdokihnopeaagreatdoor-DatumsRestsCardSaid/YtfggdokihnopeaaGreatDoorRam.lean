/- Proved here: DatumsRests returns true at every input and leaves it as it was; condition: the laid package-level variables hold what the given texts say. -/
import Derived.Test.YtfggdokihnopeaaGreatDoorRah
import Derived.Test.YtfggdokihnopeaaGreatDoorRai
import Derived.Test.YtfggdokihnopeaaGreatDoorRaj
import Derived.Test.YtfggdokihnopeaaGreatDoorRak
import Derived.Test.YtfggdokihnopeaaGreatDoorRal
namespace Go.Proofs.YtfggdokihnopeaaGreatDoor
open Go Go.Vc Go.RowKit Go.ChangeShapes Go.WideShapes Go.ChangeAt Go.Joins
set_option maxRecDepth 100000
theorem datumsRests_card : Rows.DatumsRestsCardSaid :=
 Claim7.holds_tied_plain_at .later [] [.data, .data, .data, .data, .sentinel, .sentinel, .data, .pinned] true (true, "f0a03f005ac066f9c159c0a5073383cd5b7376b5da8d5cacd2cdd0eebd4182dc") true
  datumsRests_over (fun _ h => by cases h) k1 (fun _ h => by cases h) datumsRests_row_tie rfl ⟨rfl, rfl⟩ k2 rfl
  (fun f fn hf hfn => by
   obtain rfl : f = 7 := Option.some.inj (q1.symm.trans hf) |>.symm
   obtain rfl : fn = Tryz.f7 := (Option.some.inj (Tryz.func7.symm.trans hfn)).symm
   exact ⟨k3, fun j t ht => by
    rw [Tryz.params7] at ht
    have h3 : t = 26 := by
     rcases j with _ | j
     ·simpa using ht.symm
     ·simp at ht
    rcases h3 with rfl
    ·exact kw26⟩)
  k4
end Go.Proofs.YtfggdokihnopeaaGreatDoor
