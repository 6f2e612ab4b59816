/- Proved here: DatumsMoves returns true at every input and leaves it as it was; condition: the laid package-level variables hold what the given texts say. -/
import Derived.Test.YtfggdokihnopeaaGreatDoorMah
import Derived.Test.YtfggdokihnopeaaGreatDoorMai
import Derived.Test.YtfggdokihnopeaaGreatDoorMaj
import Derived.Test.YtfggdokihnopeaaGreatDoorMak
import Derived.Test.YtfggdokihnopeaaGreatDoorMal
namespace Go.Proofs.YtfggdokihnopeaaGreatDoor
open Go Go.Vc Go.RowKit Go.ChangeShapes Go.WideShapes Go.ChangeAt Go.Joins
set_option maxRecDepth 100000
theorem datumsMoves_card : Rows.DatumsMovesCardSaid :=
 Claim7.holds_tied_plain_at .later [] [.data, .data, .data, .data, .sentinel, .sentinel, .data, .pinned] true (true, "f0a03f005ac066f9c159c0a5073383cd5b7376b5da8d5cacd2cdd0eebd4182dc") true
  datumsMoves_over (fun _ h => by cases h) k1 (fun _ h => by cases h) datumsMoves_row_tie rfl ⟨rfl, rfl⟩ k2 rfl
  (fun f fn hf hfn => by
   obtain rfl : f = 9 := Option.some.inj (q1.symm.trans hf) |>.symm
   obtain rfl : fn = Tryz.f9 := (Option.some.inj (Tryz.func9.symm.trans hfn)).symm
   exact ⟨k3, fun j t ht => by
    rw [Tryz.params9] at ht
    have h3 : t = 26 ∨ t = 43 := by
     rcases j with _ | _ | _ | j
     ·left; simpa using ht.symm
     ·right; simpa using ht.symm
     ·right; simpa using ht.symm
     ·simp at ht
    rcases h3 with rfl | rfl
    ·exact kw26
    ·exact kw43⟩)
  k4
end Go.Proofs.YtfggdokihnopeaaGreatDoor
