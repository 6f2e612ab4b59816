/- A part of the proof. -/
import Derived.Test.YtfggdokihnopeaaGreatDoorCaw
section
namespace Go.Proofs.YtfggdokihnopeaaGreatDoor
open Go Go.Vc Go.RowKit Go.ChangeShapes Go.WideShapes Go.ChangeAt Go.Joins
set_option maxRecDepth 100000
section
variable {HH : Type} {enc : TypeId × Value → HH} {W : World} {base : Nat} {spare : Nat → Bool} {held : Bool}
theorem Z1r : Tryz.prog.underlying 23 = some (.slice 43) := by kernel_rfl
theorem X1H {n : Nat} {cs : List Value} {x : DataW HH × List MemPlace} (h : DataW.trod enc Tryz.prog W base spare held n 43 cs = some x) : ∃ a : H.Tr, cs = [.int .i64 a.x, .int .i64 a.y, .int .i64 a.z] := by
 obtain ⟨xs, n, _, _, hl, hxl, hel⟩ := DataW.trod_struct Z1s h
 rw [k1d] at hxl
 rw [j1m] at hl
 match cs, hl with
 |[c0, c1, c2], _ =>
  obtain ⟨x0, e0⟩ := fld (i := 0) (ft := 3) (fo := 0) (by kernel_rfl) (by kernel_rfl) (by kernel_rfl) hel zO
  obtain ⟨x1, e1⟩ := fld (i := 1) (ft := 3) (fo := 1) (by kernel_rfl) (by kernel_rfl) (by kernel_rfl) hel zO
  obtain ⟨x2, e2⟩ := fld (i := 2) (ft := 3) (fo := 2) (by kernel_rfl) (by kernel_rfl) (by kernel_rfl) hel zO
  rw [W0D] at e0 e1 e2
  obtain ⟨z0, q0, _⟩ := DataW.trod_int V1k e0
  obtain ⟨z1, q1, _⟩ := DataW.trod_int V1k e1
  obtain ⟨z2, q2, _⟩ := DataW.trod_int V1k e2
  simp at q0 q1 q2
  exact ⟨⟨z0, z1, z2⟩, by rw [q0, q1, q2]⟩
theorem V1h {fuel : Nat} {cs : List Value} {x : DataW HH × List MemPlace} (h : DataW.trod enc Tryz.prog W base spare held fuel 23 cs = some x) : ∃ (v : Value) (l : List H.Tr), cs = [v] ∧ AV.ok (fun k => k < W.heap.size) W (H.ts l) v := by
 obtain ⟨v, n, g, e, hv⟩ := Z1a Z1r j1m zE (fun n cs' y hy => by
  obtain ⟨a, rfl⟩ := X1H hy
  exact ⟨fun j => match j with | 0 => a.x | 1 => a.y | _+2 => a.z, fun j hj => by
   match j, hj with
   |0, _ => rfl
   |1, _ => rfl
   |2, _ => rfl⟩) h
 refine ⟨v, (List.range n).map (fun i => ⟨g i 0, g i 1, g i 2⟩), e, ?_⟩
 have hl : ((List.range n).map (fun i => (⟨g i 0, g i 1, g i 2⟩ : H.Tr))).length = n := by simp
 unfold H.ts
 rw [hl]
 refine hv _ fun i hi j hj => ?_
 have hgp : H.gt ((List.range n).map (fun i => (⟨g i 0, g i 1, g i 2⟩ : H.Tr))) i = ⟨g i 0, g i 1, g i 2⟩ := by
  unfold H.gt
  simp [List.getD, hi]
 match j, hj with
 |0, _ => show AV.val (.int .i64 (H.gt _ i).x) = _; rw [hgp]
 |1, _ => show AV.val (.int .i64 (H.gt _ i).y) = _; rw [hgp]
 |2, _ => show AV.val (.int .i64 (H.gt _ i).z) = _; rw [hgp]
end
end Go.Proofs.YtfggdokihnopeaaGreatDoor
end
