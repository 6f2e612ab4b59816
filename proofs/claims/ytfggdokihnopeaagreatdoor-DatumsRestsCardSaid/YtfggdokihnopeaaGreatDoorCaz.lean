/- A part of the proof. -/
import Derived.Test.YtfggdokihnopeaaGreatDoorCax
import Derived.Test.YtfggdokihnopeaaGreatDoorCay
set_option linter.unusedVariables false
set_option linter.unusedSimpArgs false
section
namespace Go.Proofs.YtfggdokihnopeaaGreatDoor
open Go Go.Vc Go.RowKit Go.ChangeShapes Go.WideShapes Go.ChangeAt Go.Joins
set_option maxRecDepth 100000
section
variable {HH : Type} {enc : TypeId × Value → HH} {W : World} {base : Nat} {spare : Nat → Bool} {held : Bool}
theorem V0h : Tryz.prog.cellsOf 22 = 3 := by kernel_rfl
theorem Z0a : Tryz.prog.cellsOf 24 = 3 := by kernel_rfl
theorem w1C : Tryz.prog.cellsOf 23 = 1 := by kernel_rfl
theorem w1D : Tryz.prog.cellsOf 26 = 9 := by kernel_rfl
theorem z1I : Tryz.prog.underlying 22 = some (.array 3 3) := by kernel_rfl
theorem X1M : Tryz.prog.underlying 24 = some (.array 3 23) := by kernel_rfl
theorem z1J : Tryz.prog.underlying 26 = some (.struct (Tryz.prog.fieldsOf 26)) := by kernel_rfl
theorem Y1K : (Tryz.prog.fieldsOf 26).size = 3 := by kernel_rfl
theorem W1A {fuel : Nat} {cs : List Value} {d : DataW HH} {p : List MemPlace} (h : DataW.trod enc Tryz.prog W base spare held fuel 22 cs = some (d, p)) : ∃ a b c : Int, cs = [.int .i64 a, .int .i64 b, .int .i64 c] := by
 obtain ⟨ms, hc, _⟩ := J0G z1I V1k W0D V0h h
 obtain ⟨xs, m, _, ex, hl, hxl, hel⟩ := DataW.trod_array z1I h
 rw [V0h, hc, List.length_map] at hl
 match ms, hl with
 |[a, b, c], _ => exact ⟨a, b, c, hc⟩
theorem k1j {fuel : Nat} {cs : List Value} {x : DataW HH × List MemPlace} (h : DataW.trod enc Tryz.prog W base spare held fuel 24 cs = some x) : ∃ (u v w : Value) (l m n : List H.Tr), cs = [u, v, w] ∧ AV.ok (fun k => k < W.heap.size) W (H.ts l) u ∧ AV.ok (fun k => k < W.heap.size) W (H.ts m) v ∧ AV.ok (fun k => k < W.heap.size) W (H.ts n) w := by
 obtain ⟨xs, m, _, ex, hl, hxl, hel⟩ := DataW.trod_array X1M h
 rw [w1C] at hel
 rw [Z0a] at hl
 match cs, hl, xs, hxl with
 |[u, v, w], _, [x0, x1, x2], _ =>
  have e0 := hel 0 zE
  have e1 := hel 1 zE
  have e2 := hel 2 zE
  obtain ⟨u', l, q0, hu⟩ := V1h (show DataW.trod _ _ _ _ _ _ _ _ [u] = some x0 from e0)
  obtain ⟨v', m, q1, hv⟩ := V1h (show DataW.trod _ _ _ _ _ _ _ _ [v] = some x1 from e1)
  obtain ⟨w', n, q2, hw⟩ := V1h (show DataW.trod _ _ _ _ _ _ _ _ [w] = some x2 from e2)
  cases q0; cases q1; cases q2
  exact ⟨u, v, w, l, m, n, rfl, hu, hv, hw⟩
theorem Z1c {v : Value} {b0 : Nat} {d : DataW HH} {p : List MemPlace} (hv : Value.okWide Tryz.prog W .any b0 26 v) (h : DataW.Trod enc Tryz.prog W base spare held 26 v d p) : ∃ R : H.Syr, AV.ok (fun k => k < W.heap.size) W (.agg 9 (H.srA R)) v := by
 obtain ⟨cs, rfl, hsz⟩ := okWide_struct z1J hv
 obtain ⟨fuel, hf⟩ := h
 obtain ⟨xs, n, _, _, hl, hxl, hel⟩ := DataW.trod_struct z1J hf
 rw [Y1K] at hxl
 rw [w1D] at hl
 obtain ⟨cl⟩ := cs
 simp only [Value.cells] at hl hel
 match cl, hl with
 |[c0, c1, c2, c3, c4, c5, c6, c7, c8], _ =>
  obtain ⟨⟨x0, y0⟩, e0⟩ := fld (i := 0) (ft := 22) (fo := 0) (by kernel_rfl) (by kernel_rfl) (by kernel_rfl) hel zO
  obtain ⟨⟨x1, y1⟩, e1⟩ := fld (i := 1) (ft := 22) (fo := 3) (by kernel_rfl) (by kernel_rfl) (by kernel_rfl) hel zO
  obtain ⟨x2, e2⟩ := fld (i := 2) (ft := 24) (fo := 6) (by kernel_rfl) (by kernel_rfl) (by kernel_rfl) hel zO
  rw [V0h] at e0 e1
  rw [Z0a] at e2
  obtain ⟨a0, a1, a2, q0⟩ := W1A e0
  obtain ⟨o0, o1, o2, q1⟩ := W1A e1
  obtain ⟨u0, u1, u2, l, m, k, q2, h0, h1, h2⟩ := k1j e2
  simp at q0 q1 q2
  obtain ⟨rfl, rfl, rfl⟩ := q0
  obtain ⟨rfl, rfl, rfl⟩ := q1
  obtain ⟨rfl, rfl, rfl⟩ := q2
  refine ⟨⟨fun k => match k with | 0 => a0 | 1 => a1 | _ => a2, fun k => match k with | 0 => o0 | 1 => o1 | _ => o2, fun j => match j with | 0 => l | 1 => m | _ => k⟩, _, rfl, rfl, fun i hi => ?_⟩
  rcases (by omega : i = 0 ∨ i = 1 ∨ i = 2 ∨ i = 3 ∨ i = 4 ∨ i = 5 ∨ i = 6 ∨ i = 7 ∨ i = 8) with rfl | rfl | rfl | rfl | rfl | rfl | rfl | rfl | rfl
  ·exact ⟨_, rfl, rfl⟩
  ·exact ⟨_, rfl, rfl⟩
  ·exact ⟨_, rfl, rfl⟩
  ·exact ⟨_, rfl, rfl⟩
  ·exact ⟨_, rfl, rfl⟩
  ·exact ⟨_, rfl, rfl⟩
  ·exact ⟨_, rfl, h0⟩
  ·exact ⟨_, rfl, h1⟩
  ·exact ⟨_, rfl, h2⟩
end
end Go.Proofs.YtfggdokihnopeaaGreatDoor
end
