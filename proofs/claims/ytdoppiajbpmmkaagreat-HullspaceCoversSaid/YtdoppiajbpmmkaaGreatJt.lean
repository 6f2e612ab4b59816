/- A part of the proof that the law returns true at every input and that the input reads behind the call as it read before; this part states nothing of its own that needs a condition of the input. -/
import Derived.Test.YtdoppiajbpmmkaaGreatJs
import Derived.Test.YtdoppiajbpmmkaaGreatKf
set_option linter.unusedVariables false
set_option linter.unusedSimpArgs false
set_option linter.unnecessarySimpa false
namespace Go.Proofs.YtdoppiajbpmmkaaGreat
open Go Go.Vc Go.RowKit Go.ChangeShapes Go.WideShapes Go.ChangeAt Go.Joins
set_option maxRecDepth 100000
section
variable {H : Type} {enc : TypeId × Value → H} {W : World} {base : Nat} {spare : Nat → Bool} {held : Bool}
theorem cells46 : Tryz.prog.cellsOf 46 = 5 := by kernel_rfl
theorem cells47 : Tryz.prog.cellsOf 47 = 10 := by kernel_rfl
theorem cells26 : Tryz.prog.cellsOf 26 = 1 := by kernel_rfl
theorem zs_of {fuel : Nat} {cs : List Value} {x : DataW H × List MemPlace} (h : DataW.trod enc Tryz.prog W base spare held fuel 26 cs = some x) : ∃ (v : Value) (s : List Int), cs = [v] ∧ AV.ok (fun k => k < W.heap.size) W (zs s) v ∧ s.length ≤ maxLen := by
  obtain ⟨v, n, g, e, hv⟩ := sl_of Tryz.underlying26 cells3 (by decide) (fun n cs' y hy => by
    obtain ⟨z, q, _⟩ := DataW.trod_int Tryz.underlying3 hy
    exact ⟨fun _ => z, fun j hj => by
      obtain rfl : j = 0 := by omega
      rw [q]; rfl⟩) h
  have hl : ((List.range n).map (fun i => g i 0)).length = n := by simp
  have hk : AV.ok (fun k => k < W.heap.size) W (zs ((List.range n).map (fun i => g i 0))) v := by
    unfold zs
    rw [hl]
    refine hv _ fun i hi j hj => ?_
    obtain rfl : j = 0 := by omega
    unfold zf gz
    simp [List.getD, hi]
  refine ⟨v, (List.range n).map (fun i => g i 0), e, hk, ?_⟩
  obtain ⟨p, c, _, h1, h2, _⟩ := hk
  omega
theorem fz_of {n : Nat} {cs : List Value} {x : DataW H × List MemPlace} (h : DataW.trod enc Tryz.prog W base spare held n 46 cs = some x) : ∃ (f : Fz) (v : Value), cs = [.int .i64 f.n.x, .int .i64 f.n.y, .int .i64 f.n.z, .int .i64 f.m, v] ∧ AV.ok (fun k => k < W.heap.size) W (zs f.s) v ∧ f.s.length ≤ maxLen := by
  obtain ⟨y0, y1, y2, n, _, hl, h0, h1, h2⟩ := Go.Deep.trod_struct3 Tryz.underlying46 h
  rw [cells46] at hl
  match cs, hl with
  | [a, b, c, d, e], _ =>
    dsimp only at h0 h1 h2
    rw [cells23] at h0
    rw [cells3] at h1
    rw [cells26] at h2
    obtain ⟨t, q0⟩ := ar3_of h0
    obtain ⟨m, q1, _⟩ := DataW.trod_int Tryz.underlying3 h1
    obtain ⟨v, s, q2, hk, hs⟩ := zs_of h2
    simp at q0 q1 q2
    obtain ⟨q3, q4, q5⟩ := q0
    exact ⟨⟨t, m, s⟩, v, by rw [q1, q2, q3, q4, q5], hk, hs⟩
theorem fa_arg {v : Value} {b0 : Nat} {d : DataW H} {p : List MemPlace} (hv : Value.okWide Tryz.prog W .any b0 47 v) (h : DataW.Trod enc Tryz.prog W base spare held 47 v d p) : ∃ a b : Fz, AV.ok (fun k => k < W.heap.size) W (.agg 10 (f2 a b)) v ∧ a.s.length ≤ maxLen ∧ b.s.length ≤ maxLen := by
  obtain ⟨cs, rfl, hsz⟩ := okWide_array Tryz.underlying47 hv
  obtain ⟨fuel, hf⟩ := h
  obtain ⟨cs⟩ := cs
  simp only [Value.cells] at hf
  obtain ⟨ys, m, _, ex, hl, hyl, hel⟩ := DataW.trod_array Tryz.underlying47 hf
  rw [cells47] at hl
  match cs, hl with
  | [c0, c1, c2, c3, c4, c5, c6, c7, c8, c9], _ =>
    have h0 := hel 0 (by omega)
    have h1 := hel 1 (by omega)
    rw [cells46] at h0 h1
    rw [List.getElem?_eq_getElem (by omega)] at h0 h1
    obtain ⟨a, u, qa, ka, la⟩ := fz_of h0
    obtain ⟨b, v, qb, kb, lb⟩ := fz_of h1
    simp at qa qb
    obtain ⟨rfl, rfl, rfl, rfl, rfl⟩ := qa
    obtain ⟨rfl, rfl, rfl, rfl, rfl⟩ := qb
    refine ⟨a, b, ⟨_, rfl, rfl, fun i hi => ?_⟩, la, lb⟩
    rcases (by omega : i = 0 ∨ i = 1 ∨ i = 2 ∨ i = 3 ∨ i = 4 ∨ i = 5 ∨ i = 6 ∨ i = 7 ∨ i = 8 ∨ i = 9) with rfl | rfl | rfl | rfl | rfl | rfl | rfl | rfl | rfl | rfl
    · exact ⟨_, rfl, rfl⟩
    · exact ⟨_, rfl, rfl⟩
    · exact ⟨_, rfl, rfl⟩
    · exact ⟨_, rfl, rfl⟩
    · exact ⟨_, rfl, ka⟩
    · exact ⟨_, rfl, rfl⟩
    · exact ⟨_, rfl, rfl⟩
    · exact ⟨_, rfl, rfl⟩
    · exact ⟨_, rfl, rfl⟩
    · exact ⟨_, rfl, kb⟩
end
theorem read47 : Tryz.prog.readableRec 47 = true := by kernel_rfl
theorem row47 : 47 < Tryz.prog.types.size := of_decide_eq_true (by kernel_rfl)
end Go.Proofs.YtdoppiajbpmmkaaGreat
