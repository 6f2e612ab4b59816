/- A part of the proof that the law returns true at every input and that the input reads behind the call as it read before; this part states nothing of its own that needs a condition of the input. -/
import Derived.Test.YtacepcnbgacipaaRows
import Derived.ProofKit
import Derived.Deep.Slices
import Derived.Deep.Fields
import Derived.ChangeSame
import Derived.Lib.SmallJoins
import Derived.Carry
import Derived.Below
import Derived.Test.YtacepcnbgacipaaW
set_option linter.unusedVariables false
set_option linter.unusedSimpArgs false
namespace Go.Proofs.Ytacepcnbgacipaa
open Go Go.Vc Go.RowKit Go.ChangeShapes Go.WideShapes Go.ChangeAt Go.Joins

/-! ### The join of a contract and a given row -/
section
variable {H : Type} {enc : TypeId × Value → H} {P : Program} {w : World} {base : Nat} {spare : Nat → Bool} {held : Bool}
theorem open_slice_fields {t e : TypeId} {fs : Array Field} {fuel : Nat} {cs : List Value} {x : DataW H × List MemPlace} (ht : P.underlying t = some (.slice e)) (he : P.underlying e = some (.struct fs))
    (hone : Go.Deep.oneCellFields P fs = true) (hC : P.cellsOf e = fs.size) (h : DataW.trod enc P w base spare held fuel t cs = some x) :
    (cs = [.slice none 0 0]) ∨
    ∃ (a : Addr) (len cap : Nat), cs = [.slice (some a) len cap] ∧ len ≤ cap ∧ cap ≤ maxLen ∧
      ∀ i, i < len → ∀ (j : Nat) (f : Field), fs[j]? = some f → ∃ (n : Nat) (v : Value) (y : DataW H × List MemPlace), w.cell? (a.add (i * fs.size + j)) = some v ∧ DataW.trod enc P w base spare held n f.type [v] = some y := by
  rcases Go.Deep.open_slice ht h with h0 | ⟨a, len, cap, m, n, D, Pl, hcs, hb, hl, hm, hmm, hx, hi⟩
  · exact .inl h0.1
  · refine .inr ⟨a, len, cap, hcs, hl, hm, fun i hil j f hj => ?_⟩
    have him : i < m := by
      rw [hmm]; split <;> omega
    obtain ⟨cs', hc, ht'⟩ := hi i him
    rw [hC] at hc
    obtain ⟨ys, n', hn', hy, hlen, hyl, hf⟩ := DataW.trod_struct he ht'
    obtain ⟨_, hcl, hat⟩ := World.cells?_some hc
    obtain ⟨ho, hk⟩ := Go.Deep.hone_of hone j f hj
    have hjl : j < fs.size := (Array.getElem?_eq_some_iff.1 hj).1
    have hcell := hat j hjl
    have hv : cs'[j]? = some (cs'[j]'(by omega)) := List.getElem?_eq_getElem (by omega)
    have h1 := hf j f hj
    rw [ho, hk] at h1
    have hone' : (cs'.drop j).take 1 = [cs'[j]'(by omega)] := by
      rw [List.drop_eq_getElem_cons (by omega)]
      rfl
    rw [hone'] at h1
    have hys : ys[j]? = some (ys[j]'(by omega)) := List.getElem?_eq_getElem (by omega)
    exact ⟨n', _, _, by rw [← Go.Deep.add_add, hcell, hv], h1.trans hys⟩
end

theorem cell_lt {w : World} {a : Addr} {v : Value} (h : w.cell? a = some v) : a.block < w.heap.size ∧ a.spot = none := by
  unfold World.cell? at h
  split at h
  · rename_i hb
    refine ⟨(Array.getElem?_eq_some_iff.1 hb).1, ?_⟩
    split at h
    · cases h
    · rename_i hs; simpa using hs
  · cases h

section
variable {H : Type} {enc : TypeId × Value → H} {W : World} {base : Nat} {spare : Nat → Bool} {held : Bool}
theorem one24 : Go.Deep.oneCellFields Try.prog #[{ name := "X", type := 3, offset := 0, embedded := false, tag := "", pkgPath := "", byteOffset := 0 }, { name := "Y", type := 3, offset := 1, embedded := false, tag := "", pkgPath := "", byteOffset := 8 }] = true := by kernel_rfl
theorem cells24 : Try.prog.cellsOf 24 = 2 := by kernel_rfl
set_option maxRecDepth 100000 in
/-- An argument that is a slice of points. -/
theorem pts_arg {v : Value} {b0 : Nat} {d : DataW H} {p : List MemPlace} (hv : Value.okWide Try.prog W .any b0 22 v) (h : DataW.Trod enc Try.prog W base spare held 22 v d p) :
    ∃ l : List Pt, AV.ok (fun k => k < W.heap.size) W (pts l) v := by
  obtain ⟨a0, len, cap, rfl⟩ := okWide_slice Try.underlying22 hv
  obtain ⟨fuel, hf⟩ := h
  rcases open_slice_fields Try.underlying22 Try.underlying24 one24 cells24 hf with h0 | ⟨a, len', cap', hcs, hl, hm, hi⟩
  · simp only [Value.cells, List.cons.injEq, Value.slice.injEq, and_true] at h0
    obtain ⟨rfl, rfl, rfl⟩ := h0
    exact ⟨[], none, 0, rfl, by simp, by decide, by simp⟩
  · simp only [Value.cells, List.cons.injEq, Value.slice.injEq, and_true] at hcs
    obtain ⟨rfl, rfl, rfl⟩ := hcs
    have hg : ∀ i, i < len → ∃ q : Pt, W.cell? (a.add (i * 2)) = some (.int .i64 q.x) ∧ W.cell? (a.add (i * 2 + 1)) = some (.int .i64 q.y) := by
      intro i hil
      obtain ⟨n0, v0, y0, hc0, ht0⟩ := hi i hil 0 _ rfl
      obtain ⟨n1, v1, y1, hc1, ht1⟩ := hi i hil 1 _ rfl
      obtain ⟨x, hx, _⟩ := DataW.trod_int Try.underlying3 ht0
      obtain ⟨y, hy, _⟩ := DataW.trod_int Try.underlying3 ht1
      simp only [List.cons.injEq, and_true] at hx hy
      subst hx; subst hy
      exact ⟨⟨x, y⟩, hc0, hc1⟩
    let g : Nat → Pt := fun i => if hil : i < len then (hg i hil).choose else default
    have hgs : ∀ i, i < len → W.cell? (a.add (i * 2)) = some (.int .i64 (g i).x) ∧ W.cell? (a.add (i * 2 + 1)) = some (.int .i64 (g i).y) := by
      intro i hil
      have := (hg i hil).choose_spec
      simpa [g, hil] using this
    refine ⟨(List.range len).map g, some a, cap, by simp, by simpa using hl, hm, fun hn => ?_⟩
    simp only [List.length_map, List.length_range] at hn ⊢
    obtain ⟨b, o, s⟩ := a
    have h0 := (hgs 0 hn).1
    rw [Nat.zero_mul, show (Addr.mk b o s).add 0 = ⟨b, o, s⟩ from rfl] at h0
    obtain ⟨hb, hs⟩ := cell_lt h0
    dsimp only at hb hs
    subst hs
    refine ⟨b, o, rfl, fun _ => hb, hb, fun i hil j hj => ?_⟩
    have hgp : gp ((List.range len).map g) i = g i := by simp [gp, List.getD, hil]
    have hadd : ∀ k, (Addr.mk b o none).add k = ⟨b, o + k, none⟩ := fun k => by
      unfold Addr.add; split
      · subst k; rfl
      · rfl
    have h2 := hgs i hil
    rw [hadd, hadd] at h2
    rcases j with _ | _ | j
    · exact ⟨_, h2.1, by rw [hgp]; rfl⟩
    · exact ⟨_, by rw [Nat.add_assoc]; exact h2.2, by rw [hgp]; rfl⟩
    · omega
set_option maxRecDepth 100000 in
/-- An argument that is a point. -/
theorem pt_arg {v : Value} {b0 : Nat} {d : DataW H} {p : List MemPlace} (hv : Value.okWide Try.prog W .any b0 24 v) (h : DataW.Trod enc Try.prog W base spare held 24 v d p) :
    ∃ q : Pt, AV.ok (fun k => k < W.heap.size) W (pp q) v := by
  obtain ⟨v0, v1, y0, y1, n, rfl, _, _, h0, h1⟩ := open_agg2 Try.underlying24 one24 cells24 hv h
  obtain ⟨x, hx, _⟩ := DataW.trod_int Try.underlying3 h0
  obtain ⟨y, hy, _⟩ := DataW.trod_int Try.underlying3 h1
  simp only [List.cons.injEq, and_true] at hx hy
  subst hx; subst hy
  exact ⟨⟨x, y⟩, rfl⟩
end
theorem own : ownKnob Try.prog.godebug = none := by kernel_rfl
theorem laidOut : laidOutB Try.prog = true := by kernel_rfl
theorem read22 : Try.prog.readableRec 22 = true := by kernel_rfl
theorem read24 : Try.prog.readableRec 24 = true := by kernel_rfl
theorem row22 : 22 < Try.prog.types.size := of_decide_eq_true (by kernel_rfl)
theorem row24 : 24 < Try.prog.types.size := of_decide_eq_true (by kernel_rfl)

/-- The last step: the contract hands back true; the arguments read as they did. -/
theorem law_end {f : FuncId} {vs : List Value} {τs : List AV} {W : World} {R : Ending → World → Prop} (hc : CtrA Try.prog f τs (vb true))
    (hall : All2 (fun τ v => AV.ok (fun k => k < W.heap.size) W τ v) τs vs) (hR : ∀ W', Below W.heap.size W W' → R (.returned (.bool true)) W') : Calls Try.prog f vs.toArray W R := by
  refine (hc.calls W _ vs (fun _ h => h) hall).mono ?_
  rintro e W' ⟨v, Z', rfl, hb, _, _, _, hv⟩
  obtain rfl : v = .bool true := hv
  exact hR W' hb
end Go.Proofs.Ytacepcnbgacipaa
