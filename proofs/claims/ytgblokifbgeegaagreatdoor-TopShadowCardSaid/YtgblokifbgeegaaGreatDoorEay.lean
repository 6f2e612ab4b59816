/- A part of the proof. -/
import Derived.Test.YtgblokifbgeegaaGreatDoorEak
import Derived.Test.YtgblokifbgeegaaGreatDoorEax
section
namespace Go.Proofs.YtgblokifbgeegaaGreatDoor
open Go Go.Vc Go.RowKit Go.ChangeShapes Go.WideShapes Go.ChangeAt Go.Joins
set_option maxRecDepth 100000
theorem V1h {w : World} {a : Addr} {v : Value} (h : w.cell? a = some v) : a.block < w.heap.size ∧ a.spot = none := by
 unfold World.cell? at h
 split at h
 ·rename_i hb
  refine ⟨(Array.getElem?_eq_some_iff.1 hb).1, ?_⟩
  split at h
  ·cases h
  ·rename_i hs; simpa using hs
 ·cases h
section
variable {H : Type} {enc : TypeId × Value → H} {P : Program} {W : World} {base : Nat} {spare : Nat → Bool} {held : Bool}
theorem j2f {t e sz : Nat} {fuel : Nat} {cs : List Value} {x : DataW H × List MemPlace} (ht : P.underlying t = some (.slice e)) (hC : P.cellsOf e = sz) (hs0 : 0 < sz)
  (hel : ∀ n cs' y, DataW.trod enc P W base spare held n e cs' = some y → ∃ g : Nat → Int, ∀ j, j < sz → cs'[j]? = some (.int .i64 (g j)))
  (h : DataW.trod enc P W base spare held fuel t cs = some x) :
  ∃ (v : Value) (n : Nat) (g : Nat → Nat → Int), cs = [v] ∧ ∀ row : Nat → Nat → AV, (∀ i, i < n → ∀ j, j < sz → row i j = .val (.int .i64 (g i j))) → AV.ok (fun k => k < W.heap.size) W (.sl n sz row) v := by
 rcases Go.Deep.open_slice ht h with h0 | ⟨a, len, cap, m, n, D, Pl, hcs, hb, hl, hm, hmm, hx, hi⟩
 ·exact ⟨_, 0, fun _ _ => 0, h0.1, fun row _ => ⟨none, 0, rfl, by omega, by decide, by simp⟩⟩
 ·have hg : ∀ i, i < len → ∃ g : Nat → Int, ∀ j, j < sz → W.cell? (a.add (i * sz + j)) = some (.int .i64 (g j)) := by
   intro i hil
   have him : i < m := by rw [hmm]; split <;> omega
   obtain ⟨cs', hc, ht'⟩ := hi i him
   rw [hC] at hc
   obtain ⟨g, hgj⟩ := hel _ _ _ ht'
   obtain ⟨_, hcl, hat⟩ := World.cells?_some hc
   refine ⟨g, fun j hj => ?_⟩
   have hcell := hat j hj
   have h1 := hgj j hj
   rw [← Go.Deep.add_add, hcell]
   have hv : cs'[j]? = some (cs'[j]'xO) := List.getElem?_eq_getElem xO
   rw [hv] at h1
   rw [← h1]
   simp [hv]
  let g : Nat → Nat → Int := fun i => if hil : i < len then (hg i hil).choose else fun _ => 0
  have hgs : ∀ i, i < len → ∀ j, j < sz → W.cell? (a.add (i * sz + j)) = some (.int .i64 (g i j)) := by
   intro i hil
   have := (hg i hil).choose_spec
   simpa [g, hil] using this
  refine ⟨_, len, g, hcs, fun row hrow => ⟨some a, cap, rfl, hl, hm, fun hn => ?_⟩⟩
  obtain ⟨b, o, s⟩ := a
  have h0 := hgs 0 hn 0 hs0
  rw [Nat.zero_mul, Nat.zero_add, show (Addr.mk b o s).add 0 = ⟨b, o, s⟩ from rfl] at h0
  obtain ⟨hbl, hs⟩ := V1h h0
  dsimp only at hbl hs
  subst hs
  have hadd : ∀ k, (Addr.mk b o none).add k = ⟨b, o + k, none⟩ := fun k => by
   unfold Addr.add; split
   ·subst k; rfl
   ·rfl
  refine ⟨b, o, rfl, fun _ => hbl, hbl, fun i hil j hj => ⟨.int .i64 (g i j), ?_, ?_⟩⟩
  ·have h2 := hgs i hil j hj
   rw [hadd] at h2
   rw [← h2, Nat.add_assoc]
  ·rw [hrow i hil j hj]; rfl
end
section
variable {HH : Type} {enc : TypeId × Value → HH} {W : World} {base : Nat} {spare : Nat → Bool} {held : Bool}
theorem q1v : Tryz.prog.cellsOf 53 = 3 := by kernel_rfl
theorem j2v : Tryz.prog.underlying 53 = some (.struct (Tryz.prog.fieldsOf 53)) := by kernel_rfl
theorem q2n : (Tryz.prog.fieldsOf 53).size = 3 := by kernel_rfl
theorem k1X : Tryz.prog.underlying 34 = some (.slice 53) := by kernel_rfl
theorem q2D : Tryz.prog.underlying 5 = some (.int .u8) := by kernel_rfl
theorem wf_i64 {n : Int} (h : (Lit.int .i64 n).wf = true) : H.S.I64 n := by
 have h' : (decide (IntKind.min .i64 ≤ n) && decide (n ≤ IntKind.max .i64)) = true := h
 rw [Bool.and_eq_true, decide_eq_true_eq, decide_eq_true_eq] at h'
 have e1 : IntKind.min .i64 = -9223372036854775808 := by decide
 have e2 : IntKind.max .i64 = 9223372036854775807 := by decide
 rw [e1, e2] at h'
 exact h'
theorem wf_u8 {n : Int} (h : (Lit.int .u8 n).wf = true) : 0 ≤ n ∧ n ≤ 255 := by
 have h' : (decide (IntKind.min .u8 ≤ n) && decide (n ≤ IntKind.max .u8)) = true := h
 rw [Bool.and_eq_true, decide_eq_true_eq, decide_eq_true_eq] at h'
 have e1 : IntKind.min .u8 = 0 := by decide
 have e2 : IntKind.max .u8 = 255 := by decide
 omega
theorem fld {t i ft fo n : Nat} {xs : List (DataW HH × List MemPlace)} {cs : List Value} (hf : (Tryz.prog.fieldsOf t)[i]? = some ((Tryz.prog.fieldsOf t)[i]!)) (h1 : ((Tryz.prog.fieldsOf t)[i]!).type = ft) (h2 : ((Tryz.prog.fieldsOf t)[i]!).offset = fo)
  (h : ∀ (i : Nat) (f : Field), (Tryz.prog.fieldsOf t)[i]? = some f → DataW.trod enc Tryz.prog W base spare held n f.type ((cs.drop f.offset).take (Tryz.prog.cellsOf f.type)) = xs[i]?) (hi : i < xs.length) :
  ∃ x, DataW.trod enc Tryz.prog W base spare held n ft ((cs.drop fo).take (Tryz.prog.cellsOf ft)) = some x := by
 have := h i _ hf
 rw [h1, h2, List.getElem?_eq_getElem hi] at this
 exact ⟨_, this⟩
theorem k1T {n : Nat} {cs : List Value} {x : DataW HH × List MemPlace} (h : DataW.trod enc Tryz.prog W base spare held n 53 cs = some x) : ∃ a : H.Tr, H.S.I64T a ∧ cs = [.int .i64 a.x, .int .i64 a.y, .int .i64 a.z] := by
 obtain ⟨xs, n, _, _, hl, hxl, hel⟩ := DataW.trod_struct j2v h
 rw [q2n] at hxl
 rw [q1v] at hl
 match cs, hl with
 |[c0, c1, c2], _ =>
  obtain ⟨x0, e0⟩ := fld (i := 0) (ft := 3) (fo := 0) (by kernel_rfl) (by kernel_rfl) (by kernel_rfl) hel xO
  obtain ⟨x1, e1⟩ := fld (i := 1) (ft := 3) (fo := 1) (by kernel_rfl) (by kernel_rfl) (by kernel_rfl) hel xO
  obtain ⟨x2, e2⟩ := fld (i := 2) (ft := 3) (fo := 2) (by kernel_rfl) (by kernel_rfl) (by kernel_rfl) hel xO
  rw [Y1s] at e0 e1 e2
  obtain ⟨z0, q0, _, w0⟩ := DataW.trod_int j2u e0
  obtain ⟨z1, q1, _, w1⟩ := DataW.trod_int j2u e1
  obtain ⟨z2, q2, _, w2⟩ := DataW.trod_int j2u e2
  simp at q0 q1 q2
  exact ⟨⟨z0, z1, z2⟩, ⟨wf_i64 w0, wf_i64 w1, wf_i64 w2⟩, by rw [q0, q1, q2]⟩
theorem j2r {fuel : Nat} {cs : List Value} {x : DataW HH × List MemPlace} (h : DataW.trod enc Tryz.prog W base spare held fuel 34 cs = some x) : ∃ (v : Value) (l : List H.Tr), cs = [v] ∧ AV.ok (fun k => k < W.heap.size) W (H.ts l) v := by
 obtain ⟨v, n, g, e, hv⟩ := j2f k1X q1v xE (fun n cs' y hy => by
  obtain ⟨a, _, rfl⟩ := k1T hy
  exact ⟨fun j => match j with | 0 => a.x | 1 => a.y | _+2 => a.z, fun j hj => by
   match j, hj with
   |0, _ => rfl
   |1, _ => rfl
   |2, _ => rfl⟩) h
 refine ⟨v, (List.range n).map (fun i => ⟨g i 0, g i 1, g i 2⟩), e, ?_⟩
 have hl : ((List.range n).map (fun i => (⟨g i 0, g i 1, g i 2⟩ : H.Tr))).length = n := by simp
 unfold H.ts
 rw [hl]
 refine hv _ fun i hi j hj => ?_
 have hgp : H.gt ((List.range n).map (fun i => (⟨g i 0, g i 1, g i 2⟩ : H.Tr))) i = ⟨g i 0, g i 1, g i 2⟩ := by
  unfold H.gt
  simp [List.getD, hi]
 match j, hj with
 |0, _ => show AV.val (.int .i64 (H.gt _ i).x) = _; rw [hgp]
 |1, _ => show AV.val (.int .i64 (H.gt _ i).y) = _; rw [hgp]
 |2, _ => show AV.val (.int .i64 (H.gt _ i).z) = _; rw [hgp]
theorem j2U {v : Value} {b0 : Nat} {d : DataW HH} {p : List MemPlace} (hv : Value.okWide Tryz.prog W .any b0 34 v) (h : DataW.Trod enc Tryz.prog W base spare held 34 v d p) : ∃ l : List H.Tr, AV.ok (fun k => k < W.heap.size) W (H.ts l) v := by
 obtain ⟨a0, len, cap, rfl⟩ := okWide_slice k1X hv
 obtain ⟨fuel, hf⟩ := h
 obtain ⟨v', l, e, hk⟩ := j2r hf
 simp only [Value.cells, List.cons.injEq, and_true] at e
 subst e
 exact ⟨l, hk⟩
end
end Go.Proofs.YtgblokifbgeegaaGreatDoor
end
