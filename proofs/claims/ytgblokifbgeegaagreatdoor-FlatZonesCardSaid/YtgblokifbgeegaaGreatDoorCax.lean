/- A part of the proof. -/
import Derived.Test.YtgblokifbgeegaaGreatDoorCaj
import Derived.Test.YtgblokifbgeegaaGreatDoorCaw
section
namespace Go.Proofs.YtgblokifbgeegaaGreatDoor
open Go Go.Vc Go.RowKit Go.ChangeShapes Go.WideShapes Go.ChangeAt Go.Joins
set_option maxRecDepth 100000
theorem J1W {w : World} {a : Addr} {v : Value} (h : w.cell? a = some v) : a.block < w.heap.size ∧ a.spot = none := by
 unfold World.cell? at h
 split at h
 ·rename_i hb
  refine ⟨(Array.getElem?_eq_some_iff.1 hb).1, ?_⟩
  split at h
  ·cases h
  ·rename_i hs; simpa using hs
 ·cases h
section
variable {H : Type} {enc : TypeId × Value → H} {P : Program} {W : World} {base : Nat} {spare : Nat → Bool} {held : Bool}
theorem k1Q {t e sz : Nat} {fuel : Nat} {cs : List Value} {x : DataW H × List MemPlace} (ht : P.underlying t = some (.slice e)) (hC : P.cellsOf e = sz) (hs0 : 0 < sz)
  (hel : ∀ n cs' y, DataW.trod enc P W base spare held n e cs' = some y → ∃ g : Nat → Int, ∀ j, j < sz → cs'[j]? = some (.int .i64 (g j)))
  (h : DataW.trod enc P W base spare held fuel t cs = some x) :
  ∃ (v : Value) (n : Nat) (g : Nat → Nat → Int), cs = [v] ∧ ∀ row : Nat → Nat → AV, (∀ i, i < n → ∀ j, j < sz → row i j = .val (.int .i64 (g i j))) → AV.ok (fun k => k < W.heap.size) W (.sl n sz row) v := by
 rcases Go.Deep.open_slice ht h with h0 | ⟨a, len, cap, m, n, D, Pl, hcs, hb, hl, hm, hmm, hx, hi⟩
 ·exact ⟨_, 0, fun _ _ => 0, h0.1, fun row _ => ⟨none, 0, rfl, by omega, by decide, by simp⟩⟩
 ·have hg : ∀ i, i < len → ∃ g : Nat → Int, ∀ j, j < sz → W.cell? (a.add (i * sz + j)) = some (.int .i64 (g j)) := by
   intro i hil
   have him : i < m := by rw [hmm]; split <;> omega
   obtain ⟨cs', hc, ht'⟩ := hi i him
   rw [hC] at hc
   obtain ⟨g, hgj⟩ := hel _ _ _ ht'
   obtain ⟨_, hcl, hat⟩ := World.cells?_some hc
   refine ⟨g, fun j hj => ?_⟩
   have hcell := hat j hj
   have h1 := hgj j hj
   rw [← Go.Deep.add_add, hcell]
   have hv : cs'[j]? = some (cs'[j]'xO) := List.getElem?_eq_getElem xO
   rw [hv] at h1
   rw [← h1]
   simp [hv]
  let g : Nat → Nat → Int := fun i => if hil : i < len then (hg i hil).choose else fun _ => 0
  have hgs : ∀ i, i < len → ∀ j, j < sz → W.cell? (a.add (i * sz + j)) = some (.int .i64 (g i j)) := by
   intro i hil
   have := (hg i hil).choose_spec
   simpa [g, hil] using this
  refine ⟨_, len, g, hcs, fun row hrow => ⟨some a, cap, rfl, hl, hm, fun hn => ?_⟩⟩
  obtain ⟨b, o, s⟩ := a
  have h0 := hgs 0 hn 0 hs0
  rw [Nat.zero_mul, Nat.zero_add, show (Addr.mk b o s).add 0 = ⟨b, o, s⟩ from rfl] at h0
  obtain ⟨hbl, hs⟩ := J1W h0
  dsimp only at hbl hs
  subst hs
  have hadd : ∀ k, (Addr.mk b o none).add k = ⟨b, o + k, none⟩ := fun k => by
   unfold Addr.add; split
   ·subst k; rfl
   ·rfl
  refine ⟨b, o, rfl, fun _ => hbl, hbl, fun i hil j hj => ⟨.int .i64 (g i j), ?_, ?_⟩⟩
  ·have h2 := hgs i hil j hj
   rw [hadd] at h2
   rw [← h2, Nat.add_assoc]
  ·rw [hrow i hil j hj]; rfl
end
section
variable {HH : Type} {enc : TypeId × Value → HH} {W : World} {base : Nat} {spare : Nat → Bool} {held : Bool}
theorem j1J : Tryz.prog.cellsOf 53 = 3 := by kernel_rfl
theorem K1g : Tryz.prog.underlying 53 = some (.struct (Tryz.prog.fieldsOf 53)) := by kernel_rfl
theorem j2k : (Tryz.prog.fieldsOf 53).size = 3 := by kernel_rfl
theorem j1H : Tryz.prog.cellsOf 22 = 3 := by kernel_rfl
theorem Z1A : Tryz.prog.underlying 22 = some (.array 3 3) := by kernel_rfl
theorem J1X : Tryz.prog.cellsOf 24 = 5 := by kernel_rfl
theorem Z1B : Tryz.prog.underlying 24 = some (.struct (Tryz.prog.fieldsOf 24)) := by kernel_rfl
theorem j2j : (Tryz.prog.fieldsOf 24).size = 3 := by kernel_rfl
theorem Z1E : Tryz.prog.underlying 34 = some (.slice 53) := by kernel_rfl
theorem K0J {w : World} {r : Reach} {b0 : Nat} {P : Program} {t n e : TypeId} {v : Value} (ht : P.underlying t = some (.array n e)) (h : Value.okWide P w r b0 t v) : ∃ cs, v = .agg cs ∧ cs.size = P.cellsOf t := by
 simp only [Value.okWide, ht] at h
 obtain ⟨cs, h1, h2, _⟩ := h
 exact ⟨cs, h1, h2⟩
theorem wf_i64 {n : Int} (h : (Lit.int .i64 n).wf = true) : H.S.I64 n := by
 have h' : (decide (IntKind.min .i64 ≤ n) && decide (n ≤ IntKind.max .i64)) = true := h
 rw [Bool.and_eq_true, decide_eq_true_eq, decide_eq_true_eq] at h'
 have e1 : IntKind.min .i64 = -9223372036854775808 := by decide
 have e2 : IntKind.max .i64 = 9223372036854775807 := by decide
 rw [e1, e2] at h'
 exact h'
theorem fld {t i ft fo n : Nat} {xs : List (DataW HH × List MemPlace)} {cs : List Value} (hf : (Tryz.prog.fieldsOf t)[i]? = some ((Tryz.prog.fieldsOf t)[i]!)) (h1 : ((Tryz.prog.fieldsOf t)[i]!).type = ft) (h2 : ((Tryz.prog.fieldsOf t)[i]!).offset = fo)
  (h : ∀ (i : Nat) (f : Field), (Tryz.prog.fieldsOf t)[i]? = some f → DataW.trod enc Tryz.prog W base spare held n f.type ((cs.drop f.offset).take (Tryz.prog.cellsOf f.type)) = xs[i]?) (hi : i < xs.length) :
  ∃ x, DataW.trod enc Tryz.prog W base spare held n ft ((cs.drop fo).take (Tryz.prog.cellsOf ft)) = some x := by
 have := h i _ hf
 rw [h1, h2, List.getElem?_eq_getElem hi] at this
 exact ⟨_, this⟩
theorem Z1y {n : Nat} {cs : List Value} {x : DataW HH × List MemPlace} (h : DataW.trod enc Tryz.prog W base spare held n 53 cs = some x) : ∃ a : H.Tr, H.S.I64T a ∧ cs = [.int .i64 a.x, .int .i64 a.y, .int .i64 a.z] := by
 obtain ⟨xs, n, _, _, hl, hxl, hel⟩ := DataW.trod_struct K1g h
 rw [j2k] at hxl
 rw [j1J] at hl
 match cs, hl with
 |[c0, c1, c2], _ =>
  obtain ⟨x0, e0⟩ := fld (i := 0) (ft := 3) (fo := 0) (by kernel_rfl) (by kernel_rfl) (by kernel_rfl) hel xO
  obtain ⟨x1, e1⟩ := fld (i := 1) (ft := 3) (fo := 1) (by kernel_rfl) (by kernel_rfl) (by kernel_rfl) hel xO
  obtain ⟨x2, e2⟩ := fld (i := 2) (ft := 3) (fo := 2) (by kernel_rfl) (by kernel_rfl) (by kernel_rfl) hel xO
  rw [j1I] at e0 e1 e2
  obtain ⟨z0, q0, _, w0⟩ := DataW.trod_int J1x e0
  obtain ⟨z1, q1, _, w1⟩ := DataW.trod_int J1x e1
  obtain ⟨z2, q2, _, w2⟩ := DataW.trod_int J1x e2
  simp at q0 q1 q2
  exact ⟨⟨z0, z1, z2⟩, ⟨wf_i64 w0, wf_i64 w1, wf_i64 w2⟩, by rw [q0, q1, q2]⟩
theorem z1b {n : Nat} {cs : List Value} {x : DataW HH × List MemPlace} (h : DataW.trod enc Tryz.prog W base spare held n 22 cs = some x) : ∃ a : H.Tr, H.S.I64T a ∧ cs = [.int .i64 a.x, .int .i64 a.y, .int .i64 a.z] := by
 obtain ⟨xs, n, _, _, hl, hxl, hel⟩ := DataW.trod_array Z1A h
 rw [j1H] at hl
 rw [j1I] at hel
 match cs, hl with
 |[c0, c1, c2], _ =>
  have e0 := hel 0 xE
  have e1 := hel 1 xE
  have e2 := hel 2 xE
  rw [List.getElem?_eq_getElem (by omega)] at e0 e1 e2
  obtain ⟨z0, q0, _, w0⟩ := DataW.trod_int J1x e0
  obtain ⟨z1, q1, _, w1⟩ := DataW.trod_int J1x e1
  obtain ⟨z2, q2, _, w2⟩ := DataW.trod_int J1x e2
  simp at q0 q1 q2
  exact ⟨⟨z0, z1, z2⟩, ⟨wf_i64 w0, wf_i64 w1, wf_i64 w2⟩, by rw [q0, q1, q2]⟩
theorem K1r {v : Value} {b0 : Nat} {d : DataW HH} {p : List MemPlace} (hv : Value.okWide Tryz.prog W .any b0 22 v) (h : DataW.Trod enc Tryz.prog W base spare held 22 v d p) : ∃ a : H.Tr, H.S.I64T a ∧ AV.ok (fun k => k < W.heap.size) W (H.tp a) v := by
 obtain ⟨cs, rfl, hsz⟩ := K0J Z1A hv
 obtain ⟨fuel, hf⟩ := h
 obtain ⟨cl⟩ := cs
 obtain ⟨a, ha, e⟩ := z1b hf
 simp only [Value.cells] at e
 subst e
 exact ⟨a, ha, rfl⟩
theorem K1N {v : Value} {b0 : Nat} {d : DataW HH} {p : List MemPlace} (hv : Value.okWide Tryz.prog W .any b0 24 v) (h : DataW.Trod enc Tryz.prog W base spare held 24 v d p) :
  ∃ (z : H.Tr) (a b : Int), H.S.I64T z ∧ H.S.I64 a ∧ H.S.I64 b ∧ AV.ok (fun k => k < W.heap.size) W (H.S.zA z a b) v := by
 obtain ⟨cs, rfl, hsz⟩ := okWide_struct Z1B hv
 obtain ⟨fuel, hf⟩ := h
 obtain ⟨xs, n, _, _, hl, hxl, hel⟩ := DataW.trod_struct Z1B hf
 rw [j2j] at hxl
 rw [J1X] at hl
 obtain ⟨cl⟩ := cs
 simp only [Value.cells] at hl hel
 match cl, hl with
 |[c0, c1, c2, c3, c4], _ =>
  obtain ⟨x0, e0⟩ := fld (i := 0) (ft := 22) (fo := 0) (by kernel_rfl) (by kernel_rfl) (by kernel_rfl) hel xO
  obtain ⟨x1, e1⟩ := fld (i := 1) (ft := 3) (fo := 3) (by kernel_rfl) (by kernel_rfl) (by kernel_rfl) hel xO
  obtain ⟨x2, e2⟩ := fld (i := 2) (ft := 3) (fo := 4) (by kernel_rfl) (by kernel_rfl) (by kernel_rfl) hel xO
  rw [j1H] at e0
  rw [j1I] at e1 e2
  obtain ⟨z, hz, q0⟩ := z1b e0
  obtain ⟨z1, q1, _, w1⟩ := DataW.trod_int J1x e1
  obtain ⟨z2, q2, _, w2⟩ := DataW.trod_int J1x e2
  simp at q0 q1 q2
  obtain ⟨rfl, rfl, rfl⟩ := q0
  subst q1 q2
  exact ⟨z, z1, z2, hz, wf_i64 w1, wf_i64 w2, rfl⟩
theorem K1e {fuel : Nat} {cs : List Value} {x : DataW HH × List MemPlace} (h : DataW.trod enc Tryz.prog W base spare held fuel 34 cs = some x) : ∃ (v : Value) (l : List H.Tr), cs = [v] ∧ AV.ok (fun k => k < W.heap.size) W (H.ts l) v := by
 obtain ⟨v, n, g, e, hv⟩ := k1Q Z1E j1J xE (fun n cs' y hy => by
  obtain ⟨a, _, rfl⟩ := Z1y hy
  exact ⟨fun j => match j with | 0 => a.x | 1 => a.y | _+2 => a.z, fun j hj => by
   match j, hj with
   |0, _ => rfl
   |1, _ => rfl
   |2, _ => rfl⟩) h
 refine ⟨v, (List.range n).map (fun i => ⟨g i 0, g i 1, g i 2⟩), e, ?_⟩
 have hl : ((List.range n).map (fun i => (⟨g i 0, g i 1, g i 2⟩ : H.Tr))).length = n := by simp
 unfold H.ts
 rw [hl]
 refine hv _ fun i hi j hj => ?_
 have hgp : H.gt ((List.range n).map (fun i => (⟨g i 0, g i 1, g i 2⟩ : H.Tr))) i = ⟨g i 0, g i 1, g i 2⟩ := by
  unfold H.gt
  simp [List.getD, hi]
 match j, hj with
 |0, _ => show AV.val (.int .i64 (H.gt _ i).x) = _; rw [hgp]
 |1, _ => show AV.val (.int .i64 (H.gt _ i).y) = _; rw [hgp]
 |2, _ => show AV.val (.int .i64 (H.gt _ i).z) = _; rw [hgp]
theorem K1J {v : Value} {b0 : Nat} {d : DataW HH} {p : List MemPlace} (hv : Value.okWide Tryz.prog W .any b0 34 v) (h : DataW.Trod enc Tryz.prog W base spare held 34 v d p) : ∃ l : List H.Tr, AV.ok (fun k => k < W.heap.size) W (H.ts l) v := by
 obtain ⟨a0, len, cap, rfl⟩ := okWide_slice Z1E hv
 obtain ⟨fuel, hf⟩ := h
 obtain ⟨v', l, e, hk⟩ := K1e hf
 simp only [Value.cells, List.cons.injEq, and_true] at e
 subst e
 exact ⟨l, hk⟩
end
end Go.Proofs.YtgblokifbgeegaaGreatDoor
end
