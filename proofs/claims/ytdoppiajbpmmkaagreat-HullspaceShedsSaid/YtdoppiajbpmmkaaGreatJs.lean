/- A part of the proof that the law returns true at every input and that the input reads behind the call as it read before; this part states nothing of its own that needs a condition of the input. -/
import Derived.Test.YtdoppiajbpmmkaaGreatRows
import Derived.ProofKit
import Derived.Deep.Slices
import Derived.Deep.Fields
import Derived.Deep.Strs
import Derived.OpenShut
import Derived.ChangeSame
import Derived.Lib.SmallJoins
import Derived.Carry
import Derived.Below
import Derived.Test.YtdoppiajbpmmkaaGreatKd
set_option linter.unusedVariables false
set_option linter.unusedSimpArgs false
set_option linter.unnecessarySimpa false
namespace Go.Proofs.YtdoppiajbpmmkaaGreat
open Go Go.Vc Go.RowKit Go.ChangeShapes Go.WideShapes Go.ChangeAt Go.Joins
set_option maxRecDepth 100000

/-! ### The join of a contract and a given row -/
theorem cell_lt {w : World} {a : Addr} {v : Value} (h : w.cell? a = some v) : a.block < w.heap.size ∧ a.spot = none := by
  unfold World.cell? at h
  split at h
  · rename_i hb
    refine ⟨(Array.getElem?_eq_some_iff.1 hb).1, ?_⟩
    split at h
    · cases h
    · rename_i hs; simpa using hs
  · cases h

section
variable {H : Type} {enc : TypeId × Value → H} {P : Program} {W : World} {base : Nat} {spare : Nat → Bool} {held : Bool}
/-- A slice whose elements are numbers, or arrays or structs of numbers. -/
theorem sl_of {t e sz : Nat} {fuel : Nat} {cs : List Value} {x : DataW H × List MemPlace} (ht : P.underlying t = some (.slice e)) (hC : P.cellsOf e = sz) (hs0 : 0 < sz)
    (hel : ∀ n cs' y, DataW.trod enc P W base spare held n e cs' = some y → ∃ g : Nat → Int, ∀ j, j < sz → cs'[j]? = some (.int .i64 (g j)))
    (h : DataW.trod enc P W base spare held fuel t cs = some x) :
    ∃ (v : Value) (n : Nat) (g : Nat → Nat → Int), cs = [v] ∧ ∀ row : Nat → Nat → AV, (∀ i, i < n → ∀ j, j < sz → row i j = .val (.int .i64 (g i j))) → AV.ok (fun k => k < W.heap.size) W (.sl n sz row) v := by
  rcases Go.Deep.open_slice ht h with h0 | ⟨a, len, cap, m, n, D, Pl, hcs, hb, hl, hm, hmm, hx, hi⟩
  · exact ⟨_, 0, fun _ _ => 0, h0.1, fun row _ => ⟨none, 0, rfl, by omega, by decide, by simp⟩⟩
  · have hg : ∀ i, i < len → ∃ g : Nat → Int, ∀ j, j < sz → W.cell? (a.add (i * sz + j)) = some (.int .i64 (g j)) := by
      intro i hil
      have him : i < m := by rw [hmm]; split <;> omega
      obtain ⟨cs', hc, ht'⟩ := hi i him
      rw [hC] at hc
      obtain ⟨g, hgj⟩ := hel _ _ _ ht'
      obtain ⟨_, hcl, hat⟩ := World.cells?_some hc
      refine ⟨g, fun j hj => ?_⟩
      have hcell := hat j hj
      have h1 := hgj j hj
      rw [← Go.Deep.add_add, hcell]
      have hv : cs'[j]? = some (cs'[j]'(by omega)) := List.getElem?_eq_getElem (by omega)
      rw [hv] at h1
      rw [← h1]
      simp [hv]
    let g : Nat → Nat → Int := fun i => if hil : i < len then (hg i hil).choose else fun _ => 0
    have hgs : ∀ i, i < len → ∀ j, j < sz → W.cell? (a.add (i * sz + j)) = some (.int .i64 (g i j)) := by
      intro i hil
      have := (hg i hil).choose_spec
      simpa [g, hil] using this
    refine ⟨_, len, g, hcs, fun row hrow => ⟨some a, cap, rfl, hl, hm, fun hn => ?_⟩⟩
    obtain ⟨b, o, s⟩ := a
    have h0 := hgs 0 hn 0 hs0
    rw [Nat.zero_mul, Nat.zero_add, show (Addr.mk b o s).add 0 = ⟨b, o, s⟩ from rfl] at h0
    obtain ⟨hbl, hs⟩ := cell_lt h0
    dsimp only at hbl hs
    subst hs
    have hadd : ∀ k, (Addr.mk b o none).add k = ⟨b, o + k, none⟩ := fun k => by
      unfold Addr.add; split
      · subst k; rfl
      · rfl
    refine ⟨b, o, rfl, fun _ => hbl, hbl, fun i hil j hj => ⟨.int .i64 (g i j), ?_, ?_⟩⟩
    · have h2 := hgs i hil j hj
      rw [hadd] at h2
      rw [← h2, Nat.add_assoc]
    · rw [hrow i hil j hj]; rfl
end
section
variable {H : Type} {enc : TypeId × Value → H} {W : World} {base : Nat} {spare : Nat → Bool} {held : Bool}
theorem cells3 : Tryz.prog.cellsOf 3 = 1 := by kernel_rfl
theorem cells67 : Tryz.prog.cellsOf 67 = 3 := by kernel_rfl
theorem tr3_of {n : Nat} {cs : List Value} {x : DataW H × List MemPlace} (h : DataW.trod enc Tryz.prog W base spare held n 67 cs = some x) : ∃ a : Tr, cs = [.int .i64 a.x, .int .i64 a.y, .int .i64 a.z] := by
  obtain ⟨y0, y1, y2, n, _, hl, h0, h1, h2⟩ := Go.Deep.trod_struct3 Tryz.underlying67 h
  rw [cells67] at hl
  match cs, hl with
  | [a, b, c], _ =>
    dsimp only at h0 h1 h2
    rw [cells3] at h0 h1 h2
    obtain ⟨z0, q0, _⟩ := DataW.trod_int Tryz.underlying3 h0
    obtain ⟨z1, q1, _⟩ := DataW.trod_int Tryz.underlying3 h1
    obtain ⟨z2, q2, _⟩ := DataW.trod_int Tryz.underlying3 h2
    simp at q0 q1 q2
    exact ⟨⟨z0, z1, z2⟩, by rw [q0, q1, q2]⟩
theorem ts_of {fuel : Nat} {cs : List Value} {x : DataW H × List MemPlace} (h : DataW.trod enc Tryz.prog W base spare held fuel 22 cs = some x) : ∃ (v : Value) (l : List Tr), cs = [v] ∧ AV.ok (fun k => k < W.heap.size) W (ts l) v := by
  obtain ⟨v, n, g, e, hv⟩ := sl_of Tryz.underlying22 cells67 (by decide) (fun n cs' y hy => by
    obtain ⟨a, rfl⟩ := tr3_of hy
    exact ⟨fun j => match j with | 0 => a.x | 1 => a.y | _+2 => a.z, fun j hj => by
      match j, hj with
      | 0, _ => rfl
      | 1, _ => rfl
      | 2, _ => rfl⟩) h
  refine ⟨v, (List.range n).map (fun i => ⟨g i 0, g i 1, g i 2⟩), e, ?_⟩
  have hl : ((List.range n).map (fun i => (⟨g i 0, g i 1, g i 2⟩ : Tr))).length = n := by simp
  rw [ts_eq, hl]
  refine hv _ fun i hi j hj => ?_
  have hgp : gt ((List.range n).map (fun i => (⟨g i 0, g i 1, g i 2⟩ : Tr))) i = ⟨g i 0, g i 1, g i 2⟩ := by
    unfold gt
    simp [List.getD, hi]
  match j, hj with
  | 0, _ => show AV.val (.int .i64 (gt _ i).x) = _; rw [hgp]
  | 1, _ => show AV.val (.int .i64 (gt _ i).y) = _; rw [hgp]
  | 2, _ => show AV.val (.int .i64 (gt _ i).z) = _; rw [hgp]
theorem ts_arg {v : Value} {b0 : Nat} {d : DataW H} {p : List MemPlace} (hv : Value.okWide Tryz.prog W .any b0 22 v) (h : DataW.Trod enc Tryz.prog W base spare held 22 v d p) : ∃ l : List Tr, AV.ok (fun k => k < W.heap.size) W (ts l) v := by
  obtain ⟨a0, len, cap, rfl⟩ := okWide_slice Tryz.underlying22 hv
  obtain ⟨fuel, hf⟩ := h
  obtain ⟨v', l, e, hk⟩ := ts_of hf
  simp only [Value.cells, List.cons.injEq, and_true] at e
  subst e
  exact ⟨l, hk⟩
end
theorem own : ownKnob Tryz.prog.godebug = none := by kernel_rfl
theorem laidOut : laidOutB Tryz.prog = true := by kernel_rfl
theorem read22 : Tryz.prog.readableRec 22 = true := by kernel_rfl
theorem row22 : 22 < Tryz.prog.types.size := of_decide_eq_true (by kernel_rfl)
/-- The last step: the contract hands back true; the arguments read as they did. -/
theorem law_end {f : FuncId} {vs : List Value} {τs : List AV} {W : World} {R : Ending → World → Prop} (hc : CtrA Tryz.prog f τs (vb true))
    (hall : All2 (fun τ v => AV.ok (fun k => k < W.heap.size) W τ v) τs vs) (hR : ∀ W', Below W.heap.size W W' → R (.returned (.bool true)) W') : Calls Tryz.prog f vs.toArray W R := by
  refine (hc.calls W _ vs (fun _ h => h) hall).mono ?_
  rintro e W' ⟨v, Z', rfl, hb, _, _, _, hv⟩
  obtain rfl : v = .bool true := hv
  exact hR W' hb
end Go.Proofs.YtdoppiajbpmmkaaGreat
