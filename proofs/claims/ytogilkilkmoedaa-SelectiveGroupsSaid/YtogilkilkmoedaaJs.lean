/- A part of the proof that the law returns true at every input and that the input reads behind the call as it read before; this part states nothing of its own that needs a condition of the input. -/
import Derived.Test.YtogilkilkmoedaaRows
import Derived.ProofKit
import Derived.Deep.Slices
import Derived.Deep.Fields
import Derived.Deep.Strs
import Derived.OpenShut
import Derived.ChangeSame
import Derived.Lib.SmallJoins
import Derived.Carry
import Derived.Below
import Derived.Test.YtogilkilkmoedaaSb
set_option linter.unusedVariables false
set_option linter.unusedSimpArgs false
namespace Go.Proofs.Ytogilkilkmoedaa
open Go Go.Vc Go.RowKit Go.ChangeShapes Go.WideShapes Go.ChangeAt Go.Joins
set_option maxRecDepth 100000

/-! ### The join of a contract and a given row -/
theorem cell_lt {w : World} {a : Addr} {v : Value} (h : w.cell? a = some v) : a.block < w.heap.size ∧ a.spot = none := by
  unfold World.cell? at h
  split at h
  · rename_i hb
    refine ⟨(Array.getElem?_eq_some_iff.1 hb).1, ?_⟩
    split at h
    · cases h
    · rename_i hs; simpa using hs
  · cases h

section
variable {H : Type} {enc : TypeId × Value → H} {P : Program} {W : World} {base : Nat} {spare : Nat → Bool} {held : Bool}
/-- A slice whose elements are numbers, or arrays or structs of numbers. -/
theorem sl_of {t e sz : Nat} {fuel : Nat} {cs : List Value} {x : DataW H × List MemPlace} (ht : P.underlying t = some (.slice e)) (hC : P.cellsOf e = sz) (hs0 : 0 < sz)
    (hel : ∀ n cs' y, DataW.trod enc P W base spare held n e cs' = some y → ∃ g : Nat → Int, ∀ j, j < sz → cs'[j]? = some (.int .i64 (g j)))
    (h : DataW.trod enc P W base spare held fuel t cs = some x) :
    ∃ (v : Value) (n : Nat) (g : Nat → Nat → Int), cs = [v] ∧ ∀ row : Nat → Nat → AV, (∀ i, i < n → ∀ j, j < sz → row i j = .val (.int .i64 (g i j))) → AV.ok (fun k => k < W.heap.size) W (.sl n sz row) v := by
  rcases Go.Deep.open_slice ht h with h0 | ⟨a, len, cap, m, n, D, Pl, hcs, hb, hl, hm, hmm, hx, hi⟩
  · exact ⟨_, 0, fun _ _ => 0, h0.1, fun row _ => ⟨none, 0, rfl, by omega, by decide, by simp⟩⟩
  · have hg : ∀ i, i < len → ∃ g : Nat → Int, ∀ j, j < sz → W.cell? (a.add (i * sz + j)) = some (.int .i64 (g j)) := by
      intro i hil
      have him : i < m := by rw [hmm]; split <;> omega
      obtain ⟨cs', hc, ht'⟩ := hi i him
      rw [hC] at hc
      obtain ⟨g, hgj⟩ := hel _ _ _ ht'
      obtain ⟨_, hcl, hat⟩ := World.cells?_some hc
      refine ⟨g, fun j hj => ?_⟩
      have hcell := hat j hj
      have h1 := hgj j hj
      rw [← Go.Deep.add_add, hcell]
      have hv : cs'[j]? = some (cs'[j]'(by omega)) := List.getElem?_eq_getElem (by omega)
      rw [hv] at h1
      rw [← h1]
      simp [hv]
    let g : Nat → Nat → Int := fun i => if hil : i < len then (hg i hil).choose else fun _ => 0
    have hgs : ∀ i, i < len → ∀ j, j < sz → W.cell? (a.add (i * sz + j)) = some (.int .i64 (g i j)) := by
      intro i hil
      have := (hg i hil).choose_spec
      simpa [g, hil] using this
    refine ⟨_, len, g, hcs, fun row hrow => ⟨some a, cap, rfl, hl, hm, fun hn => ?_⟩⟩
    obtain ⟨b, o, s⟩ := a
    have h0 := hgs 0 hn 0 hs0
    rw [Nat.zero_mul, Nat.zero_add, show (Addr.mk b o s).add 0 = ⟨b, o, s⟩ from rfl] at h0
    obtain ⟨hbl, hs⟩ := cell_lt h0
    dsimp only at hbl hs
    subst hs
    have hadd : ∀ k, (Addr.mk b o none).add k = ⟨b, o + k, none⟩ := fun k => by
      unfold Addr.add; split
      · subst k; rfl
      · rfl
    refine ⟨b, o, rfl, fun _ => hbl, hbl, fun i hil j hj => ⟨.int .i64 (g i j), ?_, ?_⟩⟩
    · have h2 := hgs i hil j hj
      rw [hadd] at h2
      rw [← h2, Nat.add_assoc]
    · rw [hrow i hil j hj]; rfl
end
section
variable {H : Type} {enc : TypeId × Value → H} {W : World} {base : Nat} {spare : Nat → Bool} {held : Bool}
theorem cells3 : Try.prog.cellsOf 3 = 1 := by kernel_rfl
theorem cells42 : Try.prog.cellsOf 42 = 2 := by kernel_rfl
theorem cells22 : Try.prog.cellsOf 22 = 1 := by kernel_rfl
theorem cells33 : Try.prog.cellsOf 33 = 1 := by kernel_rfl
theorem cells24 : Try.prog.cellsOf 24 = 2 := by kernel_rfl
theorem cells26 : Try.prog.cellsOf 26 = 4 := by kernel_rfl
theorem cells63 : Try.prog.cellsOf 63 = 3 := by kernel_rfl
theorem zs_of {fuel : Nat} {cs : List Value} {x : DataW H × List MemPlace} (h : DataW.trod enc Try.prog W base spare held fuel 22 cs = some x) : ∃ (v : Value) (l : List Int), cs = [v] ∧ AV.ok (fun k => k < W.heap.size) W (zs l) v := by
  obtain ⟨v, n, g, e, hv⟩ := sl_of Try.underlying22 cells3 (by decide) (fun n cs' y hy => by
    obtain ⟨z, hz, _⟩ := DataW.trod_int Try.underlying3 hy
    exact ⟨fun _ => z, fun j hj => by obtain rfl : j = 0 := by omega
                                      rw [hz]; rfl⟩) h
  refine ⟨v, (List.range n).map (fun i => g i 0), e, ?_⟩
  have hl : ((List.range n).map (fun i => g i 0)).length = n := by simp
  unfold zs
  rw [hl]
  refine hv _ fun i hi j hj => ?_
  obtain rfl : j = 0 := by omega
  unfold zf gz
  simp [List.getD, hi]
theorem dfs_of {fuel : Nat} {cs : List Value} {x : DataW H × List MemPlace} (h : DataW.trod enc Try.prog W base spare held fuel 33 cs = some x) : ∃ (v : Value) (l : List (Int × Int)), cs = [v] ∧ AV.ok (fun k => k < W.heap.size) W (dfs l) v := by
  obtain ⟨v, n, g, e, hv⟩ := sl_of Try.underlying33 cells42 (by decide) (fun n cs' y hy => by
    obtain ⟨ys, m, _, ex, hl, hyl, hel⟩ := DataW.trod_array Try.underlying42 hy
    rw [cells42] at hl
    match cs', hl with
    | [a, b], _ =>
      have h0 := hel 0 (by omega)
      have h1 := hel 1 (by omega)
      rw [cells3] at h0 h1
      rw [List.getElem?_eq_getElem (by omega)] at h0 h1
      obtain ⟨z0, q0, _⟩ := DataW.trod_int Try.underlying3 h0
      obtain ⟨z1, q1, _⟩ := DataW.trod_int Try.underlying3 h1
      simp at q0 q1
      subst q0; subst q1
      exact ⟨fun j => if j = 0 then z0 else z1, fun j hj => by
        match j, hj with
        | 0, _ => rfl
        | 1, _ => rfl⟩) h
  refine ⟨v, (List.range n).map (fun i => (g i 0, g i 1)), e, ?_⟩
  have hl : ((List.range n).map (fun i => (g i 0, g i 1))).length = n := by simp
  unfold dfs
  rw [hl]
  refine hv _ fun i hi j hj => ?_
  have hgp : gp ((List.range n).map (fun i => (g i 0, g i 1))) i = (g i 0, g i 1) := by
    unfold gp
    simp [List.getD, hi]
  match j, hj with
  | 0, _ => show AV.val (.int .i64 (gp _ i).1) = _; rw [hgp]
  | 1, _ => show AV.val (.int .i64 (gp _ i).2) = _; rw [hgp]
theorem lim_of {fuel : Nat} {cs : List Value} {x : DataW H × List MemPlace} (h : DataW.trod enc Try.prog W base spare held fuel 24 cs = some x) : ∃ lo up : Int, cs = [.int .i64 lo, .int .i64 up] := by
  obtain ⟨y0, y1, n, _, hl, h0, h1⟩ := trod_struct2 Try.underlying24 h
  rw [cells24] at hl
  match cs, hl with
  | [a, b], _ =>
    dsimp only at h0 h1
    rw [cells3] at h0 h1
    obtain ⟨z0, q0, _⟩ := DataW.trod_int Try.underlying3 h0
    obtain ⟨z1, q1, _⟩ := DataW.trod_int Try.underlying3 h1
    simp at q0 q1
    exact ⟨z0, z1, by rw [q0, q1]⟩
/-- Arguments: a list of numbers, limits, a blocker, a pairing, a number. -/
theorem zs_arg {v : Value} {b0 : Nat} {d : DataW H} {p : List MemPlace} (hv : Value.okWide Try.prog W .any b0 22 v) (h : DataW.Trod enc Try.prog W base spare held 22 v d p) : ∃ l : List Int, AV.ok (fun k => k < W.heap.size) W (zs l) v := by
  obtain ⟨a0, len, cap, rfl⟩ := okWide_slice Try.underlying22 hv
  obtain ⟨fuel, hf⟩ := h
  obtain ⟨v', l, e, hk⟩ := zs_of hf
  simp only [Value.cells, List.cons.injEq, and_true] at e
  subst e
  exact ⟨l, hk⟩
theorem lim_arg {v : Value} {b0 : Nat} {d : DataW H} {p : List MemPlace} (hv : Value.okWide Try.prog W .any b0 24 v) (h : DataW.Trod enc Try.prog W base spare held 24 v d p) : ∃ lo up : Int, AV.ok (fun k => k < W.heap.size) W (lim lo up) v := by
  obtain ⟨cs, rfl, hsz⟩ := okWide_struct Try.underlying24 hv
  obtain ⟨fuel, hf⟩ := h
  obtain ⟨lo, up, e⟩ := lim_of hf
  obtain ⟨cs⟩ := cs
  simp only [Value.cells] at e
  subst e
  exact ⟨lo, up, rfl⟩
theorem blk_arg {v : Value} {b0 : Nat} {d : DataW H} {p : List MemPlace} (hv : Value.okWide Try.prog W .any b0 26 v) (h : DataW.Trod enc Try.prog W base spare held 26 v d p) : ∃ (lo up : Int) (h p : List Int), AV.ok (fun k => k < W.heap.size) W (.agg 4 (fun i => [vi lo, vi up, zs h, zs p].getD i .any)) v := by
  obtain ⟨cs, rfl, hsz⟩ := okWide_struct Try.underlying26 hv
  obtain ⟨fuel, hf⟩ := h
  obtain ⟨y0, y1, y2, n, _, hl, h0, h1, h2⟩ := Go.Deep.trod_struct3 Try.underlying26 hf
  obtain ⟨cs⟩ := cs
  simp only [Value.cells] at hl h0 h1 h2
  rw [cells26] at hl
  rw [cells24] at h0
  rw [cells22] at h1 h2
  match cs, hl with
  | [a, b, c, d], _ =>
    obtain ⟨lo, up, e0⟩ := lim_of h0
    obtain ⟨v1, l1, e1, k1⟩ := zs_of h1
    obtain ⟨v2, l2, e2, k2⟩ := zs_of h2
    simp at e0 e1 e2
    obtain ⟨rfl, rfl⟩ := e0
    subst e1; subst e2
    refine ⟨lo, up, l1, l2, _, rfl, rfl, fun i hi => ?_⟩
    match i, hi with
    | 0, _ => exact ⟨_, rfl, rfl⟩
    | 1, _ => exact ⟨_, rfl, rfl⟩
    | 2, _ => exact ⟨_, rfl, k1⟩
    | 3, _ => exact ⟨_, rfl, k2⟩
theorem pair_arg {v : Value} {b0 : Nat} {d : DataW H} {p : List MemPlace} (hv : Value.okWide Try.prog W .any b0 63 v) (h : DataW.Trod enc Try.prog W base spare held 63 v d p) : ∃ (lo up : Int) (l : List (Int × Int)), AV.ok (fun k => k < W.heap.size) W (.agg 3 (fun i => [vi lo, vi up, dfs l].getD i .any)) v := by
  obtain ⟨cs, rfl, hsz⟩ := okWide_struct Try.underlying63 hv
  obtain ⟨fuel, hf⟩ := h
  obtain ⟨y0, y1, n, _, hl, h0, h1⟩ := trod_struct2 Try.underlying63 hf
  obtain ⟨cs⟩ := cs
  simp only [Value.cells] at hl h0 h1
  rw [cells63] at hl
  rw [cells24] at h0
  rw [cells33] at h1
  match cs, hl with
  | [a, b, c], _ =>
    obtain ⟨lo, up, e0⟩ := lim_of h0
    obtain ⟨v1, l1, e1, k1⟩ := dfs_of h1
    simp at e0 e1
    obtain ⟨rfl, rfl⟩ := e0
    subst e1
    refine ⟨lo, up, l1, _, rfl, rfl, fun i hi => ?_⟩
    match i, hi with
    | 0, _ => exact ⟨_, rfl, rfl⟩
    | 1, _ => exact ⟨_, rfl, rfl⟩
    | 2, _ => exact ⟨_, rfl, k1⟩
theorem num_arg {v : Value} {b0 : Nat} {d : DataW H} {p : List MemPlace} (hv : Value.okWide Try.prog W .any b0 3 v) (h : DataW.Trod enc Try.prog W base spare held 3 v d p) : ∃ n : Int, AV.ok (fun k => k < W.heap.size) W (vi n) v ∧ (Lit.int .i64 n).wf = true := by
  obtain ⟨n, rfl⟩ := okWide_int Try.underlying3 hv
  obtain ⟨fuel, hf⟩ := h
  obtain ⟨z, e, _, hw⟩ := DataW.trod_int Try.underlying3 hf
  simp only [Value.cells, List.cons.injEq, and_true, Value.int.injEq, true_and] at e
  subst e
  exact ⟨_, rfl, hw⟩
theorem u16_arg {v : Value} {b0 : Nat} {d : DataW H} {p : List MemPlace} (hv : Value.okWide Try.prog W .any b0 40 v) (h : DataW.Trod enc Try.prog W base spare held 40 v d p) : ∃ n : Int, AV.ok (fun k => k < W.heap.size) W (.val (.int .u16 n)) v ∧ 0 ≤ n ∧ n ≤ 65535 := by
  obtain ⟨n, rfl⟩ := okWide_int Try.underlying40 hv
  obtain ⟨fuel, hf⟩ := h
  obtain ⟨z, e, _, hw⟩ := DataW.trod_int Try.underlying40 hf
  simp only [Value.cells, List.cons.injEq, and_true, Value.int.injEq, true_and] at e
  subst e
  refine ⟨_, rfl, ?_⟩
  simp [Lit.wf, IntKind.min, IntKind.max, IntKind.signed, IntKind.bits] at hw
  omega
end
theorem own : ownKnob Try.prog.godebug = none := by kernel_rfl
theorem laidOut : laidOutB Try.prog = true := by kernel_rfl
theorem read3 : Try.prog.readableRec 3 = true := by kernel_rfl
theorem read22 : Try.prog.readableRec 22 = true := by kernel_rfl
theorem read24 : Try.prog.readableRec 24 = true := by kernel_rfl
theorem read26 : Try.prog.readableRec 26 = true := by kernel_rfl
theorem read63 : Try.prog.readableRec 63 = true := by kernel_rfl
theorem read40 : Try.prog.readableRec 40 = true := by kernel_rfl
theorem row40 : 40 < Try.prog.types.size := of_decide_eq_true (by kernel_rfl)
theorem row3 : 3 < Try.prog.types.size := of_decide_eq_true (by kernel_rfl)
theorem row22 : 22 < Try.prog.types.size := of_decide_eq_true (by kernel_rfl)
theorem row24 : 24 < Try.prog.types.size := of_decide_eq_true (by kernel_rfl)
theorem row26 : 26 < Try.prog.types.size := of_decide_eq_true (by kernel_rfl)
theorem row63 : 63 < Try.prog.types.size := of_decide_eq_true (by kernel_rfl)

/-- The last step: the contract hands back true; the arguments read as they did. -/
theorem law_end {f : FuncId} {vs : List Value} {τs : List AV} {W : World} {R : Ending → World → Prop} (hc : CtrA Try.prog f τs (vb true))
    (hall : All2 (fun τ v => AV.ok (fun k => k < W.heap.size) W τ v) τs vs) (hR : ∀ W', Below W.heap.size W W' → R (.returned (.bool true)) W') : Calls Try.prog f vs.toArray W R := by
  refine (hc.calls W _ vs (fun _ h => h) hall).mono ?_
  rintro e W' ⟨v, Z', rfl, hb, _, _, _, hv⟩
  obtain rfl : v = .bool true := hv
  exact hR W' hb
end Go.Proofs.Ytogilkilkmoedaa
