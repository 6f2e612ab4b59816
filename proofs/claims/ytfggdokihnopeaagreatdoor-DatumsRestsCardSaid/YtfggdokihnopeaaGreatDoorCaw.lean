/- A part of the proof. -/
import Derived.Test.YtfggdokihnopeaaGreatDoorCav
section
namespace Go.Proofs.YtfggdokihnopeaaGreatDoor
open Go Go.Vc Go.RowKit Go.ChangeShapes Go.WideShapes Go.ChangeAt Go.Joins
set_option maxRecDepth 100000
theorem J1j {w : World} {a : Addr} {v : Value} (h : w.cell? a = some v) : a.block < w.heap.size ∧ a.spot = none := by
 unfold World.cell? at h
 split at h
 ·rename_i hb
  refine ⟨(Array.getElem?_eq_some_iff.1 hb).1, ?_⟩
  split at h
  ·cases h
  ·rename_i hs; simpa using hs
 ·cases h
section
variable {H : Type} {enc : TypeId × Value → H} {P : Program} {W : World} {base : Nat} {spare : Nat → Bool} {held : Bool}
theorem Z1a {t e sz : Nat} {fuel : Nat} {cs : List Value} {x : DataW H × List MemPlace} (ht : P.underlying t = some (.slice e)) (hC : P.cellsOf e = sz) (hs0 : 0 < sz)
  (hel : ∀ n cs' y, DataW.trod enc P W base spare held n e cs' = some y → ∃ g : Nat → Int, ∀ j, j < sz → cs'[j]? = some (.int .i64 (g j)))
  (h : DataW.trod enc P W base spare held fuel t cs = some x) :
  ∃ (v : Value) (n : Nat) (g : Nat → Nat → Int), cs = [v] ∧ ∀ row : Nat → Nat → AV, (∀ i, i < n → ∀ j, j < sz → row i j = .val (.int .i64 (g i j))) → AV.ok (fun k => k < W.heap.size) W (.sl n sz row) v := by
 rcases Go.Deep.open_slice ht h with h0 | ⟨a, len, cap, m, n, D, Pl, hcs, hb, hl, hm, hmm, hx, hi⟩
 ·exact ⟨_, 0, fun _ _ => 0, h0.1, fun row _ => ⟨none, 0, rfl, by omega, by decide, by simp⟩⟩
 ·have hg : ∀ i, i < len → ∃ g : Nat → Int, ∀ j, j < sz → W.cell? (a.add (i * sz + j)) = some (.int .i64 (g j)) := by
   intro i hil
   have him : i < m := by rw [hmm]; split <;> omega
   obtain ⟨cs', hc, ht'⟩ := hi i him
   rw [hC] at hc
   obtain ⟨g, hgj⟩ := hel _ _ _ ht'
   obtain ⟨_, hcl, hat⟩ := World.cells?_some hc
   refine ⟨g, fun j hj => ?_⟩
   have hcell := hat j hj
   have h1 := hgj j hj
   rw [← Go.Deep.add_add, hcell]
   have hv : cs'[j]? = some (cs'[j]'zO) := List.getElem?_eq_getElem zO
   rw [hv] at h1
   rw [← h1]
   simp [hv]
  let g : Nat → Nat → Int := fun i => if hil : i < len then (hg i hil).choose else fun _ => 0
  have hgs : ∀ i, i < len → ∀ j, j < sz → W.cell? (a.add (i * sz + j)) = some (.int .i64 (g i j)) := by
   intro i hil
   have := (hg i hil).choose_spec
   simpa [g, hil] using this
  refine ⟨_, len, g, hcs, fun row hrow => ⟨some a, cap, rfl, hl, hm, fun hn => ?_⟩⟩
  obtain ⟨b, o, s⟩ := a
  have h0 := hgs 0 hn 0 hs0
  rw [Nat.zero_mul, Nat.zero_add, show (Addr.mk b o s).add 0 = ⟨b, o, s⟩ from rfl] at h0
  obtain ⟨hbl, hs⟩ := J1j h0
  dsimp only at hbl hs
  subst hs
  have hadd : ∀ k, (Addr.mk b o none).add k = ⟨b, o + k, none⟩ := fun k => by
   unfold Addr.add; split
   ·subst k; rfl
   ·rfl
  refine ⟨b, o, rfl, fun _ => hbl, hbl, fun i hil j hj => ⟨.int .i64 (g i j), ?_, ?_⟩⟩
  ·have h2 := hgs i hil j hj
   rw [hadd] at h2
   rw [← h2, Nat.add_assoc]
  ·rw [hrow i hil j hj]; rfl
end
section
variable {HH : Type} {enc : TypeId × Value → HH} {W : World} {base : Nat} {spare : Nat → Bool} {held : Bool}
theorem j1m : Tryz.prog.cellsOf 43 = 3 := by kernel_rfl
theorem Z1s : Tryz.prog.underlying 43 = some (.struct (Tryz.prog.fieldsOf 43)) := by kernel_rfl
theorem k1d : (Tryz.prog.fieldsOf 43).size = 3 := by kernel_rfl
theorem fld {t i ft fo n : Nat} {xs : List (DataW HH × List MemPlace)} {cs : List Value} (hf : (Tryz.prog.fieldsOf t)[i]? = some ((Tryz.prog.fieldsOf t)[i]!)) (h1 : ((Tryz.prog.fieldsOf t)[i]!).type = ft) (h2 : ((Tryz.prog.fieldsOf t)[i]!).offset = fo)
  (h : ∀ (i : Nat) (f : Field), (Tryz.prog.fieldsOf t)[i]? = some f → DataW.trod enc Tryz.prog W base spare held n f.type ((cs.drop f.offset).take (Tryz.prog.cellsOf f.type)) = xs[i]?) (hi : i < xs.length) :
  ∃ x, DataW.trod enc Tryz.prog W base spare held n ft ((cs.drop fo).take (Tryz.prog.cellsOf ft)) = some x := by
 have := h i _ hf
 rw [h1, h2, List.getElem?_eq_getElem hi] at this
 exact ⟨_, this⟩
end
end Go.Proofs.YtfggdokihnopeaaGreatDoor
end
