/- A part of the proofs that the laws of touch return true at every input and that the input reads behind the call as it read before; this part states nothing of its own that is claimed. -/
import Derived.Test.YtgepmbjmaljgoaaGreatDoorCas
set_option linter.unusedVariables false
set_option linter.unusedSimpArgs false
section
namespace Go.Proofs.YtgepmbjmaljgoaaGreatDoor
open Go Go.Vc Go.RowKit Go.ChangeShapes Go.WideShapes Go.ChangeAt Go.Joins
set_option maxRecDepth 100000
theorem cell_lt {w : World} {a : Addr} {v : Value} (h : w.cell? a = some v) : a.block < w.heap.size ∧ a.spot = none := by
  unfold World.cell? at h
  split at h
  · rename_i hb
    refine ⟨(Array.getElem?_eq_some_iff.1 hb).1, ?_⟩
    split at h
    · cases h
    · rename_i hs; simpa using hs
  · cases h
section
variable {H : Type} {enc : TypeId × Value → H} {P : Program} {W : World} {base : Nat} {spare : Nat → Bool} {held : Bool}
theorem sl_of {t e sz : Nat} {fuel : Nat} {cs : List Value} {x : DataW H × List MemPlace} (ht : P.underlying t = some (.slice e)) (hC : P.cellsOf e = sz) (hs0 : 0 < sz)
    (hel : ∀ n cs' y, DataW.trod enc P W base spare held n e cs' = some y → ∃ g : Nat → Int, ∀ j, j < sz → cs'[j]? = some (.int .i64 (g j)))
    (h : DataW.trod enc P W base spare held fuel t cs = some x) :
    ∃ (v : Value) (n : Nat) (g : Nat → Nat → Int), cs = [v] ∧ ∀ row : Nat → Nat → AV, (∀ i, i < n → ∀ j, j < sz → row i j = .val (.int .i64 (g i j))) → AV.ok (fun k => k < W.heap.size) W (.sl n sz row) v := by
  rcases Go.Deep.open_slice ht h with h0 | ⟨a, len, cap, m, n, D, Pl, hcs, hb, hl, hm, hmm, hx, hi⟩
  · exact ⟨_, 0, fun _ _ => 0, h0.1, fun row _ => ⟨none, 0, rfl, by omega, by decide, by simp⟩⟩
  · have hg : ∀ i, i < len → ∃ g : Nat → Int, ∀ j, j < sz → W.cell? (a.add (i * sz + j)) = some (.int .i64 (g j)) := by
      intro i hil
      have him : i < m := by rw [hmm]; split <;> omega
      obtain ⟨cs', hc, ht'⟩ := hi i him
      rw [hC] at hc
      obtain ⟨g, hgj⟩ := hel _ _ _ ht'
      obtain ⟨_, hcl, hat⟩ := World.cells?_some hc
      refine ⟨g, fun j hj => ?_⟩
      have hcell := hat j hj
      have h1 := hgj j hj
      rw [← Go.Deep.add_add, hcell]
      have hv : cs'[j]? = some (cs'[j]'(by omega)) := List.getElem?_eq_getElem (by omega)
      rw [hv] at h1
      rw [← h1]
      simp [hv]
    let g : Nat → Nat → Int := fun i => if hil : i < len then (hg i hil).choose else fun _ => 0
    have hgs : ∀ i, i < len → ∀ j, j < sz → W.cell? (a.add (i * sz + j)) = some (.int .i64 (g i j)) := by
      intro i hil
      have := (hg i hil).choose_spec
      simpa [g, hil] using this
    refine ⟨_, len, g, hcs, fun row hrow => ⟨some a, cap, rfl, hl, hm, fun hn => ?_⟩⟩
    obtain ⟨b, o, s⟩ := a
    have h0 := hgs 0 hn 0 hs0
    rw [Nat.zero_mul, Nat.zero_add, show (Addr.mk b o s).add 0 = ⟨b, o, s⟩ from rfl] at h0
    obtain ⟨hbl, hs⟩ := cell_lt h0
    dsimp only at hbl hs
    subst hs
    have hadd : ∀ k, (Addr.mk b o none).add k = ⟨b, o + k, none⟩ := fun k => by
      unfold Addr.add; split
      · subst k; rfl
      · rfl
    refine ⟨b, o, rfl, fun _ => hbl, hbl, fun i hil j hj => ⟨.int .i64 (g i j), ?_, ?_⟩⟩
    · have h2 := hgs i hil j hj
      rw [hadd] at h2
      rw [← h2, Nat.add_assoc]
    · rw [hrow i hil j hj]; rfl
end
section
variable {HH : Type} {enc : TypeId × Value → HH} {W : World} {base : Nat} {spare : Nat → Bool} {held : Bool}
theorem cells42 : Tryz.prog.cellsOf 42 = 5 := by kernel_rfl
theorem cells51 : Tryz.prog.cellsOf 51 = 3 := by kernel_rfl
theorem cells39 : Tryz.prog.cellsOf 39 = 1 := by kernel_rfl
theorem cells40 : Tryz.prog.cellsOf 40 = 1 := by kernel_rfl
theorem und39 : Tryz.prog.underlying 39 = some .string := by kernel_rfl
theorem und40 : Tryz.prog.underlying 40 = some (.slice 3) := by kernel_rfl
theorem und42 : Tryz.prog.underlying 42 = some (.struct (Tryz.prog.fieldsOf 42)) := by kernel_rfl
theorem und51 : Tryz.prog.underlying 51 = some (.struct (Tryz.prog.fieldsOf 51)) := by kernel_rfl
theorem fs42 : (Tryz.prog.fieldsOf 42).size = 5 := by kernel_rfl
theorem fs51 : (Tryz.prog.fieldsOf 51).size = 3 := by kernel_rfl
theorem fld {t i ft fo n : Nat} {xs : List (DataW HH × List MemPlace)} {cs : List Value} (hf : (Tryz.prog.fieldsOf t)[i]? = some ((Tryz.prog.fieldsOf t)[i]!)) (h1 : ((Tryz.prog.fieldsOf t)[i]!).type = ft) (h2 : ((Tryz.prog.fieldsOf t)[i]!).offset = fo)
    (h : ∀ (i : Nat) (f : Field), (Tryz.prog.fieldsOf t)[i]? = some f → DataW.trod enc Tryz.prog W base spare held n f.type ((cs.drop f.offset).take (Tryz.prog.cellsOf f.type)) = xs[i]?) (hi : i < xs.length) :
    ∃ x, DataW.trod enc Tryz.prog W base spare held n ft ((cs.drop fo).take (Tryz.prog.cellsOf ft)) = some x := by
  have := h i _ hf
  rw [h1, h2, List.getElem?_eq_getElem hi] at this
  exact ⟨_, this⟩
theorem plane_arg {v : Value} {b0 : Nat} {d : DataW HH} {p : List MemPlace} (hv : Value.okWide Tryz.prog W .any b0 42 v) (h : DataW.Trod enc Tryz.prog W base spare held 42 v d p) :
    ∃ (a : Int) (A B C : List UInt8) (L : List Int), A.length ≤ maxLen ∧ B.length ≤ maxLen ∧ C.length ≤ maxLen ∧ L.length ≤ maxLen ∧ AV.ok (fun k => k < W.heap.size) W (H.pA a A B C (H.ixs L)) v := by
  obtain ⟨cs, rfl, hsz⟩ := okWide_struct und42 hv
  obtain ⟨fuel, hf⟩ := h
  obtain ⟨xs, n, _, _, hl, hxl, hel⟩ := DataW.trod_struct und42 hf
  rw [fs42] at hxl
  rw [cells42] at hl
  obtain ⟨cl⟩ := cs
  simp only [Value.cells] at hl hel
  match cl, hl with
  | [c0, c1, c2, c3, c4], _ =>
    obtain ⟨x0, e0⟩ := fld (i := 0) (ft := 3) (fo := 0) (by kernel_rfl) (by kernel_rfl) (by kernel_rfl) hel (by omega)
    obtain ⟨x1, e1⟩ := fld (i := 1) (ft := 39) (fo := 1) (by kernel_rfl) (by kernel_rfl) (by kernel_rfl) hel (by omega)
    obtain ⟨x2, e2⟩ := fld (i := 2) (ft := 39) (fo := 2) (by kernel_rfl) (by kernel_rfl) (by kernel_rfl) hel (by omega)
    obtain ⟨x3, e3⟩ := fld (i := 3) (ft := 39) (fo := 3) (by kernel_rfl) (by kernel_rfl) (by kernel_rfl) hel (by omega)
    obtain ⟨x4, e4⟩ := fld (i := 4) (ft := 40) (fo := 4) (by kernel_rfl) (by kernel_rfl) (by kernel_rfl) hel (by omega)
    rw [cells3] at e0
    rw [cells39] at e1 e2 e3
    rw [cells40] at e4
    obtain ⟨z0, q0, _⟩ := DataW.trod_int und3 e0
    obtain ⟨s1, q1, _, l1⟩ := DataW.trod_string und39 e1
    obtain ⟨s2, q2, _, l2⟩ := DataW.trod_string und39 e2
    obtain ⟨s3, q3, _, l3⟩ := DataW.trod_string und39 e3
    obtain ⟨v4, m, g, q4, hrow⟩ := sl_of und40 cells3 (by decide) (fun n cs' y hy => by
      obtain ⟨z, rfl, _⟩ := DataW.trod_int und3 hy
      exact ⟨fun _ => z, fun j hj => by obtain rfl : j = 0 := by omega
                                        rfl⟩) e4
    simp at q0 q1 q2 q3 q4
    subst q0 q1 q2 q3 q4
    have hL : ((List.range m).map (fun i => g i 0)).length = m := by simp
    have hgz : ∀ i, i < m → ∀ j, j < 1 → H.zf ((List.range m).map (fun i => g i 0)) i j = .val (.int .i64 (g i j)) := fun i hi j hj => by
      obtain rfl : j = 0 := by omega
      simp [H.zf, H.gz, hi]
    have hk := hrow _ hgz
    have hbs : ∀ s : ByteArray, bs s.data.toList = s := fun s => by obtain ⟨⟨l⟩⟩ := s; rfl
    refine ⟨z0, s1.data.toList, s2.data.toList, s3.data.toList, (List.range m).map (fun i => g i 0), ?_, ?_, ?_, ?_, ?_⟩
    · simpa using l1
    · simpa using l2
    · simpa using l3
    · rw [hL]
      obtain ⟨a', c', e', h1', h2', _⟩ := hk
      omega
    · refine ⟨_, rfl, rfl, fun i hi => ?_⟩
      rcases (by omega : i = 0 ∨ i = 1 ∨ i = 2 ∨ i = 3 ∨ i = 4) with rfl | rfl | rfl | rfl | rfl
      · exact ⟨_, rfl, rfl⟩
      · exact ⟨_, rfl, by show Value.string s1 = .string (bs s1.data.toList); rw [hbs]⟩
      · exact ⟨_, rfl, by show Value.string s2 = .string (bs s2.data.toList); rw [hbs]⟩
      · exact ⟨_, rfl, by show Value.string s3 = .string (bs s3.data.toList); rw [hbs]⟩
      · refine ⟨_, rfl, ?_⟩
        show AV.ok _ W (.sl ((List.range m).map (fun i => g i 0)).length 1 _) _
        rw [hL]
        exact hk
end
end Go.Proofs.YtgepmbjmaljgoaaGreatDoor
end
