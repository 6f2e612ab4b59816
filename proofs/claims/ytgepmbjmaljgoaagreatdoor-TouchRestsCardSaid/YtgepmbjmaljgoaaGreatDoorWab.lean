/- A part of the proof. -/
import Derived.Test.YtgepmbjmaljgoaaGreatDoorWaa
section
namespace Go.Proofs.YtgepmbjmaljgoaaGreatDoor
open Go Go.Vc Go.RowKit Go.ChangeShapes Go.WideShapes Go.ChangeAt Go.Joins
set_option maxRecDepth 100000
section
variable {HH : Type} {enc : TypeId × Value → HH} {W : World} {base : Nat} {spare : Nat → Bool} {held : Bool}
theorem cells38 : Tryz.prog.cellsOf 38 = 2 := by kernel_rfl
theorem und38 : Tryz.prog.underlying 38 = some (.struct (Tryz.prog.fieldsOf 38)) := by kernel_rfl
theorem fs38 : (Tryz.prog.fieldsOf 38).size = 2 := by kernel_rfl
theorem pp_arg {v : Value} {b0 : Nat} {d : DataW HH} {p : List MemPlace} (hv : Value.okWide Tryz.prog W .any b0 38 v) (h : DataW.Trod enc Tryz.prog W base spare held 38 v d p) : ∃ q : Pt, AV.ok (fun k => k < W.heap.size) W (H.pp q) v := by
 obtain ⟨cs, rfl, hsz⟩ := okWide_struct und38 hv
 obtain ⟨fuel, hf⟩ := h
 obtain ⟨xs, n, _, _, hl, hxl, hel⟩ := DataW.trod_struct und38 hf
 rw [fs38] at hxl
 rw [cells38] at hl
 obtain ⟨cl⟩ := cs
 simp only [Value.cells] at hl hel
 match cl, hl with
 |[c0, c1], _ =>
  obtain ⟨x0, e0⟩ := fld (i := 0) (ft := 3) (fo := 0) (by kernel_rfl) (by kernel_rfl) (by kernel_rfl) hel zO
  obtain ⟨x1, e1⟩ := fld (i := 1) (ft := 3) (fo := 1) (by kernel_rfl) (by kernel_rfl) (by kernel_rfl) hel zO
  rw [cells3] at e0 e1
  obtain ⟨z0, q0, _⟩ := DataW.trod_int und3 e0
  obtain ⟨z1, q1, _⟩ := DataW.trod_int und3 e1
  simp at q0 q1
  subst q0 q1
  exact ⟨⟨z0, z1⟩, rfl⟩
end
end Go.Proofs.YtgepmbjmaljgoaaGreatDoor
end
