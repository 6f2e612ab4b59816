/- A part of the proof. -/
import Derived.Test.YtgblokifbgeegaaGreatDoorDak
import Derived.Test.YtgblokifbgeegaaGreatDoorDax
section
namespace Go.Proofs.YtgblokifbgeegaaGreatDoor
open Go Go.Vc Go.RowKit Go.ChangeShapes Go.WideShapes Go.ChangeAt Go.Joins
set_option maxRecDepth 100000
section
variable {H : Type} {enc : TypeId × Value → H} {P : Program} {W : World} {base : Nat} {spare : Nat → Bool} {held : Bool}
end
section
variable {HH : Type} {enc : TypeId × Value → HH} {W : World} {base : Nat} {spare : Nat → Bool} {held : Bool}
theorem j2G : Tryz.prog.underlying 5 = some (.int .u8) := by kernel_rfl
theorem j1k {w : World} {r : Reach} {b0 : Nat} {P : Program} {t n e : TypeId} {v : Value} (ht : P.underlying t = some (.array n e)) (h : Value.okWide P w r b0 t v) : ∃ cs, v = .agg cs ∧ cs.size = P.cellsOf t := by
 simp only [Value.okWide, ht] at h
 obtain ⟨cs, h1, h2, _⟩ := h
 exact ⟨cs, h1, h2⟩
theorem wf_u8 {n : Int} (h : (Lit.int .u8 n).wf = true) : 0 ≤ n ∧ n ≤ 255 := by
 have h' : (decide (IntKind.min .u8 ≤ n) && decide (n ≤ IntKind.max .u8)) = true := h
 rw [Bool.and_eq_true, decide_eq_true_eq, decide_eq_true_eq] at h'
 have e1 : IntKind.min .u8 = 0 := by decide
 have e2 : IntKind.max .u8 = 255 := by decide
 omega
end
end Go.Proofs.YtgblokifbgeegaaGreatDoor
end
