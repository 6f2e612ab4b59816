/- A part of the proof. -/
import Derived.Test.YtgblokifbgeegaaGreatDoorEag
set_option linter.unusedVariables false
set_option linter.unusedSimpArgs false
namespace Go.Proofs.YtgblokifbgeegaaGreatDoor
open Go Go.Vc Go.RowKit Go.Na Go.Lib
set_option maxHeartbeats 4000000
theorem z1d (m : Int) : (itoa m == [49]) = decide (m = 1) := by
 by_cases h : m = 1
 ·rw [h, k0I]; rfl
 ·rw [decide_eq_false h, beq_eq_false_iff_ne, ← k0I]
  exact fun e => h (x0b e)
theorem W1X (l : List UInt8) : (spN l).length ≤ l.length := by
 unfold spN; split
 ·simp; omega
 ·exact Nat.le_refl _
theorem W1W (l : List UInt8) : (spD l).length ≤ l.length + 1 := by
 unfold spD; split
 ·simp; omega
 ·simp
theorem V0L {m : Int} {k : Nat} (h : (itoa m).length ≤ k) : LI k m := .of_len (by
 by_cases hm : m < 0
 ·rw [itoa_neg hm] at h; simp at h; omega
 ·rw [itoa_pos hm] at h; exact h)
theorem y0p (l : List UInt8) (hl : l.length ≤ 400) : CtrA Tryz.prog 40 [vS l] (vi (K1r l)) := by
 have h1 := x1h l zO
 have h2 := w1Y l zO
 have ln := W1X l
 have ld := W1W l
 have c1 := V0C (spN l) zO
 have c2 := V0C (spD l) zO
 rcases X0u (l := spN l) zO with e1 | e1
 case inr =>
  rw [e1] at c1
  refine j0p _ Tryz.func40 rfl rfl Tryz.ntmps40 rfl fun w Z => ?_
  refine zU ?_
  refine wk ?_
  exact j0e rfl (.tmp rfl) (congrArg vi (J0i fun h => by
   obtain ⟨m, hm⟩ := (Q0l _).1 (Q0m h).1
   rw [hm, Y0H (V0L (by rw [← hm]; omega))] at e1
   cases e1).symm)
 obtain ⟨m, hm⟩ := Z0T e1
 rcases X0u (l := spD l) zO with e2 | e2
 case inr =>
  rw [e1] at c1
  rw [e2] at c2
  refine j0p _ Tryz.func40 rfl rfl Tryz.ntmps40 rfl fun w Z => ?_
  refine zU ?_
  refine wk ?_
  exact j0e rfl (.tmp rfl) (congrArg vi (J0i fun h => by
   obtain ⟨m, hm⟩ := (Q0l _).1 (Q0m h).2
   rw [hm, Y0H (V0L (by rw [← hm]; omega))] at e2
   cases e2).symm)
 obtain ⟨e, he⟩ := Z0T e2
 rw [e1] at c1
 rw [e2] at c2
 have hs1 : spN l = match spI l with | some i => l.take i | none => l := rfl
 have hs2 : spD l = match spI l with | some i => l.drop (i + 1) | none => [49] := rfl
 unfold spZ at h2
 cases hI : spI l with
 |none =>
  rw [hI] at h2 hs1
  dsimp only at h2 hs1
  refine j0p _ Tryz.func40 rfl rfl Tryz.ntmps40 rfl fun w Z => ?_
  refine zU ?_
  refine wk ?_
  exact j0e rfl (.tmp rfl) (congrArg vi (by rw [← hs1, hm]; exact (if_pos (v1K m)).symm))
 |some i =>
  rw [hI] at h2 hs1 hs2
  dsimp only at h2 hs1 hs2
  obtain ⟨hl2, _, hil⟩ := Q1i hI
  rw [← hs1, ← hs2, hm, he] at hl2
  have hiff := v1J m e
  rw [← hl2] at hiff
  rw [hm] at h1 c1
  rw [he] at h1 c2
  have lm : LI 401 m := V0L (by rw [← hm]; omega)
  have le : LI 401 e := V0L (by rw [← he]; omega)
  have ho := order_c e 1 (le.mono zE) (.small zE zE)
  rw [show vI 1 = vS [49] by rw [vI, k0I]] at ho
  have hsh := z1z m e (lm.mono zE) (le.mono zE)
  have h49 := z1d ((Int.gcd m e : Nat) : Int)
  by_cases h0 : 1 < e
  ·have es : sgn (e - 1) = 1 := by unfold sgn; rw [if_neg (by omega), if_neg (by omega)]
   rw [es] at ho
   by_cases hg : Int.gcd m e = 1
   ·rw [decide_eq_true (by omega)] at h49
    refine j0p _ Tryz.func40 rfl rfl Tryz.ntmps40 rfl fun w Z => ?_
    refine zU ?_
    refine wk ?_
    rw [h49]
    refine wk ?_
    exact j0e rfl (.tmp rfl) (congrArg vi (if_pos (hiff.2 ⟨h0, hg⟩)).symm)
   ·rw [decide_eq_false (by omega)] at h49
    refine j0p _ Tryz.func40 rfl rfl Tryz.ntmps40 rfl fun w Z => ?_
    refine zU ?_
    refine wk ?_
    rw [h49]
    refine wk ?_
    exact j0e rfl (.tmp rfl) (congrArg vi (J0i fun h => hg (hiff.1 h).2).symm)
  ·have hbad : K1r l = 3 := J0i fun h => h0 (hiff.1 h).1
   rw [hbad]
   by_cases h1' : e = 1
   ·have es : sgn (e - 1) = 0 := by unfold sgn; rw [if_pos (by omega)]
    rw [es] at ho
    refine j0p _ Tryz.func40 rfl rfl Tryz.ntmps40 rfl fun w Z => ?_
    refine zU ?_
    refine wk ?_
    exact zV
   ·have es : sgn (e - 1) = -1 := by unfold sgn; rw [if_neg (by omega), if_pos (by omega)]
    rw [es] at ho
    refine j0p _ Tryz.func40 rfl rfl Tryz.ntmps40 rfl fun w Z => ?_
    refine zU ?_
    refine wk ?_
    exact zV
end Go.Proofs.YtgblokifbgeegaaGreatDoor
