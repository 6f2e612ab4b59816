/- A part of the proof. -/
import Derived.Test.YtgblokifbgeegaaGreatDoorCba
set_option linter.unusedVariables false
set_option linter.unusedSimpArgs false
namespace Go.Proofs.YtgblokifbgeegaaGreatDoor.H.S
open Go Go.Vc Go.RowKit Go.Na Go.Lib
set_option maxHeartbeats 8000000
theorem fewB_few {l : List Tr} (h : K1y l = true) : few l ∧ l.length ≤ 1000 := by
 unfold K1y at h
 simp only [Bool.or_eq_true, Bool.and_eq_true, decide_eq_true_eq] at h
 unfold few
 omega
theorem squares_c (d : Tr) (a b : Int) (hd : I64T d) (ha : I64 a) (hb' : I64 b) : CtrA Tryz.prog 3 [zA d a b] (vb true) := by
 have h1 := k0Q d a b hd ha hb'
 have h2 := Y1O d a b hd ha hb'
 have h3 := k1h
 generalize zT d a b = t at h1 h2
 generalize zE d a b = e at h1 h2
 refine j0l _ Tryz.func3 rfl rfl Tryz.ntmps3 rfl fun w Z => ?_
 refine xU ?_
 refine wt ?_
 rw [show (t == t) = true from beq_self_eq_true t]
 refine wt ?_
 rw [show (e == e) = true from beq_self_eq_true e]
 refine wt ?_
 exact xV
theorem widths_c (l : List Tr) : CtrA Tryz.prog 4 [ts l] (vb true) := by
 have h0 := K1z l
 have h3 := k1h
 by_cases hf : K1y l = true
 ·rw [hf] at h0
  obtain ⟨hfw, hn⟩ := fewB_few hf
  have h1 := z0f l hfw
  have h2 := Z1Y l hfw hn
  have h4 := Z0l l hfw
  have h5 := V1v l hfw hn
  have v1 : (cLo l).length ≤ 1000000 := by
   unfold cLo
   split
   ·have := v1h l (lm l) l.length; exact Nat.le_trans this xO
   ·simp
  have v2 : (cHi l).length ≤ 1000000 := by
   unfold cHi
   split
   ·have := q1R l (lm l) l.length; exact Nat.le_trans this xO
   ·simp
  have h6 := X1E (cLo l) v1
  have h7 := X1E (cHi l) v2
  generalize wtx l = t at h1 h2
  generalize x0h l = e at h1 h2 h4 h5
  generalize dW l = d at h1 h2
  generalize aW l = a at h1 h2
  generalize bW l = b at h1 h2
  generalize cLo l = x at h4 h5 h6
  generalize cHi l = y at h4 h5 h7
  refine j0l _ Tryz.func4 rfl rfl Tryz.ntmps4 rfl fun w Z => ?_
  refine xU ?_
  refine wt ?_
  rw [show (t == t) = true from beq_self_eq_true t]
  refine wt ?_
  repeat' (first
    |(refine Q0P (j0w (us := [.int _ _, .int _ _, .int _ _, .int _ _, .int _ _]) rfl rfl rfl rfl) rfl rfl rfl ?_; refine wt ?_)
    |(refine Q0P (V0X (xs := [_, _, _, _, _]) (ys := [_, _, _, _, _]) rfl rfl rfl rfl) rfl rfl rfl ?_; refine wt ?_))
  rw [show ([d.x, d.y, d.z, a, b] == [d.x, d.y, d.z, a, b]) = true from beq_self_eq_true _]
  refine wt ?_
  rw [show (e == e) = true from beq_self_eq_true e]
  refine wt ?_
  rw [show (e == e) = true from beq_self_eq_true e]
  refine wt ?_
  exact xV
 ·rw [show K1y l = false by cases h : K1y l <;> simp_all] at h0
  refine j0l _ Tryz.func4 rfl rfl Tryz.ntmps4 rfl fun w Z => ?_
  refine xU ?_
  refine wt ?_
  exact xV
theorem judges_c (l : List Tr) (t : Int) : CtrA Tryz.prog 5 [ts l, vi t] (vb true) := by
 have h0 := K1z l
 have h3 := k1h
 by_cases hf : K1y l = true
 ·rw [hf] at h0
  obtain ⟨hfw, hn⟩ := fewB_few hf
  have h1 := Y0g l t hfw
  have h2 := Y1P l t hfw hn
  generalize inW l t = b at h1 h2
  generalize q1s l t = e at h1 h2
  refine j0l _ Tryz.func5 rfl rfl Tryz.ntmps5 rfl fun w Z => ?_
  refine xU ?_
  refine wt ?_
  rw [show (b == b) = true from beq_self_eq_true b]
  refine wt ?_
  rw [show (e == e) = true from beq_self_eq_true e]
  refine wt ?_
  exact xV
 ·rw [show K1y l = false by cases h : K1y l <;> simp_all] at h0
  refine j0l _ Tryz.func5 rfl rfl Tryz.ntmps5 rfl fun w Z => ?_
  refine xU ?_
  refine wt ?_
  exact xV
end Go.Proofs.YtgblokifbgeegaaGreatDoor.H.S
