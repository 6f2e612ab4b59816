/- A part of the proof. -/
import Derived.Test.YtgblokifbgeegaaGreatDoorCba
set_option linter.unusedVariables false
set_option linter.unusedSimpArgs false
namespace Go.Proofs.YtgblokifbgeegaaGreatDoor.H.S
open Go Go.Vc Go.RowKit Go.Na Go.Lib
set_option maxHeartbeats 8000000
theorem fewB_few {l : List Tr} (h : K1y l = true) : few l ∧ l.length ≤ 1000 := by
 unfold K1y at h
 simp only [Bool.or_eq_true, Bool.and_eq_true, decide_eq_true_eq] at h
 unfold few
 omega
theorem squares_c (d : Tr) (a b : Int) (hd : I64T d) (ha : I64 a) (hb' : I64 b) : CtrA Tryz.prog 3 [zA d a b] (vb true) := by
 have h1 := k0Q d a b hd ha hb'
 have h2 := Y1O d a b hd ha hb'
 have h3 := k1h
 generalize zT d a b = t at h1 h2
 generalize zE d a b = e at h1 h2
 refine j0l _ Tryz.func3 rfl rfl Tryz.ntmps3 rfl fun w Z => ?_
 refine xU ?_
 refine wt ?_
 rw [show (t == t) = true from beq_self_eq_true t]
 refine wt ?_
 rw [show (e == e) = true from beq_self_eq_true e]
 refine wt ?_
 exact xV
theorem widths_c (l : List Tr) : CtrA Tryz.prog 4 [ts l] (vb true) := by
 have h0 := K1z l
 have h3 := k1h
 by_cases hf : K1y l = true
 ·rw [hf] at h0
  obtain ⟨hfw, hn⟩ := fewB_few hf
  have h1 := z0f l hfw
  have h2 := Z1Y l hfw hn
  have h4 := Z0l l hfw
  have h5 := V1v l hfw hn
  have v1 : (cLo l).length ≤ 1000000 := by
   unfold cLo
   split
   ·have := v1h l (lm l) l.length; exact Nat.le_trans this xO
   ·simp
  have v2 : (cHi l).length ≤ 1000000 := by
   unfold cHi
   split
   ·have := q1R l (lm l) l.length; exact Nat.le_trans this xO
   ·simp
  have h6 := X1E (cLo l) v1
  have h7 := X1E (cHi l) v2
  generalize wtx l = t at h1 h2
  generalize x0h l = e at h1 h2 h4 h5
  generalize dW l = d at h1 h2
  generalize aW l = a at h1 h2
  generalize bW l = b at h1 h2
  generalize cLo l = x at h4 h5 h6
  generalize cHi l = y at h4 h5 h7
  refine j0l _ Tryz.func4 rfl rfl Tryz.ntmps4 rfl fun w Z => ?_
  refine xU ?_
  refine wt ?_
  rw [show (t == t) = true from beq_self_eq_true t]
  refine wt ?_
  repeat' (first
    |(refine Q0P (j0w (us := [.int _ _, .int _ _, .int _ _, .int _ _, .int _ _]) rfl rfl rfl rfl) rfl rfl rfl ?_; refine wt ?_)
    |(refine Q0P (V0X (xs := [_, _, _, _, _]) (ys := [_, _, _, _, _]) rfl rfl rfl rfl) rfl rfl rfl ?_; refine wt ?_))
  rw [show ([d.x, d.y, d.z, a, b] == [d.x, d.y, d.z, a, b]) = true from beq_self_eq_true _]
  refine wt ?_
  rw [show (e == e) = true from beq_self_eq_true e]
  refine wt ?_
  rw [show (e == e) = true from beq_self_eq_true e]
  refine wt ?_
  exact xV
 ·rw [show K1y l = false by cases h : K1y l <;> simp_all] at h0
  refine j0l _ Tryz.func4 rfl rfl Tryz.ntmps4 rfl fun w Z => ?_
  refine xU ?_
  refine wt ?_
  exact xV
theorem judges_c (l : List Tr) (t : Int) : CtrA Tryz.prog 5 [ts l, vi t] (vb true) := by
 have h0 := K1z l
 have h3 := k1h
 by_cases hf : K1y l = true
 ·rw [hf] at h0
  obtain ⟨hfw, hn⟩ := fewB_few hf
  have h1 := Y0g l t hfw
  have h2 := Y1P l t hfw hn
  generalize inW l t = b at h1 h2
  generalize q1s l t = e at h1 h2
  refine j0l _ Tryz.func5 rfl rfl Tryz.ntmps5 rfl fun w Z => ?_
  refine xU ?_
  refine wt ?_
  rw [show (b == b) = true from beq_self_eq_true b]
  refine wt ?_
  rw [show (e == e) = true from beq_self_eq_true e]
  refine wt ?_
  exact xV
 ·rw [show K1y l = false by cases h : K1y l <;> simp_all] at h0
  refine j0l _ Tryz.func5 rfl rfl Tryz.ntmps5 rfl fun w Z => ?_
  refine xU ?_
  refine wt ?_
  exact xV
abbrev bt5 (d : Tr) (a b : Int) : AV := .ptr 5 (fun i => .val ([Go.Value.int .i64 d.x, .int .i64 d.y, .int .i64 d.z, .int .i64 a, .int .i64 b].getD i Go.undef))
theorem rcontains_c (l : List Tr) (d : Tr) (a b : Int) (hd : I64T d) (ha : I64 a) (hb' : I64 b) (hn : l.length ≤ 1000) : CtrA Tryz.prog 36 [ts l, zA d a b] (j0m [vb (inZ l d a b), vi (X1F l d a b)]) := by
 have hc := Q0r l hn
 have hr := y1v d a b
 have hE : X1F l d a b = if q0B l = 0 then zE d a b else q0B l := rfl
 have hI : inZ l d a b = if X1F l d a b = 0 then l.all (y1e d a b) else false := rfl
 generalize inZ l d a b = q at hI ⊢
 generalize X1F l d a b = E at hE hI ⊢
 refine j0l _ Tryz.func36 rfl rfl Tryz.ntmps36 rfl fun w Z => ?_
 by_cases h0 : q0B l = 0
 ·rw [if_pos h0] at hE
  rw [h0] at hc
  have hln := (RT.of h0).2
  have hl := (RT.of h0).1
  rw [← hE] at hr
  by_cases he : E = 0
  ·rw [if_pos he] at hI
   rw [he] at hr ⊢
   have w1 := y0S a ha
   have w2 := y0S b hb'
   refine xU ?_
   refine wt ?_
   refine j0f (γ := Nat) (fun k => [(0, .av (ts l)), (3, .av (bt5 d a b)), (8, .av (vi k))]) (fun _ => []) (fun k => k ≤ l.length ∧ ∀ j, j < k → y1e d a b (gt l j) = true) (fun k => l.length - k) 0 ⟨Nat.zero_le _, fun j hj => absurd hj (Nat.not_lt_zero j)⟩ (ent xS trivial) ?_
   rintro k ⟨hk, hin⟩
   refine wt ?_
   (refine j0a rfl ?_ ?_ <;> intro hb <;> (try simp only [xA, xB, xG, xC, xD, xN] at hb) <;> (try exact xQ))
   ·have hkl : k < l.length := by omega
    have hp := hl k
    have hib : y1e d a b (gt l k) = (decide (a ≤ j0c d (gt l k)) && decide (j0c d (gt l k) ≤ b)) := rfl
    have hall : y1e d a b (gt l k) = false → q = false := fun hf => by
     rw [hI]
     cases hq : l.all (y1e d a b) with
     |false => rfl
     |true => have := y1Y.1 hq k hkl; rw [hf] at this; cases this
    have hs := Y1x (z1X hp) hd
    have h3 := j2p (gt l k) d
    have hnew : y1e d a b (gt l k) = true → ∀ j, j < k + 1 → y1e d a b (gt l j) = true := fun hg j hj => by
     by_cases e : j = k
     ·rw [e]; exact hg
     ·exact hin j xO
    have hs3 := hs 3 xO
    rw [h3] at hs3
    have y1 := k1K (gt l k) d hp hd
    rw [q0g (gt l k) d] at y1
    have c1 := K1D (j0c d (gt l k)) a (hs3.mono xE) (ha.li.mono xE)
    have c2 := K1D (j0c d (gt l k)) b (hs3.mono xE) (hb'.li.mono xE)
    have s1 := Y1T (j0c d (gt l k) - a)
    have s2 := Y1S (j0c d (gt l k) - b)
    generalize Na.sgn (j0c d (gt l k) - a) = x1 at c1 s1
    generalize Na.sgn (j0c d (gt l k) - b) = x2 at c2 s2
    by_cases q1 : j0c d (gt l k) < a
    ·rw [decide_eq_true (show j0c d (gt l k) - a < 0 by omega)] at s1
     rw [hall (by rw [hib, decide_eq_false (by omega)]; rfl)]
     refine wt ?_
     rw [s1]
     refine wt ?_
     exact xW
    ·rw [decide_eq_false (show ¬ j0c d (gt l k) - a < 0 by omega)] at s1
     by_cases q2 : b < j0c d (gt l k)
     ·rw [decide_eq_true (show 0 < j0c d (gt l k) - b by omega)] at s2
      rw [hall (by rw [hib, decide_eq_false (show ¬ j0c d (gt l k) ≤ b by omega), Bool.and_false])]
      refine wt ?_
      rw [s1]
      refine wt ?_
      rw [s2]
      refine wt ?_
      exact xW
     ·rw [decide_eq_false (show ¬ 0 < j0c d (gt l k) - b by omega)] at s2
      have hgood : y1e d a b (gt l k) = true := by rw [hib, decide_eq_true (by omega), decide_eq_true (by omega)]; rfl
      refine wt ?_
      rw [s1]
      refine wt ?_
      rw [s2]
      refine wt ?_
      exact j0b (k + 1) ⟨by omega, hnew hgood⟩ xO (ent xS trivial)
   ·obtain rfl : k = l.length := by omega
    rw [y1Y.2 hin] at hI
    rw [hI]
    refine wt ?_
    exact xW
  ·rw [if_neg he] at hI
   rw [hI]
   refine xU ?_
   refine wt ?_
   (refine j0a rfl ?_ ?_ <;> intro hb <;> (try simp only [xA, xB, xG, xC, xD, xN] at hb) <;> (try exact xQ))
   refine wt ?_
   exact xW
 ·rw [if_neg h0] at hE
  rw [hE, if_neg h0] at hI
  rw [hE, hI]
  generalize q0B l = e at h0 hc ⊢
  refine xU ?_
  refine wt ?_
  (refine j0a rfl ?_ ?_ <;> intro hb <;> (try simp only [xA, xB, xG, xC, xD, xN] at hb) <;> (try exact xQ))
  refine wt ?_
  exact xW
theorem zones_c (l : List Tr) (d z : Tr) (a b : Int) (hz : I64T z) (ha : I64 a) (hb' : I64 b) : CtrA Tryz.prog 8 [ts l, tp d, zA z a b] (vb true) := by
 have h0 := K1z l
 have h3 := k1h
 by_cases hf : K1y l = true
 ·rw [hf] at h0
  obtain ⟨hfw, hn⟩ := fewB_few hf
  have h1 := w1Z l d
  have h2 := W1K l d hn
  have h4 := W1y l z a b hz ha hb'
  have h5 := rcontains_c l z a b hz ha hb' hn
  generalize x1d l d = e at h1 h2
  generalize dA l d = u at h1 h2
  generalize aA l d = p at h1 h2
  generalize bA l d = q at h1 h2
  generalize X1F l z a b = f at h4 h5
  generalize inZ l z a b = x at h4 h5
  refine j0l _ Tryz.func8 rfl rfl Tryz.ntmps8 rfl fun w Z => ?_
  refine xU ?_
  refine wt ?_
  repeat' (first
    |(refine j0o (V0X (xs := [_, _, _, _, _]) (ys := [_, _, _, _, _]) rfl rfl rfl rfl) rfl ?_; refine wt ?_))
  rw [show ([u.x, u.y, u.z, p, q] == [u.x, u.y, u.z, p, q]) = true from beq_self_eq_true _]
  refine wt ?_
  rw [show (e == e) = true from beq_self_eq_true e]
  refine wt ?_
  rw [show (x == x) = true from beq_self_eq_true x]
  refine wt ?_
  rw [show (f == f) = true from beq_self_eq_true f]
  refine wt ?_
  exact xV
 ·rw [show K1y l = false by cases h : K1y l <;> simp_all] at h0
  refine j0l _ Tryz.func8 rfl rfl Tryz.ntmps8 rfl fun w Z => ?_
  refine xU ?_
  refine wt ?_
  exact xV
end Go.Proofs.YtgblokifbgeegaaGreatDoor.H.S
