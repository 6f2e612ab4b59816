/- A part of the proof. -/
import Derived.Lib.SlicesCompact
import Derived.Test.YtgblokifbgeegaaGreatDoorEas
import Derived.Test.YtgblokifbgeegaaGreatDoorEav
set_option linter.unusedVariables false
set_option linter.unusedSimpArgs false
namespace Go.Proofs.YtgblokifbgeegaaGreatDoor.H.S
open Go Go.Vc Go.RowKit
set_option maxHeartbeats 1000000
def dv (l : List Tr) (v i : Nat) : Tr := j0E (gt l i) (gt l v)
def lc (a b : Int) (u v : Tr) : Tr := ⟨a * u.x + b * v.x, a * u.y + b * v.y, a * u.z + b * v.z⟩
theorem X0N (a b : Int) (u v p : Tr) : j0b (lc a b u v) p = a * j0b u p + b * j0b v p := by simp only [lc, j0b]; grind
theorem k0e (a b : Int) (u v p : Tr) : j0b p (lc a b u v) = a * j0b p u + b * j0b p v := by simp only [lc, j0b]; grind
theorem V1t (l : List Tr) (v : Nat) : dv l v v = tz := K0y _
theorem X1S {l : List Tr} {v i : Nat} (h : dv l v i = tz) : gt l i = gt l v := Q1w h
theorem K1F {l : List Tr} {v i : Nat} (h : gt l i ≠ gt l v) : dv l v i ≠ tz := fun e => h (X1S e)
theorem j0m (n : Tr) (l : List Tr) (v i : Nat) : j0b n (dv l v i) = j0b n (gt l i) - j0b n (gt l v) := by simp only [dv, j0b, j0E]; grind
theorem y0c (a : Int) : 0 ≤ a * a := by
 rcases (by omega : 0 ≤ a ∨ a ≤ 0) with h | h
 ·exact Int.mul_nonneg h h
 ·exact Int.mul_nonneg_of_nonpos_of_nonpos h h
theorem X1c {a : Int} (h : a ≠ 0) : 0 < a * a := by
 rcases (by omega : 0 < a ∨ a < 0) with h | h
 ·exact Int.mul_pos h h
 ·exact Int.mul_pos_of_neg_of_neg h h
theorem q0j {n : Tr} (h : n ≠ tz) : 0 < j0b n n := by
 have h1 := y0c n.x; have h2 := y0c n.y; have h3 := y0c n.z
 unfold j0b
 rcases j1B h with h | h | h
 ·have := X1c h; omega
 ·have := X1c h; omega
 ·have := X1c h; omega
theorem q0i (a b : Tr) : j0b a b = j0b b a := by unfold j0b; grind
theorem W0C {d w : Tr} (hd : d ≠ tz) (h1 : tcr d w = tz) (h2 : j0b d w = 0) : w = tz := by
 have h3 : j0b w w = 0 := w1j hd h1 (by rw [q0i]; exact h2)
 refine Classical.byContradiction fun h => ?_
 have := q0j h
 omega
theorem W0U (d a b : Tr) (h1 : j0b d a = 0) (h2 : j0b d b = 0) : tcr d (tcr a b) = tz := by
 simp only [j0b] at h1 h2
 simp only [tcr, tz, Tr.mk.injEq]; refine ⟨?_, ?_, ?_⟩ <;> grind
theorem W0b {d a b : Tr} (hd : d ≠ tz) (h1 : j0b d a = 0) (h2 : j0b d b = 0) (h : det d a b = 0) : tcr a b = tz := by
 refine W0C hd (W0U d a b h1 h2) ?_
 have e : j0b d (tcr a b) = det d a b := by simp only [det, j0b, tcr]; grind
 rw [e, h]
theorem j2E {l : List Tr} {v : Nat} {n c : Tr} (hn : ∀ i, i < l.length → j0b n (dv l v i) ≤ 0) (hc : ∀ i, i < l.length → j0b n (dv l v i) = 0 → j0b c (dv l v i) ≤ 0) (hj : ∃ j, j < l.length ∧ j0b n (dv l v j) < 0) :
  ∃ j, j < l.length ∧ j0b n (dv l v j) < 0 ∧ ∀ i, i < l.length → j0b c (dv l v j) * j0b n (dv l v i) - j0b n (dv l v j) * j0b c (dv l v i) ≤ 0 := by
 obtain ⟨j, h1, h2, h3⟩ := x1F (P := fun i => i < l.length ∧ j0b n (dv l v i) < 0) (R := fun j i => j0b c (dv l v j) * j0b n (dv l v i) - j0b n (dv l v j) * j0b c (dv l v i) ≤ 0)
  (fun i j _ _ => by
   generalize j0b n (dv l v i) = A; generalize j0b n (dv l v j) = B; generalize j0b c (dv l v i) = C; generalize j0b c (dv l v j) = D
   have : C * B - A * D = -(D * A - B * C) := by grind
   omega) (fun i j k hi hj hk h1 h2 => by
   have p1 := hi.2; have p2 := hj.2; have p3 := hk.2
   generalize j0b n (dv l v i) = A at *; generalize j0b n (dv l v j) = B at *; generalize j0b n (dv l v k) = C at *
   generalize j0b c (dv l v i) = X at *; generalize j0b c (dv l v j) = Y at *; generalize j0b c (dv l v k) = Z at *
   have e : (-B) * (-(X * C - A * Z)) = (-C) * (-(X * B - A * Y)) + (-A) * (-(Y * C - B * Z)) := by grind
   have q1 := Int.mul_nonneg (show 0 ≤ -C by omega) (show 0 ≤ -(X * B - A * Y) by omega)
   have q2 := Int.mul_nonneg (show 0 ≤ -A by omega) (show 0 ≤ -(Y * C - B * Z) by omega)
   have := Q0o (a := -B) (b := -(X * C - A * Z)) xO xO
   omega) l.length (by obtain ⟨j, a, b⟩ := hj; exact ⟨j, a, a, b⟩)
 refine ⟨j, h1, h2.2, fun i hi => ?_⟩
 rcases (by have := hn i hi; omega : j0b n (dv l v i) < 0 ∨ j0b n (dv l v i) = 0) with h | h
 ·exact h3 i hi ⟨hi, h⟩
 ·rw [h, Int.mul_zero]
  have a := hc i hi h
  have := Int.mul_nonneg_of_nonpos_of_nonpos (Int.le_of_lt h2.2) a
  omega
theorem W0k {l : List Tr} (hS : Sol l) {v p q : Nat} (hv : v < l.length) (hp : p < l.length) (hq : q < l.length) {g : Tr} (hg : ∀ i, i < l.length → j0b g (dv l v i) ≤ 0) (h0 : g ≠ tz) (gp : j0b g (dv l v p) = 0) (gq : j0b g (dv l v q) = 0) (hn : tcr (dv l v p) (dv l v q) ≠ tz) :
  ∃ f, f ∈ j0i l ∧ v ∈ f.s ∧ (∃ a b : Int, 0 < a ∧ 0 < b ∧ ∀ z, a * j0b g z = b * j0b f.n z) := by
 obtain ⟨i, hi, hne⟩ := z0c hS h0 (j0b g (gt l v))
 have hneg : j0b g (dv l v i) < 0 := by have := hg i hi; rw [j0m] at *; omega
 have main : ∀ p q, p < l.length → q < l.length → j0b g (dv l v p) = 0 → j0b g (dv l v q) = 0 → tcr (dv l v p) (dv l v q) ≠ tz → det (dv l v p) (dv l v q) (dv l v i) < 0 → ∃ f, f ∈ j0i l ∧ v ∈ f.s ∧ (∃ a b : Int, 0 < a ∧ 0 < b ∧ ∀ z, a * j0b g z = b * j0b f.n z) := by
  intro p q hp hq gp gq hn hd
  have ht : tac (gt l v) (gt l p) (gt l q) = tcr (dv l v p) (dv l v q) := rfl
  have hn' : tac (gt l v) (gt l p) (gt l q) ≠ tz := by rw [ht]; exact hn
  obtain ⟨k, hk, hkd⟩ := Q0N hn'
  have hr : ∀ z, (-(det (dv l v p) (dv l v q) (dv l v i))) * j0b g z = (-(j0b g (dv l v i)) * k) * j0b (tpr (tac (gt l v) (gt l p) (gt l q))) z := fun z => by
   have e := V1o g (dv l v p) (dv l v q) z (dv l v i) gp gq
   have e2 := hkd z
   rw [show j0b (tac (gt l v) (gt l p) (gt l q)) z = det (dv l v p) (dv l v q) z from rfl] at e2
   rw [Int.mul_assoc, ← e2]
   have : j0b g z * det (dv l v p) (dv l v q) (dv l v i) = j0b g (dv l v i) * det (dv l v p) (dv l v q) z := by
    have := V1o g (dv l v p) (dv l v q) z (dv l v i) gp gq
    grind
   grind
  have hb : 0 < -(j0b g (dv l v i)) * k := Int.mul_pos xO hk
  have hle : ∀ j, j < l.length → j0b (tpr (tac (gt l v) (gt l p) (gt l q))) (gt l j) ≤ j0b (tpr (tac (gt l v) (gt l p) (gt l q))) (gt l v) := fun j hj => by
   have e := hr (dv l v j)
   have h1 := Int.mul_nonpos_of_nonneg_of_nonpos (show 0 ≤ -(det (dv l v p) (dv l v q) (dv l v i)) by omega) (hg j hj)
   rw [e] at h1
   have h2 := Q0o (b := - j0b (tpr (tac (gt l v) (gt l p) (gt l q))) (dv l v j)) hb (by rw [Int.mul_neg]; omega)
   rw [j0m] at h2
   omega
  refine ⟨⟨tpr (tac (gt l v) (gt l p) (gt l q)), j0b (tpr (tac (gt l v) (gt l p) (gt l q))) (gt l v), Q0w l (tpr (tac (gt l v) (gt l p) (gt l q))) (j0b (tpr (tac (gt l v) (gt l p) (gt l q))) (gt l v)) l.length⟩, (z0w hS _).2 ⟨⟨hle, rfl, v, hv, rfl⟩, v, p, q, ⟨hv, hp, hq, hn', rfl, hle⟩⟩, v0O.2 ⟨hv, rfl⟩, _, _, ?_, hb, hr⟩
  omega
 have hd0 : det (dv l v p) (dv l v q) (dv l v i) ≠ 0 := fun e => by
  obtain ⟨j, hj, hjn⟩ := z0c hS hn (j0b (tcr (dv l v p) (dv l v q)) (gt l v))
  have h1 := V1o g (dv l v p) (dv l v q) (dv l v i) (dv l v j) gp gq
  rw [e, Int.mul_zero] at h1
  have h2 : det (dv l v p) (dv l v q) (dv l v j) ≠ 0 := fun e2 => hjn (by
   unfold det at e2
   rw [j0m] at e2
   omega)
  rcases Int.mul_eq_zero.1 h1 with h | h
  ·omega
  ·exact h2 h
 rcases (by omega : det (dv l v p) (dv l v q) (dv l v i) < 0 ∨ 0 < det (dv l v p) (dv l v q) (dv l v i)) with h | h
 ·exact main p q hp hq gp gq hn h
 ·have e1 : tcr (dv l v q) (dv l v p) = j0P (tcr (dv l v p) (dv l v q)) (-1) := by
   simp only [tcr, j0P, Tr.mk.injEq]; refine ⟨?_, ?_, ?_⟩ <;> grind
  have e2 : det (dv l v q) (dv l v p) (dv l v i) = - det (dv l v p) (dv l v q) (dv l v i) := by simp only [det, j0b, tcr]; grind
  exact main q p hq hp gq gp (by rw [e1]; exact q0A hn) (by omega)
theorem W0X (a : Tr) (k : Int) : tg (j0P a k) = k.natAbs * tg a := by
 unfold tg j0P
 simp only [Int.natAbs_mul]
 rw [← Nat.gcd_mul_left, ← Nat.gcd_mul_left, ← Nat.gcd_mul_left, Nat.mul_zero]
theorem Q1s {v : Tr} (h : v ≠ tz) : tg (tpr v) = 1 := by
 have hg := Q1r h
 have e : v = j0P (tpr v) (tg v) := by
  obtain ⟨d1, d2, d3⟩ := K0w v
  have key : ∀ n : Int, tg v ∣ n.natAbs → n = (tg v : Int) * n.tdiv (tg v) := fun n hd => by
   have : ((tg v : Nat) : Int) ∣ n := Int.ofNat_dvd_left.2 hd
   rw [Int.mul_tdiv_cancel' this]
  unfold tpr j0P
  rw [if_neg hg]
  exact q0T (key _ d1) (key _ d2) (key _ d3)
 have e2 := congrArg tg e
 rw [W0X, Int.natAbs_natCast] at e2
 have : tg v * tg (tpr v) = tg v * 1 := by omega
 exact Nat.eq_of_mul_eq_mul_left xO this
theorem Y1y {a b : Tr} (h : tcr a b = tz) (w : Tr) : a.x * j0b w b = b.x * j0b w a ∧ a.y * j0b w b = b.y * j0b w a ∧ a.z * j0b w b = b.z * j0b w a := by
 simp only [tcr, tz, Tr.mk.injEq] at h
 simp only [j0b]
 refine ⟨?_, ?_, ?_⟩ <;> grind
theorem q0K {a b : Tr} (h : tcr a b = tz) : tcr b a = tz := by
 simp only [tcr, tz, Tr.mk.injEq] at h ⊢
 refine ⟨?_, ?_, ?_⟩ <;> grind
theorem X0Y {e y n m : Tr} (h : tcr e y ≠ tz) (h1 : j0b n e = 0) (h2 : j0b n y = 0) (h3 : j0b m e = 0) (h4 : j0b m y = 0) : tcr n m = tz := by
 refine Classical.byContradiction fun hne => h ?_
 have a := W0U e n m (by rw [q0i]; exact h1) (by rw [q0i]; exact h3)
 have b := W0U y n m (by rw [q0i]; exact h2) (by rw [q0i]; exact h4)
 exact x0Y hne (q0K a) (q0K b)
end Go.Proofs.YtgblokifbgeegaaGreatDoor.H.S
namespace Go.Proofs.YtgblokifbgeegaaGreatDoor.H.S
open Go Go.Vc
def loZ (l : List Tr) (d : Tr) : Nat → Int
 |0 => j0b d (gt l 0)
 |k + 1 => if j0b d (gt l k) < loZ l d k then j0b d (gt l k) else loZ l d k
def hiZ (l : List Tr) (d : Tr) : Nat → Int
 |0 => j0b d (gt l 0)
 |k + 1 => if hiZ l d k < j0b d (gt l k) then j0b d (gt l k) else hiZ l d k
def loD (l : List Tr) (d : Tr) : Int := loZ l d l.length
def hiD (l : List Tr) (d : Tr) : Int := hiZ l d l.length
theorem v1R (l : List Tr) (d : Tr) : ∀ k, (∀ i, i < k → loZ l d k ≤ j0b d (gt l i)) ∧ loZ l d k ≤ j0b d (gt l 0) ∧ (loZ l d k = j0b d (gt l 0) ∨ ∃ i, i < k ∧ loZ l d k = j0b d (gt l i))
 |0 => ⟨fun i hi => absurd hi (Nat.not_lt_zero i), Int.le_refl _, .inl rfl⟩
 |k + 1 => by
  obtain ⟨h1, h2, h3⟩ := v1R l d k
  unfold loZ
  split
  ·rename_i h
   refine ⟨fun i hi => ?_, by omega, .inr ⟨k, by omega, rfl⟩⟩
   by_cases e : i = k
   ·subst e; omega
   ·have := h1 i xO; omega
  ·rename_i h
   refine ⟨fun i hi => ?_, h2, ?_⟩
   ·by_cases e : i = k
    ·subst e; omega
    ·exact h1 i xO
   ·rcases h3 with e | ⟨i, hi, e⟩
    ·exact .inl e
    ·exact .inr ⟨i, by omega, e⟩
theorem v1D (l : List Tr) (d : Tr) : ∀ k, (∀ i, i < k → j0b d (gt l i) ≤ hiZ l d k) ∧ j0b d (gt l 0) ≤ hiZ l d k ∧ (hiZ l d k = j0b d (gt l 0) ∨ ∃ i, i < k ∧ hiZ l d k = j0b d (gt l i))
 |0 => ⟨fun i hi => absurd hi (Nat.not_lt_zero i), Int.le_refl _, .inl rfl⟩
 |k + 1 => by
  obtain ⟨h1, h2, h3⟩ := v1D l d k
  unfold hiZ
  split
  ·rename_i h
   refine ⟨fun i hi => ?_, by omega, .inr ⟨k, by omega, rfl⟩⟩
   by_cases e : i = k
   ·subst e; omega
   ·have := h1 i xO; omega
  ·rename_i h
   refine ⟨fun i hi => ?_, h2, ?_⟩
   ·by_cases e : i = k
    ·subst e; omega
    ·exact h1 i xO
   ·rcases h3 with e | ⟨i, hi, e⟩
    ·exact .inl e
    ·exact .inr ⟨i, by omega, e⟩
theorem w0e {l : List Tr} (d : Tr) {i : Nat} (h : i < l.length) : loD l d ≤ j0b d (gt l i) := (v1R l d _).1 i h
theorem v0H {l : List Tr} (d : Tr) {i : Nat} (h : i < l.length) : j0b d (gt l i) ≤ hiD l d := (v1D l d _).1 i h
theorem w0L {l : List Tr} (d : Tr) (h : 0 < l.length) : ∃ i, i < l.length ∧ j0b d (gt l i) = loD l d := by
 rcases (v1R l d l.length).2.2 with e | ⟨i, hi, e⟩
 ·exact ⟨0, h, e.symm⟩
 ·exact ⟨i, hi, e.symm⟩
theorem x0q {l : List Tr} (d : Tr) (h : 0 < l.length) : ∃ i, i < l.length ∧ j0b d (gt l i) = hiD l d := by
 rcases (v1D l d l.length).2.2 with e | ⟨i, hi, e⟩
 ·exact ⟨0, h, e.symm⟩
 ·exact ⟨i, hi, e.symm⟩
theorem Q0q {l : List Tr} {d : Tr} {p : Nat} (hp : p < l.length) (h : ∀ i, i < l.length → j0b d (gt l p) ≤ j0b d (gt l i)) : loD l d = j0b d (gt l p) := by
 obtain ⟨i, hi, e⟩ := w0L d (show 0 < l.length by omega)
 have h1 := h i hi
 have h2 := w0e d hp
 omega
theorem Q0i {l : List Tr} {d : Tr} {p : Nat} (hp : p < l.length) (h : ∀ i, i < l.length → j0b d (gt l i) ≤ j0b d (gt l p)) : hiD l d = j0b d (gt l p) := by
 obtain ⟨i, hi, e⟩ := x0q d (show 0 < l.length by omega)
 have h1 := h i hi
 have h2 := v0H d hp
 omega
def wdt (l : List Tr) (d : Tr) : Int := hiD l d - loD l d
def Lo (l : List Tr) (d : Tr) (i : Nat) : Prop := i < l.length ∧ j0b d (gt l i) = loD l d
def Hi (l : List Tr) (d : Tr) (i : Nat) : Prop := i < l.length ∧ j0b d (gt l i) = hiD l d
def Pr (l : List Tr) (d : Tr) (a b : Nat) : Prop := (Lo l d a ∧ Lo l d b) ∨ (Hi l d a ∧ Hi l d b)
def Two (l : List Tr) (d : Tr) : Prop := ∃ a b c e, Pr l d a b ∧ Pr l d c e ∧ tcr (dv l a b) (dv l c e) ≠ tz
def loB (l : List Tr) (d : Tr) (i : Nat) : Bool := decide (j0b d (gt l i) = loD l d)
def hiB (l : List Tr) (d : Tr) (i : Nat) : Bool := decide (j0b d (gt l i) = hiD l d)
def J1i (l : List Tr) (d : Tr) : Nat := ((List.range l.length).filter (loB l d)).length + ((List.range l.length).filter (hiB l d)).length
theorem V1k (l : List Tr) (d : Tr) : J1i l d ≤ 2 * l.length := by
 unfold J1i
 have h1 := List.length_filter_le (loB l d) (List.range l.length)
 have h2 := List.length_filter_le (hiB l d) (List.range l.length)
 rw [List.length_range] at h1 h2
 omega
theorem W0x (f g : Nat → Int) : ∀ n, (∀ i, i < n → 0 ≤ f i) → (∃ i, i < n ∧ g i < 0) → ∃ x, x < n ∧ g x < 0 ∧ ∀ i, i < n → 0 ≤ -(g x) * f i + f x * g i
 |0, _, ⟨i, hi, _⟩ => absurd hi (Nat.not_lt_zero i)
 |n + 1, hf, hex => by
  by_cases h : ∃ i, i < n ∧ g i < 0
  ·obtain ⟨x, hx, hg, hall⟩ := W0x f g n (fun i hi => hf i xO) h
   by_cases hc : 0 ≤ -(g x) * f n + f x * g n
   ·refine ⟨x, by omega, hg, fun i hi => ?_⟩
    by_cases e : i = n
    ·subst e; exact hc
    ·exact hall i xO
   ·-- the last one is first
    have hgn : g n < 0 := by
     rcases (by omega : g n < 0 ∨ 0 ≤ g n) with h1 | h1
     ·exact h1
     ·exfalso
      have h2 := Int.mul_nonneg (show 0 ≤ -(g x) by omega) (hf n xO)
      have h3 := Int.mul_nonneg (hf x xO) h1
      omega
    refine ⟨n, by omega, hgn, fun i hi => ?_⟩
    by_cases e : i = n
    ·subst e
     have : -(g i) * f i + f i * g i = 0 := by grind
     omega
    ·have h1 := hall i xO
     have h0 := hf i xO
     by_cases hgi : 0 ≤ g i
     ·have h2 := Int.mul_nonneg (show 0 ≤ -(g n) by omega) h0
      have h3 := Int.mul_nonneg (hf n xO) hgi
      omega
     ·have id1 : -(g x) * (-(g n) * f i + f n * g i) = -(g n) * (-(g x) * f i + f x * g i) + (-(g i)) * (-(-(g x) * f n + f x * g n)) := by grind
      have h2 := Int.mul_nonneg (show 0 ≤ -(g n) by omega) h1
      have h3 := Int.mul_nonneg (show 0 ≤ -(g i) by omega) (show 0 ≤ -(-(g x) * f n + f x * g n) by omega)
      have h4 : 0 ≤ -(g x) * (-(g n) * f i + f n * g i) := by omega
      exact Q0o (show 0 < -(g x) by omega) h4
  ·obtain ⟨i, hi, hg⟩ := hex
   have e : i = n := by
    by_cases e : i = n
    ·exact e
    ·exact absurd ⟨i, by omega, hg⟩ h
   subst e
   refine ⟨i, by omega, hg, fun j hj => ?_⟩
   by_cases e : j = i
   ·subst e
    have : -(g j) * f j + f j * g j = 0 := by grind
    omega
   ·have hgj : 0 ≤ g j := by
     rcases (by omega : g j < 0 ∨ 0 ≤ g j) with h1 | h1
     ·exact absurd ⟨j, by omega, h1⟩ h
     ·exact h1
    have h2 := Int.mul_nonneg (show 0 ≤ -(g i) by omega) (hf j hj)
    have h3 := Int.mul_nonneg (hf i xO) hgj
    omega
theorem w1l {a b : Tr} (ha : a ≠ tz) (hb : b ≠ tz) (h : j0b a b = 0) : tcr a b ≠ tz := fun e => hb (W0C ha e h)
theorem W1r {a : Tr} (ha : a ≠ tz) : ∃ c : Tr, c ≠ tz ∧ j0b c a = 0 := by
 rcases j1B ha with h | h | h
 ·exact ⟨⟨-a.y, a.x, 0⟩, fun e => by simp only [tz, Tr.mk.injEq] at e; omega, by simp only [j0b]; grind⟩
 ·exact ⟨⟨a.y, -a.x, 0⟩, fun e => by simp only [tz, Tr.mk.injEq] at e; omega, by simp only [j0b]; grind⟩
 ·exact ⟨⟨a.z, 0, -a.x⟩, fun e => by simp only [tz, Tr.mk.injEq] at e; omega, by simp only [j0b]; grind⟩
theorem w1g {l : List Tr} (hS : Sol l) {n : Tr} (hn : n ≠ tz) (v : Nat) : ∃ i, i < l.length ∧ j0b n (dv l v i) ≠ 0 := by
 obtain ⟨i, hi, h⟩ := z0c hS hn (j0b n (gt l v))
 exact ⟨i, hi, by rw [j0m]; omega⟩
theorem Pr.lev {l : List Tr} {d : Tr} {a b : Nat} (h : Pr l d a b) : j0b d (dv l a b) = 0 := by
 rw [j0m]
 rcases h with ⟨⟨_, h1⟩, _, h2⟩ | ⟨⟨_, h1⟩, _, h2⟩ <;> omega
theorem X1B {l : List Tr} {d : Tr} (hd : d ≠ tz) (hno : ¬ Two l d) : ∃ e : Tr, e ≠ tz ∧ j0b e d = 0 ∧ ∀ a b, Pr l d a b → j0b e (dv l a b) = 0 := by
 by_cases hz : ∃ a b, Pr l d a b ∧ dv l a b ≠ tz
 ·obtain ⟨a, b, hp, hs⟩ := hz
  refine ⟨tcr d (dv l a b), w1l hd hs hp.lev, by simp only [j0b, tcr]; grind, fun x y hxy => ?_⟩
  have hpar : tcr (dv l a b) (dv l x y) = tz := Classical.byContradiction fun h => hno ⟨a, b, x, y, hp, hxy, h⟩
  exact w1j hs hpar (by simp only [j0b, tcr]; grind)
 ·obtain ⟨e, he, h⟩ := W1r hd
  refine ⟨e, he, h, fun x y hxy => ?_⟩
  have : dv l x y = tz := Classical.byContradiction fun h => hz ⟨x, y, hxy, h⟩
  rw [this]; simp [j0b, tz]
def wLE (l : List Tr) (d e : Tr) : Prop := wdt l d * wdt l d * j0b e e ≤ wdt l e * wdt l e * j0b d d
def wLT (l : List Tr) (d e : Tr) : Prop := wdt l d * wdt l d * j0b e e < wdt l e * wdt l e * j0b d d
theorem X1G {l : List Tr} (hS : Sol l) {d : Tr} (hd : d ≠ tz) : 0 < wdt l d := by
 have h0 : 0 < l.length := by obtain ⟨a, _, _, _, ha, _⟩ := hS; omega
 obtain ⟨p, hp, ep⟩ := w0L d h0
 obtain ⟨i, hi, hn⟩ := w1g hS hd p
 rw [j0m] at hn
 have h1 := w0e d hi
 have h2 := v0H d hi
 unfold wdt
 omega
theorem w0X {p q : Nat → Bool} : ∀ {l : List Nat}, (∀ x ∈ l, q x = true → p x = true) → (l.filter q).length ≤ (l.filter p).length
 |[], _ => by simp
 |b :: l, h => by
  have := w0X (l := l) (fun x hx => h x (by simp [hx]))
  simp only [List.filter_cons]
  cases hq : q b with
  |true => rw [h b (by simp) hq]; simp; omega
  |false => cases p b <;> simp <;> omega
theorem v1G {l : List Tr} (hS : Sol l) {d : Tr} (hd : d ≠ tz) (hno : ¬ Two l d) : ∃ d' : Tr, d' ≠ tz ∧ wLT l d' d ∧ J1i l d < J1i l d' := by
 have h0 : 0 < l.length := by obtain ⟨a, _, _, _, ha, _⟩ := hS; omega
 obtain ⟨p, hp, ep⟩ := w0L d h0
 obtain ⟨h, hh, eh⟩ := x0q d h0
 have key : ∀ e : Tr, e ≠ tz → j0b e d = 0 → (∀ a b, Pr l d a b → j0b e (dv l a b) = 0) → j0b e (dv l p h) ≤ 0 → ∃ d' : Tr, d' ≠ tz ∧ wLT l d' d ∧ J1i l d < J1i l d' := by
  intro e he hed hpr hle
  let f : Nat → Int := fun x => if x < l.length then j0b d (dv l p x) else j0b d (dv l (x - l.length) h)
  let g : Nat → Int := fun x => if x < l.length then j0b e (dv l p x) else j0b e (dv l (x - l.length) h)
  have f1 : ∀ i, i < l.length → f i = j0b d (gt l i) - loD l d := fun i hi => by show (if i < l.length then _ else _) = _; rw [if_pos hi, j0m, ep]
  have f2 : ∀ i, i < l.length → f (l.length + i) = hiD l d - j0b d (gt l i) := fun i hi => by show (if l.length + i < l.length then _ else _) = _; rw [if_neg (by omega), Nat.add_sub_cancel_left, j0m, eh]
  have g1 : ∀ i, i < l.length → g i = j0b e (dv l p i) := fun i hi => if_pos hi
  have g2 : ∀ i, i < l.length → g (l.length + i) = j0b e (dv l i h) := fun i hi => by show (if l.length + i < l.length then _ else _) = _; rw [if_neg (by omega), Nat.add_sub_cancel_left]
  have split : ∀ {Q : Nat → Prop}, (∀ i, i < l.length → Q i) → (∀ i, i < l.length → Q (l.length + i)) → ∀ x, x < 2 * l.length → Q x := fun {Q} a b x hx => by
   by_cases hx1 : x < l.length
   ·exact a x hx1
   ·have := b (x - l.length) xO
    rwa [show l.length + (x - l.length) = x by omega] at this
  have hf : ∀ x, x < 2 * l.length → 0 ≤ f x := split (fun i hi => by rw [f1 i hi]; have := w0e d hi; omega) (fun i hi => by rw [f2 i hi]; have := v0H d hi; omega)
  have hex : ∃ x, x < 2 * l.length ∧ g x < 0 := by
   refine Classical.byContradiction fun hall => ?_
   have a1 : ∀ x, x < 2 * l.length → 0 ≤ g x := fun x hx => by
    by_cases hg : g x < 0
    ·exact absurd ⟨x, hx, hg⟩ hall
    ·omega
   have ph : j0b e (dv l p h) = 0 := by have := a1 h (by omega); rw [g1 h hh] at this; omega
   obtain ⟨i, hi, hn⟩ := w1g hS he p
   have b1 := a1 i xO
   have b2 := a1 (l.length + i) xO
   rw [g1 i hi] at b1
   rw [g2 i hi] at b2
   rw [j0m] at *
   omega
  obtain ⟨x, hx, hgx, hall⟩ := W0x f g (2 * l.length) hf hex
  have hfx : 0 < f x := by
   have h1 := hf x hx
   rcases (by omega : f x = 0 ∨ 0 < f x) with h2 | h2
   ·exfalso
    revert h2 hgx
    refine split (Q := fun x => g x < 0 → f x = 0 → False) (fun i hi => ?_) (fun i hi => ?_) x hx
    ·rw [f1 i hi, g1 i hi]
     intro q1 q2
     have := hpr p i (.inl ⟨⟨hp, ep⟩, hi, by omega⟩)
     omega
    ·rw [f2 i hi, g2 i hi]
     intro q1 q2
     have := hpr i h (.inr ⟨⟨hi, by omega⟩, hh, eh⟩)
     omega
   ·exact h2
  have hM : 0 < -(g x) := by omega
  generalize hMe : -(g x) = M at *
  generalize hNe : f x = N at *
  have dd : ∀ z, j0b (lc M N d e) z = M * j0b d z + N * j0b e z := fun z => X0N _ _ _ _ _
  have lowp : ∀ i, i < l.length → 0 ≤ j0b (lc M N d e) (dv l p i) := fun i hi => by
   have := hall i xO
   rw [f1 i hi, g1 i hi] at this
   rw [dd, j0m d, ep]
   exact this
  have highp : ∀ i, i < l.length → 0 ≤ j0b (lc M N d e) (dv l i h) := fun i hi => by
   have := hall (l.length + i) xO
   rw [f2 i hi, g2 i hi] at this
   rw [dd, j0m d, eh]
   exact this
  have elo : loD l (lc M N d e) = j0b (lc M N d e) (gt l p) := Q0q hp fun i hi => by have := lowp i hi; rw [j0m] at this; omega
  have ehi : hiD l (lc M N d e) = j0b (lc M N d e) (gt l h) := Q0i hh fun i hi => by have := highp i hi; rw [j0m] at this; omega
  have hw : wdt l (lc M N d e) = M * wdt l d + N * j0b e (dv l p h) := by
   unfold wdt
   rw [elo, ehi, ← j0m, dd, j0m d, ep, eh]
  have hNe2 : N * j0b e (dv l p h) ≤ 0 := Int.mul_nonpos_of_nonneg_of_nonpos (Int.le_of_lt hfx) hle
  have hw0 : 0 ≤ wdt l (lc M N d e) := by
   unfold wdt
   rw [elo, ehi, ← j0m]
   exact lowp h hh
  have hnn : j0b (lc M N d e) (lc M N d e) = M * M * j0b d d + N * N * j0b e e := by
   have c : j0b d e = 0 := by rw [q0i]; exact hed
   rw [dd, k0e, k0e, c, hed]; grind
  have pd := q0j hd
  have pe := q0j he
  have pw := X1G hS hd
  have hgt : M * M * j0b d d < j0b (lc M N d e) (lc M N d e) := by
   rw [hnn]
   have := Int.mul_pos (Int.mul_pos hfx hfx) pe
   omega
  refine ⟨lc M N d e, fun hz => ?_, ?_, ?_⟩
  ·rw [hz] at hgt
   have h1 := Int.mul_pos (Int.mul_pos hM hM) pd
   have h2 : j0b tz tz = 0 := by simp [j0b, tz]
   omega
  ·-- narrower
   unfold wLT
   have w1 : wdt l (lc M N d e) ≤ M * wdt l d := by omega
   have w2 : wdt l (lc M N d e) * wdt l (lc M N d e) ≤ (M * wdt l d) * (M * wdt l d) := Int.mul_le_mul w1 w1 hw0 (Int.le_of_lt (Int.mul_pos hM pw))
   have w3 : wdt l (lc M N d e) * wdt l (lc M N d e) * j0b d d ≤ (M * wdt l d) * (M * wdt l d) * j0b d d := Int.mul_le_mul_of_nonneg_right w2 (Int.le_of_lt pd)
   have w4 : (M * wdt l d) * (M * wdt l d) * j0b d d = wdt l d * wdt l d * (M * M * j0b d d) := by grind
   have w5 : wdt l d * wdt l d * (M * M * j0b d d) < wdt l d * wdt l d * j0b (lc M N d e) (lc M N d e) := Int.mul_lt_mul_of_pos_left hgt (Int.mul_pos pw pw)
   omega
  ·-- more is touched
   have sub1 : ∀ y ∈ List.range l.length, loB l d y = true → loB l (lc M N d e) y = true := fun y hy hb => by
    have hy' := List.mem_range.1 hy
    have h1 : j0b d (gt l y) = loD l d := of_decide_eq_true hb
    have h2 := hpr p y (.inl ⟨⟨hp, ep⟩, hy', h1⟩)
    refine decide_eq_true ?_
    have h3 : j0b (lc M N d e) (dv l p y) = 0 := by rw [dd, h2, j0m, ep, h1]; simp
    rw [j0m] at h3
    rw [elo]; omega
   have sub2 : ∀ y ∈ List.range l.length, hiB l d y = true → hiB l (lc M N d e) y = true := fun y hy hb => by
    have hy' := List.mem_range.1 hy
    have h1 : j0b d (gt l y) = hiD l d := of_decide_eq_true hb
    have h2 := hpr y h (.inr ⟨⟨hy', h1⟩, hh, eh⟩)
    refine decide_eq_true ?_
    have h3 : j0b (lc M N d e) (dv l y h) = 0 := by rw [dd, h2, j0m, eh, h1]; simp
    rw [j0m] at h3
    rw [ehi]; omega
   have le1 := w0X (l := List.range l.length) sub1
   have le2 := w0X (l := List.range l.length) sub2
   unfold J1i
   have : (∃ y, y < l.length ∧ loB l (lc M N d e) y = true ∧ loB l d y = false) ∨ (∃ y, y < l.length ∧ hiB l (lc M N d e) y = true ∧ hiB l d y = false) := by
    have hxN : f x = N := hNe
    have hxM : -(g x) = M := hMe
    clear le1 le2 sub1 sub2
    revert hxN hxM
    refine split (Q := fun x => f x = N → -(g x) = M → _) (fun i hi => ?_) (fun i hi => ?_) x hx
    ·rw [f1 i hi, g1 i hi]
     intro q1 q2
     refine .inl ⟨i, hi, decide_eq_true ?_, decide_eq_false ?_⟩
     ·have h3 : j0b (lc M N d e) (dv l p i) = 0 := by
       rw [dd, j0m d, ep, q1, ← q2]; grind
      rw [j0m] at h3
      rw [elo]; omega
     ·omega
    ·rw [f2 i hi, g2 i hi]
     intro q1 q2
     refine .inr ⟨i, hi, decide_eq_true ?_, decide_eq_false ?_⟩
     ·have h3 : j0b (lc M N d e) (dv l i h) = 0 := by
       rw [dd, j0m d, eh, q1, ← q2]; grind
      rw [j0m] at h3
      rw [ehi]; omega
     ·omega
   rcases this with ⟨y, hy, b1, b2⟩ | ⟨y, hy, b1, b2⟩
   ·have := w0Y (List.range l.length) sub1 ⟨y, List.mem_range.2 hy, b1, b2⟩
    omega
   ·have := w0Y (List.range l.length) sub2 ⟨y, List.mem_range.2 hy, b1, b2⟩
    omega
 obtain ⟨e, he, hed, hpr⟩ := X1B hd hno
 by_cases hs : j0b e (dv l p h) ≤ 0
 ·exact key e he hed hpr hs
 ·refine key (j0P e (-1)) (q0A he) (by rw [j0z]; omega) (fun a b hab => by rw [j0z, hpr a b hab]; rfl) (by rw [j0z]; omega)
theorem K1b {l : List Tr} {a b c : Tr} (ha : a ≠ tz) (hb : b ≠ tz) (hc : c ≠ tz) (h1 : wLT l a b) (h2 : wLT l b c) : wLT l a c := by
 unfold wLT at *
 have pa := q0j ha
 have pb := q0j hb
 have pc := q0j hc
 generalize wdt l a * wdt l a = A at *
 generalize wdt l b * wdt l b = B at *
 generalize wdt l c * wdt l c = C at *
 generalize j0b a a = x at *
 generalize j0b b b = y at *
 generalize j0b c c = z at *
 have e1 := Int.mul_lt_mul_of_pos_right h1 pc
 have e2 := Int.mul_lt_mul_of_pos_right h2 pa
 have e3 : (A * z) * y < (C * x) * y := by
  have a1 : A * y * z = A * z * y := by grind
  have a2 : C * y * x = C * x * y := by grind
  have a3 : B * x * z = B * z * x := by grind
  omega
 exact Int.lt_of_mul_lt_mul_right e3 (Int.le_of_lt pb)
theorem x0D {l : List Tr} {a b c : Tr} (ha : a ≠ tz) (hb : b ≠ tz) (hc : c ≠ tz) (h1 : wLE l a b) (h2 : wLE l b c) : wLE l a c := by
 unfold wLE at *
 have pa := q0j ha
 have pb := q0j hb
 have pc := q0j hc
 generalize wdt l a * wdt l a = A at *
 generalize wdt l b * wdt l b = B at *
 generalize wdt l c * wdt l c = C at *
 generalize j0b a a = x at *
 generalize j0b b b = y at *
 generalize j0b c c = z at *
 have e1 := Int.mul_le_mul_of_nonneg_right h1 (Int.le_of_lt pc)
 have e2 := Int.mul_le_mul_of_nonneg_right h2 (Int.le_of_lt pa)
 have e3 : (A * z) * y ≤ (C * x) * y := by
  have a1 : A * y * z = A * z * y := by grind
  have a2 : C * y * x = C * x * y := by grind
  have a3 : B * x * z = B * z * x := by grind
  omega
 exact Int.le_of_mul_le_mul_right e3 pb
theorem X0O {l : List Tr} (hS : Sol l) : ∀ (n : Nat) (d : Tr), d ≠ tz → 2 * l.length - J1i l d ≤ n → ∃ d' : Tr, d' ≠ tz ∧ Two l d' ∧ (d' = d ∨ wLT l d' d)
 |n, d, hd, hn => by
  by_cases h2 : Two l d
  ·exact ⟨d, hd, h2, .inl rfl⟩
  ·obtain ⟨d', hd', hw, hc⟩ := v1G hS hd h2
   have hle := V1k l d'
   match n, hn with
   |0, hn => omega
   |n + 1, hn =>
    obtain ⟨d2, h3, h4, h5⟩ := X0O hS n d' hd' xO
    refine ⟨d2, h3, h4, .inr ?_⟩
    rcases h5 with rfl | h5
    ·exact hw
    ·exact K1b h3 hd' hd h5 hw
theorem X1F (l : List Tr) (d : Tr) (h0 : 0 < l.length) : wdt l (j0P d (-1)) = wdt l d := by
 obtain ⟨p, hp, ep⟩ := w0L d h0
 obtain ⟨h, hh, eh⟩ := x0q d h0
 have e1 : loD l (j0P d (-1)) = j0b (j0P d (-1)) (gt l h) := Q0q hh fun i hi => by rw [j0z, j0z, eh]; have := v0H d hi; omega
 have e2 : hiD l (j0P d (-1)) = j0b (j0P d (-1)) (gt l p) := Q0i hp fun i hi => by rw [j0z, j0z, ep]; have := w0e d hi; omega
 unfold wdt
 rw [e1, e2, j0z, j0z, ep, eh]; omega
theorem v0A (n p : Tr) (k : Int) : j0b (j0P n k) p = k * j0b n p := by simp only [j0P, j0b]; grind
theorem x1R (l : List Tr) (d : Tr) {k : Int} (hk : 0 < k) (h0 : 0 < l.length) : wdt l (j0P d k) = k * wdt l d := by
 obtain ⟨p, hp, ep⟩ := w0L d h0
 obtain ⟨h, hh, eh⟩ := x0q d h0
 have e1 : loD l (j0P d k) = j0b (j0P d k) (gt l p) := Q0q hp fun i hi => by rw [v0A, v0A, ep]; exact Int.mul_le_mul_of_nonneg_left (w0e d hi) (Int.le_of_lt hk)
 have e2 : hiD l (j0P d k) = j0b (j0P d k) (gt l h) := Q0i hh fun i hi => by rw [v0A, v0A, eh]; exact Int.mul_le_mul_of_nonneg_left (v0H d hi) (Int.le_of_lt hk)
 unfold wdt
 rw [e1, e2, v0A, v0A, ep, eh, ← Int.mul_sub]
theorem Q1H (l : List Tr) (d : Tr) (k : Int) (h0 : 0 < l.length) : wdt l (j0P d k) * wdt l (j0P d k) = k * k * (wdt l d * wdt l d) := by
 rcases (by omega : 0 < k ∨ k = 0 ∨ 0 < -k) with h | h | h
 ·rw [x1R l d h h0]; grind
 ·subst h
  have hz : ∀ p, j0b (j0P d 0) p = 0 := fun p => by rw [v0A, Int.zero_mul]
  obtain ⟨p, hp, ep⟩ := w0L (j0P d 0) h0
  obtain ⟨q, hq, eq⟩ := x0q (j0P d 0) h0
  have : wdt l (j0P d 0) = 0 := by unfold wdt; rw [← ep, ← eq, hz, hz]; rfl
  rw [this]; simp
 ·have e : j0P d k = j0P (j0P d (-k)) (-1) := by simp only [j0P, Tr.mk.injEq]; refine ⟨?_, ?_, ?_⟩ <;> grind
  rw [e, X1F l _ h0, x1R l d h h0]; grind
theorem Z0e {d e : Tr} (h : tcr d e = tz) : j0P d (j0b e e) = j0P e (j0b e d) := by
 obtain ⟨e1, e2, e3⟩ := Y1y h e
 unfold j0P
 exact q0T (by simp only; rw [Int.mul_comm, e1, Int.mul_comm]) (by simp only; rw [Int.mul_comm, e2, Int.mul_comm]) (by simp only; rw [Int.mul_comm, e3, Int.mul_comm])
theorem Z0H {l : List Tr} (h0 : 0 < l.length) {d e : Tr} (hd : d ≠ tz) (he : e ≠ tz) (h : tcr d e = tz) : wLE l d e := by
 have hm := Z0e h
 have pe := q0j he
 have w1 := Q1H l d (j0b e e) h0
 have w2 := Q1H l e (j0b e d) h0
 rw [hm] at w1
 have n1 : j0b (j0P d (j0b e e)) (j0P d (j0b e e)) = j0b e e * j0b e e * j0b d d := by simp only [j0P, j0b]; grind
 have n2 : j0b (j0P e (j0b e d)) (j0P e (j0b e d)) = j0b e d * j0b e d * j0b e e := by simp only [j0P, j0b]; grind
 rw [hm, n2] at n1
 unfold wLE
 generalize wdt l d * wdt l d = D at *
 generalize wdt l e * wdt l e = E at *
 generalize j0b e e = y at *
 generalize j0b e d = m at *
 generalize j0b d d = x at *
 have a1 : (D * y) * (y * y) = (E * x) * (y * y) := by
  have b1 : y * y * D = m * m * E := by rw [← w1, w2]
  have b2 : (D * y) * (y * y) = (y * y * D) * y := by grind
  have b3 : (m * m * E) * y = (m * m * y) * E := by grind
  have b4 : (y * y * x) * E = (E * x) * (y * y) := by grind
  rw [b2, b1, b3, n1, b4]
 have := Int.eq_of_mul_eq_mul_right (Int.ne_of_gt (Int.mul_pos pe pe)) a1
 omega
theorem Q0y {n g : Tr} {a b : Int} (hb : 0 < b) (h : ∀ z, a * j0b g z = b * j0b n z) : tcr n g = tz := by
 have hx := h ⟨1, 0, 0⟩
 have hy := h ⟨0, 1, 0⟩
 have hz := h ⟨0, 0, 1⟩
 simp only [j0b, Int.mul_one, Int.mul_zero, Int.add_zero, Int.zero_add] at hx hy hz
 have m0 : ∀ {u : Int}, b * u = 0 → u = 0 := fun {u} h => by
  rcases Int.mul_eq_zero.1 h with h | h
  ·omega
  ·exact h
 exact q0T (m0 (by show b * (n.y * g.z - n.z * g.y) = 0; grind)) (m0 (by show b * (n.z * g.x - n.x * g.z) = 0; grind)) (m0 (by show b * (n.x * g.y - n.y * g.x) = 0; grind))
theorem x1K {l : List Tr} (hS : Sol l) {d : Tr} (hd : d ≠ tz) {v p q : Nat} (h : (Hi l d v ∧ Hi l d p ∧ Hi l d q) ∨ (Lo l d v ∧ Lo l d p ∧ Lo l d q)) (hn : tcr (dv l v p) (dv l v q) ≠ tz) : ∃ f, f ∈ j0i l ∧ tcr f.n d = tz := by
 rcases h with ⟨hv, hp, hq⟩ | ⟨hv, hp, hq⟩
 ·obtain ⟨f, hf, _, a, b, _, hb, hz⟩ := W0k hS hv.1 hp.1 hq.1 (g := d) (fun i hi => by rw [j0m, hv.2]; have := v0H d hi; omega) hd (by rw [j0m, hv.2, hp.2]; omega) (by rw [j0m, hv.2, hq.2]; omega) hn
  exact ⟨f, hf, Q0y hb hz⟩
 ·obtain ⟨f, hf, _, a, b, _, hb, hz⟩ := W0k hS hv.1 hp.1 hq.1 (g := j0P d (-1)) (fun i hi => by rw [j0z, j0m, hv.2]; have := w0e d hi; omega) (q0A hd) (by rw [j0z, j0m, hv.2, hp.2]; omega) (by rw [j0z, j0m, hv.2, hq.2]; omega) hn
  refine ⟨f, hf, ?_⟩
  have h1 := Q0y hb hz
  simp only [tcr, j0P, tz, Tr.mk.injEq] at h1 ⊢
  refine ⟨?_, ?_, ?_⟩ <;> grind
structure Vx (l : List Tr) (i : Nat) : Prop where
 lt : i < l.length
 first : ∀ k, k < i → gt l k ≠ gt l i
 ex : ∃ h : Tr, ∀ j, j < l.length → gt l j ≠ gt l i → j0b h (dv l i j) < 0
theorem J1f (f : Nat → Int) : ∀ n, ∃ M : Int, 0 ≤ M ∧ ∀ i, i < n → f i ≤ M
 |0 => ⟨0, Int.le_refl _, fun i h => by omega⟩
 |n + 1 => by
  obtain ⟨M, h1, h2⟩ := J1f f n
  refine ⟨max M (f n), by omega, fun i hi => ?_⟩
  by_cases e : i = n
  ·subst e; omega
  ·have := h2 i xO; omega
theorem Y0Z {l : List Tr} {v : Nat} {n c : Tr} (hn : ∀ i, i < l.length → j0b n (dv l v i) ≤ 0) (hc : ∀ i, i < l.length → j0b n (dv l v i) = 0 → gt l i ≠ gt l v → j0b c (dv l v i) < 0) : ∃ h : Tr, ∀ j, j < l.length → gt l j ≠ gt l v → j0b h (dv l v j) < 0 := by
 obtain ⟨M, hM, hb⟩ := J1f (fun i => j0b c (dv l v i)) l.length
 refine ⟨lc (M + 1) 1 n c, fun j hj hne => ?_⟩
 rw [X0N, Int.one_mul]
 rcases (by have := hn j hj; omega : j0b n (dv l v j) = 0 ∨ j0b n (dv l v j) ≤ -1) with h | h
 ·rw [h, Int.mul_zero]; have := hc j hj h hne; omega
 ·have h1 := Int.mul_le_mul_of_nonneg_left h (show 0 ≤ M + 1 by omega)
  have := hb j hj
  have e : (M + 1) * (-1) = -(M + 1) := by omega
  omega
theorem J0X (f : Nat → Int) (P : Nat → Prop) : ∀ n, (∃ i, i < n ∧ P i) → ∃ i, i < n ∧ P i ∧ (∀ j, j < n → P j → f i ≤ f j) ∧ ∀ j, j < i → P j → f i < f j
 |0, ⟨i, hi, _⟩ => absurd hi (Nat.not_lt_zero i)
 |n + 1, hex => by
  by_cases h : ∃ i, i < n ∧ P i
  ·obtain ⟨i, hi, hp, h1, h2⟩ := J0X f P n h
   by_cases hn : P n ∧ f n < f i
   ·refine ⟨n, by omega, hn.1, fun j hj hpj => ?_, fun j hj hpj => ?_⟩
    ·by_cases e : j = n
     ·subst e; omega
     ·have := h1 j xO hpj; omega
    ·have := h1 j hj hpj; omega
   ·refine ⟨i, by omega, hp, fun j hj hpj => ?_, h2⟩
    by_cases e : j = n
    ·subst e
     rcases (by omega : f j < f i ∨ f i ≤ f j) with h3 | h3
     ·exact absurd ⟨hpj, h3⟩ hn
     ·exact h3
    ·exact h1 j xO hpj
  ·obtain ⟨i, hi, hp⟩ := hex
   have e : i = n := by
    by_cases e : i = n
    ·exact e
    ·exact absurd ⟨i, by omega, hp⟩ h
   subst e
   refine ⟨i, by omega, hp, fun j hj hpj => ?_, fun j hj hpj => absurd ⟨j, hj, hpj⟩ h⟩
   by_cases e : j = i
   ·subst e; omega
   ·exact absurd ⟨j, by omega, hpj⟩ h
structure EdgeG (l : List Tr) (u v : Nat) : Prop where
 vu : Vx l u
 vv : Vx l v
 ne : gt l u ≠ gt l v
 two : ∃ f g, f ∈ j0i l ∧ g ∈ j0i l ∧ f ≠ g ∧ u ∈ f.s ∧ v ∈ f.s ∧ u ∈ g.s ∧ v ∈ g.s
theorem K0u (a : Tr) : tcr a a = tz := by simp only [tcr, tz, Tr.mk.injEq]; refine ⟨?_, ?_, ?_⟩ <;> grind
theorem K0z {l : List Tr} (hS : Sol l) {v p : Nat} {n c : Tr} (hv : v < l.length) (hp : p < l.length) (hn : ∀ i, i < l.length → j0b n (dv l v i) ≤ 0) (h0 : n ≠ tz) (np : j0b n (dv l v p) = 0) (cp : j0b c (dv l v p) = 0) (hne : dv l v p ≠ tz) (hc : ∀ i, i < l.length → j0b n (dv l v i) = 0 → j0b c (dv l v i) = 0) (hcn : j0b n c = 0) (hc0 : c ≠ tz) :
  ∃ f, f ∈ j0i l ∧ v ∈ f.s ∧ p ∈ f.s ∧ 0 < j0b f.n c := by
 obtain ⟨i0, hi0, hne0⟩ := w1g hS h0 v
 obtain ⟨j, hj, hnj, hall⟩ := j2E hn (fun i hi e => Int.le_of_eq (hc i hi e)) ⟨i0, hi0, by have := hn i0 hi0; omega⟩
 have dG : ∀ z, j0b (lc (j0b c (dv l v j)) (-(j0b n (dv l v j))) n c) z = j0b c (dv l v j) * j0b n z + -(j0b n (dv l v j)) * j0b c z := fun z => X0N _ _ _ _ _
 generalize hG : lc (j0b c (dv l v j)) (-(j0b n (dv l v j))) n c = G at dG
 have hle : ∀ i, i < l.length → j0b G (dv l v i) ≤ 0 := fun i hi => by rw [dG, Int.neg_mul]; have := hall i hi; omega
 have hGj : j0b G (dv l v j) = 0 := by rw [dG, Int.neg_mul, Int.mul_comm]; omega
 have hGp : j0b G (dv l v p) = 0 := by rw [dG, np, cp]; simp
 have hGc : 0 < j0b G c := by
  rw [dG, hcn]
  have := Int.mul_pos (show 0 < -(j0b n (dv l v j)) by omega) (q0j hc0)
  omega
 have hG0 : G ≠ tz := fun e => by rw [e] at hGc; simp [j0b, tz] at hGc
 have hpar : tcr (dv l v p) (dv l v j) ≠ tz := fun e => by
  have := w1j (F := n) hne e np
  omega
 obtain ⟨f, hf, hvf, a, b, ha, hb, hz⟩ := W0k hS hv hp hj hle hG0 hGp hGj hpar
 have F := q0S (w0E hf)
 have onv : j0b f.n (gt l v) = f.m := by rw [F.s, v0O] at hvf; exact hvf.2
 refine ⟨f, hf, hvf, ?_, ?_⟩
 ·rw [F.s, v0O]
  refine ⟨hp, ?_⟩
  have h1 := hz (dv l v p)
  rw [hGp, Int.mul_zero] at h1
  have h2 : j0b f.n (dv l v p) = 0 := by
   rcases Int.mul_eq_zero.1 h1.symm with h | h
   ·omega
   ·exact h
  rw [j0m] at h2
  omega
 ·have h1 := hz c
  have h2 := Int.mul_pos ha hGc
  rw [h1] at h2
  rcases (by omega : 0 < j0b f.n c ∨ j0b f.n c ≤ 0) with h | h
  ·exact h
  ·have := Int.mul_nonpos_of_nonneg_of_nonpos (Int.le_of_lt hb) h
   omega
theorem v1c {l : List Tr} (hS : Sol l) {d : Tr} (hd : d ≠ tz) {M : Int} (hM : ∀ i, i < l.length → j0b d (gt l i) ≤ M) {a b : Nat} (ha : a < l.length) (hb : b < l.length) (ea : j0b d (gt l a) = M) (eb : j0b d (gt l b) = M) (hab : dv l a b ≠ tz) (hcol : ∀ x, x < l.length → j0b d (gt l x) = M → tcr (dv l a b) (dv l a x) = tz) :
  ∃ u v, EdgeG l u v ∧ j0b d (gt l u) = M ∧ j0b d (gt l v) = M ∧ tcr (dv l a b) (dv l u v) = tz := by
 have hcol2 : ∀ x y, x < l.length → y < l.length → j0b d (gt l x) = M → j0b d (gt l y) = M → tcr (dv l a b) (dv l x y) = tz := fun x y hx hy ex ey => by
  have h1 := hcol x hx ex
  have h2 := hcol y hy ey
  generalize dv l a b = s at *
  simp only [dv, tcr, j0E, tz, Tr.mk.injEq] at h1 h2 ⊢
  refine ⟨?_, ?_, ?_⟩ <;> grind
 have heq : ∀ x y, x < l.length → y < l.length → j0b d (gt l x) = M → j0b d (gt l y) = M → j0b (dv l a b) (gt l x) = j0b (dv l a b) (gt l y) → gt l x = gt l y := fun x y hx hy ex ey e => by
  have h1 := W0C hab (hcol2 y x hy hx ey ex) (by rw [j0m]; omega)
  exact X1S h1
 obtain ⟨u, hu, eu, umin, ufst⟩ := J0X (fun i => j0b (dv l a b) (gt l i)) (fun i => j0b d (gt l i) = M) l.length ⟨a, ha, ea⟩
 obtain ⟨v, hv, ev, vmin, vfst⟩ := J0X (fun i => -j0b (dv l a b) (gt l i)) (fun i => j0b d (gt l i) = M) l.length ⟨a, ha, ea⟩
 have hab2 : j0b (dv l a b) (gt l a) < j0b (dv l a b) (gt l b) := by
  have h1 := q0j hab
  have h2 := j0m (dv l a b) l a b
  omega
 have huv : j0b (dv l a b) (gt l u) < j0b (dv l a b) (gt l v) := by
  have h1 := umin a ha ea
  have h2 := vmin b hb eb
  omega
 have hne : gt l u ≠ gt l v := fun e => by rw [e] at huv; omega
 have hle : ∀ w, w < l.length → j0b d (gt l w) = M → ∀ i, i < l.length → j0b d (dv l w i) ≤ 0 := fun w hw ew i hi => by rw [j0m, ew]; have := hM i hi; omega
 have Vu : Vx l u := by
  refine ⟨hu, fun k hk e => ?_, Y0Z (c := j0P (dv l a b) (-1)) (hle u hu eu) fun i hi h0 hn => ?_⟩
  ·have h1 := ufst k hk (by rw [e]; exact eu)
   rw [e] at h1; omega
  ·rw [j0m] at h0
   have ei : j0b d (gt l i) = M := by omega
   have h1 := umin i hi ei
   rw [j0z, j0m]
   rcases (by omega : j0b (dv l a b) (gt l u) < j0b (dv l a b) (gt l i) ∨ j0b (dv l a b) (gt l i) = j0b (dv l a b) (gt l u)) with h | h
   ·omega
   ·exact absurd (heq i u hi hu ei eu h) hn
 have Vv : Vx l v := by
  refine ⟨hv, fun k hk e => ?_, Y0Z (c := dv l a b) (hle v hv ev) fun i hi h0 hn => ?_⟩
  ·have h1 := vfst k hk (by rw [e]; exact ev)
   rw [e] at h1; omega
  ·rw [j0m] at h0
   have ei : j0b d (gt l i) = M := by omega
   have h1 := vmin i hi ei
   rw [j0m]
   rcases (by omega : j0b (dv l a b) (gt l i) < j0b (dv l a b) (gt l v) ∨ j0b (dv l a b) (gt l i) = j0b (dv l a b) (gt l v)) with h | h
   ·omega
   ·exact absurd (heq i v hi hv ei ev h) hn
 have ds : j0b d (dv l a b) = 0 := by rw [j0m]; omega
 have hc0 : tcr d (dv l a b) ≠ tz := w1l hd hab ds
 have duv : dv l u v ≠ tz := fun e => hne (X1S e).symm
 have dp : j0b d (dv l u v) = 0 := by rw [j0m]; omega
 have cs : ∀ i, i < l.length → j0b d (dv l u i) = 0 → j0b (tcr d (dv l a b)) (dv l u i) = 0 := fun i hi h => by
  rw [j0m] at h
  exact w1j hab (hcol2 u i hu hi eu (by omega)) (by simp only [j0b, tcr]; grind)
 have dc : j0b d (tcr d (dv l a b)) = 0 := by simp only [j0b, tcr]; grind
 obtain ⟨f, hf, f1, f2, f3⟩ := K0z hS hu hv (hle u hu eu) hd dp (cs v hv dp) duv cs dc hc0
 obtain ⟨g, hg, g1, g2, g3⟩ := K0z (c := j0P (tcr d (dv l a b)) (-1)) hS hu hv (hle u hu eu) hd dp (by rw [j0z, cs v hv dp]; rfl) duv (fun i hi h => by rw [j0z, cs i hi h]; rfl) (by rw [q0i, j0z, q0i, dc]; rfl) (q0A hc0)
 refine ⟨u, v, ⟨Vu, Vv, hne, f, g, hf, hg, fun e => ?_, f1, f2, g1, g2⟩, eu, ev, hcol2 u v hu hv eu ev⟩
 rw [e] at f3
 rw [q0i, j0z, q0i] at g3
 omega
theorem w1d {l : List Tr} {a b c e : Nat} (h : tcr (dv l a b) (dv l c e) ≠ tz) : tcr (dv l a b) (dv l a c) ≠ tz ∨ tcr (dv l a b) (dv l a e) ≠ tz := by
 refine Classical.byContradiction fun hno => h ?_
 have h1 : tcr (dv l a b) (dv l a c) = tz := Classical.byContradiction fun q => hno (.inl q)
 have h2 : tcr (dv l a b) (dv l a e) = tz := Classical.byContradiction fun q => hno (.inr q)
 generalize dv l a b = s at *
 simp only [dv, tcr, j0E, tz, Tr.mk.injEq] at h1 h2 ⊢
 refine ⟨?_, ?_, ?_⟩ <;> grind
theorem Y0v {l : List Tr} (hS : Sol l) {d : Tr} (hd : d ≠ tz) (h2 : Two l d) : (∃ f, f ∈ j0i l ∧ tcr f.n d = tz) ∨ (∃ u v u' v', EdgeG l u v ∧ EdgeG l u' v' ∧ tcr (dv l u v) (dv l u' v') ≠ tz ∧ tcr (tcr (dv l u v) (dv l u' v')) d = tz) := by
 by_cases hf : ∃ f, f ∈ j0i l ∧ tcr f.n d = tz
 ·exact .inl hf
 refine .inr ?_
 have hi3 : ∀ a b x, Hi l d a → Hi l d b → Hi l d x → tcr (dv l a b) (dv l a x) = tz := fun a b x ha hb hx => Classical.byContradiction fun h => hf (x1K hS hd (.inl ⟨ha, hb, hx⟩) h)
 have lo3 : ∀ a b x, Lo l d a → Lo l d b → Lo l d x → tcr (dv l a b) (dv l a x) = tz := fun a b x ha hb hx => Classical.byContradiction fun h => hf (x1K hS hd (.inr ⟨ha, hb, hx⟩) h)
 have mixed : ∀ a b c e, Hi l d a → Hi l d b → Lo l d c → Lo l d e → tcr (dv l a b) (dv l c e) ≠ tz → ∃ u v u' v', EdgeG l u v ∧ EdgeG l u' v' ∧ tcr (dv l u v) (dv l u' v') ≠ tz ∧ tcr (tcr (dv l u v) (dv l u' v')) d = tz := by
  intro a b c e ha hb hc he hn
  have n1 : dv l a b ≠ tz := fun h => hn (by rw [h]; simp [tcr, tz])
  have n2 : dv l c e ≠ tz := fun h => hn (by rw [h]; simp [tcr, tz])
  obtain ⟨u, v, E1, eu, ev, p1⟩ := v1c hS hd (M := hiD l d) (fun i hi => v0H d hi) ha.1 hb.1 ha.2 hb.2 n1 (fun x hx ex => hi3 a b x ha hb ⟨hx, ex⟩)
  obtain ⟨u', v', E2, eu', ev', p2⟩ := v1c hS (q0A hd) (M := -loD l d) (fun i hi => by rw [j0z]; have := w0e d hi; omega) hc.1 he.1 (by rw [j0z, hc.2]) (by rw [j0z, he.2]) n2 (fun x hx ex => lo3 c e x hc he ⟨hx, by rw [j0z] at ex; omega⟩)
  rw [j0z] at eu' ev'
  have d1 : dv l u v ≠ tz := fun h => E1.ne (X1S h).symm
  have d2 : dv l u' v' ≠ tz := fun h => E2.ne (X1S h).symm
  have hn2 : tcr (dv l u v) (dv l u' v') ≠ tz := fun h => by
   have q1 : tcr (dv l u v) (dv l a b) = tz := q0K p1
   have q2 : tcr (dv l a b) (dv l u' v') = tz := x0Y d1 q1 h
   have q3 : tcr (dv l u' v') (dv l c e) = tz := q0K p2
   exact hn (x0Y d2 (q0K q2) q3)
  refine ⟨u, v, u', v', E1, E2, hn2, ?_⟩
  refine q0K (X0Y hn2 ?_ ?_ ?_ ?_)
  ·rw [j0m]; omega
  ·rw [j0m]; omega
  ·simp only [j0b, tcr]; grind
  ·simp only [j0b, tcr]; grind
 obtain ⟨a, b, c, e, h1, h3, hn⟩ := h2
 rcases h1 with ⟨ha, hb⟩ | ⟨ha, hb⟩ <;> rcases h3 with ⟨hc, he⟩ | ⟨hc, he⟩
 ·exfalso
  rcases w1d hn with q | q
  ·exact q (lo3 a b c ha hb hc)
  ·exact q (lo3 a b e ha hb he)
 ·exact mixed c e a b hc he ha hb (fun h => hn (q0K h))
 ·exact mixed a b c e ha hb hc he hn
 ·exfalso
  rcases w1d hn with q | q
  ·exact q (hi3 a b c ha hb hc)
  ·exact q (hi3 a b e ha hb he)
end Go.Proofs.YtgblokifbgeegaaGreatDoor.H.S
namespace Go.Proofs.YtgblokifbgeegaaGreatDoor.H.S
open Go Go.Vc Go.RowKit H.G
set_option maxHeartbeats 1000000
def gz (l : List Int) (i : Nat) : Int := l.getD i 0
def zf (l : List Int) : Nat → Nat → AV := fun i _ => .val (.int .i64 (gz l i))
abbrev zs (l : List Int) : AV := .sl l.length 1 (zf l)
def x0y (l : List Int) : List Int := l.mergeSort fun x y => decide (x ≤ y)
theorem Q0h {a b : List Int} {i : Nat} (h : i < a.length) : gz (a ++ b) i = gz a i := by unfold gz; simp [List.getD, List.getElem?_append_left h]
theorem Y0J (l : List Int) : (Lib.compact l).length ≤ l.length := by
 unfold Lib.compact Lib.compactUpTo
 rw [List.length_map]
 refine Nat.le_trans (List.length_filter_le _ _) ?_
 simp
def j1O (l : List Tr) (d : Tr) : Nat → Nat
 |0 => 0
 |k + 1 => if j0b d (gt l k) < j0b d (gt l (j1O l d k)) then k else j1O l d k
def j1N (l : List Tr) (d : Tr) : Nat → Nat
 |0 => 0
 |k + 1 => if j0b d (gt l (j1N l d k)) < j0b d (gt l k) then k else j1N l d k
theorem v1i (l : List Tr) (d : Tr) : ∀ k n, k ≤ n → 0 < n → j1O l d k < n
 |0, n, _, h => h
 |k + 1, n, h, h0 => by
  have := v1i l d k n xO h0
  unfold j1O
  split <;> omega
theorem v1h (l : List Tr) (d : Tr) : ∀ k n, k ≤ n → 0 < n → j1N l d k < n
 |0, n, _, h => h
 |k + 1, n, h, h0 => by
  have := v1h l d k n xO h0
  unfold j1N
  split <;> omega
def tl (a : Tr) : List Int := [a.x, a.y, a.z]
def ixB (p : Nat → Bool) (n : Nat) : Int := match (List.range n).find? p with | some k => k | none => -1
theorem Q0n {p : Nat → Bool} {n k : Nat} (hk : k < n) (hall : ∀ j, j < k → p j = false) (hp : p k = true) : ixB p n = k := by
 have : (List.range n).find? p = some k := by
  rw [List.find?_range_eq_some]
  exact ⟨hp, by simpa using hk, fun j hj => by simp [hall j hj]⟩
 unfold ixB; rw [this]
theorem v1M {p : Nat → Bool} {n : Nat} (hall : ∀ j, j < n → p j = false) : ixB p n = -1 := by
 have : (List.range n).find? p = none := by
  rw [List.find?_eq_none]
  intro x hx
  simp [hall x (List.mem_range.1 hx)]
 unfold ixB; rw [this]
theorem Z1z (p : Nat → Bool) (n : Nat) : -1 ≤ ixB p n ∧ ixB p n < n := by
 unfold ixB
 cases h : (List.range n).find? p with
 |none => simp; omega
 |some k =>
  have := List.mem_range.1 (List.mem_of_find?_eq_some h)
  simp; omega
theorem k0t {p : Nat → Bool} {n : Nat} (h : ∀ k, k < n → p k = false) (hn : p n = false) : ∀ k, k < n + 1 → p k = false := fun k hk => by
 by_cases e : k = n
 ·subst e; exact hn
 ·exact h k xO
theorem K1k (l : List Int) (i j : Nat) : (zf l i j).one = true := rfl
def shp (ax : Nat) (p : Tr) : Pt := ⟨gz ((tl p).take ax ++ (tl p).drop (ax + 1)) 0, gz ((tl p).take ax ++ (tl p).drop (ax + 1)) 1⟩
def axI (n : Tr) : Int := ixB (fun k => decide (gz (tl n) k ≠ 0)) (tl n).length
def axN (n : Tr) : Nat := (axI n).toNat
def shN (l : List Tr) (n : Tr) : List Pt := l.map (shp (axN n))
theorem Y0D {n : Tr} (h : n ≠ tz) : axI n = (axN n : Nat) ∧ axN n < 3 := by
 have hb := Z1z (fun k => decide (gz (tl n) k ≠ 0)) (tl n).length
 have hl : (tl n).length = 3 := rfl
 have h0 : 0 ≤ axI n := by
  rcases (by omega : axI n < 0 ∨ 0 ≤ axI n) with h1 | h1
  ·exfalso
   apply h
   have key : ∀ k, k < 3 → gz (tl n) k = 0 := fun k hk => by
    refine Decidable.byContradiction fun hc => ?_
    unfold axI ixB at h1
    cases hf : (List.range (tl n).length).find? (fun k => decide (gz (tl n) k ≠ 0)) with
    |none =>
     have := List.find?_eq_none.1 hf k (List.mem_range.2 hk)
     simp [hc] at this
    |some j => rw [hf] at h1; simp at h1; omega
   have k0 := key 0 xO
   have k1 := key 1 xO
   have k2 := key 2 xO
   cases n
   simp only [tz, Tr.mk.injEq]
   exact ⟨k0, k1, k2⟩
  ·exact h1
 have h2 : axI n < (tl n).length := hb.2
 unfold axN
 omega
theorem k0V (p : Pt) : ∀ i, i < 1 → ∀ j, j < 2 → ∃ u, [Value.int .i64 p.x, .int .i64 p.y][i * 2 + j]? = some u ∧ pf [p] i j = .val u := by
 intro i hi j hj
 obtain rfl : i = 0 := by omega
 match j, hj with
 |0, _ => exact ⟨_, rfl, rfl⟩
 |1, _ => exact ⟨_, rfl, rfl⟩
theorem y0r (l : List Tr) (n : Tr) : (shN l n).length = l.length := by simp [shN]
abbrev Sml (l : List Pt) : Prop := chk l = 0 → l.length ≤ 19
def z0M (l : List Pt) : Int := if chk l ≠ 0 then chk l else if l.length = 0 then 13 else 0
def w0j (l : List Pt) : List Nat := if z0M l = 0 then arr l else []
theorem v0a {v : List Nat} {i : Nat} (h : i < v.length) : gi v i ∈ v := by rw [v0G h]; exact List.getElem_mem h
theorem Y1j (l : List Pt) : ∀ x ∈ arr l, x < l.length := by
 have h1 : ∀ x ∈ v0k l, x < l.length := fun x hx => by
  obtain ⟨k, hk, e⟩ := List.getElem_of_mem hx
  rw [← e, ← v0G hk]; exact Z0c l k hk
 have h2 : ∀ v : List Nat, (∀ x ∈ v, x < l.length) → ∀ x ∈ cpt l v, x < l.length := fun v hv x hx => by
  unfold cpt q0B at hx
  obtain ⟨i, hi, rfl⟩ := List.mem_map.1 hx
  exact hv _ (v0a (List.mem_range.1 (List.mem_filter.1 hi).1))
 have hpop : ∀ (i : Nat) (st : List Nat), ∀ x ∈ pop l i st, x ∈ st := by
  intro i st
  induction st with
  |nil => intro x hx; simp [pop] at hx
  |cons b r ih =>
   intro x hx
   match r, ih with
   |[], _ => simpa [pop] using hx
   |a :: r, ih =>
    unfold pop at hx
    split at hx
    ·exact List.mem_cons_of_mem _ (ih x hx)
    ·exact hx
 have hstk : ∀ (v st : List Nat), (∀ x ∈ v, x < l.length) → (∀ x ∈ st, x < l.length) → ∀ x ∈ v.foldl (fun st i => i :: pop l i st) st, x < l.length := by
  intro v
  induction v with
  |nil => intro st _ h2; exact h2
  |cons i v ih =>
   intro st h1 h2
   refine ih _ (fun x hx => h1 x (List.mem_cons_of_mem _ hx)) (fun x hx => ?_)
   rcases List.mem_cons.1 hx with rfl | hx
   ·exact h1 _ List.mem_cons_self
   ·exact h2 x (hpop i st x hx)
 have hch : ∀ v : List Nat, (∀ x ∈ v, x < l.length) → ∀ x ∈ chain l v, x < l.length := fun v hv x hx => by
  unfold chain stk at hx
  rw [List.mem_reverse] at hx
  exact hstk v [] hv (fun x hx => by cases hx) x (List.mem_of_mem_tail hx)
 have hc := h2 _ h1
 intro x hx
 unfold arr at hx
 split at hx
 ·exact hc x hx
 ·rcases List.mem_append.1 hx with hx | hx
  ·exact hch _ hc x hx
  ·exact hch _ (fun y hy => hc y (List.mem_reverse.1 hy)) x hx
theorem y1Y (l : List Pt) : ∀ x ∈ w0j l, x < l.length := by
 unfold w0j
 split
 ·exact Y1j l
 ·intro x hx; cases hx
theorem X0L (l : List Pt) : (w0j l).length ≤ 2 * l.length := by
 unfold w0j
 split
 ·have h1 := W0A l
  have h2 := X0y l (v0k l) (v0k l).length
  have h3 := J0h l (cpt l (v0k l))
  have h4 := J0h l (cpt l (v0k l)).reverse
  unfold cpt at *
  unfold arr
  split
  ·unfold cpt; omega
  ·simp [cpt] at *; omega
 ·simp
theorem Z1m (l : List Tr) (s : List Nat) {i : Nat} (h : i < s.length) : gt (s.map (gt l)) i = gt l (gi s i) := by unfold gt gi; simp [List.getD, h]
theorem _root_.Go.Proofs.YtgblokifbgeegaaGreatDoor.H.RT.pick {l : List Tr} (h : RT l) (s : List Nat) : RT (s.map (gt l)) := fun i => by
 by_cases hi : i < s.length
 ·rw [Z1m l s hi]; exact h _
 ·have e : gt (s.map (gt l)) i = ⟨0, 0, 0⟩ := by unfold gt; rw [List.getD, List.getElem?_eq_none (by simp; omega)]; rfl
  rw [e]
  exact ⟨by decide, by decide, by decide⟩
theorem w1V {p : Tr} {ax : Nat} (h : BT 100000 p) (ha : ax < 3) : x0v (shp ax p) = true := by
 have hx := h.x; have hy := h.y; have hz := h.z
 rcases (by omega : ax = 0 ∨ ax = 1 ∨ ax = 2) with rfl | rfl | rfl
 ·show (inB p.y && inB p.z) = true
  simp [inB]; omega
 ·show (inB p.x && inB p.z) = true
  simp [inB]; omega
 ·show (inB p.x && inB p.y) = true
  simp [inB]; omega
theorem K0g {l : List Tr} {n : Tr} (hl : RT l) (hn : n ≠ tz) (h0 : 0 < l.length) (h6 : l.length ≤ 7) : z0M (shN l n) = 0 := by
 have hc : chk (shN l n) = 0 := by
  unfold chk
  rw [if_neg (by rw [y0r]; omega), if_pos]
  rw [List.all_eq_true]
  intro p hp
  unfold shN at hp
  obtain ⟨q, hq, rfl⟩ := List.mem_map.1 hp
  obtain ⟨i, hi, rfl⟩ := List.getElem_of_mem hq
  rw [← v1A hi]
  exact w1V (hl i) (Y0D hn).2
 unfold z0M
 rw [if_neg (by omega), if_neg (by rw [y0r]; omega)]
abbrev x0f (v : List Nat) : List Int := v.map (fun i : Nat => (i : Int))
def w0U (l : List Tr) (f : Fc) : List Nat := w0j (shN (f.s.map (gt l)) f.n)
def vf (l : List Tr) (f : Fc) : List Int := (w0U l f).map (fun i => ((gi f.s i : Nat) : Int))
def z0f (l : List Tr) (L : List Fc) : Nat → List Int
 |0 => []
 |k + 1 => z0f l L k ++ vf l (gf L k)
def k1e (l : List Tr) (L : List Fc) : List Int :=
 if (spn l).dim = -1 then [] else if (spn l).dim = 0 then [0] else
 if (spn l).dim = 1 then [((j1O l (spn l).way l.length : Nat) : Int), ((j1N l (spn l).way l.length : Nat) : Int)] else
 if (spn l).dim = 2 then x0f (w0j (shN l (spn l).way)) else z0f l L L.length
def z1O (l : List Tr) (L : List Fc) : List Int := Lib.compact (x0y (k1e l L))
theorem q0E (l : List Int) : (x0y l).length = l.length := by unfold x0y; rw [List.length_mergeSort]
theorem xz (L : List Nat) : ∀ i, i < L.length → ∀ j, j < 1 → xf L i j = zf (x0f L) i j := by
 intro i hi j hj
 unfold xf zf gi gz
 simp [List.getD, hi]
theorem k0A {s : List Nat} {k : Nat} (h : k < s.length) : s.take (k + 1) = s.take k ++ [gi s k] := by
 rw [v0G h, List.take_succ_eq_append_getElem h]
theorem X0w (l : List Tr) (f : Fc) (h : f.s.length ≤ 7) : (w0U l f).length ≤ 14 := by
 have := X0L (shN (f.s.map (gt l)) f.n)
 rw [y0r, List.length_map] at this
 unfold w0U; omega
theorem Y0d (l : List Tr) (L : List Fc) (hL : ∀ f ∈ L, f.n ≠ tz ∧ f.s.length ≤ 7) : ∀ k, k ≤ L.length → (z0f l L k).length ≤ 14 * k
 |0, _ => Nat.le_refl _
 |k + 1, hk => by
  have h1 := Y0d l L hL k xO
  have h2 := X0w l (gf L k) (hL _ (y0Y xO)).2
  show (z0f l L k ++ (w0U l (gf L k)).map _).length ≤ _
  rw [List.length_append, List.length_map]; omega
theorem K1m (X : List Int) (x : Nat) : ∀ i, i < X.length + 1 → ∀ j, j < 1 → v0J X.length (zf X) (xf [x]) i j = zf (X ++ [(x : Int)]) i j := by
 intro i hi j hj
 unfold v0J
 by_cases h : i < X.length
 ·rw [if_pos h]; unfold zf gz; simp [List.getD, List.getElem?_append_left h]
 ·rw [if_neg h]
  have e : i = X.length := by omega
  subst e
  unfold zf gz xf gi
  simp [List.getD]
theorem X1K (v : List Nat) : xf v = zf (x0f v) := by
 funext i j
 unfold xf zf gi gz
 by_cases h : i < v.length
 ·simp [List.getD, h]
 ·simp [List.getD, List.getElem?_eq_none (Nat.le_of_not_lt h)]
def hasB (s : List Int) (a : Int) : Bool := decide (a ∈ s)
theorem V1M {s : List Int} {i : Nat} (h : i < s.length) : gz s i ∈ s := by unfold gz; simp [List.getD, h]
theorem Z1J {s : List Int} {a : Int} (h : a ∈ s) : ∃ i, i < s.length ∧ gz s i = a := by
 obtain ⟨i, hi, e⟩ := List.getElem_of_mem h
 exact ⟨i, hi, by unfold gz; simp [List.getD, hi, e]⟩
theorem Z1A (s : List Int) (a : Int) : decide (0 ≤ ixB (fun k => decide (a = gz s k)) s.length) = hasB s a := by
 unfold hasB
 by_cases h : a ∈ s
 ·rw [decide_eq_true h, decide_eq_true_eq]
  obtain ⟨i, hi, e⟩ := Z1J h
  unfold ixB
  cases hf : (List.range s.length).find? (fun k => decide (a = gz s k)) with
  |none =>
   have := List.find?_eq_none.1 hf i (List.mem_range.2 hi)
   simp [e] at this
  |some j => simp
 ·rw [decide_eq_false h, decide_eq_false_iff_not]
  rw [v1M (p := fun k => decide (a = gz s k)) (fun j hj => decide_eq_false fun e => h (by rw [e]; exact V1M hj))]
  decide
def ef (E : List (Int × Int)) : Nat → Nat → AV := fun i j => match j with | 0 => vi (E.getD i (0, 0)).1 | _+1 => vi (E.getD i (0, 0)).2
abbrev es (E : List (Int × Int)) : AV := .sl E.length 2 (ef E)
theorem Y1T (a b : Int) : ∀ i, i < 1 → ∀ j, j < 2 → ∃ u, [Value.int .i64 a, .int .i64 b][i * 2 + j]? = some u ∧ ef [(a, b)] i j = .val u := by
 intro i hi j hj
 obtain rfl : i = 0 := by omega
 match j, hj with
 |0, _ => exact ⟨_, rfl, rfl⟩
 |1, _ => exact ⟨_, rfl, rfl⟩
theorem Y1S (E : List (Int × Int)) : ∀ i j, (ef E i j).one = true := fun i j => by unfold ef; split <;> rfl
theorem Y1R (E : List (Int × Int)) (p : Int × Int) : ∀ i, i < E.length + 1 → ∀ j, j < 2 → v0J E.length (ef E) (ef [p]) i j = ef (E ++ [p]) i j := by
 intro i hi j hj
 unfold v0J ef
 by_cases h : i < E.length
 ·rw [if_pos h]; simp [List.getD, List.getElem?_append_left h]
 ·rw [if_neg h]
  have e : i = E.length := by omega
  subst e
  simp [List.getD]
def cnt (L : List Fc) (a b : Int) : Nat → Nat
 |0 => 0
 |q + 1 => cnt L a b q + if (hasB (x0f (gf L q).s) a && hasB (x0f (gf L q).s) b) = true then 1 else 0
theorem J1j (L : List Fc) (a b : Int) : ∀ q, cnt L a b q ≤ q
 |0 => Nat.le_refl _
 |q + 1 => by have := J1j L a b q; unfold cnt; split <;> omega
def eM (L : List Fc) (V : List Int) (k : Nat) : Nat → List (Int × Int)
 |0 => []
 |m + 1 => eM L V k m ++ if 2 ≤ cnt L (gz V k) (gz V (k + 1 + m)) L.length then [(gz V k, gz V (k + 1 + m))] else []
def eTo (L : List Fc) (V : List Int) : Nat → List (Int × Int)
 |0 => []
 |k + 1 => eTo L V k ++ eM L V k (V.length - (k + 1))
def Y1Q (L : List Fc) (V : List Int) : List (Int × Int) := eTo L V V.length
theorem v1b (L : List Fc) (V : List Int) (k : Nat) : ∀ m, (eM L V k m).length ≤ m
 |0 => Nat.le_refl _
 |m + 1 => by have := v1b L V k m; unfold eM; rw [List.length_append]; split <;> simp <;> omega
theorem Y0M (L : List Fc) (V : List Int) (hV : V.length ≤ 14000) : ∀ k, (eTo L V k).length ≤ 14000 * k
 |0 => Nat.le_refl _
 |k + 1 => by have := Y0M L V hV k; have := v1b L V k (V.length - (k + 1)); unfold eTo; rw [List.length_append]; omega
end Go.Proofs.YtgblokifbgeegaaGreatDoor.H.S
section
namespace Go.Proofs.YtgblokifbgeegaaGreatDoor.H.S
open Go Go.Vc Go.RowKit H.G
set_option maxHeartbeats 1000000
theorem V1b {n : Tr} (h : n ≠ tz) : gz (tl n) (axN n) ≠ 0 := by
 obtain ⟨h1, h2⟩ := Y0D h
 intro e
 unfold axI ixB at h1
 cases hf : (List.range (tl n).length).find? (fun k => decide (gz (tl n) k ≠ 0)) with
 |none => rw [hf] at h1; simp at h1
 |some j =>
  have hj := List.find?_some hf
  rw [hf] at h1
  have h1 : j = axN n := by simp only at h1; omega
  rw [h1] at hj
  simp [e] at hj
def sgS (n : Tr) : Int := if axN n = 0 then n.x else if axN n = 1 then -n.y else n.z
theorem Q1e {n : Tr} (h : n ≠ tz) : sgS n ≠ 0 := by
 have h1 := V1b h
 have h2 := (Y0D h).2
 unfold sgS
 rcases (by omega : axN n = 0 ∨ axN n = 1 ∨ axN n = 2) with e | e | e
 ·rw [e] at h1 ⊢; simpa [tl, gz] using h1
 ·rw [e] at h1 ⊢; simpa [tl, gz] using h1
 ·rw [e] at h1 ⊢; simpa [tl, gz] using h1
theorem W1Q {n p q r : Tr} (h : n ≠ tz) (hq : j0b n (j0E q p) = 0) (hr : j0b n (j0E r p) = 0) : crs (shp (axN n) p) (shp (axN n) q) (shp (axN n) r) * j0b n n = sgS n * det n (j0E q p) (j0E r p) := by
 have h2 := (Y0D h).2
 unfold sgS
 have e0 : ∀ u : Tr, shp 0 u = ⟨u.y, u.z⟩ := fun u => rfl
 have e1 : ∀ u : Tr, shp 1 u = ⟨u.x, u.z⟩ := fun u => rfl
 have e2 : ∀ u : Tr, shp 2 u = ⟨u.x, u.y⟩ := fun u => rfl
 rcases (by omega : axN n = 0 ∨ axN n = 1 ∨ axN n = 2) with e | e | e
 ·rw [e]; simp only [e0, crs, trn, sub, j0b, det, tcr, j0E, if_true] at *; grind
 ·rw [e]; simp only [e1, crs, trn, sub, j0b, det, tcr, j0E, show ¬ (1 : Nat) = 0 by decide, if_false, if_true] at *; grind
 ·rw [e]; simp only [e2, crs, trn, sub, j0b, det, tcr, j0E, show ¬ (2 : Nat) = 0 by decide, show ¬ (2 : Nat) = 1 by decide, if_false] at *; grind
theorem W1R {n p q : Tr} (h : n ≠ tz) (hq : j0b n (j0E q p) = 0) (e : shp (axN n) p = shp (axN n) q) : p = q := by
 have h2 := (Y0D h).2
 have h3 := V1b h
 have e0 : ∀ u : Tr, shp 0 u = ⟨u.y, u.z⟩ := fun u => rfl
 have e1 : ∀ u : Tr, shp 1 u = ⟨u.x, u.z⟩ := fun u => rfl
 have e2 : ∀ u : Tr, shp 2 u = ⟨u.x, u.y⟩ := fun u => rfl
 have key : ∀ a b : Int, a ≠ 0 → a * b = 0 → b = 0 := fun a b ha hab => w0N ha hab
 rcases (by omega : axN n = 0 ∨ axN n = 1 ∨ axN n = 2) with e' | e' | e' <;> rw [e'] at e h3
 ·simp only [e0, Pt.mk.injEq] at e
  have h3 : n.x ≠ 0 := h3
  simp only [j0b, j0E] at hq
  obtain ⟨a, b⟩ := e
  have := key n.x (q.x - p.x) h3 (by grind)
  exact q0T xO a b
 ·simp only [e1, Pt.mk.injEq] at e
  have h3 : n.y ≠ 0 := h3
  simp only [j0b, j0E] at hq
  obtain ⟨a, b⟩ := e
  have := key n.y (q.y - p.y) h3 (by grind)
  exact q0T a xO b
 ·simp only [e2, Pt.mk.injEq] at e
  have h3 : n.z ≠ 0 := h3
  simp only [j0b, j0E] at hq
  obtain ⟨a, b⟩ := e
  have := key n.z (q.z - p.z) h3 (by grind)
  exact q0T a b xO
theorem V0F {X D nn sg : Int} (h : X * nn = sg * D) (hn : 0 < nn) (hs : 0 < sg) : (0 ≤ X ↔ 0 ≤ D) ∧ (0 < X ↔ 0 < D) ∧ (X = 0 ↔ D = 0) ∧ (X ≤ 0 ↔ D ≤ 0) := by
 have key : (0 < X → 0 < D) ∧ (X < 0 → D < 0) ∧ (0 < D → 0 < X) ∧ (D < 0 → X < 0) := by
  refine ⟨fun hx => ?_, fun hx => ?_, fun hx => ?_, fun hx => ?_⟩
  ·have := Int.mul_pos hx hn
   rcases (by omega : D ≤ 0 ∨ 0 < D) with h1 | h1
   ·have := Int.mul_nonpos_of_nonneg_of_nonpos (Int.le_of_lt hs) h1; omega
   ·exact h1
  ·have := Int.mul_neg_of_neg_of_pos hx hn
   rcases (by omega : 0 ≤ D ∨ D < 0) with h1 | h1
   ·have := Int.mul_nonneg (Int.le_of_lt hs) h1; omega
   ·exact h1
  ·have := Int.mul_pos hs hx
   rcases (by omega : X ≤ 0 ∨ 0 < X) with h1 | h1
   ·have := Int.mul_nonpos_of_nonpos_of_nonneg h1 (Int.le_of_lt hn); omega
   ·exact h1
  ·have := Int.mul_neg_of_pos_of_neg hs hx
   rcases (by omega : 0 ≤ X ∨ X < 0) with h1 | h1
   ·have := Int.mul_nonneg h1 (Int.le_of_lt hn); omega
   ·exact h1
 obtain ⟨k1, k2, k3, k4⟩ := key
 have a : ∀ Y : Int, Y < 0 ∨ Y = 0 ∨ 0 < Y := fun Y => by omega
 rcases a X with hx | hx | hx
 ·have := k2 hx; omega
 ·rcases a D with hd | hd | hd
  ·have := k4 hd; omega
  ·omega
  ·have := k3 hd; omega
 ·have := k1 hx; omega
theorem Y0C {l : List Pt} (h : chk l = 0) (h0 : 0 < l.length) {i j : Nat} (hi : i < l.length) (hj : j < l.length) (hne : gp l i ≠ gp l j) : 2 ≤ (arr l).length := by
 have hS := j2O h h0
 have H := Y0U h h0
 rcases Nat.lt_or_ge (cpt l (v0k l)).length 2 with h2 | h2
 ·exfalso
  obtain ⟨x, hx, ex, _⟩ := hS.cover i hi
  obtain ⟨y, hy, ey, _⟩ := hS.cover j hj
  match hc : cpt l (v0k l), h2, hx, hy with
  |[s], _, hx, hy =>
   simp at hx hy
   subst hx; subst hy
   exact hne (ex.symm.trans ey)
  |[], _, hx, _ => simp at hx
 ·obtain ⟨p0, pm, hp, hm, T⟩ := Q1x hS.sm hS.inc h2
  have m0 : p0 ∈ arr l := (H.mem p0 (hS.lt _ T.mem0)).2 (hS.vtx_of T.mem0 T.sup0)
  have mm : pm ∈ arr l := (H.mem pm (hS.lt _ T.memM)).2 (hS.vtx_of T.memM T.supM)
  have hd : p0 ≠ pm := fun e => by
   match hc : cpt l (v0k l), h2, hp, hm, hS.inc with
   |a :: b :: r, _, hp, hm, hi =>
    simp at hp
    subst hp
    have : pm ∈ b :: r := by
     rw [List.getLast?_cons_cons] at hm
     exact List.mem_of_getLast? hm
    have := (List.pairwise_cons.1 hi).1 pm this
    rw [e, x0c] at this
    omega
  match hA : arr l, m0, mm with
  |[], m0, _ => simp at m0
  |[s], m0, mm => simp at m0 mm; exact absurd (m0.trans mm.symm) hd
  |_ :: _ :: _, _, _ => simp
theorem y1C {a b c p q : Pt} (h : p ≠ q) (ha : crs p q a = 0) (hb : crs p q b = 0) (hc : crs p q c = 0) : crs a b c = 0 := by
 have key : q.x - p.x ≠ 0 ∨ q.y - p.y ≠ 0 := by
  by_cases hx : q.x - p.x = 0
  ·right
   intro hy
   exact h (by cases p; cases q; simp only [Pt.mk.injEq] at *; omega)
  ·exact .inl hx
 simp only [crs, trn, sub] at *
 rcases key with k | k
 ·refine w0N k ?_; grind
 ·refine w0N k ?_; grind
theorem q1b {l : List Pt} (h : chk l = 0) {i j k : Nat} (hi : i < l.length) (hj : j < l.length) (hk : k < l.length) (hne : crs (gp l i) (gp l j) (gp l k) ≠ 0) : 3 ≤ (arr l).length := by
 have h0 : 0 < l.length := by omega
 have H := Y0U h h0
 have h2 := Y0C h h0 hi hj (fun e => hne (by rw [e, Z0Z]))
 rcases (by omega : (arr l).length = 2 ∨ 3 ≤ (arr l).length) with e | e
 ·exfalso
  have e1 := H.edge xO 0 xO
  have e2 := H.edge xO 1 xO
  rw [e] at e1 e2
  simp only [show (0 + 1) % 2 = 1 from rfl, show (1 + 1) % 2 = 0 from rfl] at e1 e2
  have hz : ∀ p, p < l.length → crs (gp l (gi (arr l) 0)) (gp l (gi (arr l) 1)) (gp l p) = 0 := fun p hp => by
   have a := e1 p hp
   have b := e2 p hp
   rw [j0R] at b
   omega
  have hd : gp l (gi (arr l) 0) ≠ gp l (gi (arr l) 1) := K0C (H.vtx xO) (H.vtx xO) (H.ne xO xO xE)
  exact hne (y1C hd (hz i hi) (hz j hj) (hz k hk))
 ·exact e
structure FX (l : List Tr) (f : Fc) : Prop where
 hl : RT l
 h6 : l.length ≤ 7
 isF : IsF l f
 n0 : f.n ≠ tz
 tri : ∃ a b c, a ∈ f.s ∧ b ∈ f.s ∧ c ∈ f.s ∧ tac (gt l a) (gt l b) (gt l c) ≠ tz
theorem FX.of {l : List Tr} (hl : RT l) (h6 : l.length ≤ 7) (hS : Sol l) {f : Fc} (hf : f ∈ j0i l) : FX l f := by
 obtain ⟨h1, a, b, c, h2⟩ := (z0w hS f).1 hf
 refine ⟨hl, h6, h1, h2.nz, a, b, c, ?_, ?_, ?_, h2.ne⟩
 ·rw [h1.s, v0O]; refine ⟨h2.ha, ?_⟩
  obtain ⟨k, hk, e⟩ := h1.at_
  have := h1.le a h2.ha
  have := h2.le k hk
  omega
 ·rw [h1.s, v0O]; refine ⟨h2.hb, ?_⟩
  obtain ⟨k, hk, e⟩ := h1.at_
  have := h1.le a h2.ha
  have := h2.le k hk
  have := h2.at1
  omega
 ·rw [h1.s, v0O]; refine ⟨h2.hc, ?_⟩
  obtain ⟨k, hk, e⟩ := h1.at_
  have := h1.le a h2.ha
  have := h2.le k hk
  have := h2.at2
  omega
abbrev y0v (l : List Tr) (f : Fc) : List Pt := shN (f.s.map (gt l)) f.n
def vfN (l : List Tr) (f : Fc) : List Nat := (w0U l f).map (gi f.s)
section
variable {l : List Tr} {f : Fc}
theorem FX.ms (h : FX l f) {i : Nat} : i ∈ f.s ↔ i < l.length ∧ j0b f.n (gt l i) = f.m := by rw [h.isF.s, v0O]
theorem FX.d0 (h : FX l f) {v i : Nat} (hv : v ∈ f.s) (hi : i ∈ f.s) : j0b f.n (dv l v i) = 0 := by
 rw [j0m, (h.ms.1 hi).2, (h.ms.1 hv).2]; omega
theorem FX.le (h : FX l f) {v i : Nat} (hv : v ∈ f.s) (hi : i < l.length) : j0b f.n (dv l v i) ≤ 0 := by
 rw [j0m, (h.ms.1 hv).2]; have := h.isF.le i hi; omega
theorem FX.on (h : FX l f) {v i : Nat} (hv : v ∈ f.s) (hi : i < l.length) (e : j0b f.n (dv l v i) = 0) : i ∈ f.s := by
 rw [j0m, (h.ms.1 hv).2] at e; exact h.ms.2 ⟨hi, by omega⟩
theorem FX.sl (h : FX l f) : f.s.length ≤ 7 := by
 rw [h.isF.s]
 have := List.length_filter_le (fun i => decide (j0b f.n (gt l i) = f.m)) (List.range l.length)
 rw [List.length_range] at this
 have := h.h6
 unfold Q0w; omega
theorem FX.asc (h : FX l f) : f.s.Pairwise (· < ·) := by
 rw [h.isF.s]; unfold Q0w
 exact List.Pairwise.filter _ (List.pairwise_lt_range)
theorem FX.mono (h : FX l f) {a b : Nat} (ha : a < f.s.length) (hb : b < f.s.length) : gi f.s a < gi f.s b ↔ a < b := by
 have hp := List.pairwise_iff_getElem.1 h.asc
 rw [v0G ha, v0G hb]
 constructor
 ·intro hlt
  rcases (by omega : a < b ∨ a = b ∨ b < a) with e | e | e
  ·exact e
  ·subst e; omega
  ·have := hp b a hb ha e; omega
 ·exact hp a b ha hb
theorem FX.pos (h : FX l f) : 0 < f.s.length := (Z1c h.isF).1
theorem FX.len (f : Fc) (l : List Tr) : (y0v l f).length = f.s.length := by unfold y0v; rw [y0r, List.length_map]
theorem FX.gpk (l : List Tr) {f : Fc} {k : Nat} (hk : k < f.s.length) : gp (y0v l f) k = shp (axN f.n) (gt l (gi f.s k)) := by
 rw [W0t (by rw [FX.len]; exact hk)]
 unfold y0v shN
 rw [v0G hk]
 simp
theorem FX.ix (h : FX l f) {i : Nat} (hi : i ∈ f.s) : ∃ k, k < f.s.length ∧ gi f.s k = i := by
 obtain ⟨k, hk, e⟩ := List.getElem_of_mem hi
 exact ⟨k, hk, by rw [v0G hk, e]⟩
theorem FX.chk0 (h : FX l f) : chk (y0v l f) = 0 := by
 have := K0g (h.hl.pick f.s) h.n0 (by rw [List.length_map]; exact h.pos) (by rw [List.length_map]; exact h.sl)
 unfold z0M at this
 by_cases e : chk (y0v l f) = 0
 ·exact e
 ·rw [if_pos e] at this; exact this
theorem FX.corn (h : FX l f) : w0U l f = arr (y0v l f) := by
 unfold w0U w0j
 rw [if_pos (K0g (h.hl.pick f.s) h.n0 (by rw [List.length_map]; exact h.pos) (by rw [List.length_map]; exact h.sl))]
theorem FX.ok (h : FX l f) : HullOk (y0v l f) (w0U l f) := by
 rw [h.corn]; exact Y0U h.chk0 (by rw [FX.len]; exact h.pos)
theorem FX.sm (h : FX l f) : ∀ i, SmP (gp (y0v l f) i) := (q1y h.chk0).1
theorem FX.crsk (h : FX l f) {i j k : Nat} (hi : i < f.s.length) (hj : j < f.s.length) (hk : k < f.s.length) : crs (gp (y0v l f) i) (gp (y0v l f) j) (gp (y0v l f) k) * j0b f.n f.n = sgS f.n * det f.n (dv l (gi f.s i) (gi f.s j)) (dv l (gi f.s i) (gi f.s k)) := by
 rw [FX.gpk l hi, FX.gpk l hj, FX.gpk l hk]
 exact W1Q h.n0 (h.d0 (v0a hi) (v0a hj)) (h.d0 (v0a hi) (v0a hk))
theorem FX.three (h : FX l f) : 3 ≤ (w0U l f).length := by
 obtain ⟨a, b, c, ha, hb, hc, hn⟩ := h.tri
 obtain ⟨i, hi, rfl⟩ := h.ix ha
 obtain ⟨j, hj, rfl⟩ := h.ix hb
 obtain ⟨k, hk, rfl⟩ := h.ix hc
 rw [h.corn]
 refine q1b h.chk0 (i := i) (j := j) (k := k) (by rw [FX.len]; exact hi) (by rw [FX.len]; exact hj) (by rw [FX.len]; exact hk) fun e => hn ?_
 have hc := h.crsk hi hj hk
 rw [e, Int.zero_mul] at hc
 have hd : det f.n (dv l (gi f.s i) (gi f.s j)) (dv l (gi f.s i) (gi f.s k)) = 0 := w0N (Q1e h.n0) hc.symm
 exact W0b h.n0 (h.d0 (v0a hi) (v0a hj)) (h.d0 (v0a hi) (v0a hk)) hd
theorem w0z (i : Nat) : i ∈ vfN l f ↔ ∃ k, k < (w0U l f).length ∧ gi f.s (gi (w0U l f) k) = i := by
 unfold vfN
 rw [List.mem_map]
 constructor
 ·rintro ⟨x, hx, e⟩
  obtain ⟨k, hk, ek⟩ := List.getElem_of_mem hx
  exact ⟨k, hk, by rw [v0G hk, ek]; exact e⟩
 ·rintro ⟨k, hk, e⟩
  exact ⟨_, v0a hk, e⟩
theorem FX.vs (h : FX l f) {i : Nat} (hi : i ∈ vfN l f) : i ∈ f.s := by
 obtain ⟨k, hk, rfl⟩ := (w0z i).1 hi
 exact v0a (by have := h.ok.lt k hk; rwa [FX.len] at this)
structure Nb (l : List Tr) (f : Fc) (v u w : Nat) : Prop where
 mv : v ∈ vfN l f
 mu : u ∈ vfN l f
 mw : w ∈ vfN l f
 pu : ∀ x ∈ f.s, 0 ≤ det f.n (dv l v u) (dv l v x)
 pw : ∀ x ∈ f.s, det f.n (dv l v w) (dv l v x) ≤ 0
 st : 0 < det f.n (dv l v u) (dv l v w)
 eu : ∀ x ∈ vfN l f, det f.n (dv l v u) (dv l v x) = 0 → x = v ∨ x = u
 ew : ∀ x ∈ vfN l f, det f.n (dv l v w) (dv l v x) = 0 → x = v ∨ x = w
theorem FX.nb (h : FX l f) {v : Nat} (hv : v ∈ vfN l f) : ∃ u w, Nb l f v u w := by
 have H := h.ok
 have h3 := h.three
 have sm := h.sm
 have hlt : ∀ k, k < (w0U l f).length → gi (w0U l f) k < f.s.length := fun k hk => by have := H.lt k hk; rwa [FX.len] at this
 obtain ⟨k, hk, rfl⟩ := (w0z v).1 hv
 generalize hC : w0U l f = C at *
 have hK : (k + 1) % C.length < C.length := Nat.mod_lt _ xO
 obtain ⟨P, hP, eP⟩ : ∃ P, P < C.length ∧ (P + 1) % C.length = k := by
  by_cases h0 : k = 0
  ·exact ⟨C.length - 1, by omega, by rw [show C.length - 1 + 1 = C.length by omega, Nat.mod_self, h0]⟩
  ·exact ⟨k - 1, by omega, by rw [show k - 1 + 1 = k by omega, Nat.mod_eq_of_lt hk]⟩
 have hPk : P ≠ k := fun e => by
  subst e
  by_cases hk1 : P + 1 < C.length
  ·rw [Nat.mod_eq_of_lt hk1] at eP; omega
  ·have : P + 1 = C.length := by omega
   rw [this, Nat.mod_self] at eP; omega
 have hPK : P ≠ (k + 1) % C.length := fun e => by
  by_cases hk1 : k + 1 < C.length
  ·rw [Nat.mod_eq_of_lt hk1] at e
   subst e
   by_cases hk2 : k + 1 + 1 < C.length
   ·rw [Nat.mod_eq_of_lt hk2] at eP; omega
   ·have : k + 1 + 1 = C.length := by omega
    rw [this, Nat.mod_self] at eP; omega
  ·have : k + 1 = C.length := by omega
   rw [this, Nat.mod_self] at e
   subst e
   rw [Nat.mod_eq_of_lt (by omega)] at eP; omega
 have mK : gi f.s (gi C ((k + 1) % C.length)) ∈ vfN l f := (w0z _).2 ⟨_, by rw [hC]; exact hK, by rw [hC]⟩
 have mP : gi f.s (gi C P) ∈ vfN l f := (w0z _).2 ⟨P, by rw [hC]; exact hP, by rw [hC]⟩
 have c1 := fun {x} (hx : x < f.s.length) => h.crsk (hlt k hk) (hlt _ hK) hx
 have c2 := fun {x} (hx : x < f.s.length) => h.crsk (hlt k hk) (hlt _ hP) hx
 have q1 : ∀ x, x < f.s.length → 0 ≤ crs (gp (y0v l f) (gi C k)) (gp (y0v l f) (gi C ((k + 1) % C.length))) (gp (y0v l f) x) := fun x hx => H.edge (by omega) k hk x (by rw [FX.len]; exact hx)
 have q2 : ∀ x, x < f.s.length → crs (gp (y0v l f) (gi C k)) (gp (y0v l f) (gi C P)) (gp (y0v l f) x) ≤ 0 := fun x hx => by
  have := H.edge (by omega) P hP x (by rw [FX.len]; exact hx)
  rw [eP, j0R] at this
  omega
 have q3 := H.strict sm hk hP hPk hPK xO
 have q4 : ∀ j, j < C.length → crs (gp (y0v l f) (gi C k)) (gp (y0v l f) (gi C ((k + 1) % C.length))) (gp (y0v l f) (gi C j)) = 0 → j = k ∨ j = (k + 1) % C.length := fun j hj e => by
  refine Classical.byContradiction fun hno => ?_
  have := H.strict sm hk hj (fun e => hno (.inl e)) (fun e => hno (.inr e)) xO
  omega
 have q5 : ∀ j, j < C.length → crs (gp (y0v l f) (gi C k)) (gp (y0v l f) (gi C P)) (gp (y0v l f) (gi C j)) = 0 → j = k ∨ j = P := fun j hj e => by
  refine Classical.byContradiction fun hno => ?_
  have := H.strict sm hP hj (fun e => hno (.inr e)) (fun e => hno (.inl (e.trans eP))) xO
  rw [eP, j0R] at this
  omega
 have hnn := q0j h.n0
 rcases (by have := Q1e h.n0; omega : 0 < sgS f.n ∨ sgS f.n < 0) with hs | hs
 ·refine ⟨_, _, hv, mK, mP, fun x hx => ?_, fun x hx => ?_, ?_, fun x hx e => ?_, fun x hx e => ?_⟩
  ·obtain ⟨i, hi, rfl⟩ := h.ix hx
   exact (V0F (c1 hi) hnn hs).1.1 (q1 i hi)
  ·obtain ⟨i, hi, rfl⟩ := h.ix hx
   exact (V0F (c2 hi) hnn hs).2.2.2.1 (q2 i hi)
  ·exact (V0F (c1 (hlt P hP)) hnn hs).2.1.1 q3
  ·obtain ⟨j, hj, rfl⟩ := (w0z x).1 hx
   rw [hC] at hj e ⊢
   rcases q4 j hj ((V0F (c1 (hlt j hj)) hnn hs).2.2.1.2 e) with e | e
   ·exact .inl (by rw [e])
   ·exact .inr (by rw [e])
  ·obtain ⟨j, hj, rfl⟩ := (w0z x).1 hx
   rw [hC] at hj e ⊢
   rcases q5 j hj ((V0F (c2 (hlt j hj)) hnn hs).2.2.1.2 e) with e | e
   ·exact .inl (by rw [e])
   ·exact .inr (by rw [e])
 ·have neg : ∀ {X D : Int}, X * j0b f.n f.n = sgS f.n * D → (0 ≤ X ↔ 0 ≤ -D) ∧ (0 < X ↔ 0 < -D) ∧ (X = 0 ↔ -D = 0) ∧ (X ≤ 0 ↔ -D ≤ 0) := fun {X D} e => V0F (sg := - sgS f.n) (by rw [e, Int.neg_mul_neg]) hnn (by omega)
  refine ⟨_, _, hv, mP, mK, fun x hx => ?_, fun x hx => ?_, ?_, fun x hx e => ?_, fun x hx e => ?_⟩
  ·obtain ⟨i, hi, rfl⟩ := h.ix hx
   have := (neg (c2 hi)).2.2.2.1 (q2 i hi); omega
  ·obtain ⟨i, hi, rfl⟩ := h.ix hx
   have := (neg (c1 hi)).1.1 (q1 i hi); omega
  ·have := (neg (c1 (hlt P hP))).2.1.1 q3
   have e : det f.n (dv l (gi f.s (gi C k)) (gi f.s (gi C P))) (dv l (gi f.s (gi C k)) (gi f.s (gi C ((k + 1) % C.length)))) = - det f.n (dv l (gi f.s (gi C k)) (gi f.s (gi C ((k + 1) % C.length)))) (dv l (gi f.s (gi C k)) (gi f.s (gi C P))) := Y1G _ _ _
   omega
  ·obtain ⟨j, hj, rfl⟩ := (w0z x).1 hx
   rw [hC] at hj e ⊢
   rcases q5 j hj ((neg (c2 (hlt j hj))).2.2.1.2 xO) with e | e
   ·exact .inl (by rw [e])
   ·exact .inr (by rw [e])
  ·obtain ⟨j, hj, rfl⟩ := (w0z x).1 hx
   rw [hC] at hj e ⊢
   rcases q4 j hj ((neg (c1 (hlt j hj))).2.2.1.2 xO) with e | e
   ·exact .inl (by rw [e])
   ·exact .inr (by rw [e])
end
end Go.Proofs.YtgblokifbgeegaaGreatDoor.H.S
end
section
namespace Go.Proofs.YtgblokifbgeegaaGreatDoor.H.S
open Go Go.Vc Go.RowKit H.G
set_option maxHeartbeats 1000000
section
variable {l : List Tr}
theorem Nb.ind {f : Fc} {v u w : Nat} (nb : Nb l f v u w) : tcr (dv l v u) (dv l v w) ≠ tz := fun e => by
 have := nb.st
 have e2 : det f.n (dv l v u) (dv l v w) = j0b f.n (tcr (dv l v u) (dv l v w)) := by simp only [det, j0b, tcr]; grind
 rw [e2, e, Q1q] at this; omega
theorem Nb.front {f : Fc} (h : FX l f) {v u w : Nat} (nb : Nb l f v u w) {x : Nat} (hx : x ∈ f.s) (hne : gt l x ≠ gt l v) : j0b (lc (-1) 1 (tcr f.n (dv l v u)) (tcr f.n (dv l v w))) (dv l v x) < 0 := by
 rw [X0N]
 have e1 : j0b (tcr f.n (dv l v u)) (dv l v x) = det f.n (dv l v u) (dv l v x) := rfl
 have e2 : j0b (tcr f.n (dv l v w)) (dv l v x) = det f.n (dv l v w) (dv l v x) := rfl
 rw [e1, e2]
 have h1 := nb.pu x hx
 have h2 := nb.pw x hx
 have h3 : ¬ (det f.n (dv l v u) (dv l v x) = 0 ∧ det f.n (dv l v w) (dv l v x) = 0) := fun ⟨a, b⟩ => by
  have c1 := W0b h.n0 (h.d0 (h.vs nb.mv) (h.vs nb.mu)) (h.d0 (h.vs nb.mv) hx) a
  have c2 := W0b h.n0 (h.d0 (h.vs nb.mv) (h.vs nb.mw)) (h.d0 (h.vs nb.mv) hx) b
  exact nb.ind (x0Y (K1F hne) (q0K c1) (q0K c2))
 omega
theorem k0s {f : Fc} (h : FX l f) {q : Nat} (hq : q < f.s.length) : (∀ k, k < q → gp (y0v l f) k ≠ gp (y0v l f) q) ↔ ∀ k, k < gi f.s q → gt l k ≠ gt l (gi f.s q) := by
 constructor
 ·intro hf k hk e
  have hks : k ∈ f.s := h.on (v0a hq) (by have := (h.ms.1 (v0a hq)).1; omega) (by unfold dv; rw [e, K0y, Q1q])
  obtain ⟨p, hp, rfl⟩ := h.ix hks
  have := (h.mono hp hq).1 hk
  exact hf p this (by rw [FX.gpk l hp, FX.gpk l hq, e])
 ·intro hf k hk e
  have hkl : k < f.s.length := by omega
  rw [FX.gpk l hkl, FX.gpk l hq] at e
  exact hf (gi f.s k) ((h.mono hkl hq).2 hk) (W1R h.n0 (h.d0 (v0a hkl) (v0a hq)) e)
theorem j2a {n p q h : Tr} (hn : n ≠ tz) (hq : j0b n (j0E q p) = 0) (hh : j0b h (j0E q p) < 0) (hneq : True) : ∃ α β : Int, (∀ a b : Tr, j0b n (j0E b a) = 0 → lf α β (shp (axN n) a) (shp (axN n) b) = (- sgn (gz (tl n) (axN n))) * gz (tl n) (axN n) * j0b h (j0E b a)) := by
 have h2 := (Y0D hn).2
 have e0 : ∀ u : Tr, shp 0 u = ⟨u.y, u.z⟩ := fun u => rfl
 have e1 : ∀ u : Tr, shp 1 u = ⟨u.x, u.z⟩ := fun u => rfl
 have e2 : ∀ u : Tr, shp 2 u = ⟨u.x, u.y⟩ := fun u => rfl
 rcases (by omega : axN n = 0 ∨ axN n = 1 ∨ axN n = 2) with e | e | e <;> rw [e]
 ·generalize sgn (gz (tl n) 0) = s
  rw [show gz (tl n) 0 = n.x from rfl]
  refine ⟨-s * (n.x * h.y - h.x * n.y), -s * (n.x * h.z - h.x * n.z), fun a b hab => ?_⟩
  simp only [e0, lf, j0b, j0E] at *; grind
 ·generalize sgn (gz (tl n) 1) = s
  rw [show gz (tl n) 1 = n.y from rfl]
  refine ⟨-s * (n.y * h.x - h.y * n.x), -s * (n.y * h.z - h.y * n.z), fun a b hab => ?_⟩
  simp only [e1, lf, j0b, j0E] at *; grind
 ·generalize sgn (gz (tl n) 2) = s
  rw [show gz (tl n) 2 = n.z from rfl]
  refine ⟨-s * (n.z * h.x - h.z * n.x), -s * (n.z * h.y - h.z * n.y), fun a b hab => ?_⟩
  simp only [e2, lf, j0b, j0E] at *; grind
theorem W1N {a : Int} (h : a ≠ 0) : 0 < sgn a * a := by
 unfold sgn
 split
 ·omega
 ·split <;> omega
theorem z1P {f : Fc} (h : FX l f) (i : Nat) : i ∈ vfN l f ↔ i ∈ f.s ∧ Vx l i := by
 constructor
 ·intro hi
  refine ⟨h.vs hi, (h.ms.1 (h.vs hi)).1, ?_, ?_⟩
  ·obtain ⟨k, hk, rfl⟩ := (w0z i).1 hi
   have hq : gi (w0U l f) k < f.s.length := by have := h.ok.lt k hk; rwa [FX.len] at this
   exact (k0s h hq).1 (x0B.1 (h.ok.vtx hk)).1
  ·obtain ⟨u, w, nb⟩ := h.nb hi
   exact Y0Z (n := f.n) (fun i hi' => h.le (h.vs hi) hi') (fun j hj e hne => nb.front h (h.on (h.vs hi) hj e) hne)
 ·rintro ⟨his, hv⟩
  obtain ⟨q, hq, rfl⟩ := h.ix his
  have hql : q < (y0v l f).length := by rw [FX.len]; exact hq
  have hm : q ∈ w0U l f := (h.ok.mem q hql).2 (by
   rw [x0B]
   refine ⟨(k0s h hq).2 hv.first, ?_⟩
   cases hin : inH (q0y (y0v l f) q (y0v l f).length) (gp (y0v l f) q) with
   |false => rfl
   |true =>
    exfalso
    obtain ⟨g, hg⟩ := hv.ex
    have hsg := W1N (V1b h.n0)
    obtain ⟨a, b, c, ha, hb, hc, htri⟩ := h.tri
    have hx : ∃ x ∈ f.s, gt l x ≠ gt l (gi f.s q) := by
     by_cases e : gt l b = gt l (gi f.s q)
     ·by_cases e2 : gt l a = gt l (gi f.s q)
      ·exfalso; apply htri; unfold tac; rw [e, e2, K0y]; simp [tcr, tz]
      ·exact ⟨a, ha, e2⟩
     ·exact ⟨b, hb, e⟩
    obtain ⟨x, hx, hxne⟩ := hx
    obtain ⟨α, β, hab⟩ := j2a (n := f.n) (p := gt l (gi f.s q)) (q := gt l x) (h := g) h.n0 (h.d0 his hx) (hg x (h.ms.1 hx).1 hxne) trivial
    refine k0E α β hin fun j hj => ?_
    obtain ⟨hp, hne⟩ := v0E.1 (V0r hj)
    obtain ⟨k, hk, e⟩ := List.getElem_of_mem hp
    rw [← W0t hk] at e
    rw [← e] at hne ⊢
    have hkl : k < f.s.length := by rwa [FX.len] at hk
    have hne' : gt l (gi f.s k) ≠ gt l (gi f.s q) := fun e => hne (by rw [FX.gpk l hkl, FX.gpk l hq, e])
    rw [FX.gpk l hkl, FX.gpk l hq, hab _ _ (h.d0 his (v0a hkl))]
    have h3 := hg _ (h.ms.1 (v0a hkl)).1 hne'
    have := Int.mul_pos_of_neg_of_neg (a := (- sgn (gz (tl f.n) (axN f.n))) * gz (tl f.n) (axN f.n)) (by rw [Int.neg_mul]; omega) h3
    exact this)
  obtain ⟨k, hk, e⟩ := List.getElem_of_mem hm
  exact (w0z _).2 ⟨k, hk, by rw [v0G hk, e]⟩
theorem X1D {f : Fc} (h : FX l f) (hS : Sol l) (hf : f ∈ j0i l) (i : Nat) : i ∈ vfN l f ↔ i ∈ f.s ∧ Vx l i := z1P h i
end
end Go.Proofs.YtgblokifbgeegaaGreatDoor.H.S
end
section
namespace Go.Proofs.YtgblokifbgeegaaGreatDoor.H.S
open Go Go.Vc Go.RowKit H.G
set_option maxHeartbeats 1000000
def VL (l : List Tr) : List Nat := (List.range l.length).filter fun i => (j0i l).any fun f => (vfN l f).contains i
section
variable {l : List Tr}
structure S3 (l : List Tr) : Prop where
 hl : RT l
 h6 : l.length ≤ 7
 hS : Sol l
theorem S3.fx (s : S3 l) {f : Fc} (hf : f ∈ j0i l) : FX l f := FX.of s.hl s.h6 s.hS hf
theorem S3.vx (s : S3 l) {f : Fc} (hf : f ∈ j0i l) (i : Nat) : i ∈ vfN l f ↔ i ∈ f.s ∧ Vx l i := X1D (s.fx hf) s.hS hf i
theorem S3.mem (s : S3 l) {i : Nat} : i ∈ VL l ↔ ∃ f ∈ j0i l, i ∈ vfN l f := by
 unfold VL
 rw [List.mem_filter, List.mem_range, List.any_eq_true]
 constructor
 ·rintro ⟨_, f, hf, h⟩; exact ⟨f, hf, by simpa using h⟩
 ·rintro ⟨f, hf, h⟩; exact ⟨((s.fx hf).ms.1 ((s.fx hf).vs h)).1, f, hf, by simpa using h⟩
theorem S3.vxm (s : S3 l) {i : Nat} (h : i ∈ VL l) : Vx l i := by
 obtain ⟨f, hf, h⟩ := s.mem.1 h
 exact ((s.vx hf i).1 h).2
theorem S3.place (s : S3 l) {a b : Nat} (ha : a ∈ VL l) (hb : b ∈ VL l) (h : a ≠ b) : gt l a ≠ gt l b := fun e => by
 rcases (by omega : a < b ∨ b < a) with h1 | h1
 ·exact (s.vxm hb).first a h1 e
 ·exact (s.vxm ha).first b h1 e.symm
section
variable {f gu gw : Fc} {v u w : Nat}
end
end
end Go.Proofs.YtgblokifbgeegaaGreatDoor.H.S
end
section
namespace Go.Proofs.YtgblokifbgeegaaGreatDoor.H.S
open Go Go.Vc Go.RowKit H.G
set_option maxHeartbeats 1000000
theorem V0s {zs : List Int} {j : Nat} (h : j < zs.length) : zs.toArray[j]! = gz zs j := by
 unfold gz
 simp [List.getD, h]
theorem v1B {zs : List Int} {i : Nat} (h : i < zs.length) : gz zs i = zs[i] := by unfold gz; simp [List.getD, h]
theorem j2I {zs : List Int} (hs : zs.Pairwise (fun a b => decide (a ≤ b) = true)) : ∀ m, m ≤ zs.length → (Lib.compactUpTo zs.toArray m).Pairwise (· < ·) ∧ ∀ x, x ∈ Lib.compactUpTo zs.toArray m ↔ ∃ i, i < m ∧ gz zs i = x
 |0, _ => ⟨by simp [Lib.compactUpTo], fun x => by simp [Lib.compactUpTo]⟩
 |m + 1, hm => by
  obtain ⟨ih1, ih2⟩ := j2I hs m xO
  have hle : ∀ i j, i < j → j < zs.length → gz zs i ≤ gz zs j := fun i j hij hj => by
   have := List.pairwise_iff_getElem.1 hs i j xO hj hij
   rw [v1B (by omega), v1B hj]; simpa using this
  rw [Lib.compactUpTo_succ]
  split
  ·rename_i hk
   unfold Lib.keeps at hk
   rw [decide_eq_true_eq, V0s (by omega), V0s (by omega)] at hk
   refine ⟨?_, fun x => ?_⟩
   ·rw [List.pairwise_append]
    refine ⟨ih1, List.pairwise_singleton _ _, fun x hx y hy => ?_⟩
    rw [List.mem_singleton] at hy
    subst hy
    obtain ⟨i, hi, rfl⟩ := (ih2 x).1 hx
    rw [V0s (by omega)]
    have hne := hk.resolve_left xO
    have h1 := hle (m - 1) m xO xO
    by_cases e : i = m - 1
    ·subst e; omega
    ·have := hle i (m - 1) xO xO; omega
   ·rw [List.mem_append, List.mem_singleton, ih2, V0s (by omega)]
    constructor
    ·rintro (⟨i, hi, e⟩ | e)
     ·exact ⟨i, by omega, e⟩
     ·exact ⟨m, by omega, e.symm⟩
    ·rintro ⟨i, hi, e⟩
     by_cases h : i = m
     ·subst h; exact .inr e.symm
     ·exact .inl ⟨i, by omega, e⟩
  ·rename_i hk
   unfold Lib.keeps at hk
   rw [decide_eq_true_eq, V0s (by omega), V0s (by omega), not_or] at hk
   rw [List.append_nil]
   refine ⟨ih1, fun x => ?_⟩
   rw [ih2]
   constructor
   ·rintro ⟨i, hi, e⟩; exact ⟨i, by omega, e⟩
   ·rintro ⟨i, hi, e⟩
    by_cases h : i = m
    ·subst h
     have : gz zs i = gz zs (i - 1) := Classical.byContradiction fun h => hk.2 h
     exact ⟨i - 1, by omega, by rw [← e, this]⟩
    ·exact ⟨i, by omega, e⟩
theorem y1A (zs : List Int) : (Lib.compact (x0y zs)).Pairwise (· < ·) ∧ ∀ x, x ∈ Lib.compact (x0y zs) ↔ x ∈ zs := by
 have hp : (x0y zs).Perm zs := List.mergeSort_perm _ _
 have hs : (x0y zs).Pairwise (fun a b => decide (a ≤ b) = true) := List.pairwise_mergeSort (le := fun (a b : Int) => decide (a ≤ b)) (fun a b c h1 h2 => by simp at *; omega) (fun a b => by simp; omega) _
 obtain ⟨h1, h2⟩ := j2I hs _ (Nat.le_refl _)
 refine ⟨h1, fun x => ?_⟩
 unfold Lib.compact
 rw [h2, ← hp.mem_iff]
 constructor
 ·rintro ⟨i, hi, rfl⟩; rw [v1B hi]; exact List.getElem_mem hi
 ·intro h
  obtain ⟨i, hi, e⟩ := List.getElem_of_mem h
  exact ⟨i, hi, by rw [v1B hi, e]⟩
theorem Z1F : ∀ {A B : List Int}, A.Pairwise (· < ·) → B.Pairwise (· < ·) → (∀ x, x ∈ A ↔ x ∈ B) → A = B := fun {A B} hA hB h => by
 have nd : ∀ {M : List Int}, M.Pairwise (· < ·) → M.Nodup := fun hM => List.Pairwise.imp (S := (· ≠ ·)) (fun {a b} hab e => by omega) hM
 have hp : A.Perm B := (List.perm_ext_iff_of_nodup (nd hA) (nd hB)).2 h
 exact List.Perm.eq_of_pairwise (fun a b _ _ h1 h2 => by omega) hA hB hp
theorem J0u {x : Int} {V : List Nat} : x ∈ x0f V ↔ ∃ i ∈ V, (i : Int) = x := by unfold x0f; rw [List.mem_map]
theorem W1l {V : List Nat} (h : V.Pairwise (· < ·)) : (x0f V).Pairwise (· < ·) := by
 unfold x0f; rw [List.pairwise_map]; exact h.imp (fun {a b} hab => by omega)
theorem y1f (l : List Tr) : (VL l).Pairwise (· < ·) := List.Pairwise.filter _ (List.pairwise_lt_range)
theorem Y0e (l : List Tr) (L : List Fc) (x : Int) : ∀ k, x ∈ z0f l L k ↔ ∃ j, j < k ∧ x ∈ vf l (gf L j)
 |0 => by simp [z0f]
 |k + 1 => by
  unfold z0f
  rw [List.mem_append, Y0e l L x k]
  constructor
  ·rintro (⟨j, hj, h⟩ | h)
   ·exact ⟨j, by omega, h⟩
   ·exact ⟨k, by omega, h⟩
  ·rintro ⟨j, hj, h⟩
   by_cases e : j = k
   ·subst e; exact .inr h
   ·exact .inl ⟨j, by omega, h⟩
theorem Q1C (l : List Tr) (f : Fc) : vf l f = x0f (vfN l f) := by unfold vf x0f vfN; rw [List.map_map]; rfl
section
variable {l : List Tr}
theorem S3.vert (s : S3 l) : z1O l (j0i l) = x0f (VL l) := by
 obtain ⟨h1, h2⟩ := y1A (k1e l (j0i l))
 refine Z1F h1 (W1l (y1f l)) fun x => ?_
 refine (h2 x).trans ?_
 have d3 := (q0V l).2 s.hS
 unfold k1e
 rw [d3]
 simp only [show ¬ (3 : Int) = -1 by decide, show ¬ (3 : Int) = 0 by decide, show ¬ (3 : Int) = 1 by decide, show ¬ (3 : Int) = 2 by decide, if_false]
 rw [Y0e, J0u]
 constructor
 ·rintro ⟨j, hj, h⟩
  rw [Q1C, J0u] at h
  obtain ⟨i, hi, e⟩ := h
  exact ⟨i, s.mem.2 ⟨_, y0Y hj, hi⟩, e⟩
 ·rintro ⟨i, hi, e⟩
  obtain ⟨f, hf, h⟩ := s.mem.1 hi
  obtain ⟨j, hj, rfl⟩ := X0J hf
  exact ⟨j, hj, by rw [Q1C, J0u]; exact ⟨i, h, e⟩⟩
end
def ind (b : Bool) : Nat := if b = true then 1 else 0
theorem Z1t {b : Bool} (h : b = true) : ind b = 1 := if_pos h
theorem V1S {b : Bool} (h : b = false) : ind b = 0 := by unfold ind; rw [h]; rfl
def sm {α : Type} (A : List α) (f : α → Nat) : Nat := match A with
 |[] => 0
 |a :: r => f a + sm r f
theorem J0A {α : Type} {f g : α → Nat} : ∀ {A : List α}, (∀ a ∈ A, f a = g a) → sm A f = sm A g
 |[], _ => rfl
 |a :: r, h => by
  unfold sm
  rw [h a List.mem_cons_self, J0A (fun x hx => h x (List.mem_cons_of_mem _ hx))]
theorem Z0m {α : Type} : ∀ A : List α, sm A (fun _ => 0) = 0
 |[] => rfl
 |a :: r => by unfold sm; rw [Z0m r]
theorem sm_at {α : Type} [DecidableEq α] {a : α} (g : α → Nat) : ∀ {A : List α}, A.Nodup → a ∈ A → sm A (fun x => if x = a then g x else 0) = g a
 |[], _, h => by cases h
 |b :: r, hn, h => by
  obtain ⟨h1, h2⟩ := List.nodup_cons.1 hn
  show (if b = a then g b else 0) + sm r (fun x => if x = a then g x else 0) = g a
  by_cases e : b = a
  ·subst e
   rw [if_pos rfl, J0A (g := fun _ => 0) (fun x hx => if_neg (fun e => h1 (by rw [← e]; exact hx))), Z0m]; omega
  ·rw [if_neg e, sm_at g h2 ((List.mem_cons.1 h).resolve_left (Ne.symm e)), Nat.zero_add]
theorem k1p {α : Type} [DecidableEq α] {A : List α} {p : α → Bool} {a : α} (hn : A.Nodup) (ha : a ∈ A) (h : ∀ x ∈ A, p x = true ↔ x = a) : sm A (fun x => ind (p x)) = 1 := by
 rw [J0A (g := fun x => if x = a then 1 else 0) (fun x hx => by
  by_cases e : x = a
  ·rw [if_pos e, Z1t ((h x hx).2 e)]
  ·rw [if_neg e, V1S (by cases hp : p x; rfl; exact absurd ((h x hx).1 hp) e)]), sm_at (fun _ => 1) hn ha]
theorem j2g {α : Type} [DecidableEq α] {A B : List α} {p : α → Bool} (hB : B.Nodup) (h : ∀ x ∈ B, x ∈ A ∧ p x = true) : B.length ≤ sm A (fun x => ind (p x)) := by
 have e : ∀ A : List α, sm A (fun x => ind (p x)) = (A.filter p).length := fun A => by
  induction A with
  |nil => rfl
  |cons a r ih =>
   show ind (p a) + sm r (fun x => ind (p x)) = _
   rw [ih]
   cases hp : p a with
   |true => rw [List.filter_cons_of_pos hp, List.length_cons, Z1t rfl]; omega
   |false => rw [List.filter_cons_of_neg (by rw [hp]; decide), V1S rfl]; omega
 rw [e]
 exact hB.length_le_of_subset (fun x hx => List.mem_filter.2 (h x hx))
theorem k1q {α : Type} [DecidableEq α] {A : List α} {p : α → Bool} (hA : A.Nodup) (h : 2 ≤ sm A (fun x => ind (p x))) : ∃ a b, a ∈ A ∧ b ∈ A ∧ a ≠ b ∧ p a = true ∧ p b = true := by
 by_cases h1 : ∃ a ∈ A, p a = true
 ·obtain ⟨a, ha, hpa⟩ := h1
  by_cases h2 : ∃ b ∈ A, b ≠ a ∧ p b = true
  ·obtain ⟨b, hb, hne, hpb⟩ := h2
   exact ⟨a, b, ha, hb, Ne.symm hne, hpa, hpb⟩
  ·exfalso
   have := k1p (p := p) hA ha (fun x hx => ⟨fun hp => Classical.byContradiction fun e => h2 ⟨x, hx, e, hp⟩, fun e => by rw [e]; exact hpa⟩)
   omega
 ·exfalso
  rw [J0A (g := fun _ => 0) (fun x hx => V1S (by cases hp : p x; rfl; exact absurd ⟨x, hx, hp⟩ h1)), Z0m] at h
  omega
end Go.Proofs.YtgblokifbgeegaaGreatDoor.H.S
end
namespace Go.Proofs.YtgblokifbgeegaaGreatDoor.H.S
open Go Go.Vc
def ngT (d : Tr) : Prop := d.x < 0 ∨ d.x = 0 ∧ (d.y < 0 ∨ d.y = 0 ∧ d.z < 0)
instance (d : Tr) : Decidable (ngT d) := by unfold ngT; infer_instance
def q0U (d : Tr) : Tr := if ngT (tpr d) then j0P (tpr d) (-1) else tpr d
theorem q0G {d : Tr} (h : d ≠ tz) : q0U d ≠ tz := by
 unfold q0U
 split
 ·exact q0A (V0H h)
 ·exact V0H h
theorem x1H {d : Tr} (h : d ≠ tz) : tcr (tpr d) d = tz := by
 obtain ⟨g, hg, h1, h2, h3⟩ := x1G h
 simp only [tcr, tz, Tr.mk.injEq]
 refine ⟨?_, ?_, ?_⟩ <;> grind
theorem y0A {d : Tr} (h : d ≠ tz) : tcr (q0U d) d = tz := by
 have h1 := x1H h
 unfold q0U
 split
 ·simp only [tcr, j0P, tz, Tr.mk.injEq] at h1 ⊢
  refine ⟨?_, ?_, ?_⟩ <;> grind
 ·exact h1
theorem Z0R {d : Tr} (h : d ≠ tz) : ¬ ngT (q0U d) := by
 unfold q0U
 split
 ·rename_i hn
  unfold ngT j0P at *
  dsimp only at *
  omega
 ·rename_i hn; exact hn
theorem q1u {d : Tr} (h : d ≠ tz) : tg (q0U d) = 1 := by
 unfold q0U
 split
 ·rw [W0X, Q1s h]; rfl
 ·exact Q1s h
theorem W1y {d e : Tr} (hd : d ≠ tz) (he : e ≠ tz) (td : tg d = 1) (te : tg e = 1) (nd : ¬ ngT d) (ne : ¬ ngT e) (h : tcr d e = tz) : d = e := by
 have hm := Z0e h
 have pe := q0j he
 have h1 := congrArg tg hm
 rw [W0X, W0X, td, te, Nat.mul_one, Nat.mul_one] at h1
 have hne : j0b e d ≠ 0 := fun h0 => by rw [h0] at h1; omega
 have hm2 := hm
 unfold j0P at hm
 simp only [Tr.mk.injEq] at hm
 obtain ⟨a1, a2, a3⟩ := hm
 rcases (by omega : j0b e d = j0b e e ∨ j0b e d = -j0b e e) with q | q
 ·rw [q] at a1 a2 a3
  exact q0T (Int.eq_of_mul_eq_mul_left (Int.ne_of_gt pe) a1) (Int.eq_of_mul_eq_mul_left (Int.ne_of_gt pe) a2) (Int.eq_of_mul_eq_mul_left (Int.ne_of_gt pe) a3)
 ·exfalso
  rw [q] at a1 a2 a3
  have b1 : d.x = -e.x := Int.eq_of_mul_eq_mul_left (Int.ne_of_gt pe) (by rw [a1]; grind)
  have b2 : d.y = -e.y := Int.eq_of_mul_eq_mul_left (Int.ne_of_gt pe) (by rw [a2]; grind)
  have b3 : d.z = -e.z := Int.eq_of_mul_eq_mul_left (Int.ne_of_gt pe) (by rw [a3]; grind)
  unfold ngT at nd ne
  rcases j1B hd with r | r | r <;> omega
theorem x0i {d e : Tr} (hd : d ≠ tz) (he : e ≠ tz) (h : tcr d e = tz) : q0U d = q0U e := by
 refine W1y (q0G hd) (q0G he) (q1u hd) (q1u he) (Z0R hd) (Z0R he) ?_
 have q1 : tcr d (q0U d) = tz := q0K (y0A hd)
 have q2 : tcr (q0U d) e = tz := x0Y hd q1 h
 exact x0Y he (q0K q2) (q0K (y0A he))
def bef (l : List Tr) (d e : Tr) : Prop := wLT l d e ∨ (wLE l d e ∧ wLE l e d ∧ y0u d e)
instance (l : List Tr) (d e : Tr) : Decidable (wLE l d e) := by unfold wLE; infer_instance
instance (l : List Tr) (d e : Tr) : Decidable (wLT l d e) := by unfold wLT; infer_instance
instance (d e : Tr) : Decidable (y0u d e) := by unfold y0u; infer_instance
instance (l : List Tr) (d e : Tr) : Decidable (bef l d e) := by unfold bef; infer_instance
theorem Q0R {l : List Tr} {d e : Tr} : ¬ wLT l d e ↔ wLE l e d := by unfold wLT wLE; omega
theorem Y0E {l : List Tr} {d e : Tr} (h1 : ¬ bef l d e) (h2 : ¬ bef l e d) : d = e := by
 unfold bef at h1 h2
 have a1 := Q0R.1 (fun h => h1 (.inl h))
 have a2 := Q0R.1 (fun h => h2 (.inl h))
 exact W1c (fun h => h1 (.inr ⟨a2, a1, h⟩)) (fun h => h2 (.inr ⟨a1, a2, h⟩))
theorem Y1p {l : List Tr} {a b c : Tr} (ha : a ≠ tz) (hb : b ≠ tz) (hc : c ≠ tz) (h1 : bef l a b) (h2 : bef l b c) : bef l a c := by
 unfold bef at *
 have le : ∀ {x y : Tr}, wLT l x y → wLE l x y := fun {x y} h => by unfold wLT at h; unfold wLE; omega
 by_cases h : wLT l a c
 ·exact .inl h
 ·have hca := Q0R.1 h
  refine .inr ⟨?_, hca, ?_⟩
  ·rcases h1 with h1 | h1 <;> rcases h2 with h2 | h2
   ·exact x0D ha hb hc (le h1) (le h2)
   ·exact x0D ha hb hc (le h1) h2.1
   ·exact x0D ha hb hc h1.1 (le h2)
   ·exact x0D ha hb hc h1.1 h2.1
  ·rcases h1 with h1 | h1
   ·exfalso
    have h3 : wLE l b c := by
     rcases h2 with h2 | h2
     ·exact le h2
     ·exact h2.1
    have h4 := x0D hb hc ha h3 hca
    unfold wLT at h1; unfold wLE at h4; omega
   ·rcases h2 with h2 | h2
    ·exfalso
     have h4 := x0D hc ha hb hca h1.1
     unfold wLT at h2; unfold wLE at h4; omega
    ·exact J1H h1.2.2 h2.2.2
theorem V0O {l : List Tr} (d : Tr) : ¬ bef l d d := by
 unfold bef wLT
 intro h
 rcases h with h | h
 ·omega
 ·exact J1G d h.2.2
def z0q (l : List Tr) (m : Option Tr) (d : Tr) : Option Tr := match m with
 |none => some d
 |some m => if bef l d m then some d else some m
def w0S (l : List Tr) (L : List Tr) : Option Tr := L.foldl (z0q l) none
theorem q1i {l : List Tr} : ∀ (L M : List Tr) (m : Option Tr), (∀ d ∈ L, d ≠ tz) → (∀ d ∈ M, d ≠ tz) → ((m = none ∧ M = []) ∨ ∃ x, m = some x ∧ x ∈ M ∧ ∀ d ∈ M, ¬ bef l d x) →
  (L.foldl (z0q l) m = none ∧ M ++ L = []) ∨ ∃ x, L.foldl (z0q l) m = some x ∧ x ∈ M ++ L ∧ ∀ d ∈ M ++ L, ¬ bef l d x
 |[], M, m, _, _, h => by simpa using h
 |d :: L, M, m, hL, hM, h => by
  have hd := hL d List.mem_cons_self
  have e : M ++ d :: L = (M ++ [d]) ++ L := by simp
  rw [e, List.foldl_cons]
  refine q1i L (M ++ [d]) (z0q l m d) (fun x hx => hL x (List.mem_cons_of_mem _ hx)) (fun x hx => by
   rcases List.mem_append.1 hx with h | h
   ·exact hM x h
   ·rw [List.mem_singleton.1 h]; exact hd) (.inr ?_)
  rcases h with ⟨rfl, rfl⟩ | ⟨x, rfl, hx, hall⟩
  ·exact ⟨d, rfl, by simp, fun y hy => by simp at hy; subst hy; exact V0O _⟩
  ·have eS : z0q l (some x) d = if bef l d x then some d else some x := rfl
   rw [eS]
   by_cases hb : bef l d x
   ·rw [if_pos hb]
    refine ⟨d, rfl, by simp, fun y hy => ?_⟩
    rcases List.mem_append.1 hy with h | h
    ·exact fun q => hall y h (Y1p (hM y h) hd (hM x hx) q hb)
    ·rw [List.mem_singleton.1 h]; exact V0O _
   ·rw [if_neg hb]
    refine ⟨x, rfl, by simp [hx], fun y hy => ?_⟩
    rcases List.mem_append.1 hy with h | h
    ·exact hall y h
    ·rw [List.mem_singleton.1 h]; exact hb
theorem y0z {l L : List Tr} (hL : ∀ d ∈ L, d ≠ tz) (h0 : L ≠ []) : ∃ x, w0S l L = some x ∧ x ∈ L ∧ ∀ d ∈ L, ¬ bef l d x := by
 rcases q1i (l := l) L [] none hL (by simp) (.inl ⟨rfl, rfl⟩) with ⟨_, h⟩ | h
 ·exact absurd (by simpa using h) h0
 ·simpa [w0S] using h
theorem q1l {l D G : List Tr} (hG : ∀ d ∈ G, d ≠ tz) (h0 : G ≠ []) (hsub : ∀ d ∈ D, d ∈ G) (hin : ∀ d ∈ G, (∀ e ∈ G, wLE l d e) → d ∈ D) : w0S l D = w0S l G := by
 obtain ⟨m, e1, m1, m2⟩ := y0z (l := l) hG h0
 have hm : m ∈ D := hin m m1 fun e he => by
  have := m2 e he
  exact Q0R.1 (fun h => this (.inl h))
 obtain ⟨x, e2, x1, x2⟩ := y0z (l := l) (L := D) (fun d hd => hG d (hsub d hd)) (fun h => by rw [h] at hm; cases hm)
 rw [e1, e2, Y0E (x2 m hm) (m2 x (hsub x x1))]
def IsD (l : List Tr) (d : Tr) : Prop := (∃ f, f ∈ j0i l ∧ tcr f.n d = tz) ∨ (∃ u v u' v', EdgeG l u v ∧ EdgeG l u' v' ∧ tcr (dv l u v) (dv l u' v') ≠ tz ∧ tcr (tcr (dv l u v) (dv l u' v')) d = tz)
theorem W1k {l : List Tr} (hS : Sol l) {d : Tr} (hd : d ≠ tz) (hmin : ∀ e : Tr, e ≠ tz → wLE l d e) : IsD l d := by
 by_cases h2 : Two l d
 ·exact Y0v hS hd h2
 ·obtain ⟨e, he, hw, _⟩ := v1G hS hd h2
  have := hmin e he
  exact absurd this (by unfold wLT at hw; unfold wLE; omega)
theorem k0L {l : List Tr} (hS : Sol l) {d : Tr} (hd : d ≠ tz) : ∃ e : Tr, e ≠ tz ∧ IsD l e ∧ wLE l e d := by
 obtain ⟨e, he, h2, h⟩ := X0O hS _ d hd (Nat.le_refl _)
 refine ⟨e, he, Y0v hS he h2, ?_⟩
 rcases h with rfl | h
 ·exact Int.le_refl _
 ·unfold wLT at h; unfold wLE; omega
def w0y (l : List Tr) : List Tr := (List.range l.length).flatMap fun i => (List.range i).map fun k => j0E (gt l i) (gt l k)
def j0V (g : List Tr) : List Tr := (List.range g.length).flatMap fun i => (List.range i).filterMap fun k => if tcr (gt g i) (gt g k) = tz then none else some (q0U (tcr (gt g i) (gt g k)))
theorem J0t {l : List Tr} {v : Tr} : v ∈ w0y l ↔ ∃ i k, i < l.length ∧ k < i ∧ v = j0E (gt l i) (gt l k) := by
 unfold w0y
 rw [List.mem_flatMap]
 constructor
 ·rintro ⟨i, hi, h⟩
  obtain ⟨k, hk, e⟩ := List.mem_map.1 h
  exact ⟨i, k, List.mem_range.1 hi, List.mem_range.1 hk, e.symm⟩
 ·rintro ⟨i, k, hi, hk, rfl⟩
  exact ⟨i, List.mem_range.2 hi, List.mem_map.2 ⟨k, List.mem_range.2 hk, rfl⟩⟩
theorem q0h {g : List Tr} {d : Tr} : d ∈ j0V g ↔ ∃ i k, i < g.length ∧ k < i ∧ tcr (gt g i) (gt g k) ≠ tz ∧ d = q0U (tcr (gt g i) (gt g k)) := by
 unfold j0V
 rw [List.mem_flatMap]
 constructor
 ·rintro ⟨i, hi, h⟩
  obtain ⟨k, hk, e⟩ := List.mem_filterMap.1 h
  split at e
  ·cases e
  ·rename_i hn
   exact ⟨i, k, List.mem_range.1 hi, List.mem_range.1 hk, hn, (Option.some.inj e).symm⟩
 ·rintro ⟨i, k, hi, hk, hn, rfl⟩
  exact ⟨i, List.mem_range.2 hi, List.mem_filterMap.2 ⟨k, List.mem_range.2 hk, if_neg hn⟩⟩
theorem x0j {g : List Tr} : ∀ d ∈ j0V g, d ≠ tz := fun d hd => by
 obtain ⟨i, k, _, _, hn, rfl⟩ := q0h.1 hd
 exact q0G hn
theorem K0s (u v : Tr) : tcr (j0P u (-1)) v = j0P (tcr u v) (-1) := by simp only [tcr, j0P, Tr.mk.injEq]; refine ⟨?_, ?_, ?_⟩ <;> grind
theorem K0t (u v : Tr) : tcr u (j0P v (-1)) = j0P (tcr u v) (-1) := by simp only [tcr, j0P, Tr.mk.injEq]; refine ⟨?_, ?_, ?_⟩ <;> grind
theorem z0k (u v : Tr) : tcr v u = j0P (tcr u v) (-1) := by simp only [tcr, j0P, Tr.mk.injEq]; refine ⟨?_, ?_, ?_⟩ <;> grind
theorem W1q (d : Tr) : tcr (j0P d (-1)) d = tz := by simp only [tcr, j0P, tz, Tr.mk.injEq]; refine ⟨?_, ?_, ?_⟩ <;> grind
theorem V0V {d : Tr} (h : d ≠ tz) : q0U (j0P d (-1)) = q0U d := x0i (q0A h) h (W1q d)
theorem J0P {g : List Tr} {u v : Tr} (hu : u ∈ g ∨ j0P u (-1) ∈ g) (hv : v ∈ g ∨ j0P v (-1) ∈ g) (hn : tcr u v ≠ tz) : q0U (tcr u v) ∈ j0V g := by
 have base : ∀ {u v : Tr}, u ∈ g → v ∈ g → tcr u v ≠ tz → q0U (tcr u v) ∈ j0V g := fun {u v} hu hv hn => by
  obtain ⟨i, hi, rfl⟩ := List.getElem_of_mem hu
  obtain ⟨k, hk, rfl⟩ := List.getElem_of_mem hv
  rw [← v1A hi, ← v1A hk] at *
  have hik : i ≠ k := fun e => hn (by rw [e]; exact K0u _)
  rcases Nat.lt_or_gt_of_ne hik with h | h
  ·refine q0h.2 ⟨k, i, hk, h, fun e => hn ?_, ?_⟩
   ·rw [z0k, e]; simp [j0P, tz]
   ·rw [z0k (gt g i) (gt g k), V0V hn]
  ·exact q0h.2 ⟨i, k, hi, h, hn, rfl⟩
 have ng : ∀ {w : Tr}, j0P w (-1) ≠ tz → w ≠ tz := fun {w} h e => h (by rw [e]; simp [j0P, tz])
 rcases hu with hu | hu <;> rcases hv with hv | hv
 ·exact base hu hv hn
 ·have h1 := K0t u v
  have h2 := base hu hv (by rw [h1]; exact q0A hn)
  rwa [h1, V0V hn] at h2
 ·have h1 := K0s u v
  have h2 := base hu hv (by rw [h1]; exact q0A hn)
  rwa [h1, V0V hn] at h2
 ·have h1 : tcr (j0P u (-1)) (j0P v (-1)) = tcr u v := by rw [K0s, K0t, x0A]
  have h2 := base hu hv (by rw [h1]; exact hn)
  rwa [h1] at h2
theorem v1u {l : List Tr} {a b : Nat} (ha : a < l.length) (hb : b < l.length) (hn : dv l a b ≠ tz) : dv l a b ∈ w0y l ∨ j0P (dv l a b) (-1) ∈ w0y l := by
 have hab : a ≠ b := fun e => hn (by rw [e]; exact V1t l b)
 rcases Nat.lt_or_gt_of_ne hab with h | h
 ·exact .inl (J0t.2 ⟨b, a, hb, h, rfl⟩)
 ·refine .inr (J0t.2 ⟨a, b, ha, h, ?_⟩)
  simp only [dv, j0E, j0P, Tr.mk.injEq]
  refine ⟨?_, ?_, ?_⟩ <;> grind
theorem y0G {l : List Tr} {a b c e : Nat} (ha : a < l.length) (hb : b < l.length) (hc : c < l.length) (he : e < l.length) (hn : tcr (dv l a b) (dv l c e) ≠ tz) : q0U (tcr (dv l a b) (dv l c e)) ∈ j0V (w0y l) :=
 J0P (v1u ha hb fun h => hn (by rw [h]; simp [tcr, tz])) (v1u hc he fun h => hn (by rw [h]; simp [tcr, tz])) hn
theorem y0N {l : List Tr} (hS : Sol l) {f : Fc} (hf : f ∈ j0i l) : q0U f.n ∈ j0V (w0y l) := by
 obtain ⟨_, a, b, c, h⟩ := (z0w hS f).1 hf
 have hne := h.ne
 have e : tac (gt l a) (gt l b) (gt l c) = tcr (dv l a b) (dv l a c) := rfl
 have h1 := y0G h.ha h.hb h.ha h.hc (e ▸ hne)
 rw [← e] at h1
 rw [h.ev, x0i (V0H hne) hne (x1H hne)]
 exact h1
theorem y1L {l : List Tr} {u v u' v' : Nat} (h1 : EdgeG l u v) (h2 : EdgeG l u' v') (hn : tcr (dv l u v) (dv l u' v') ≠ tz) : q0U (tcr (dv l u v) (dv l u' v')) ∈ j0V (w0y l) :=
 y0G h1.vu.lt h1.vv.lt h2.vu.lt h2.vv.lt hn
theorem V1W {l : List Tr} (hS : Sol l) {d : Tr} (hd : d ≠ tz) (h : IsD l d) : q0U d ∈ j0V (w0y l) := by
 rcases h with ⟨f, hf, h⟩ | ⟨u, v, u', v', E1, E2, hn, h⟩
 ·have hne : f.n ≠ tz := Q0A (w0E hf)
  rw [← x0i hne hd h]
  exact y0N hS hf
 ·rw [← x0i hn hd h]
  exact y1L E1 E2 hn
theorem v1v {l : List Tr} (hS : Sol l) {d : Tr} (hd : d ≠ tz) (hmin : ∀ e ∈ j0V (w0y l), wLE l d e) : ∀ e : Tr, e ≠ tz → wLE l d e := fun e he => by
 have h0 : 0 < l.length := by obtain ⟨a, _, _, _, ha, _⟩ := hS; omega
 obtain ⟨e', he', hD, hw⟩ := k0L hS he
 have hc := hmin _ (V1W hS he' hD)
 have h1 : wLE l (q0U e') e' := Z0H h0 (q0G he') he' (y0A he')
 exact x0D hd (q0G he') he hc (x0D (q0G he') he' he h1 hw)
theorem J0K {d : Tr} (h : d ≠ tz) : q0U (q0U d) = q0U d := x0i (q0G h) h (y0A h)
def Y1I (l : List Tr) (E : List Tr) : List Tr := ((j0i l).map fun f => q0U f.n) ++ j0V E
theorem y1l {l : List Tr} (hS : Sol l) {E : List Tr} (hE1 : ∀ v ∈ E, v ∈ w0y l ∨ j0P v (-1) ∈ w0y l) (hE2 : ∀ u v, EdgeG l u v → dv l u v ∈ E ∨ j0P (dv l u v) (-1) ∈ E) : w0S l (Y1I l E) = w0S l (j0V (w0y l)) := by
 have hne : j0V (w0y l) ≠ [] := fun h => by
  obtain ⟨a, b, c, e, ha, hb, hc, he, h6⟩ := hS
  have hn : tcr (dv l a b) (dv l a c) ≠ tz := fun hz => h6 (z0g (show tac (gt l a) (gt l b) (gt l c) = tz from hz) _)
  have := y0G ha hb ha hc hn
  rw [h] at this; cases this
 refine q1l x0j hne (fun d hd => ?_) (fun d hd hmin => ?_)
 ·rcases List.mem_append.1 hd with h | h
  ·obtain ⟨f, hf, rfl⟩ := List.mem_map.1 h
   exact y0N hS hf
  ·obtain ⟨i, k, hi, hk, hn, rfl⟩ := q0h.1 h
   exact J0P (hE1 _ (x0p hi)) (hE1 _ (x0p xO)) hn
 ·have hd0 := x0j d hd
  have hcd : q0U d = d := by
   obtain ⟨i, k, _, _, hn, rfl⟩ := q0h.1 hd
   exact J0K hn
  rcases W1k hS hd0 (v1v hS hd0 hmin) with ⟨f, hf, h⟩ | ⟨u, v, u', v', E1, E2, hn, h⟩
  ·refine List.mem_append_left _ (List.mem_map.2 ⟨f, hf, ?_⟩)
   rw [x0i (Q0A (w0E hf)) hd0 h, hcd]
  ·refine List.mem_append_right _ ?_
   have h1 := J0P (hE2 u v E1) (hE2 u' v' E2) hn
   rwa [x0i hn hd0 h, hcd] at h1
theorem w1Z {l : List Tr} (hS : Sol l) : ∃ f, f ∈ j0i l := by
 obtain ⟨e, _, h, _⟩ := k0L hS (d := ⟨1, 0, 0⟩) (fun h => by simp [tz] at h)
 rcases h with ⟨f, hf, _⟩ | ⟨_, _, _, _, E, _⟩
 ·exact ⟨f, hf⟩
 ·obtain ⟨f, _, hf, _⟩ := E.two
  exact ⟨f, hf⟩
theorem z0y {l : List Tr} (_ : RT l) (h : (spn l).dim = 3) : 0 < (j0i l).length := by
 obtain ⟨f, hf⟩ := w1Z ((q0V l).1 h)
 exact List.length_pos_of_mem hf
end Go.Proofs.YtgblokifbgeegaaGreatDoor.H.S
section
namespace Go.Proofs.YtgblokifbgeegaaGreatDoor.H.S
open Go Go.Vc Go.RowKit H.G
set_option maxHeartbeats 1000000
def z1h (L : List Fc) (a b : Nat) : List (Int × Int) := if 2 ≤ cnt L (a : Int) (b : Int) L.length then [((a : Int), (b : Int))] else []
def J1Z (L : List Fc) : List Nat → List (Int × Int)
 |[] => []
 |a :: r => r.flatMap (z1h L a) ++ J1Z L r
theorem flat_gi {α : Type} (f : Nat → List α) : ∀ r : List Nat, (List.range r.length).flatMap (fun k => f (gi r k)) = r.flatMap f
 |[] => rfl
 |a :: r => by
  rw [List.length_cons, List.range_succ_eq_map, List.flatMap_cons, List.flatMap_map, List.flatMap_cons]
  have : (fun k => f (gi (a :: r) (Nat.succ k))) = fun k => f (gi r k) := by funext k; simp [gi]
  rw [this, flat_gi f r]
  simp [gi]
theorem w1x (L : List Fc) : ∀ V : List Nat, ((List.range V.length).flatMap fun i => (List.range (V.length - (i + 1))).flatMap fun k => z1h L (gi V i) (gi V (i + 1 + k))) = J1Z L V
 |[] => rfl
 |a :: r => by
  rw [List.length_cons, List.range_succ_eq_map, List.flatMap_cons, List.flatMap_map]
  unfold J1Z
  rw [← w1x L r, ← flat_gi (z1h L a) r]
  congr 1
  ·simp only [Nat.zero_add, Nat.add_sub_cancel]
   congr 1
   funext k
   rw [show gi (a :: r) 0 = a from rfl, show gi (a :: r) (1 + k) = gi r k by rw [Nat.add_comm]; simp [gi]]
  ·congr 1
   funext i
   rw [show r.length + 1 - (Nat.succ i + 1) = r.length - (i + 1) by omega, show gi (a :: r) (Nat.succ i) = gi r i by simp [gi]]
   congr 1
   funext k
   rw [show Nat.succ i + 1 + k = (i + 1 + k) + 1 by omega, show gi (a :: r) (i + 1 + k + 1) = gi r (i + 1 + k) by simp [gi]]
theorem v1C {V : List Nat} {i : Nat} (h : i < V.length) : gz (x0f V) i = ((gi V i : Nat) : Int) := by
 rw [v1B (by unfold x0f; rw [List.length_map]; exact h), v0G h]; simp
theorem v1a (L : List Fc) (V : List Nat) (k : Nat) : ∀ m, k + 1 + m ≤ V.length → eM L (x0f V) k m = (List.range m).flatMap fun q => z1h L (gi V k) (gi V (k + 1 + q))
 |0, _ => rfl
 |m + 1, h => by
  unfold eM
  rw [v1a L V k m (by omega), List.range_succ, List.flatMap_append, v1C (by omega), v1C (by omega)]
  simp [z1h]
theorem k0j (L : List Fc) (V : List Nat) : ∀ k, k ≤ V.length → eTo L (x0f V) k = (List.range k).flatMap fun i => (List.range (V.length - (i + 1))).flatMap fun q => z1h L (gi V i) (gi V (i + 1 + q))
 |0, _ => rfl
 |k + 1, h => by
  unfold eTo
  rw [k0j L V k (by omega), List.range_succ, List.flatMap_append, v1a L V k _ (by simp; omega)]
  simp
theorem W0h (L : List Fc) (V : List Nat) : Y1Q L (x0f V) = J1Z L V := by
 unfold Y1Q
 rw [k0j L V _ (by simp), ← w1x]
 simp
theorem W0F (L : List Fc) (x : Int × Int) : ∀ {V : List Nat}, V.Pairwise (· < ·) → x ∈ J1Z L V → ∃ a b : Nat, a ∈ V ∧ b ∈ V ∧ a < b ∧ x = ((a : Int), (b : Int)) ∧ 2 ≤ cnt L (a : Int) (b : Int) L.length
 |[], _, h => by cases h
 |a :: r, hV, h => by
  obtain ⟨h1, h2⟩ := List.pairwise_cons.1 hV
  unfold J1Z at h
  rcases List.mem_append.1 h with h | h
  ·obtain ⟨b, hb, hx⟩ := List.mem_flatMap.1 h
   unfold z1h at hx
   split at hx
   ·rw [List.mem_singleton] at hx
    exact ⟨a, b, List.mem_cons_self, List.mem_cons_of_mem _ hb, h1 b hb, hx, by assumption⟩
   ·cases hx
  ·obtain ⟨p, q, hp, hq, hpq, e⟩ := W0F L x h2 h
   exact ⟨p, q, List.mem_cons_of_mem _ hp, List.mem_cons_of_mem _ hq, hpq, e⟩
def nf (L : List Fc) (v x : Nat) : Nat := sm L fun F => ind (decide (v ∈ F.s) && decide (x ∈ F.s))
theorem Q1g {α : Type} (f : α → Nat) : ∀ A B : List α, sm (A ++ B) f = sm A f + sm B f
 |[], B => by rw [List.nil_append]; show _ = 0 + _; omega
 |a :: r, B => by show f a + sm (r ++ B) f = f a + sm r f + sm B f; rw [Q1g f r B]; omega
theorem k0B (s : List Nat) (a : Nat) : hasB (x0f s) (a : Int) = decide (a ∈ s) := by
 unfold hasB
 rw [Bool.eq_iff_iff, decide_eq_true_eq, decide_eq_true_eq, J0u]
 constructor
 ·rintro ⟨i, hi, e⟩; rw [← Int.ofNat_inj.1 e]; exact hi
 ·intro h; exact ⟨a, h, rfl⟩
theorem q1B (L : List Fc) (v x : Nat) : ∀ q, q ≤ L.length → cnt L (v : Int) (x : Int) q = nf (L.take q) v x
 |0, _ => rfl
 |q + 1, h => by
  unfold cnt
  have e : nf (L.take (q + 1)) v x = nf (L.take q) v x + ind (decide (v ∈ (gf L q).s) && decide (x ∈ (gf L q).s)) := by
   unfold nf
   rw [show L.take (q + 1) = L.take q ++ [gf L q] from by rw [j1k (by omega)]; simp, Q1g]; rfl
  rw [q1B L v x q (by omega), k0B, k0B, e]; rfl
theorem Y1w (L : List Fc) (v x : Nat) : cnt L (v : Int) (x : Int) L.length = nf L v x := by rw [q1B L v x _ (Nat.le_refl _), List.take_length]
theorem v1l (l : List Tr) : (j0i l).Nodup := List.Pairwise.imp (S := (· ≠ ·)) (fun {a b} hab e => J1G a.n (by rw [← e] at hab; exact hab)) V0f.1
section
variable {l : List Tr}
theorem S3.edge (s : S3 l) {f : Fc} (hf : f ∈ j0i l) {v x : Nat} (vf : v ∈ f.s) (xf : x ∈ f.s) : 2 ≤ nf (j0i l) v x ↔ ∃ g ∈ j0i l, f ≠ g ∧ v ∈ g.s ∧ x ∈ g.s := by
 constructor
 ·intro h
  obtain ⟨a, b, ha, hb, hab, pa, pb⟩ := k1q (v1l l) h
  rw [Bool.and_eq_true, decide_eq_true_eq, decide_eq_true_eq] at pa pb
  by_cases e : f = a
  ·exact ⟨b, hb, by rw [e]; exact hab, pb⟩
  ·exact ⟨a, ha, e, pa⟩
 ·rintro ⟨g, hg, hne, h1, h2⟩
  refine j2g (B := [f, g]) (by simp [hne]) fun y hy => ?_
  simp only [List.mem_cons, List.not_mem_nil, or_false] at hy
  rcases hy with rfl | rfl
  ·exact ⟨hf, by simp [vf, xf]⟩
  ·exact ⟨hg, by simp [h1, h2]⟩
section
variable {f gu gw : Fc} {v u w : Nat}
end
end
end Go.Proofs.YtgblokifbgeegaaGreatDoor.H.S
end
namespace Go.Proofs.YtgblokifbgeegaaGreatDoor.H.S
open Go Go.Vc
def MinD (l : List Tr) (m : Tr) : Prop := m ≠ tz ∧ ∀ d : Tr, d ≠ tz → wLE l m d
theorem K0D {l : List Tr} {m : Tr} (h : wdt l m = 0) (d : Tr) : wLE l m d := by
 unfold wLE
 rw [h]
 have h1 := y0c (wdt l d)
 have h2 : 0 ≤ j0b m m := by
  have a := y0c m.x; have b := y0c m.y; have c := y0c m.z
  unfold j0b; omega
 have := Int.mul_nonneg h1 h2
 omega
theorem X0h {l : List Tr} {n : Tr} {M : Int} (h0 : 0 < l.length) (h : ∀ i, i < l.length → j0b n (gt l i) = M) : wdt l n = 0 := by
 obtain ⟨p, hp, ep⟩ := w0L n h0
 obtain ⟨q, hq, eq⟩ := x0q n h0
 unfold wdt
 rw [← ep, ← eq, h p hp, h q hq]; omega
def z0p (l : List Tr) : Prop := ∃ a b c, a < l.length ∧ b < l.length ∧ c < l.length ∧ tac (gt l a) (gt l b) (gt l c) ≠ tz
theorem flat_gap {l : List Tr} (hS : ¬ Sol l) {a b c : Nat} (ha : a < l.length) (hb : b < l.length) (hc : c < l.length) (hn : tac (gt l a) (gt l b) (gt l c) ≠ tz) : ∀ d ∈ j0V (w0y l), tcr (tac (gt l a) (gt l b) (gt l c)) d = tz ∧ wdt l d = 0 := fun d hd => by
 have hall : ∀ i, i < l.length → j0b (tac (gt l a) (gt l b) (gt l c)) (gt l i) = j0b (tac (gt l a) (gt l b) (gt l c)) (gt l a) := fun i hi => by
  have h6 : six (gt l a) (gt l b) (gt l c) (gt l i) = 0 := Classical.byContradiction fun h => hS ⟨a, b, c, i, ha, hb, hc, hi, h⟩
  have e : six (gt l a) (gt l b) (gt l c) (gt l i) = j0b (tac (gt l a) (gt l b) (gt l c)) (gt l i) - j0b (tac (gt l a) (gt l b) (gt l c)) (gt l a) := by
   unfold six; simp only [j0b, j0E]; grind
  omega
 generalize tac (gt l a) (gt l b) (gt l c) = N at *
 have hgap : ∀ v ∈ w0y l, j0b N v = 0 := fun v hv => by
  obtain ⟨i, k, hi, hk, rfl⟩ := J0t.1 hv
  have e : j0b N (j0E (gt l i) (gt l k)) = j0b N (gt l i) - j0b N (gt l k) := by simp only [j0b, j0E]; grind
  rw [e, hall i hi, hall k (by omega)]; omega
 obtain ⟨i, k, hi, hk, hne, rfl⟩ := q0h.1 hd
 have h1 := hgap _ (x0p hi)
 have h2 := hgap _ (x0p (show k < (w0y l).length by omega))
 have hp : tcr N (tcr (gt (w0y l) i) (gt (w0y l) k)) = tz := X0Y hne h1 h2 (by simp only [j0b, tcr]; grind) (by simp only [j0b, tcr]; grind)
 have hp2 : tcr N (q0U (tcr (gt (w0y l) i) (gt (w0y l) k))) = tz := q0K (x0Y hne (q0K (y0A hne)) (q0K hp))
 refine ⟨hp2, X0h (M := j0b (q0U (tcr (gt (w0y l) i) (gt (w0y l) k))) (gt l a)) xO fun x hx => ?_⟩
 have h3 : j0b N (j0E (gt l x) (gt l a)) = 0 := by
  have e : j0b N (j0E (gt l x) (gt l a)) = j0b N (gt l x) - j0b N (gt l a) := by simp only [j0b, j0E]; grind
  rw [e, hall x hx]; omega
 have h4 : j0b (j0E (gt l x) (gt l a)) (q0U (tcr (gt (w0y l) i) (gt (w0y l) k))) = 0 := w1j hn hp2 (by rw [q0i]; exact h3)
 have e : j0b (j0E (gt l x) (gt l a)) (q0U (tcr (gt (w0y l) i) (gt (w0y l) k))) = j0b (q0U (tcr (gt (w0y l) i) (gt (w0y l) k))) (gt l x) - j0b (q0U (tcr (gt (w0y l) i) (gt (w0y l) k))) (gt l a) := by simp only [j0b, j0E]; grind
 omega
theorem V0P {l : List Tr} (h : z0p l) : ∃ m, w0S l (j0V (w0y l)) = some m ∧ m ∈ j0V (w0y l) ∧ MinD l m := by
 obtain ⟨a, b, c, ha, hb, hc, hn⟩ := h
 have hx : q0U (tcr (dv l a b) (dv l a c)) ∈ j0V (w0y l) := y0G ha hb ha hc hn
 obtain ⟨m, e, hm, hall⟩ := y0z (l := l) x0j (fun h => by rw [h] at hx; cases hx)
 have hm0 := x0j m hm
 refine ⟨m, e, hm, hm0, ?_⟩
 by_cases hS : Sol l
 ·exact v1v hS hm0 fun d hd => Q0R.1 (fun h => hall d hd (.inl h))
 ·exact fun d _ => K0D (flat_gap hS ha hb hc hn m hm).2 d
theorem z1f {l : List Tr} {m m' : Tr} (h : MinD l m) (h' : MinD l m') : wdt l m * wdt l m * j0b m' m' = wdt l m' * wdt l m' * j0b m m := by
 have h1 := h.2 m' h'.1
 have h2 := h'.2 m h.1
 unfold wLE at *
 omega
theorem X1E {l : List Tr} {T : Tr → Tr} {d e : Tr} {k c : Int} (hk : 0 < k) (h0 : 0 < l.length) (h : ∀ p, j0b e (T p) = k * j0b d p + c) : wdt (l.map T) e = k * wdt l d := by
 obtain ⟨p, hp, ep⟩ := w0L d h0
 obtain ⟨q, hq, eq⟩ := x0q d h0
 have gm : ∀ i, i < l.length → gt (l.map T) i = T (gt l i) := fun i hi => by unfold gt; simp [List.getD, hi]
 have e1 : loD (l.map T) e = j0b e (gt (l.map T) p) := Q0q (by simpa using hp) fun i hi => by
  have hi' : i < l.length := by simpa using hi
  rw [gm p hp, gm i hi', h, h, ep]
  have := Int.mul_le_mul_of_nonneg_left (w0e d hi') (Int.le_of_lt hk)
  omega
 have e2 : hiD (l.map T) e = j0b e (gt (l.map T) q) := Q0i (by simpa using hq) fun i hi => by
  have hi' : i < l.length := by simpa using hi
  rw [gm q hq, gm i hi', h, h, eq]
  have := Int.mul_le_mul_of_nonneg_left (v0H d hi') (Int.le_of_lt hk)
  omega
 unfold wdt
 rw [e1, e2, gm p hp, gm q hq, h, h, ep, eq, Int.mul_sub]
 omega
theorem K0E {l : List Tr} (h0 : 0 < l.length) (d : Tr) : 0 ≤ wdt l d := by
 obtain ⟨i, hi, ei⟩ := w0L d h0
 have := v0H d hi
 unfold wdt; omega
theorem flat_mem {L : List Fc} {a b : Nat} : ∀ {V : List Nat}, b ∈ V → 2 ≤ cnt L (a : Int) (b : Int) L.length → ((a : Int), (b : Int)) ∈ V.flatMap (fun b => z1h L a b)
 |V, hb, h => by
  rw [List.mem_flatMap]
  refine ⟨b, hb, ?_⟩
  unfold z1h
  rw [if_pos h]
  simp
theorem Y0b {L : List Fc} {a b : Nat} (hab : a < b) (h : 2 ≤ cnt L (a : Int) (b : Int) L.length) : ∀ {V : List Nat}, V.Pairwise (· < ·) → a ∈ V → b ∈ V → ((a : Int), (b : Int)) ∈ J1Z L V
 |[], _, ha, _ => by cases ha
 |v :: V, hs, ha, hb => by
  obtain ⟨h1, h2⟩ := List.pairwise_cons.1 hs
  unfold J1Z
  rcases List.mem_cons.1 ha with e | ha'
  ·subst e
   refine List.mem_append_left _ ?_
   rcases List.mem_cons.1 hb with e | hb'
   ·omega
   ·exact flat_mem hb' h
  ·refine List.mem_append_right _ ?_
   rcases List.mem_cons.1 hb with e | hb'
   ·subst e
    have := h1 a ha'
    omega
   ·exact Y0b hab h h2 ha' hb'
def Q0S (l : List Tr) : List (Int × Int) := Y1Q (j0i l) (x0f (VL l))
theorem k0l {l : List Tr} (s : S3 l) {u v : Nat} (E : EdgeG l u v) (h : u < v) : ((u : Int), (v : Int)) ∈ Q0S l := by
 obtain ⟨f, g, hf, hg, hne, uf, vf, ug, vg⟩ := E.two
 have hu : u ∈ VL l := s.mem.2 ⟨f, hf, (s.vx hf u).2 ⟨uf, E.vu⟩⟩
 have hv : v ∈ VL l := s.mem.2 ⟨f, hf, (s.vx hf v).2 ⟨vf, E.vv⟩⟩
 have h2 : 2 ≤ nf (j0i l) u v := (s.edge hf uf vf).2 ⟨g, hg, hne, ug, vg⟩
 unfold Q0S
 rw [W0h]
 exact Y0b h (by rw [Y1w]; exact h2) (y1f l) hu hv
def j1M (l : List Tr) : List Tr := (Q0S l).map fun e => dv l e.1.toNat e.2.toNat
theorem EdgeG.sym {l : List Tr} {u v : Nat} (E : EdgeG l u v) : EdgeG l v u := by
 obtain ⟨f, g, hf, hg, hne, uf, vf, ug, vg⟩ := E.two
 exact ⟨E.vv, E.vu, Ne.symm E.ne, f, g, hf, hg, hne, vf, uf, vg, ug⟩
theorem V1v {l : List Tr} (s : S3 l) {u v : Nat} (E : EdgeG l u v) : dv l u v ∈ j1M l ∨ j0P (dv l u v) (-1) ∈ j1M l := by
 have huv : u ≠ v := fun e => E.ne (by rw [e])
 rcases Nat.lt_or_gt_of_ne huv with h | h
 ·exact .inl (List.mem_map.2 ⟨_, k0l s E h, rfl⟩)
 ·refine .inr (List.mem_map.2 ⟨_, k0l s E.sym h, ?_⟩)
  simp only [dv, j0E, j0P, Int.toNat_natCast, Tr.mk.injEq]
  refine ⟨?_, ?_, ?_⟩ <;> grind
theorem k0k {l : List Tr} (s : S3 l) : ∀ v ∈ j1M l, v ∈ w0y l ∨ j0P v (-1) ∈ w0y l := fun v hv => by
 obtain ⟨x, hx, rfl⟩ := List.mem_map.1 hv
 unfold Q0S at hx
 rw [W0h] at hx
 obtain ⟨a, b, ha, hb, hab, rfl, _⟩ := W0F _ _ (y1f l) hx
 refine v1u ?_ ?_ fun h => s.place ha hb xO (X1S h).symm
 ·exact (s.vxm ha).lt
 ·exact (s.vxm hb).lt
theorem q1k {l : List Tr} (s : S3 l) : w0S l (Y1I l (j1M l)) = w0S l (j0V (w0y l)) := y1l s.hS (k0k s) (fun _ _ E => V1v s E)
end Go.Proofs.YtgblokifbgeegaaGreatDoor.H.S
