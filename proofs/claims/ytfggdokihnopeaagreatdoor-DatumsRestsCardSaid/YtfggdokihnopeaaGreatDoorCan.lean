/- A part of the proof. -/
import Derived.Lib.AtoiAll
import Derived.Lib.Atoi
import Derived.Test.YtfggdokihnopeaaGreatDoorCae
import Derived.Test.YtfggdokihnopeaaGreatDoorCah
set_option linter.unusedVariables false
set_option linter.unusedSimpArgs false
namespace Go.Na
open Go.Lib
def dvA (a : Nat) (l : List UInt8) : Nat := l.foldl (fun a b => a * 10 + (b.toNat - 48)) a
def dv (l : List UInt8) : Nat := dvA 0 l
def isD (b : UInt8) : Prop := 48 ≤ b.toNat ∧ b.toNat ≤ 57
instance (b : UInt8) : Decidable (isD b) := by unfold isD; infer_instance
structure Can (l : List UInt8) : Prop where
 ne : l ≠ []
 dig : ∀ b ∈ l, isD b
 hd : ∀ r, l = 48 :: r → r = []
theorem k0M (a : Nat) (l m : List UInt8) : dvA a (l ++ m) = dvA (dvA a l) m := by simp [dvA]
theorem y0M (l : List UInt8) (b : UInt8) : dv (l ++ [b]) = dv l * 10 + (b.toNat - 48) := by simp [dv, dvA]
theorem V1W (a : Nat) : ∀ l : List UInt8, dvA a l = a * 10 ^ l.length + dv l := by
 intro l
 induction l generalizing a with
 |nil => simp [dvA, dv]
 |cons b l ih =>
  show dvA (a * 10 + (b.toNat - 48)) l = a * 10 ^ (l.length + 1) + dvA (0 * 10 + (b.toNat - 48)) l
  rw [ih, ih (0 * 10 + (b.toNat - 48)), Nat.pow_succ, Nat.zero_mul, Nat.zero_add, Nat.add_mul, Nat.mul_assoc, Nat.mul_comm 10, Nat.add_assoc]
theorem q0W (l m : List UInt8) : dv (l ++ m) = dv l * 10 ^ m.length + dv m := by
 rw [show dv (l ++ m) = dvA (dv l) m from k0M 0 l m, V1W]
theorem w0W : ∀ l : List UInt8, (∀ b ∈ l, isD b) → dv l < 10 ^ l.length := by
 intro l
 induction l with
 |nil => intro _; simp [dv, dvA]
 |cons b l ih =>
  intro h
  have h1 := ih fun c hc => h c (by simp [hc])
  have h2 := (h b (by simp)).2
  rw [show b :: l = [b] ++ l from rfl, q0W, show ([b] ++ l).length = l.length + 1 by simp, Nat.pow_succ]
  have : dv [b] = b.toNat - 48 := by simp [dv, dvA]
  rw [this]
  have : (b.toNat - 48) * 10 ^ l.length ≤ 9 * 10 ^ l.length := Nat.mul_le_mul_right _ (by omega)
  omega
theorem u8d (k : Nat) (h : k < 10) : (UInt8.ofNat (48 + k)).toNat = 48 + k := by
 rw [UInt8.toNat_ofNat']; omega
theorem j0L : ∀ u : Nat, ∀ b ∈ decDigits u, isD b := by
 intro u
 induction u using Nat.strongRecOn with
 |_ u ih =>
  intro b hb
  rw [decDigits] at hb
  split at hb
  ·rename_i h
   rw [List.mem_singleton.1 hb]
   unfold isD; rw [u8d u h]; omega
  ·rename_i h
   rcases List.mem_append.1 hb with h1 | h1
   ·exact ih (u / 10) (by omega) b h1
   ·rw [List.mem_singleton.1 h1]
    unfold isD; rw [u8d _ (Nat.mod_lt _ (by omega))]; have := Nat.mod_lt u (show 10 > 0 by omega); omega
theorem q0f : ∀ u : Nat, dv (decDigits u) = u := by
 intro u
 induction u using Nat.strongRecOn with
 |_ u ih =>
  rw [decDigits]
  split
  ·rename_i h
   simp only [dv, dvA, List.foldl_cons, List.foldl_nil]
   rw [u8d u h]; omega
  ·rename_i h
   rw [y0M, ih (u / 10) (by omega), u8d _ (Nat.mod_lt _ (by omega))]
   omega
theorem w0l (u : Nat) : decDigits u ≠ [] := by
 intro h
 have := decDigits_length u
 have := nDigits_pos u
 rw [h] at *
 simp at *
 omega
theorem j1v : ∀ u : Nat, ∀ r, decDigits u = 48 :: r → r = [] := by
 intro u
 induction u using Nat.strongRecOn with
 |_ u ih =>
  intro r h
  rw [decDigits] at h
  split at h
  ·injection h with _ h; exact h.symm
  ·rename_i hu
   cases hd : decDigits (u / 10) with
   |nil => exact absurd hd (w0l _)
   |cons c s =>
    rw [hd] at h
    simp only [List.cons_append, List.cons.injEq] at h
    have := ih (u / 10) (by omega) s (by rw [hd, h.1])
    subst this
    have hv := q0f (u / 10)
    rw [hd, h.1] at hv
    simp [dv, dvA] at hv
    omega
theorem J1c (u : Nat) : Can (decDigits u) := ⟨w0l u, j0L u, j1v u⟩
theorem ofd {b : UInt8} (h : isD b) : UInt8.ofNat (48 + (b.toNat - 48)) = b := by
 apply UInt8.toNat_inj.1
 have := h.1; have := h.2
 rw [u8d _ (by omega)]; omega
theorem V1Z {l : List UInt8} (h : Can l) (h0 : l ≠ [48]) : 0 < dv l := by
 cases l with
 |nil => exact absurd rfl h.ne
 |cons b r =>
  rw [show b :: r = [b] ++ r from rfl, q0W]
  have hb := h.dig b (by simp)
  have : dv [b] = b.toNat - 48 := by simp [dv, dvA]
  rw [this]
  have hp : 0 < 10 ^ r.length := Nat.pow_pos (by decide)
  by_cases hz : b.toNat = 48
  ·have : b = 48 := UInt8.toNat_inj.1 hz
   subst this
   have := h.hd r rfl
   subst this
   exact absurd rfl h0
  ·have h1 := hb.1
   have : 1 * 10 ^ r.length ≤ (b.toNat - 48) * 10 ^ r.length := Nat.mul_le_mul_right _ (by omega)
   omega
theorem Z0h : ∀ n : Nat, ∀ l : List UInt8, l.length = n → Can l → decDigits (dv l) = l := by
 intro n
 induction n with
 |zero => intro l hl h; exact absurd (List.length_eq_zero_iff.1 hl) h.ne
 |succ n ih =>
  intro l hl h
  have hs := List.dropLast_concat_getLast h.ne
  generalize hm : l.dropLast = m at hs
  generalize l.getLast h.ne = b at hs
  subst hs
  have hb := h.dig b (by simp)
  rw [y0M]
  cases m with
  |nil =>
   have : dv [] = 0 := rfl
   rw [this, decDigits, dif_pos (by have := hb.2; omega), Nat.zero_mul, Nat.zero_add, ofd hb]; rfl
  |cons c s =>
   have hc : Can (c :: s) := ⟨by simp, fun x hx => h.dig x (List.mem_append_left _ hx), fun r hr => by
    injection hr with h1 h2
    subst h1
    have := h.hd (s ++ [b]) rfl
    simp at this⟩
   have hne : c :: s ≠ [48] := by
    intro he
    rw [he] at h
    have := h.hd [b] rfl
    simp at this
   have hp := V1Z hc hne
   have h2 := hb.2
   rw [decDigits, dif_neg (by omega)]
   have e1 : (dv (c :: s) * 10 + (b.toNat - 48)) / 10 = dv (c :: s) := by omega
   have e2 : (dv (c :: s) * 10 + (b.toNat - 48)) % 10 = b.toNat - 48 := by omega
   rw [e1, e2, ih (c :: s) (by simp at hl ⊢; omega) hc, ofd hb]
theorem J1d {l : List UInt8} : Can l ↔ ∃ u, l = decDigits u := ⟨fun h => ⟨dv l, (Z0h _ l rfl h).symm⟩, fun ⟨u, h⟩ => h ▸ J1c u⟩
theorem X0W {u v : Nat} (h : decDigits u = decDigits v) : u = v := by rw [← q0f u, h, q0f]
theorem w0H {m n : Int} (h : itoa m = itoa n) : m = n := by
 unfold itoa at h
 have hx : ∀ a b : Nat, 45 :: decDigits a ≠ decDigits b := fun a b e => by
  have := j0L b 45 (by rw [← e]; simp)
  exact absurd this (by decide)
 split at h <;> split at h
 ·injection h with _ h
  have := X0W h; omega
 ·exact absurd h (hx _ _)
 ·exact absurd h.symm (hx _ _)
 ·have := X0W h; omega
def rtx (q : Rat) : List UInt8 := if q.den = 1 then itoa q.num else itoa q.num ++ 47 :: decDigits q.den
theorem x1m (n : Int) : ∀ b ∈ itoa n, isD b ∨ b = 45 := fun b hb => by
 unfold itoa at hb
 split at hb
 ·rcases List.mem_cons.1 hb with h | h
  ·exact .inr h
  ·exact .inl (j0L _ b h)
 ·exact .inl (j0L _ b hb)
theorem q1u (n : Int) : (47 : UInt8) ∉ itoa n := fun h => by
 rcases x1m n 47 h with h | h
 ·exact absurd h (by decide)
 ·exact absurd h (by decide)
theorem v1B {a b c d : List UInt8} (ha : (47 : UInt8) ∉ a) (hc : (47 : UInt8) ∉ c) (h : a ++ 47 :: b = c ++ 47 :: d) : a = c ∧ b = d := by
 induction a generalizing c with
 |nil =>
  cases c with
  |nil => simp at h; exact ⟨rfl, h⟩
  |cons x c => simp at h; exact absurd (by rw [h.1]; simp) hc
 |cons y a ih =>
  cases c with
  |nil => simp at h; exact absurd (by rw [h.1]; simp) ha
  |cons x c =>
   simp at h
   obtain ⟨e1, e2⟩ := ih (fun q => ha (by simp [q])) (fun q => hc (by simp [q])) h.2
   exact ⟨by rw [h.1, e1], e2⟩
theorem rtx_inj {p q : Rat} (h : rtx p = rtx q) : p = q := by
 unfold rtx at h
 split at h <;> split at h
 ·rename_i h1 h2
  exact Rat.ext (w0H h) (h1.trans h2.symm)
 ·exact absurd (h ▸ (by simp : (47 : UInt8) ∈ itoa q.num ++ 47 :: decDigits q.den)) (q1u _)
 ·exact absurd (h ▸ (by simp : (47 : UInt8) ∈ itoa p.num ++ 47 :: decDigits p.den)) (q1u _)
 ·obtain ⟨e1, e2⟩ := v1B (q1u _) (q1u _) h
  exact Rat.ext (w0H e1) (X0W e2)
theorem v0d (n : Nat) : itoa (n : Int) = decDigits n := by unfold itoa; rw [if_neg (by omega)]; simp
theorem Q1s {n d g : Int} (hd : d ≠ 0) (hg : g = if d < 0 then -((Int.gcd n d : Nat) : Int) else ((Int.gcd n d : Nat) : Int)) : rtx (Rat.divInt n d) = if d / g = 1 then itoa (n / g) else itoa (n / g) ++ 47 :: itoa (d / g) := by
 have h1 : (Rat.divInt n d).num = n / g := by
  rw [Rat.num_divInt, Int.gcd_comm d n, hg]
  split
  ·rename_i h
   rw [Int.sign_eq_neg_one_of_neg h, Int.ediv_neg, Int.neg_mul, Int.one_mul]
   exact Int.neg_ediv_of_dvd (Int.gcd_dvd_left ..)
  ·rename_i h
   rw [Int.sign_eq_one_of_pos (by omega), Int.one_mul]
 have h2 : ((Rat.divInt n d).den : Int) = d / g := by
  rw [Rat.den_divInt, if_neg hd, Int.gcd_comm d n, hg, Int.natCast_ediv]
  split
  ·rename_i h
   rw [Int.ediv_neg, show ((d.natAbs : Nat) : Int) = -d by omega]
   exact Int.neg_ediv_of_dvd (Int.gcd_dvd_right ..)
  ·rename_i h
   rw [show ((d.natAbs : Nat) : Int) = d by omega]
 unfold rtx
 rw [← h1, ← h2, v0d]
 by_cases h : (Rat.divInt n d).den = 1
 ·rw [if_pos h, if_pos (by omega)]
 ·rw [if_neg h, if_neg (by omega)]
end Go.Na
namespace Go.Na
theorem j0P {m n q r : Int} (h : m = q * n + r) (hr : (0 ≤ r ∧ r < n) ∨ (n < r ∧ r ≤ 0)) : m.fdiv n = q ∧ m.fmod n = r := by
 have h2 : ∀ {m n q r : Int}, m = q * n + r → 0 ≤ r → r < n → m.fdiv n = q := by
  intro m n q r h h0 h1
  rw [Int.fdiv_eq_ediv_of_nonneg _ (by omega)]
  have := (Int.ediv_emod_unique (a := m) (b := n) (r := r) (q := q) (by omega)).2 ⟨by rw [h, Int.mul_comm]; omega, h0, h1⟩
  exact this.1
 have hq : m.fdiv n = q := by
  rcases hr with ⟨h0, h1⟩ | ⟨h0, h1⟩
  ·exact h2 h h0 h1
  ·rw [← Int.neg_fdiv_neg]
   exact h2 (r := -r) (by rw [h, Int.mul_neg]; omega) (by omega) (by omega)
 refine ⟨hq, ?_⟩
 have := Int.mul_fdiv_add_fmod m n
 rw [hq] at this
 rw [Int.mul_comm] at this
 omega
theorem z1U {m n : Int} (hn : n ≠ 0) : ((m.natAbs : Nat) : Int) = ((m.natAbs / n.natAbs : Nat) : Int) * ((n.natAbs : Nat) : Int) + ((m.natAbs % n.natAbs : Nat) : Int) ∧ m.natAbs % n.natAbs < n.natAbs := by
 have h1 := Nat.div_add_mod m.natAbs n.natAbs
 refine ⟨?_, Nat.mod_lt _ (by omega)⟩
 rw [Nat.mul_comm] at h1
 omega
theorem j1J (m n : Int) (hn : n ≠ 0) : m.fdiv n = if decide (m < 0) = decide (n < 0) then ((m.natAbs / n.natAbs : Nat) : Int) else if m.natAbs % n.natAbs = 0 then -((m.natAbs / n.natAbs : Nat) : Int) else -((m.natAbs / n.natAbs : Nat) : Int) - 1 := by
 obtain ⟨h1, h2⟩ := z1U (m := m) hn
 generalize hq : ((m.natAbs / n.natAbs : Nat) : Int) = q at h1
 generalize hr : m.natAbs % n.natAbs = r at h1 h2
 by_cases hm : m < 0 <;> by_cases hn0 : n < 0
 ·rw [if_pos (by simp [hm, hn0])]
  have e1 : ((m.natAbs : Nat) : Int) = -m := by omega
  have e2 : ((n.natAbs : Nat) : Int) = -n := by omega
  rw [e1, e2, Int.mul_neg] at h1
  exact (j0P (r := -r) (by omega) (.inr ⟨by omega, by omega⟩)).1
 ·rw [if_neg (by simp [hm, hn0])]
  have e1 : ((m.natAbs : Nat) : Int) = -m := by omega
  have e2 : ((n.natAbs : Nat) : Int) = n := by omega
  rw [e1, e2] at h1
  split
  ·exact (j0P (r := 0) (by rw [Int.neg_mul]; omega) (.inl ⟨by omega, by omega⟩)).1
  ·exact (j0P (r := n - r) (by rw [Int.sub_mul, Int.neg_mul]; omega) (.inl ⟨by omega, by omega⟩)).1
 ·rw [if_neg (by simp [hm, hn0])]
  have e1 : ((m.natAbs : Nat) : Int) = m := by omega
  have e2 : ((n.natAbs : Nat) : Int) = -n := by omega
  rw [e1, e2, Int.mul_neg] at h1
  split
  ·exact (j0P (r := 0) (by rw [Int.neg_mul]; omega) (.inr ⟨by omega, by omega⟩)).1
  ·exact (j0P (r := n + r) (by rw [Int.sub_mul, Int.neg_mul]; omega) (.inr ⟨by omega, by omega⟩)).1
 ·rw [if_pos (by simp [hm, hn0])]
  have e1 : ((m.natAbs : Nat) : Int) = m := by omega
  have e2 : ((n.natAbs : Nat) : Int) = n := by omega
  rw [e1, e2] at h1
  exact (j0P (r := r) (by omega) (.inl ⟨by omega, by omega⟩)).1
theorem z0N {m n : Int} (h : n ∣ m) : m.fdiv n = m / n := by
 rw [Int.fdiv_eq_ediv, if_pos (.inr h)]; omega
theorem J1E (m n : Int) : m.fmod n = m - m.fdiv n * n := by
 have := Int.mul_fdiv_add_fmod m n
 rw [Int.mul_comm] at this; omega
abbrev B : Int := 1000000000
def vw (f : Nat → Int) : Nat → Int
 |0 => 0
 |n + 1 => vw f n + f n * B ^ n
theorem W0m {f g : Nat → Int} : ∀ {n : Nat}, (∀ i, i < n → f i = g i) → vw f n = vw g n
 |0, _ => rfl
 |n + 1, h => by
  show vw f n + f n * B ^ n = vw g n + g n * B ^ n
  rw [W0m fun i hi => h i (by omega), h n (by omega)]
theorem z1N {f g : Nat → Int} {k : Nat} (ho : ∀ i, i ≠ k → g i = f i) : ∀ {n : Nat}, k < n → vw g n = vw f n + (g k - f k) * B ^ k
 |0, h => by omega
 |n + 1, h => by
  show vw g n + g n * B ^ n = vw f n + f n * B ^ n + (g k - f k) * B ^ k
  by_cases hk : k = n
  ·subst hk
   rw [W0m fun i hi => ho i (by omega), Int.sub_mul]; omega
  ·rw [z1N ho (show k < n by omega), ho n (fun e => hk e.symm)]; omega
theorem W0w (n : Nat) : 0 < B ^ n := Int.pow_pos (by decide)
theorem x0q {f : Nat → Int} (h : ∀ i, 0 ≤ f i) : ∀ n, 0 ≤ vw f n
 |0 => Int.le_refl 0
 |n + 1 => Int.add_nonneg (x0q h n) (Int.mul_nonneg (h n) (Int.le_of_lt (W0w n)))
theorem y1k {f : Nat → Int} (h0 : ∀ i, 0 ≤ f i) (h : ∀ i, f i < B) : ∀ n, vw f n < B ^ n
 |0 => by show (0 : Int) < B ^ 0; decide
 |n + 1 => by
  have h1 := y1k h0 h n
  have h2 : f n * B ^ n ≤ (B - 1) * B ^ n := Int.mul_le_mul_of_nonneg_right (by have := h n; omega) (Int.le_of_lt (W0w n))
  rw [Int.pow_succ]
  show vw f n + f n * B ^ n < B ^ n * B
  rw [Int.sub_mul, Int.one_mul, Int.mul_comm B] at h2
  omega
theorem w1e {f : Nat → Int} {n : Nat} (h : ∀ i, n ≤ i → f i = 0) : ∀ m, vw f (n + m) = vw f n
 |0 => rfl
 |m + 1 => by
  show vw f (n + m) + f (n + m) * B ^ (n + m) = _
  rw [w1e h m, h (n + m) (by omega)]; simp
theorem q1Z {f : Nat → Int} {j m n : Nat} {V r : Int} (h0 : ∀ i, 0 ≤ f i) (h1 : ∀ i, f i < B) (hz : ∀ i, j ≤ i → f i = 0) (hm : m ≤ j) (hV0 : 0 ≤ V) (hV : V < B ^ m) (hj : j ≤ n) (he : vw f n + r * B ^ j = V) : r = 0 := by
 have e1 : vw f n = vw f j := by
  have := w1e hz (n - j)
  rwa [show j + (n - j) = n by omega] at this
 have h2 := y1k h0 h1 j
 have h3 := x0q h0 j
 have h4 : B ^ m ≤ B ^ j := by
  rw [show j = m + (j - m) by omega, Int.pow_add]
  have := W0w (j - m)
  have h5 : B ^ m * 1 ≤ B ^ m * B ^ (j - m) := Int.mul_le_mul_of_nonneg_left (by omega) (Int.le_of_lt (W0w m))
  omega
 have hp := W0w j
 rcases Int.lt_trichotomy r 0 with h | h | h
 ·have : r * B ^ j ≤ (-1) * B ^ j := Int.mul_le_mul_of_nonneg_right (by omega) (Int.le_of_lt hp)
  omega
 ·exact h
 ·have : 1 * B ^ j ≤ r * B ^ j := Int.mul_le_mul_of_nonneg_right (by omega) (Int.le_of_lt hp)
  omega
theorem k0G {f f' g : Nat → Int} {i u N : Nat} {c V r s r' : Int} (hj : i + u < N) (he : vw f N + r * B ^ (i + u) = V + c * vw g i * B ^ u)
  (hs : s = f (i + u) + r + c * g i) (hf : f' (i + u) + r' * B = s) (ho : ∀ k, k ≠ i + u → f' k = f k) : vw f' N + r' * B ^ (i + 1 + u) = V + c * vw g (i + 1) * B ^ u := by
 rw [z1N ho hj, show i + 1 + u = (i + u) + 1 by omega, Int.pow_succ]
 show _ = V + c * (vw g i + g i * B ^ i) * B ^ u
 have e : B ^ (i + u) = B ^ i * B ^ u := Int.pow_add ..
 rw [e] at he ⊢
 have e2 : f' (i + u) = s - r' * B := by omega
 rw [e2, hs]
 generalize B ^ i = p at he ⊢
 generalize B ^ u = q at he ⊢
 grind
theorem w0y (s : Int) : let r := s.tdiv B; let t := s - r * B; (0 ≤ t → t < B ∧ t + r * B = s) ∧ (t < 0 → 0 ≤ t + B ∧ t + B < B ∧ (t + B) + (r - 1) * B = s) := by
 intro r t
 have h4 : t = s - r * 1000000000 := rfl
 have h5 : r = s.tdiv 1000000000 := rfl
 clear_value r t
 have h3 : -1000000000 < t ∧ t < 1000000000 := by
  rcases Int.le_total 0 s with h | h
  ·rw [Int.tdiv_eq_ediv_of_nonneg h] at h5; omega
  ·have : s = -(-s) := by omega
   rw [this, Int.neg_tdiv, Int.tdiv_eq_ediv_of_nonneg (by omega)] at h5; omega
 show (0 ≤ t → t < 1000000000 ∧ t + r * 1000000000 = s) ∧ (t < 0 → 0 ≤ t + 1000000000 ∧ t + 1000000000 < 1000000000 ∧ (t + 1000000000) + (r - 1) * 1000000000 = s)
 refine ⟨fun h => ⟨by omega, by omega⟩, fun h => ⟨by omega, by omega, by omega⟩⟩
theorem X1S {f : Nat → Int} {n N : Nat} (h0 : ∀ i, 0 ≤ f i) (hN : n + 2 ≤ N) : (f (n + 1) * B + f n) * B ^ n ≤ vw f N := by
 have h1 : ∀ m, vw f (n + 2) ≤ vw f (n + 2 + m) := fun m => by
  induction m with
  |zero => exact Int.le_refl _
  |succ m ih => exact Int.le_trans ih (by
    show vw f (n + 2 + m) ≤ vw f (n + 2 + m) + f (n + 2 + m) * B ^ (n + 2 + m)
    have := Int.mul_nonneg (h0 (n + 2 + m)) (Int.le_of_lt (W0w (n + 2 + m)))
    omega)
 have h2 := h1 (N - (n + 2))
 rw [show n + 2 + (N - (n + 2)) = N by omega] at h2
 refine Int.le_trans ?_ h2
 show _ ≤ vw f n + f n * B ^ n + f (n + 1) * B ^ (n + 1)
 have h3 := x0q h0 n
 have e : (f (n + 1) * B + f n) * B ^ n = f n * B ^ n + f (n + 1) * B ^ (n + 1) := by
  rw [Int.pow_succ]
  generalize B ^ n = p
  grind
 omega
theorem W1d {f g : Nat → Int} {n N : Nat} {b k : Int} (h0 : ∀ i, 0 ≤ f i) (hg0 : ∀ i, 0 ≤ g i) (hg : ∀ i, g i < B) (hN : n + 2 ≤ N) (hb : b = if n = 0 then g n else g n + 1) (hb0 : 0 < b) (hk0 : 0 ≤ k) (hk : k ≤ (f (n + 1) * B + f n) / b) : k * vw g (n + 1) ≤ vw f N := by
 have h1 := X1S h0 hN
 have hp := W0w n
 have h2 : vw g (n + 1) ≤ b * B ^ n := by
  show vw g n + g n * B ^ n ≤ b * B ^ n
  by_cases hn : n = 0
  ·subst hn
   rw [if_pos rfl] at hb
   subst hb
   show 0 + _ ≤ _
   omega
  ·rw [if_neg hn] at hb
   have := y1k hg0 hg n
   rw [hb, Int.add_mul, Int.one_mul]; omega
 have h3 : k * b ≤ f (n + 1) * B + f n := by
  have := Int.ediv_mul_le (f (n + 1) * B + f n) (show b ≠ 0 by omega)
  exact Int.le_trans (Int.mul_le_mul_of_nonneg_right hk (Int.le_of_lt hb0)) this
 have h4 : k * vw g (n + 1) ≤ k * (b * B ^ n) := Int.mul_le_mul_of_nonneg_left h2 hk0
 have h5 : k * (b * B ^ n) ≤ (f (n + 1) * B + f n) * B ^ n := by
  rw [← Int.mul_assoc]; exact Int.mul_le_mul_of_nonneg_right h3 (Int.le_of_lt hp)
 omega
theorem z1M {f g : Nat → Int} (hf0 : ∀ i, 0 ≤ f i) (hf : ∀ i, f i < B) (hg0 : ∀ i, 0 ≤ g i) {i : Nat} (hlt : f i < g i) : ∀ {n : Nat}, i < n → (∀ k, i < k → k < n → f k = g k) → vw f n < vw g n
 |0, h, _ => by omega
 |n + 1, h, hs => by
  show vw f n + f n * B ^ n < vw g n + g n * B ^ n
  by_cases hin : i = n
  ·subst hin
   have h1 := y1k hf0 hf i
   have h2 := x0q hg0 i
   have h3 : (f i + 1) * B ^ i ≤ g i * B ^ i := Int.mul_le_mul_of_nonneg_right (by omega) (Int.le_of_lt (W0w i))
   rw [Int.add_mul, Int.one_mul] at h3
   omega
  ·have := z1M hf0 hf hg0 hlt (show i < n by omega) fun k h1 h2 => hs k h1 (by omega)
   rw [hs n (by omega) (by omega)]; omega
theorem W0n {f g : Nat → Int} (h : ∀ i, g (i + 1) = f i) : ∀ n, vw g (n + 1) = vw f n * B + g 0
 |0 => by show 0 + g 0 * B ^ 0 = 0 * B + g 0; simp
 |n + 1 => by
  show vw g (n + 1) + g (n + 1) * B ^ (n + 1) = (vw f n + f n * B ^ n) * B + g 0
  rw [W0n h n, h n, Int.pow_succ]
  generalize B ^ n = p
  grind
end Go.Na
namespace Go.Na
open Go.Lib
def pad (k : Nat) : List UInt8 := List.replicate (9 - (decDigits k).length) 48 ++ decDigits k
theorem v0l {k : Nat} : ∀ {n : Nat}, k < 10 ^ n → 0 < n → (decDigits k).length ≤ n := by
 induction k using Nat.strongRecOn with
 |_ k ih =>
  intro n h hn
  rw [decDigits]
  split
  ·simp; omega
  ·rename_i hk
   have hn1 : 1 < n := by
    rcases Nat.lt_or_ge 1 n with h1 | h1
    ·exact h1
    ·have : n = 1 := by omega
     subst this; omega
   obtain ⟨m, rfl⟩ : ∃ m, n = m + 1 := ⟨n - 1, by omega⟩
   rw [Nat.pow_succ] at h
   have := ih (k / 10) (by omega) (n := m) (by omega) (by omega)
   simp; omega
theorem Y0t {k : Nat} (h : k < 1000000000) : (pad k).length = 9 := by
 have := v0l (n := 9) h (by decide)
 simp [pad]; omega
theorem y1E (n : Nat) : dv (List.replicate n 48) = 0 := by
 induction n with
 |zero => rfl
 |succ n ih => rw [List.replicate_succ', y0M, ih]; decide
theorem V1Y (k : Nat) : dv (pad k) = k := by
 rw [pad, q0W, y1E, q0f]; simp
theorem Q1g (k : Nat) : ∀ b ∈ pad k, isD b := fun b hb => by
 rcases List.mem_append.1 hb with h | h
 ·rw [(List.mem_replicate.1 h).2]; decide
 ·exact j0L k b h
def tl (f : Nat → Int) : Nat → List UInt8
 |0 => []
 |n + 1 => pad (f n).toNat ++ tl f n
theorem v1S {f : Nat → Int} (h : ∀ i, f i < B) : ∀ n, (tl f n).length = 9 * n
 |0 => rfl
 |n + 1 => by
  have h1 : f n < 1000000000 := h n
  rw [tl, List.length_append, v1S h n, Y0t (by omega)]; omega
theorem z1E (f : Nat → Int) : ∀ n, ∀ b ∈ tl f n, isD b
 |0, b, hb => by simp [tl] at hb
 |n + 1, b, hb => (List.mem_append.1 hb).elim (Q1g _ b) (z1E f n b)
theorem Z1K (n : Nat) : ((10 ^ (9 * n) : Nat) : Int) = B ^ n := by
 rw [Nat.pow_mul]; simp
theorem W1a {f : Nat → Int} (h0 : ∀ i, 0 ≤ f i) (h : ∀ i, f i < B) : ∀ n, ((dv (tl f n) : Nat) : Int) = vw f n
 |0 => rfl
 |n + 1 => by
  have := h0 n
  rw [tl, q0W, V1Y, v1S h, Int.natCast_add, Int.natCast_mul, W1a h0 h n, Z1K, Int.toNat_of_nonneg (h0 n)]
  show _ = vw f n + f n * B ^ n
  omega
theorem Q1N {f : Nat → Int} (h0 : ∀ i, 0 ≤ f i) (h : ∀ i, f i < B) {n : Nat} (hn : f n ≠ 0) : decDigits (f n).toNat ++ tl f n = decDigits (vw f (n + 1)).toNat := by
 have hp := h0 n
 have hc : Can (decDigits (f n).toNat ++ tl f n) := ⟨by simp [w0l], fun b hb => (List.mem_append.1 hb).elim (j0L _ b) (z1E f n b), fun r hr => by
  cases hd : decDigits (f n).toNat with
  |nil => exact absurd hd (w0l _)
  |cons c s =>
   rw [hd] at hr
   injection hr with h1 h2
   subst h1
   have := j1v _ s hd
   subst this
   have hv := q0f (f n).toNat
   rw [hd] at hv
   simp [dv, dvA] at hv
   omega⟩
 rw [← Z0h _ _ rfl hc]
 congr 1
 have h1 : ((dv (decDigits (f n).toNat ++ tl f n) : Nat) : Int) = vw f (n + 1) := by
  rw [q0W, q0f, v1S h, Int.natCast_add, Int.natCast_mul, W1a h0 h n, Z1K, Int.toNat_of_nonneg (h0 n)]
  show _ = vw f n + f n * B ^ n
  omega
 rw [← h1]; simp
theorem q1W {s : List UInt8} (h : ∀ b ∈ s, isD b) : dv s = dv (s.take (s.length - 9)) * 1000000000 + dv (s.drop (s.length - 9)) ∧ dv (s.drop (s.length - 9)) < 1000000000 := by
 constructor
 ·have e := q0W (s.take (s.length - 9)) (s.drop (s.length - 9))
  rw [List.take_append_drop] at e
  by_cases hl : 9 ≤ s.length
  ·rw [show (s.drop (s.length - 9)).length = 9 by simp; omega] at e
   exact e
  ·rw [show s.length - 9 = 0 by omega] at e ⊢
   simp [dv, dvA]
 ·have h1 := w0W (s.drop (s.length - 9)) fun b hb => h b (List.mem_of_mem_drop hb)
  have h2 : (10 : Nat) ^ (s.drop (s.length - 9)).length ≤ 10 ^ 9 := Nat.pow_le_pow_right (by decide) (by simp; omega)
  exact Nat.lt_of_lt_of_le h1 h2
def bare : List UInt8 → List UInt8
 |[] => []
 |[b] => [b]
 |b :: c :: r => if b = 48 then bare (c :: r) else b :: c :: r
theorem j1c (c : UInt8) (r : List UInt8) : bare (48 :: c :: r) = bare (c :: r) := by simp [bare]
theorem W0B {l : List UInt8} (h : ¬ (1 < l.length ∧ l.head? = some 48)) : bare l = l := by
 cases l with
 |nil => rfl
 |cons b l =>
  cases l with
  |nil => rfl
  |cons c r =>
   unfold bare
   rw [if_neg]
   rintro rfl
   exact h ⟨by simp, rfl⟩
theorem V1X (b : UInt8) : dv [b] = b.toNat - 48 := by simp [dv, dvA]
theorem w0V (b : UInt8) (l : List UInt8) : dv (b :: l) = (b.toNat - 48) * 10 ^ l.length + dv l := by
 rw [show b :: l = [b] ++ l from rfl, q0W, V1X]
theorem x0r : ∀ l : List UInt8, l ≠ [] → (∀ b ∈ l, isD b) → bare l = decDigits (dv l)
 |[], h, _ => absurd rfl h
 |[b], _, h => by
  have hc : Can [b] := ⟨by simp, h, fun r hr => by injection hr with _ h; exact h.symm⟩
  exact (Z0h 1 [b] rfl hc).symm
 |b :: c :: r, _, h => by
  unfold bare
  split
  ·rename_i h0
   subst h0
   rw [x0r (c :: r) (by simp) fun x hx => h x (by simp at hx ⊢; exact .inr hx)]
   rw [w0V 48 (c :: r)]
   simp
  ·rename_i h0
   refine (Z0h _ _ rfl ⟨by simp, h, fun r hr => ?_⟩).symm
   injection hr with h1 _
   exact absurd h1 h0
theorem X0C {l : List UInt8} {i : Nat} (h : i < l.length) : l.take (i + 1) = l.take i ++ [l[i]] := by
 rw [List.take_add_one, List.getElem?_eq_getElem h]; rfl
theorem V0s {l : List UInt8} {i : Nat} (h : i < l.length) : dv (l.take (i + 1)) = dv (l.take i) * 10 + (l[i].toNat - 48) := by
 rw [X0C h, y0M]
theorem j1D {l : List UInt8} {i : Nat} (h : i < l.length) : dv (l.drop i) = (l[i].toNat - 48) * 10 ^ (l.length - (i + 1)) + dv (l.drop (i + 1)) := by
 rw [List.drop_eq_getElem_cons h, w0V, List.length_drop]
def sg (add : Bool) : Int := if add then 1 else -1
def W0u (x y c : Int) (add : Bool) : Int := if add then x + y + c else x - y - c
def K0K (n : Int) : Int := if 9 < n then n - 10 else if n < 0 then n + 10 else n
def K0J (n : Int) : Int := if 9 < n then 1 else if n < 0 then 1 else 0
theorem y1z {x y c : Int} {add : Bool} (hx : 0 ≤ x ∧ x ≤ 9) (hy : 0 ≤ y ∧ y ≤ 9) (hc : 0 ≤ c ∧ c ≤ 1) : (0 ≤ K0K (W0u x y c add) ∧ K0K (W0u x y c add) ≤ 9) ∧ (0 ≤ K0J (W0u x y c add) ∧ K0J (W0u x y c add) ≤ 1) ∧
  K0K (W0u x y c add) + sg add * 10 * K0J (W0u x y c add) = x + sg add * y + sg add * c := by
 cases add
 ·simp only [W0u, sg, K0K, K0J, Bool.false_eq_true, if_false]
  split
  ·omega
  ·split <;> omega
 ·simp only [W0u, sg, K0K, K0J, if_true]
  split
  ·omega
  ·split <;> omega
theorem w1N {a b o p x y c d e s : Int} (h : o + s * c * p = a + s * b) (hn : d + s * 10 * e = x + s * y + s * c) : (d * p + o) + s * e * (p * 10) = (x * p + a) + s * (y * p + b) := by grind
structure PInv (add : Bool) (a b l : List UInt8) (k : Nat) (c : Int) : Prop where
 len : l.length = a.length
 le : k ≤ a.length
 dig : ∀ x ∈ l.drop k, isD x
 c01 : 0 ≤ c ∧ c ≤ 1
 val : (dv (l.drop k) : Int) + sg add * c * 10 ^ (a.length - k) = dv (a.drop k) + sg add * dv (b.drop k)
theorem v0B {l : List UInt8} {k : Nat} {x : UInt8} (h : k < l.length) : (l.set k x).drop k = x :: l.drop (k + 1) := by
 rw [List.drop_eq_getElem_cons (by simpa using h), List.drop_set_of_lt (by omega)]
 simp
def byt (d : Int) : UInt8 := UInt8.ofNat (48 + d.toNat)
theorem w0R {d : Int} (h : 0 ≤ d ∧ d ≤ 9) : ((byt d).toNat : Int) = 48 + d := by
 unfold byt; rw [u8d _ (by omega)]; omega
theorem X0Q {d : Int} (h : 0 ≤ d ∧ d ≤ 9) : isD (byt d) := by
 unfold byt isD; rw [u8d _ (by omega)]; omega
theorem j1j {d : Int} (h : 0 ≤ d ∧ d ≤ 9) : (((byt d).toNat - 48 : Nat) : Int) = d := by
 unfold byt; rw [u8d _ (by omega)]; omega
theorem PInv.zero {add : Bool} {a b l : List UInt8} (hl : l.length = a.length) (hb : b.length = a.length) : PInv add a b l a.length 0 := by
 refine ⟨hl, Nat.le_refl _, ?_, by omega, ?_⟩
 ·rw [List.drop_eq_nil_of_le (by omega)]; simp
 ·rw [List.drop_eq_nil_of_le (by omega), List.drop_eq_nil_of_le (by omega), List.drop_eq_nil_of_le (by omega)]
  simp [dv, dvA]
theorem dgI {b : UInt8} (h : isD b) : 0 ≤ ((b.toNat : Int) - 48) ∧ ((b.toNat : Int) - 48) ≤ 9 := by
 have := h.1; have := h.2; omega
theorem PInv.step {add : Bool} {a b l : List UInt8} {k : Nat} {c : Int} (h : PInv add a b l (k + 1) c) (ha : ∀ x ∈ a, isD x) (hb : ∀ x ∈ b, isD x) (hlb : b.length = a.length) {x y : UInt8} (hx : a[k]? = some x) (hy : b[k]? = some y) :
  PInv add a b (l.set k (byt (K0K (W0u ((x.toNat : Int) - 48) ((y.toNat : Int) - 48) c add)))) k (K0J (W0u ((x.toNat : Int) - 48) ((y.toNat : Int) - 48) c add)) := by
 have hk := h.le
 obtain ⟨hka, rfl⟩ := List.getElem?_eq_some_iff.1 hx
 obtain ⟨hkb, rfl⟩ := List.getElem?_eq_some_iff.1 hy
 have hax := ha _ (List.getElem_mem hka)
 have hby := hb _ (List.getElem_mem hkb)
 obtain ⟨h1, h2, h3⟩ := y1z (add := add) (dgI hax) (dgI hby) h.c01
 have hkl : k < l.length := by rw [h.len]; omega
 refine ⟨by simp [h.len], by omega, ?_, h2, ?_⟩
 ·rw [v0B hkl]
  intro z hz
  rcases List.mem_cons.1 hz with rfl | hz
  ·exact X0Q h1
  ·exact h.dig z hz
 ·have hv := h.val
  rw [v0B hkl, w0V, j1D hka, j1D hkb, Int.natCast_add, Int.natCast_mul, j1j h1, Int.natCast_add, Int.natCast_mul, Int.natCast_add, Int.natCast_mul, List.length_drop, h.len, hlb]
  have e : a.length - k = (a.length - (k + 1)) + 1 := by omega
  rw [e, Int.pow_succ]
  have ex : ((a[k].toNat - 48 : Nat) : Int) = (a[k].toNat : Int) - 48 := by have := hax.1; omega
  have ey : ((b[k].toNat - 48 : Nat) : Int) = (b[k].toNat : Int) - 48 := by have := hby.1; omega
  rw [ex, ey]
  have := w1N hv h3
  simpa [Int.natCast_pow] using this
theorem PInv.sum {a b l : List UInt8} {c : Int} (h : PInv true a b l 0 c) (hl : l ≠ []) (hs : dv a + dv b < 10 ^ a.length) : bare l = decDigits (dv a + dv b) := by
 have hv := h.val
 have hd := h.dig
 rw [List.drop_zero] at hv hd
 rw [x0r l hl hd]
 congr 1
 have hlt := w0W l hd
 rw [h.len] at hlt
 simp only [sg, List.drop_zero, Nat.sub_zero, if_true, Int.one_mul] at hv
 have hp : ((10 ^ a.length : Nat) : Int) = 10 ^ a.length := by simp
 rw [← hp] at hv
 have := h.c01
 rcases (by omega : c = 0 ∨ c = 1) with rfl | rfl
 ·omega
 ·omega
theorem PInv.dif {a b l : List UInt8} {c : Int} (h : PInv false a b l 0 c) (hl : l ≠ []) (hs : dv b ≤ dv a) (ha : ∀ x ∈ a, isD x) : bare l = decDigits (dv a - dv b) := by
 have hv := h.val
 have hd := h.dig
 rw [List.drop_zero] at hv hd
 rw [x0r l hl hd]
 congr 1
 have hlt := w0W l hd
 have hla := w0W a ha
 rw [h.len] at hlt
 simp only [sg, List.drop_zero, Nat.sub_zero, Bool.false_eq_true, if_false] at hv
 have hp : ((10 ^ a.length : Nat) : Int) = 10 ^ a.length := by simp
 rw [← hp] at hv
 have := h.c01
 rcases (by omega : c = 0 ∨ c = 1) with rfl | rfl
 ·omega
 ·omega
def z0C (l : List UInt8) (n : Nat) : List UInt8 := List.replicate (n - l.length) 48 ++ l
theorem j1E (l : List UInt8) (n : Nat) : dv (z0C l n) = dv l := by rw [z0C, q0W, y1E]; simp
theorem W0r {l : List UInt8} {n : Nat} (h : l.length ≤ n) : (z0C l n).length = n := by simp [z0C]; omega
theorem k0C {l : List UInt8} (h : ∀ b ∈ l, isD b) (n : Nat) : ∀ b ∈ z0C l n, isD b := fun b hb => by
 rcases List.mem_append.1 hb with h1 | h1
 ·rw [(List.mem_replicate.1 h1).2]; decide
 ·exact h b h1
def cvA (a : Int) (l : List Int) : Int := l.foldl (fun a c => a * 10 + c) a
def cv (l : List Int) : Int := cvA 0 l
theorem V1P (a : Int) : ∀ l : List Int, cvA a l = a * 10 ^ l.length + cv l := by
 intro l
 induction l generalizing a with
 |nil => simp [cvA, cv]
 |cons b l ih =>
  show cvA (a * 10 + b) l = a * 10 ^ (l.length + 1) + cvA (0 * 10 + b) l
  rw [ih, ih (0 * 10 + b), Int.pow_succ]
  generalize (10 : Int) ^ l.length = p
  grind
theorem J0s (l m : List Int) : cv (l ++ m) = cv l * 10 ^ m.length + cv m := by
 rw [show cv (l ++ m) = cvA (cv l) m by simp [cv, cvA], V1P]
theorem V0p (b : Int) (l : List Int) : cv (b :: l) = b * 10 ^ l.length + cv l := by
 rw [show b :: l = [b] ++ l from rfl, J0s]; simp [cv, cvA]
theorem V1R {l : List Int} {j : Nat} (h : j < l.length) (x : Int) : cv (l.set j (l[j] + x)) = cv l + x * 10 ^ (l.length - (j + 1)) := by
 have e : l = l.take j ++ l[j] :: l.drop (j + 1) := by
  conv => lhs; rw [← List.take_append_drop j l, List.drop_eq_getElem_cons h]
 have e2 : l.set j (l[j] + x) = l.take j ++ (l[j] + x) :: l.drop (j + 1) := by
  rw [List.set_eq_take_append_cons_drop, if_pos h]
 rw [e2]
 conv => rhs; rw [e]
 rw [J0s, J0s, V0p, V0p]
 simp only [List.length_append, List.length_cons, List.length_drop, List.length_take]
 rw [show min j l.length + (l.length - (j + 1) + 1) - (j + 1) = l.length - (j + 1) by omega]
 generalize (10 : Int) ^ (l.length - (j + 1)) = p
 grind
theorem V1Q (n : Nat) : cv (List.replicate n 0) = 0 := by
 induction n with
 |zero => rfl
 |succ n ih => rw [List.replicate_succ, V0p, ih]; simp
theorem J1q {l : List Int} {i : Nat} (h : i < l.length) : cv (l.drop i) = l[i] * 10 ^ (l.length - (i + 1)) + cv (l.drop (i + 1)) := by
 rw [List.drop_eq_getElem_cons h, V0p, List.length_drop]
structure MInv (a b : List UInt8) (l : List Int) (i k : Nat) : Prop where
 len : l.length = a.length + b.length
 bd : ∀ x ∈ l, 0 ≤ x ∧ x ≤ 81 * ((i * b.length + k : Nat) : Int)
 val : cv l = (dv (a.take i) : Int) * 10 ^ (a.length - i) * dv b + ((dv (a.take (i + 1)) : Int) - 10 * dv (a.take i)) * dv (b.take k) * 10 ^ (a.length + b.length - (i + 1) - k)
theorem MInv.zero (a b : List UInt8) : MInv a b (List.replicate (a.length + b.length) 0) 0 0 := by
 refine ⟨by simp, fun x hx => ?_, ?_⟩
 ·rw [(List.mem_replicate.1 hx).2]; omega
 ·rw [V1Q]; simp [dv, dvA]
theorem Q1J {a : List UInt8} {i : Nat} (h : i < a.length) : (dv (a.take (i + 1)) : Int) - 10 * dv (a.take i) = ((a[i].toNat - 48 : Nat) : Int) := by
 have := V0s h
 omega
theorem MInv.step {a b : List UInt8} {l : List Int} {i k : Nat} (h : MInv a b l i k) (ha : ∀ x ∈ a, isD x) (hb : ∀ x ∈ b, isD x) {x y : UInt8} {c : Int} (hx : a[i]? = some x) (hy : b[k]? = some y) (hc : l[i + k + 1]? = some c) :
  MInv a b (l.set (i + k + 1) (c + ((x.toNat : Int) - 48) * ((y.toNat : Int) - 48))) i (k + 1) := by
 obtain ⟨hi, rfl⟩ := List.getElem?_eq_some_iff.1 hx
 obtain ⟨hk, rfl⟩ := List.getElem?_eq_some_iff.1 hy
 obtain ⟨hj, rfl⟩ := List.getElem?_eq_some_iff.1 hc
 have h1 := dgI (ha _ (List.getElem_mem hi))
 have h2 := dgI (hb _ (List.getElem_mem hk))
 have hm : 0 ≤ ((a[i].toNat : Int) - 48) * ((b[k].toNat : Int) - 48) ∧ ((a[i].toNat : Int) - 48) * ((b[k].toNat : Int) - 48) ≤ 81 := by
  constructor
  ·exact Int.mul_nonneg h1.1 h2.1
  ·have h3 : ((a[i].toNat : Int) - 48) * ((b[k].toNat : Int) - 48) ≤ 9 * ((b[k].toNat : Int) - 48) := Int.mul_le_mul_of_nonneg_right h1.2 h2.1
   omega
 refine ⟨by simp [h.len], fun z hz => ?_, ?_⟩
 ·rcases List.mem_or_eq_of_mem_set hz with h3 | h3
  ·have := h.bd z h3; omega
  ·have := h.bd _ (List.getElem_mem hj); omega
 ·rw [V1R hj, h.val, h.len, Q1J hi]
  have e := V0s hk
  rw [e]
  have ex : ((a[i].toNat - 48 : Nat) : Int) = (a[i].toNat : Int) - 48 := by omega
  have ey : ((b[k].toNat - 48 : Nat) : Int) = (b[k].toNat : Int) - 48 := by omega
  rw [Int.natCast_add, Int.natCast_mul, ex, ey]
  have e1 : a.length + b.length - (i + 1) - k = (a.length + b.length - (i + k + 1 + 1)) + 1 := by omega
  have e2 : a.length + b.length - (i + 1) - (k + 1) = a.length + b.length - (i + k + 1 + 1) := by omega
  rw [e1, e2, Int.pow_succ]
  generalize (10 : Int) ^ (a.length + b.length - (i + k + 1 + 1)) = p
  grind
theorem MInv.row {a b : List UInt8} {l : List Int} {i : Nat} (h : MInv a b l i b.length) (hi : i < a.length) : MInv a b l (i + 1) 0 := by
 refine ⟨h.len, fun x hx => ?_, ?_⟩
 ·have := h.bd x hx
  rw [Nat.add_mul]; simp only [Nat.one_mul, Nat.add_zero]; exact this
 ·rw [h.val, List.take_length]
  have e0 : dv (b.take 0) = 0 := rfl
  rw [e0]
  have e : a.length - i = (a.length - (i + 1)) + 1 := by omega
  have e1 : a.length + b.length - (i + 1) - b.length = a.length - (i + 1) := by omega
  rw [e, e1, Int.pow_succ]
  generalize (10 : Int) ^ (a.length - (i + 1)) = p
  grind
theorem MInv.all {a b : List UInt8} {l : List Int} (h : MInv a b l a.length 0) : cv l = (dv a : Int) * dv b := by
 have := h.val
 have e0 : dv (b.take 0) = 0 := rfl
 rw [e0, List.take_length] at this
 simpa using this
structure CInv (l : List Int) (o : List UInt8) (k : Nat) (c : Int) (M : Int) : Prop where
 len : o.length = l.length
 le : k ≤ l.length
 dig : ∀ x ∈ o.drop k, isD x
 c0 : 0 ≤ c ∧ c ≤ M
 val : (dv (o.drop k) : Int) + c * 10 ^ (l.length - k) = cv (l.drop k)
theorem CInv.zero {l : List Int} {o : List UInt8} {M : Int} (h : o.length = l.length) (hM : 0 ≤ M) : CInv l o l.length 0 M := by
 refine ⟨h, Nat.le_refl _, ?_, by omega, ?_⟩
 ·rw [List.drop_eq_nil_of_le (by omega)]; simp
 ·rw [List.drop_eq_nil_of_le (by omega), List.drop_eq_nil_of_le (by omega)]
  simp [dv, dvA, cv, cvA]
theorem CInv.step {l : List Int} {o : List UInt8} {k : Nat} {c M x : Int} (h : CInv l o (k + 1) c M) (hx : l[k]? = some x) (hx0 : 0 ≤ x ∧ x ≤ M) : CInv l (o.set k (byt ((c + x) % 10))) k ((c + x) / 10) M := by
 have hk := h.le
 obtain ⟨hkl, rfl⟩ := List.getElem?_eq_some_iff.1 hx
 have h0 := h.c0
 have hd : 0 ≤ (c + l[k]) % 10 ∧ (c + l[k]) % 10 ≤ 9 := by omega
 have hko : k < o.length := by rw [h.len]; omega
 refine ⟨by simp [h.len], by omega, ?_, by omega, ?_⟩
 ·rw [v0B hko]
  intro z hz
  rcases List.mem_cons.1 hz with rfl | hz
  ·exact X0Q hd
  ·exact h.dig z hz
 ·have hv := h.val
  rw [v0B hko, w0V, J1q hkl, Int.natCast_add, Int.natCast_mul, j1j hd, List.length_drop, h.len]
  have e : l.length - k = (l.length - (k + 1)) + 1 := by omega
  rw [e, Int.pow_succ]
  have e3 : (c + l[k]) % 10 = (c + l[k]) - 10 * ((c + l[k]) / 10) := by omega
  rw [e3]
  generalize (c + l[k]) / 10 = q
  rw [← hv]
  have e4 : ((10 ^ (l.length - (k + 1)) : Nat) : Int) = 10 ^ (l.length - (k + 1)) := by simp
  rw [e4]
  generalize (10 : Int) ^ (l.length - (k + 1)) = p
  grind
theorem CInv.all {l : List Int} {o : List UInt8} {c M : Int} (h : CInv l o 0 c M) (ho : o ≠ []) {n : Nat} (hv : cv l = n) (hn : n < 10 ^ l.length) : bare o = decDigits n := by
 have hval := h.val
 have hd := h.dig
 rw [List.drop_zero] at hval hd
 rw [x0r o ho hd]
 congr 1
 rw [List.drop_zero, hv, Nat.sub_zero] at hval
 have hp : ((10 ^ l.length : Nat) : Int) = 10 ^ l.length := by simp
 rw [← hp] at hval
 have h0 := h.c0
 rcases (by omega : c = 0 ∨ 1 ≤ c) with rfl | h1
 ·omega
 ·have : 1 * ((10 ^ l.length : Nat) : Int) ≤ c * ((10 ^ l.length : Nat) : Int) := Int.mul_le_mul_of_nonneg_right h1 (by omega)
  omega
theorem w1U {u v d r q : Nat} (hr : r < v) (hq : u = q * v + r) (hd : d < 10) : (10 * r + d) / v < 10 ∧ (u * 10 + d) / v = q * 10 + (10 * r + d) / v ∧ (u * 10 + d) % v = (10 * r + d) % v := by
 have hv : 0 < v := by omega
 refine ⟨?_, ?_, ?_⟩
 ·rw [Nat.div_lt_iff_lt_mul hv]; omega
 ·subst hq
  have e : (q * v + r) * 10 + d = (10 * r + d) + v * (q * 10) := by grind
  rw [e, Nat.add_mul_div_left _ _ hv]; omega
 ·subst hq
  have e : (q * v + r) * 10 + d = (10 * r + d) + v * (q * 10) := by grind
  rw [e, Nat.add_mul_mod_self_left]
theorem Y0l : ∀ {a b : List UInt8}, a.length = b.length → (∀ x ∈ a, isD x) → (∀ x ∈ b, isD x) → (Op.bytesLess a b = true ↔ dv a < dv b)
 |[], [], _, _, _ => by simp [Op.bytesLess]
 |x :: a, y :: b, hl, ha, hb => by
  have hl' : a.length = b.length := by simpa using hl
  have ih := Y0l hl' (fun z hz => ha z (by simp [hz])) (fun z hz => hb z (by simp [hz]))
  have h1 := dgI (ha x (by simp))
  have h2 := dgI (hb y (by simp))
  have l1 := w0W a fun z hz => ha z (by simp [hz])
  have l2 := w0W b fun z hz => hb z (by simp [hz])
  rw [← hl'] at l2
  rw [w0V, w0V, ← hl']
  unfold Op.bytesLess
  generalize hp : 10 ^ a.length = p at l1 l2 ⊢
  rcases Nat.lt_trichotomy x.toNat y.toNat with h | h | h
  ·have h3 : (x.toNat - 48 + 1) * p ≤ (y.toNat - 48) * p := Nat.mul_le_mul_right _ (by omega)
   rw [Nat.add_mul] at h3
   have hx : x < y := h
   simp [hx]; omega
  ·have : x = y := UInt8.toNat_inj.1 h
   subst this
   simp [ih]
  ·have h3 : (y.toNat - 48 + 1) * p ≤ (x.toNat - 48) * p := Nat.mul_le_mul_right _ (by omega)
   rw [Nat.add_mul] at h3
   have hx : ¬ x < y := by show ¬ x.toNat < y.toNat; omega
   have hne : x ≠ y := by rintro rfl; omega
   simp [hx, hne]; omega
theorem x0t {u v : Nat} (h : (decDigits u).length < (decDigits v).length) : u < v := by
 rcases Nat.lt_or_ge u v with h1 | h1
 ·exact h1
 ·exfalso
  have h2 := w0W _ (j0L u)
  rw [q0f] at h2
  have h3 : 0 < (decDigits u).length := List.length_pos_iff.2 (w0l u)
  have := v0l (k := v) (n := (decDigits u).length) (by omega) h3
  omega
theorem w1R (u v : Nat) : ((decDigits u).length < (decDigits v).length ∨ (decDigits u).length = (decDigits v).length ∧ Op.bytesLess (decDigits u) (decDigits v) = true) ↔ u < v := by
 constructor
 ·rintro (h | ⟨h1, h2⟩)
  ·exact x0t h
  ·have := (Y0l h1 (j0L u) (j0L v)).1 h2
   rwa [q0f, q0f] at this
 ·intro h
  rcases Nat.lt_trichotomy (decDigits u).length (decDigits v).length with h1 | h1 | h1
  ·exact .inl h1
  ·refine .inr ⟨h1, (Y0l h1 (j0L u) (j0L v)).2 ?_⟩
   rwa [q0f, q0f]
  ·have := x0t h1; omega
theorem X0D {m n : Int} (hn : n ≠ 0) : m.fmod n = if m.tmod n ≠ 0 ∧ ¬ (m.tmod n < 0 ↔ n < 0) then m.tmod n + n else m.tmod n := by
 have h1 := Int.mul_tdiv_add_tmod m n
 have h2 : (m.tmod n).natAbs < n.natAbs := by
  rw [Int.natAbs_tmod]; exact Nat.mod_lt _ (by omega)
 rw [Int.mul_comm] at h1
 generalize m.tdiv n = q at h1
 generalize m.tmod n = r at h1 h2 ⊢
 split
 ·rename_i h
  exact (j0P (q := q - 1) (r := r + n) (by rw [Int.sub_mul]; omega) (by omega)).2
 ·rename_i h
  exact (j0P (q := q) (r := r) (by omega) (by omega)).2
theorem j1K {m n : Int} (hn : n ≠ 0) : (m - m.fmod n).tdiv n = m.fdiv n := by
 have h1 := Int.mul_fdiv_add_fmod m n
 have e : m - m.fmod n = n * m.fdiv n := by omega
 rw [e, Int.mul_tdiv_cancel_left _ hn]
theorem J1F {m n : Int} (hn : n ≠ 0) : (m.fmod n).natAbs < n.natAbs := by
 rw [X0D hn]
 have h2 : (m.tmod n).natAbs < n.natAbs := by
  rw [Int.natAbs_tmod]; exact Nat.mod_lt _ (by omega)
 split <;> omega
def LI (k : Nat) (m : Int) : Prop := m.natAbs < 10 ^ k
theorem LI.len {k : Nat} {m : Int} (h : LI k m) (hk : 0 < k) : (decDigits m.natAbs).length ≤ k := v0l h hk
theorem LI.of_len {k : Nat} {m : Int} (h : (decDigits m.natAbs).length ≤ k) : LI k m := by
 have hlt := w0W _ (j0L m.natAbs)
 rw [q0f] at hlt
 exact Nat.lt_of_lt_of_le hlt (Nat.pow_le_pow_right (by decide) h)
theorem LI.mono {k l : Nat} {m : Int} (h : LI k m) (hl : k ≤ l) : LI l m := Nat.lt_of_lt_of_le h (Nat.pow_le_pow_right (by decide) hl)
theorem LI.le {k : Nat} {m n : Int} (h : LI k m) (hl : n.natAbs ≤ m.natAbs) : LI k n := Nat.lt_of_le_of_lt hl h
theorem LI.neg {k : Nat} {m : Int} (h : LI k m) : LI k (-m) := h.le (by omega)
theorem LI.abs {k : Nat} {m : Int} (h : LI k m) : LI k ((m.natAbs : Nat) : Int) := h.le (by omega)
theorem LI.add {k : Nat} {m n : Int} (h : LI k m) (h' : LI k n) : LI (k + 1) (m + n) := by
 unfold LI at *
 rw [Nat.pow_succ]; omega
theorem LI.sub {k : Nat} {m n : Int} (h : LI k m) (h' : LI k n) : LI (k + 1) (m - n) := by
 unfold LI at *
 rw [Nat.pow_succ]; omega
theorem LI.mul {k l : Nat} {m n : Int} (h : LI k m) (h' : LI l n) : LI (k + l) (m * n) := by
 unfold LI at *
 rw [Nat.pow_add, Int.natAbs_mul]
 exact Nat.mul_lt_mul'' h h'
theorem LI.fdiv {k : Nat} {m n : Int} (h : LI k m) (hn : n ≠ 0) : LI (k + 1) (m.fdiv n) := by
 have h1 := Nat.div_le_self m.natAbs n.natAbs
 have h2 := j1J m n hn
 unfold LI at *
 rw [Nat.pow_succ]
 have hp : 0 < 10 ^ k := Nat.pow_pos (by decide)
 generalize m.natAbs / n.natAbs = q at h1 h2
 split at h2
 ·omega
 ·split at h2 <;> omega
theorem LI.small {k : Nat} {m : Int} (h : m.natAbs < 10) (hk : 0 < k) : LI k m := by
 unfold LI
 have : 10 ^ 1 ≤ 10 ^ k := Nat.pow_le_pow_right (by decide) hk
 omega
def szL : List UInt8 → List UInt8
 |[] => []
 |b :: r => if b = 45 then r else b :: r
structure IsNum (l : List UInt8) : Prop where
 ne : szL l ≠ []
 hd : (szL l).head? = some 48 → l = [48]
 dig : ∀ b ∈ szL l, isD b
theorem j1x {b : UInt8} (h : isD b) : b ≠ 45 := by
 rintro rfl; exact absurd h (by decide)
theorem z0L (u : Nat) : ∃ b r, decDigits u = b :: r ∧ isD b := by
 cases h : decDigits u with
 |nil => exact absurd h (w0l u)
 |cons b r => exact ⟨b, r, rfl, j0L u b (by rw [h]; simp)⟩
theorem Q1I (u : Nat) : szL (decDigits u) = decDigits u := by
 obtain ⟨b, r, h, hd⟩ := z0L u
 rw [h, szL, if_neg (j1x hd)]
theorem itoa_neg {m : Int} (h : m < 0) : itoa m = 45 :: decDigits m.natAbs := by unfold itoa; rw [if_pos h]
theorem j0E {m : Int} (h : ¬ m < 0) : itoa m = decDigits m.natAbs := by
 unfold itoa; rw [if_neg h]; congr 1; omega
theorem x0F (m : Int) : szL (itoa m) = decDigits m.natAbs := by
 by_cases h : m < 0
 ·rw [itoa_neg h, szL, if_pos rfl]
 ·rw [j0E h, Q1I]
theorem y0i : decDigits 0 = [48] := by rw [decDigits]; rfl
theorem j1w {u : Nat} (h : (decDigits u).head? = some 48) : u = 0 := by
 cases hd : decDigits u with
 |nil => exact absurd hd (w0l u)
 |cons b r =>
  rw [hd] at h
  simp at h
  subst h
  have := j1v u r hd
  subst this
  have hv := q0f u
  rw [hd] at hv
  simp [dv, dvA] at hv
  exact hv.symm
theorem x0z (m : Int) : IsNum (itoa m) := by
 refine ⟨by rw [x0F]; exact w0l _, fun h => ?_, by rw [x0F]; exact j0L _⟩
 rw [x0F] at h
 have := j1w h
 obtain rfl : m = 0 := by omega
 rw [j0E (by decide)]; exact y0i
theorem x0b (l : List UInt8) : IsNum l ↔ ∃ m : Int, l = itoa m := by
 constructor
 ·intro h
  have hc : Can (szL l) := ⟨h.ne, h.dig, fun r hr => by
   have := h.hd (by rw [hr]; rfl)
   subst this
   have e : szL [48] = [48] := rfl
   rw [e] at hr
   injection hr with _ hr
   exact hr.symm⟩
  obtain ⟨u, hu⟩ := J1d.1 hc
  cases l with
  |nil => exact absurd rfl h.ne
  |cons b r =>
   by_cases hb : b = 45
   ·subst hb
    have e : szL (45 :: r) = r := by rw [szL, if_pos rfl]
    rw [e] at hu
    have h0 : u ≠ 0 := by
     rintro rfl
     have := h.hd (by rw [e, hu, y0i]; rfl)
     injection this with h1 _
     exact absurd h1 (by decide)
    exact ⟨-(u : Int), by rw [itoa_neg (by omega), hu]; simp⟩
   ·have e : szL (b :: r) = b :: r := by rw [szL, if_neg hb]
    rw [e] at hu
    exact ⟨(u : Int), by rw [hu, v0d]⟩
 ·rintro ⟨m, rfl⟩; exact x0z m
open Classical in
noncomputable def chk (l : List UInt8) : Int := if IsNum l then (if 1024 < (szL l).length then 11 else 0) else 3
theorem x0P {l : List UInt8} (h : ¬ IsNum l) : chk l = 3 := if_neg h
theorem J0m {m : Int} (h : LI 1000 m) : chk (itoa m) = 0 := by
 unfold chk
 rw [if_pos (x0z m), x0F, if_neg]
 have := h.len (by decide); omega
theorem z0I {l : List UInt8} (h : chk l = 0) : ∃ m : Int, l = itoa m := by
 unfold chk at h
 split at h
 ·rename_i hn; exact (x0b l).1 hn
 ·exact absurd h (by decide)
theorem y0e {l : List UInt8} (hl : l.length ≤ 1000) : chk l = 0 ∨ chk l = 3 := by
 unfold chk
 split
 ·rw [if_neg]
  ·exact .inl rfl
  ·have : (szL l).length ≤ l.length := by
    cases l with
    |nil => simp [szL]
    |cons b r =>
     by_cases hb : b = 45
     ·rw [szL, if_pos hb]; simp
     ·rw [szL, if_neg hb]; exact Nat.le_refl _
   omega
 ·exact .inr rfl
def spI (l : List UInt8) : Option Nat := l.findIdx? (· == 47)
def spN (l : List UInt8) : List UInt8 := match spI l with | some i => l.take i | none => l
def spD (l : List UInt8) : List UInt8 := match spI l with | some i => l.drop (i + 1) | none => [49]
theorem k0n {l : List UInt8} (h : (47 : UInt8) ∉ l) : spI l = none := by
 unfold spI
 rw [List.findIdx?_eq_none_iff]
 intro x hx
 simp
 rintro rfl; exact h hx
theorem x1P {a b : List UInt8} (h : (47 : UInt8) ∉ a) : spI (a ++ 47 :: b) = some a.length := by
 unfold spI
 induction a with
 |nil => rw [List.nil_append, List.findIdx?_cons]; rfl
 |cons x a ih =>
  have hx : (x == 47) = false := by simp; rintro rfl; exact h (by simp)
  rw [List.cons_append, List.findIdx?_cons, hx, ih (fun q => h (by simp [q]))]
  simp
theorem k0m {l : List UInt8} {i : Nat} (h : spI l = some i) : l = l.take i ++ 47 :: l.drop (i + 1) ∧ (47 : UInt8) ∉ l.take i ∧ i < l.length := by
 unfold spI at h
 rw [List.findIdx?_eq_some_iff_getElem] at h
 obtain ⟨hi, h1, h2⟩ := h
 refine ⟨?_, fun hm => ?_, hi⟩
 ·conv => lhs; rw [← List.take_append_drop i l, List.drop_eq_getElem_cons hi]
  simp at h1
  rw [h1]
 ·obtain ⟨k, hk, e⟩ := List.getElem_of_mem hm
  have hk' : k < i := by simp at hk; omega
  have := h2 k hk'
  rw [List.getElem_take] at e
  simp [e] at this
def K0P (l : List UInt8) : Prop := ∃ q : Rat, l = rtx q
theorem Y0B (m : Int) : rtx (m : Rat) = itoa m := by
 unfold rtx
 rw [if_pos (by simp)]
 simp
theorem v1y (q : Rat) : spI (rtx q) = if q.den = 1 then none else some (itoa q.num).length := by
 unfold rtx
 split
 ·exact k0n (q1u _)
 ·exact x1P (q1u _)
theorem v1A (q : Rat) : spN (rtx q) = itoa q.num := by
 unfold spN
 rw [v1y]
 by_cases h : q.den = 1
 ·rw [if_pos h]; simp only [rtx, if_pos h]
 ·rw [if_neg h]; simp only [rtx, if_neg h]; simp
theorem v1x (q : Rat) : spD (rtx q) = itoa (q.den : Int) := by
 unfold spD
 rw [v1y, v0d]
 by_cases h : q.den = 1
 ·rw [if_pos h, h]; rw [decDigits]; rfl
 ·rw [if_neg h]; simp only [rtx, if_neg h]; simp
theorem W0X (m e : Int) : K0P (itoa m ++ 47 :: itoa e) ↔ 1 < e ∧ Int.gcd m e = 1 := by
 constructor
 ·rintro ⟨q, hq⟩
  unfold rtx at hq
  split at hq
  ·exact absurd (hq ▸ (by simp : (47 : UInt8) ∈ itoa m ++ 47 :: itoa e)) (q1u _)
  ·rename_i h1
   obtain ⟨e1, e2⟩ := v1B (q1u _) (q1u _) hq
   rw [← v0d] at e2
   have hm := w0H e1
   have he := w0H e2
   have := q.den_nz
   subst hm he
   exact ⟨by omega, by have := q.reduced; unfold Nat.Coprime at this; exact this⟩
 ·rintro ⟨h1, h2⟩
  refine ⟨⟨m, e.toNat, by omega, ?_⟩, ?_⟩
  ·unfold Nat.Coprime
   rw [show e.toNat = e.natAbs by omega]; exact h2
  ·unfold rtx
   have hne : ¬ (e.toNat = 1) := by omega
   rw [if_neg hne, ← v0d]
   show _ = itoa m ++ 47 :: itoa ((e.toNat : Nat) : Int)
   rw [Int.toNat_of_nonneg (by omega)]
theorem W0Y (m : Int) : K0P (itoa m) := ⟨m, (Y0B m).symm⟩
theorem w0G {l : List UInt8} (h : K0P l) : IsNum (spN l) ∧ IsNum (spD l) := by
 obtain ⟨q, rfl⟩ := h
 rw [v1A, v1x]
 exact ⟨x0z _, x0z _⟩
open Classical in
noncomputable def v0j (l : List UInt8) : Int := if K0P l then 0 else 3
theorem j0v (q : Rat) : v0j (rtx q) = 0 := if_pos ⟨q, rfl⟩
theorem v0W {l : List UInt8} (h : ¬ K0P l) : v0j l = 3 := if_neg h
def LR (k : Nat) (q : Rat) : Prop := LI k q.num ∧ LI k (q.den : Int)
theorem LR.mono {k l : Nat} {q : Rat} (h : LR k q) (hl : k ≤ l) : LR l q := ⟨h.1.mono hl, h.2.mono hl⟩
theorem v0I {k : Nat} {n d : Int} (hd : d ≠ 0) (hn : LI k n) (hdd : LI k d) : LR k (Rat.divInt n d) := by
 have hg : 0 < d.gcd n := Nat.pos_of_ne_zero fun h => hd (Int.gcd_eq_zero_iff.1 h).1
 constructor
 ·refine hn.le ?_
  rw [Rat.num_divInt]
  have h1 : ((d.gcd n : Nat) : Int) ∣ d.sign * n := Int.dvd_mul_of_dvd_right (Int.gcd_dvd_right ..)
  have h2 := Int.ediv_mul_cancel h1
  generalize d.sign * n / ((d.gcd n : Nat) : Int) = a at h2
  have h3 := congrArg Int.natAbs h2
  rw [Int.natAbs_mul, Int.natAbs_mul, Int.natAbs_natCast, Int.natAbs_sign_of_ne_zero hd, Nat.one_mul] at h3
  rw [← h3]
  exact Nat.le_mul_of_pos_right _ hg
 ·refine hdd.le ?_
  rw [Rat.den_divInt, if_neg hd, Int.natAbs_natCast]
  exact Nat.div_le_self ..
theorem sub_eq (q r : Rat) : q - r = Rat.divInt (q.num * r.den - r.num * q.den) (q.den * r.den) := by
 conv => lhs; rw [← Rat.num_divInt_den q, ← Rat.num_divInt_den r]
 rw [Rat.divInt_sub_divInt _ _ (by have := q.den_nz; omega) (by have := r.den_nz; omega)]
theorem add_eq (q r : Rat) : q + r = Rat.divInt (q.num * r.den + r.num * q.den) (q.den * r.den) := by
 conv => lhs; rw [← Rat.num_divInt_den q, ← Rat.num_divInt_den r]
 rw [Rat.divInt_add_divInt _ _ (by have := q.den_nz; omega) (by have := r.den_nz; omega)]
theorem mul_eq (q r : Rat) : q * r = Rat.divInt (q.num * r.num) (q.den * r.den) := by
 conv => lhs; rw [← Rat.num_divInt_den q, ← Rat.num_divInt_den r]
 rw [Rat.divInt_mul_divInt]
theorem div_eq (q r : Rat) : q / r = Rat.divInt (q.num * r.den) (q.den * r.num) := by
 conv => lhs; rw [Rat.div_def, ← Rat.num_divInt_den q, ← Rat.num_divInt_den r, Rat.inv_divInt]
 rw [Rat.divInt_mul_divInt]
theorem LR.sub {k : Nat} {q r : Rat} (h : LR k q) (h' : LR k r) : LR (k + k + 1) (q - r) := by
 rw [sub_eq]
 exact v0I (by have := q.den_nz; have := r.den_nz; simp; omega) ((h.1.mul h'.2).sub (h'.1.mul h.2)) ((h.2.mul h'.2).mono (by omega))
theorem LR.add {k : Nat} {q r : Rat} (h : LR k q) (h' : LR k r) : LR (k + k + 1) (q + r) := by
 rw [add_eq]
 exact v0I (by have := q.den_nz; have := r.den_nz; simp; omega) ((h.1.mul h'.2).add (h'.1.mul h.2)) ((h.2.mul h'.2).mono (by omega))
theorem LR.int {k : Nat} {m : Int} (h : LI k m) (hk : 0 < k) : LR k (m : Rat) := by
 constructor
 ·simpa using h
 ·simp; exact .small (by decide) hk
theorem LR.neg {k : Nat} {q : Rat} (h : LR k q) : LR k (-q) := ⟨by rw [Rat.neg_num]; exact h.1.neg, by rw [Rat.neg_den]; exact h.2⟩
def rsg (q : Rat) : Int := if q.num = 0 then 0 else if q.num < 0 then -1 else 1
def sgn (m : Int) : Int := if m = 0 then 0 else if m < 0 then -1 else 1
theorem K0u (n d : Int) (hd : 0 < d) : rsg (Rat.divInt n d) = sgn n := by
 unfold rsg sgn
 have hg : 0 < d.gcd n := Nat.pos_of_ne_zero fun h => by have := (Int.gcd_eq_zero_iff.1 h).1; omega
 have h1 : ((d.gcd n : Nat) : Int) ∣ n := Int.gcd_dvd_right ..
 have h2 := Int.ediv_mul_cancel h1
 have hnum : (Rat.divInt n d).num = n / ((d.gcd n : Nat) : Int) := by
  rw [Rat.num_divInt, Int.sign_eq_one_of_pos hd, Int.one_mul]
 rw [hnum]
 generalize n / ((d.gcd n : Nat) : Int) = a at h2
 generalize hG : ((d.gcd n : Nat) : Int) = g at h2
 have hg' : 0 < g := by omega
 rcases Int.lt_trichotomy a 0 with h | h | h
 ·have : n < 0 := by rw [← h2]; exact Int.mul_neg_of_neg_of_pos h hg'
  rw [if_neg (by omega), if_pos h, if_neg (by omega), if_pos this]
 ·subst h
  have : n = 0 := by rw [← h2]; simp
  rw [if_pos rfl, if_pos this]
 ·have : 0 < n := by rw [← h2]; exact Int.mul_pos h hg'
  rw [if_neg (by omega), if_neg (by omega), if_neg (by omega), if_neg (by omega)]
theorem v1s (q r : Rat) : sgn (q.num * r.den - r.num * q.den) = rsg (q - r) := by
 rw [sub_eq, K0u]
 have := q.den_nz; have := r.den_nz
 exact Int.mul_pos (by omega) (by omega)
theorem v1g {q r : Rat} : rsg (q - r) < 0 ↔ q < r := by
 have h : q < r ↔ q - r < 0 := by constructor <;> intro h <;> grind
 rw [h]
 unfold rsg
 have hn : (q - r < 0) ↔ (q - r).num < 0 := by rw [← Rat.not_le, ← Rat.num_nonneg]; omega
 rw [hn]
 split
 ·omega
 ·split <;> omega
theorem X0t {q r : Rat} : rsg (q - r) = 0 ↔ q = r := by
 unfold rsg
 have h0 : (q - r).num = 0 ↔ q = r := by
  rw [Rat.num_eq_zero]; grind
 rw [← h0]
 split
 ·simp_all
 ·split <;> simp_all
end Go.Na
namespace Go.Proofs.YtfggdokihnopeaaGreatDoor
open Go Go.Vc Go.RowKit Go.Na Go.Lib
set_option maxHeartbeats 4000000
abbrev vi (n : Int) : AV := .val (.int .i64 n)
abbrev vb (b : Bool) : AV := .val (.bool b)
abbrev v8 (n : Int) : AV := .val (.int .u8 n)
abbrev vI (n : Int) : AV := vS (itoa n)
theorem b45 (b : UInt8) : ((b.toNat : Int) = 45) ↔ b = 45 := y1g b 45
theorem z1g (l : List UInt8) : CtrA Tryz.prog 163 [vS l] (vS (szL l)) := by
 cases l with
 |nil =>
  refine j0s _ Tryz.func163 rfl rfl Tryz.ntmps163 rfl fun w Z => ?_
  refine zU ?_
  refine wk ?_
  exact zV
 |cons b r =>
  refine j0s _ Tryz.func163 rfl rfl Tryz.ntmps163 rfl fun w Z => ?_
  refine zU ?_
  refine wk ?_
  (refine j0a rfl ?_ ?_ <;> intro hb <;> (try simp only [zA, zB, zG, zC, zD, zN] at hb) <;> (try exact zQ))
  ·refine wk ?_
   refine j0j (x0S 1 rfl rfl rfl (by simp)) rfl ?_
   refine wk ?_
   exact j0c rfl (.tmp rfl) (by rw [szL, if_pos ((b45 b).1 hb)]; rfl)
  ·refine wk ?_
   exact j0c rfl (.tmp rfl) (by rw [szL, if_neg (fun e => hb ((b45 b).2 e))])
theorem j1d (b : UInt8) (r : List UInt8) : CtrA Tryz.prog 145 [vS (b :: r)] (vb (decide (b = 45))) := by
 refine j0s _ Tryz.func145 rfl rfl Tryz.ntmps145 rfl fun w Z => ?_
 refine zU ?_
 refine wk ?_
 exact j0c rfl (.tmp rfl) (congrArg vb (by
  by_cases h : b = 45
  ·subst h; rfl
  ·have h1 : ¬ ((b.toNat : Int) = 45) := fun e => h ((b45 b).1 e)
   simp [h, h1]))
theorem w0e (m : Int) : CtrA Tryz.prog 163 [vI m] (vS (decDigits m.natAbs)) := by
 have := z1g (itoa m)
 rwa [x0F] at this
theorem w0w (m : Int) : CtrA Tryz.prog 145 [vI m] (vb (decide (m < 0))) := by
 by_cases h : m < 0
 ·rw [vI, itoa_neg h, decide_eq_true h]; exact j1d 45 _
 ·obtain ⟨b, r, e, hd⟩ := z0L m.natAbs
  rw [vI, j0E h, e, decide_eq_false h]
  have := j1d b r
  rwa [decide_eq_false (j1x hd)] at this
theorem Y0W (l : List UInt8) (hl : l ≠ []) (hlen : l.length ≤ 1000000) : CtrA Tryz.prog 271 [vS l] (vS (bare l)) := by
 refine j0s _ Tryz.func271 rfl rfl Tryz.ntmps271 rfl fun w Z => ?_
 refine zU ?_
 refine wk ?_
 refine j0g (γ := List UInt8) (fun s => [(0, .av (vS s)), (2, .av (vS []))]) (fun _ => []) (fun s => bare s = bare l ∧ s ≠ [] ∧ s.length ≤ l.length) (fun s => s.length) l ⟨rfl, hl, Nat.le_refl _⟩ (ent zS trivial) ?_
 rintro s ⟨h1, h2, h3⟩
 obtain ⟨b, r, rfl⟩ := List.exists_cons_of_ne_nil h2
 refine wk ?_
 (first | refine j0f rfl rfl ?_ ?_ | refine j0e rfl rfl ?_ ?_) <;> intro hb <;> (try simp only [zA, zB, zG, zC, zD, zN] at hb) <;> (try exact zQ)
 ·refine wk ?_
  (refine j0a rfl ?_ ?_ <;> intro hb <;> (try simp only [zA, zB, zG, zC, zD, zN] at hb) <;> (try exact zQ))
  ·refine wk ?_
   refine j0j (x0S 1 rfl rfl rfl (by simp)) rfl ?_
   refine wk ?_
   have e : b = 48 := (y1g b 48).1 hb
   subst e
   cases r with
   |nil => simp at *
   |cons c r =>
    exact j0b (c :: r) ⟨(j1c c r).symm.trans h1, by simp, by simp at h3 ⊢; omega⟩ (by simp) (ent zS trivial)
  ·refine wk ?_
   exact j0c rfl (.tmp rfl) (by rw [← h1, W0B]; rintro ⟨_, e⟩; injection e with e; exact hb ((y1g b 48).2 e))
 ·refine wk ?_
  exact j0c rfl (.tmp rfl) (by rw [← h1, W0B]; rintro ⟨e, _⟩; simp at *; omega)
theorem zi5 : ∃ inf z, Tryz.prog.info? 5 = some inf ∧ inf.zero = some z ∧ inf.size = 1 ∧ inf.bytes = 1 ∧ z.cells = [Value.int .u8 0].toArray ∧ 0 < 1 :=
 ⟨(Tryz.prog.info? 5).getD default, .int .u8 0, by kernel_rfl, by kernel_rfl, by kernel_rfl, by kernel_rfl, rfl, by decide⟩
theorem x1i (n : Nat) (b : UInt8) (i : Nat) (h : i < n) : (List.replicate n b).getD i 0 = b := by simp [List.getD, h]
theorem k0B (l : List UInt8) (n : Nat) (hl : 0 < l.length) (hn : l.length ≤ n) (hn2 : n ≤ 1000000) : CtrA Tryz.prog 312 [vS l, vi n] (vS (z0C l n)) := by
 refine j0s _ Tryz.func312 rfl rfl Tryz.ntmps312 rfl fun w Z => ?_
 refine zU ?_
 refine wk ?_
 refine j0A (Z0r (n := n) (sz := 1) 50 (zs := [.int .u8 0]) rfl zi5 rfl rfl rfl rfl (by simp only [maxLen]; omega) (by omega) rfl) rfl ?_
 refine wk ?_
 refine j0g (γ := Nat) (fun k => [(0, .av (vS l)), (1, .av (vi n)), (5, .osl 50), (6, .av (vi k))]) (fun k => [(50, .row 5 1 n (fun i _ => if i < k then v8 48 else v8 0))]) (fun k => k ≤ n) (fun k => n - k) 0 (Nat.zero_le _) (ent zS ⟨⟨_, rfl, .row rfl (fun i hi j hj => by obtain rfl : j = 0 := zO; rfl)⟩, trivial⟩) ?_
 intro k hk
 refine wk ?_
 (refine j0a rfl ?_ ?_ <;> intro hb <;> (try simp only [zA, zB, zG, zC, zD, zN] at hb) <;> (try exact zQ))
 ·refine wk ?_
  exact j0b (k + 1) zO zO (ent zS ⟨⟨_, rfl, .row rfl (fun i hi j hj => by
   simp only [w0v, List.length_singleton]
   by_cases h1 : i = k
   ·subst h1
    have : j = 0 := by omega
    subst this
    simp
   ·rw [if_neg (by omega)]
    by_cases h2 : i < k
    ·rw [if_pos h2, if_pos (by omega)]
    ·rw [if_neg h2, if_neg (by omega)])⟩, trivial⟩)
 ·obtain rfl : k = n := by omega
  refine wk ?_
  refine j0j (J0z rfl rfl rfl (i := ((k : Int) - (l.length : Int))) (lo := k - l.length) zO zO zO) rfl ?_
  refine wk ?_
  refine j0A ((k0V rfl rfl rfl zO zO zO).v) rfl ?_
  refine wk ?_
  refine j0j (J0E (l := z0C l k) rfl rfl (W0r hn).symm zO (fun i hi => by
   unfold bf z0C
   by_cases h1 : k - l.length ≤ i
   ·rw [if_pos h1]
    congr 3
    rw [List.getD, List.getD, List.getElem?_append_right (by simp; omega)]
    simp
   ·rw [if_neg h1, if_pos (by omega)]
    rw [List.getD, List.getElem?_append_left (by simp; omega)]
    simp [show i < k - l.length by omega])) rfl ?_
  refine wk ?_
  exact zV
theorem W1B (a b : List UInt8) : CtrA Tryz.prog 273 [vS a, vS b] (vb (decide (a.length < b.length) || (decide (a.length = b.length) && Op.bytesLess a b))) := by
 refine j0s _ Tryz.func273 rfl rfl Tryz.ntmps273 rfl fun w Z => ?_
 refine zU ?_
 refine wk ?_
 (first | refine j0f rfl rfl ?_ ?_ | refine j0e rfl rfl ?_ ?_) <;> intro hb <;> (try simp only [zA, zB, zG, zC, zD, zN] at hb) <;> (try exact zQ)
 ·refine wk ?_
  exact j0c rfl (.tmp rfl) (congrArg vb (by simp; omega))
 ·refine wk ?_
  (first | refine j0f rfl rfl ?_ ?_ | refine j0e rfl rfl ?_ ?_) <;> intro hb <;> (try simp only [zA, zB, zG, zC, zD, zN] at hb) <;> (try exact zQ)
  ·refine wk ?_
   exact j0c rfl (.tmp rfl) (congrArg vb (by
    have e1 : ¬ a.length < b.length := by omega
    have e2 : a.length = b.length := by omega
    simp [e1, e2]))
  ·refine wk ?_
   exact j0c rfl (.tmp rfl) (congrArg vb (by
    have e1 : ¬ a.length < b.length := by omega
    have e2 : ¬ a.length = b.length := by omega
    simp [e1, e2]))
theorem y1S (u v : Nat) : CtrA Tryz.prog 273 [vS (decDigits u), vS (decDigits v)] (vb (decide (u < v))) := by
 have h := W1B (decDigits u) (decDigits v)
 have e : (decide ((decDigits u).length < (decDigits v).length) || (decide ((decDigits u).length = (decDigits v).length) && Op.bytesLess (decDigits u) (decDigits v))) = decide (u < v) := by
  rw [Bool.eq_iff_iff]
  simp only [Bool.or_eq_true, Bool.and_eq_true, decide_eq_true_eq]
  exact w1R u v
 rwa [e] at h
theorem w1P (x y : UInt8) (c : Int) (add : Bool) (hx : isD x) (hy : isD y) (hc : 0 ≤ c ∧ c ≤ 1) :
  CtrA Tryz.prog 313 [v8 x.toNat, v8 y.toNat, vi c, vb add] (j0x [v8 (48 + K0K (W0u ((x.toNat : Int) - 48) ((y.toNat : Int) - 48) c add)), vi (K0J (W0u ((x.toNat : Int) - 48) ((y.toNat : Int) - 48) c add))]) := by
 have h1 := dgI hx
 have h2 := dgI hy
 generalize (x.toNat : Int) = m at h1 ⊢
 generalize (y.toNat : Int) = n at h2 ⊢
 cases add with
 |true =>
  refine j0s _ Tryz.func313 rfl rfl Tryz.ntmps313 rfl fun w Z => ?_
  refine zU ?_
  refine wk ?_
  (refine j0a rfl ?_ ?_ <;> intro hb <;> (try simp only [zA, zB, zG, zC, zD, zN] at hb) <;> (try exact zQ))
  ·refine wk ?_
   exact j0t (rvs := [_, _]) (τs := [_, _]) rfl rfl ⟨.tmp rfl, .tmp rfl, trivial⟩ (by simp only [W0u, K0K, K0J, if_true]; rw [if_pos (by omega), if_pos (by omega)]; congr 4; omega)
  ·refine wk ?_
   (refine j0a rfl ?_ ?_ <;> intro hb <;> (try simp only [zA, zB, zG, zC, zD, zN] at hb) <;> (try exact zQ))
   refine wk ?_
   exact j0t (rvs := [_, _]) (τs := [_, _]) rfl rfl ⟨.tmp rfl, .tmp rfl, trivial⟩ (by simp only [W0u, K0K, K0J, if_true]; rw [if_neg (by omega), if_neg (by omega), if_neg (by omega), if_neg (by omega)])
 |false =>
  refine j0s _ Tryz.func313 rfl rfl Tryz.ntmps313 rfl fun w Z => ?_
  refine zU ?_
  refine wk ?_
  (refine j0a rfl ?_ ?_ <;> intro hb <;> (try simp only [zA, zB, zG, zC, zD, zN] at hb) <;> (try exact zQ))
  refine wk ?_
  (refine j0a rfl ?_ ?_ <;> intro hb <;> (try simp only [zA, zB, zG, zC, zD, zN] at hb) <;> (try exact zQ))
  ·refine wk ?_
   exact j0t (rvs := [_, _]) (τs := [_, _]) rfl rfl ⟨.tmp rfl, .tmp rfl, trivial⟩ (by simp only [W0u, K0K, K0J, Bool.false_eq_true, if_false]; rw [if_neg (by omega), if_pos (by omega), if_neg (by omega), if_pos (by omega)]; congr 4; omega)
  ·refine wk ?_
   exact j0t (rvs := [_, _]) (τs := [_, _]) rfl rfl ⟨.tmp rfl, .tmp rfl, trivial⟩ (by simp only [W0u, K0K, K0J, Bool.false_eq_true, if_false]; rw [if_neg (by omega), if_neg (by omega), if_neg (by omega), if_neg (by omega)])
theorem v0H (n : Nat) : 0 < (decDigits n).length := List.length_pos_iff.2 (w0l n)
theorem y1t {l : List UInt8} {j : Nat} {b : UInt8} {x : Int} (hx : x = b.toNat) (hj : j < l.length) (i q : Nat) (hq : q < 1) : w0v (bf l) j 0 [v8 x] i q = bf (l.set j b) i q := by
 obtain rfl : q = 0 := zO
 unfold w0v bf
 by_cases h : i = j
 ·subst h
  simp [List.getD, hj, hx]
 ·rw [if_neg (by simp [h])]
  simp [List.getD, List.getElem?_set_ne (Ne.symm h)]
theorem j1f (n i j : Nat) (hi : i < n) (hj : j < 1) : AV.val ([Value.int .u8 0].getD j undef) = bf (List.replicate n 0) i j := by
 obtain rfl : j = 0 := zO
 unfold bf
 rw [x1i n 0 i hi]
 rfl
theorem V0M (u v : Nat) (add : Bool) (hu : (decDigits u).length ≤ 100000) (hv : (decDigits v).length ≤ 100000) (hle : add = false → v ≤ u) :
  CtrA Tryz.prog 272 [vS (decDigits u), vS (decDigits v), vb add] (vS (decDigits (if add then u + v else u - v))) := by
 have pu := v0H u
 have pv := v0H v
 generalize hN : max (decDigits u).length (decDigits v).length + 1 = N
 have w1 := k0B (decDigits u) N pu zO zO
 have w2 := k0B (decDigits v) N pv zO zO
 have hla := W0r (l := decDigits u) (n := N) zO
 have hlb := W0r (l := decDigits v) (n := N) zO
 have da := k0C (j0L u) N
 have db := k0C (j0L v) N
 have va : dv (z0C (decDigits u) N) = u := by rw [j1E, q0f]
 have vv : dv (z0C (decDigits v) N) = v := by rw [j1E, q0f]
 have lu := w0W _ (j0L u)
 have lv := w0W _ (j0L v)
 rw [q0f] at lu lv
 have hsum : u + v < 10 ^ N := by
  have h1 : 10 ^ (decDigits u).length ≤ 10 ^ (N - 1) := Nat.pow_le_pow_right zE zO
  have h2 : 10 ^ (decDigits v).length ≤ 10 ^ (N - 1) := Nat.pow_le_pow_right zE zO
  rw [show N = (N - 1) + 1 by omega, Nat.pow_succ]; omega
 generalize z0C (decDigits u) N = A at *
 generalize z0C (decDigits v) N = B at *
 have hmax : ∀ a b : Int, (if a < b then b else a) = max a b := fun a b => max_eq a b
 refine j0s _ Tryz.func272 rfl rfl Tryz.ntmps272 rfl fun w Z => ?_
 refine zU ?_
 refine wk ?_
 rw [show ((if ((decDigits u).length : Int) < ((decDigits v).length : Int) then ((decDigits v).length : Int) else ((decDigits u).length : Int)) + 1) = (N : Int) from (by split <;> omega)]
 refine wk ?_
 refine j0A (Z0r (n := N) (sz := 1) 50 (zs := [.int .u8 0]) rfl zi5 rfl rfl rfl rfl (by simp only [maxLen]; omega) (by omega) rfl) rfl ?_
 refine wk ?_
 refine j0g (γ := Nat × List UInt8 × Int) (fun q => [(0, .av (vS A)), (1, .av (vS B)), (2, .av (vb add)), (7, .av (vi N)), (8, .osl 50), (9, .av (vi q.2.2)), (10, .av (vi ((q.1 : Int) - 1)))]) (fun q => [(50, .row 5 1 N (bf q.2.1))]) (fun q => PInv add A B q.2.1 q.1 q.2.2) (fun q => q.1) (N, List.replicate N 0, 0) (hla ▸ PInv.zero (by simp) (hlb.trans hla.symm)) (ent zS ⟨⟨_, rfl, .row rfl (fun i hi j hj => j1f N i j hi hj)⟩, trivial⟩) ?_
 rintro ⟨k, l, c⟩ hinv
 dsimp only at hinv ⊢
 have hk := hinv.le
 have hll := hinv.len
 refine wk ?_
 (refine j0a rfl ?_ ?_ <;> intro hb <;> (try simp only [zA, zB, zG, zC, zD, zN] at hb) <;> (try exact zQ))
 ·obtain ⟨j, rfl⟩ : ∃ j, k = j + 1 := ⟨k - 1, by omega⟩
  have hja : j < A.length := by omega
  have hjb : j < B.length := by omega
  have hx : A[j]? = some A[j] := List.getElem?_eq_getElem hja
  have hy : B[j]? = some B[j] := List.getElem?_eq_getElem hjb
  generalize A[j] = x at hx
  generalize B[j] = y at hy
  have dx := da x (List.mem_of_getElem? hx)
  have dy := db y (List.mem_of_getElem? hy)
  have hst := hinv.step da db (hlb.trans hla.symm) hx hy
  have hcol := w1P x y c add dx dy hinv.c01
  have hd := (y1z (add := add) (dgI dx) (dgI dy) hinv.c01).1
  generalize K0K (W0u ((x.toNat : Int) - 48) ((y.toNat : Int) - 48) c add) = D at hst hcol hd
  generalize K0J (W0u ((x.toNat : Int) - 48) ((y.toNat : Int) - 48) c add) = C at hst hcol
  refine wk ?_
  refine q0H (v0c rfl rfl zO hx) rfl ?_
  refine wk ?_
  refine q0H (v0c rfl rfl zO hy) rfl ?_
  refine wk ?_
  have e : (((j + 1 : Nat) : Int) - 1).toNat = j := by omega
  rw [e]
  exact j0b (g := (j + 1, l, c)) (j, l.set j (byt D), C) hst (by show j < j + 1; omega) (ent ⟨.refl _, .refl _, .refl _, .refl _, .refl _, .refl _, .int (by dsimp only; omega), trivial⟩ ⟨⟨_, rfl, .row rfl (fun i hi q hq => y1t (w0R hd).symm (by omega) i q hq)⟩, trivial⟩)
 ·obtain rfl : k = 0 := by omega
  have hne : l ≠ [] := fun e => by rw [e] at hll; simp at hll; omega
  have hb0 := Y0W l hne zO
  have he : bare l = decDigits (if add then u + v else u - v) := by
   cases add with
   |true => rw [if_pos rfl, hinv.sum hne (by rw [va, vv, hla]; exact hsum), va, vv]
   |false => rw [if_neg (by simp), hinv.dif hne (by rw [va, vv]; exact hle rfl) da, va, vv]
  rw [he] at hb0
  refine wk ?_
  refine j0j (J0E (l := l) rfl rfl zO zO (fun i hi => rfl)) rfl ?_
  refine wk ?_
  exact zV
theorem zi3 : ∃ inf z, Tryz.prog.info? 3 = some inf ∧ inf.zero = some z ∧ inf.size = 1 ∧ inf.bytes = 8 ∧ z.cells = [Value.int .i64 0].toArray ∧ 0 < 1 :=
 ⟨(Tryz.prog.info? 3).getD default, .int .i64 0, by kernel_rfl, by kernel_rfl, by kernel_rfl, by kernel_rfl, rfl, by decide⟩
def nf (l : List Int) : Nat → Nat → AV := fun i _ => vi (l.getD i 0)
theorem W1D {l : List Int} {j : Nat} {x : Int} (hj : j < l.length) (i q : Nat) (hq : q < 1) : w0v (nf l) j 0 [vi x] i q = nf (l.set j x) i q := by
 obtain rfl : q = 0 := zO
 unfold w0v nf
 by_cases h : i = j
 ·subst h
  simp [List.getD, hj]
 ·rw [if_neg (by simp [h])]
  simp [List.getD, List.getElem?_set_ne (Ne.symm h)]
theorem Q1b (n i j : Nat) (hi : i < n) (hj : j < 1) : AV.val ([Value.int .i64 0].getD j undef) = nf (List.replicate n 0) i j := by
 obtain rfl : j = 0 := zO
 unfold nf
 have : (List.replicate n (0 : Int)).getD i 0 = 0 := by simp [List.getD, hi]
 rw [this]
 rfl
theorem q1L (u v : Nat) (hu : (decDigits u).length ≤ 10000) (hv : (decDigits v).length ≤ 10000) : CtrA Tryz.prog 208 [vS (decDigits u), vS (decDigits v)] (vS (decDigits (u * v))) := by
 have pu := v0H u
 have pv := v0H v
 have va := q0f u
 have vv := q0f v
 have da := j0L u
 have db := j0L v
 have lu := w0W _ da
 have lv := w0W _ db
 have hlt : u * v < 10 ^ ((decDigits u).length + (decDigits v).length) := by
  rw [Nat.pow_add]; rw [va] at lu; rw [vv] at lv
  exact Nat.mul_lt_mul'' lu lv
 generalize decDigits u = A at *
 generalize decDigits v = B at *
 generalize hN : A.length + B.length = N at *
 refine j0s _ Tryz.func208 rfl rfl Tryz.ntmps208 rfl fun w Z => ?_
 refine zU ?_
 refine wk ?_
 refine j0A (Z0r (n := N) (sz := 1) 50 (zs := [.int .i64 0]) rfl zi3 rfl rfl (by omega) (by omega) (by simp only [maxLen]; omega) (by omega) rfl) rfl ?_
 refine wk ?_
 refine j0g (γ := Nat × List Int) (fun q => [(0, .av (vS A)), (1, .av (vS B)), (5, .osl 50), (6, .av (vi q.1))]) (fun q => [(50, .row 3 1 N (nf q.2))]) (fun q => MInv A B q.2 q.1 0 ∧ q.1 ≤ A.length) (fun q => A.length - q.1) (0, List.replicate (A.length + B.length) 0) ⟨MInv.zero A B, Nat.zero_le _⟩ (ent zS ⟨⟨_, rfl, .row rfl (fun i hi j hj => by rw [hN]; exact Q1b N i j hi hj)⟩, trivial⟩) ?_
 rintro ⟨i, l⟩ ⟨h1, h2⟩
 dsimp only at h1 h2 ⊢
 refine wk ?_
 (refine j0a rfl ?_ ?_ <;> intro hb <;> (try simp only [zA, zB, zG, zC, zD, zN] at hb) <;> (try exact zQ))
 ·refine wk ?_
  refine j0g (γ := Nat × List Int) (fun q => [(0, .av (vS A)), (1, .av (vS B)), (5, .osl 50), (6, .av (vi i)), (7, .av (vi q.1))]) (fun q => [(50, .row 3 1 N (nf q.2))]) (fun q => MInv A B q.2 i q.1 ∧ q.1 ≤ B.length) (fun q => B.length - q.1) (0, l) ⟨h1, Nat.zero_le _⟩ (ent zS zT) ?_
  rintro ⟨k, m⟩ ⟨g1, g2⟩
  dsimp only at g1 g2 ⊢
  refine wk ?_
  (refine j0a rfl ?_ ?_ <;> intro hb <;> (try simp only [zA, zB, zG, zC, zD, zN] at hb) <;> (try exact zQ))
  ·have hx : A[i]? = some A[i] := List.getElem?_eq_getElem zO
   have hy : B[k]? = some B[k] := List.getElem?_eq_getElem zO
   have hml := g1.len
   have hc : m[i + k + 1]? = some m[i + k + 1] := List.getElem?_eq_getElem zO
   have hst := g1.step da db hx hy hc
   have hbd := g1.bd _ (List.getElem_mem (by omega : i + k + 1 < m.length))
   have dx := dgI (da _ (List.mem_of_getElem? hx))
   have dy := dgI (db _ (List.mem_of_getElem? hy))
   generalize A[i] = x at *
   generalize B[k] = y at *
   have hmul : 0 ≤ ((x.toNat : Int) - 48) * ((y.toNat : Int) - 48) ∧ ((x.toNat : Int) - 48) * ((y.toNat : Int) - 48) ≤ 81 := by
    refine ⟨Int.mul_nonneg dx.1 dy.1, ?_⟩
    have := Int.mul_le_mul_of_nonneg_right (c := (y.toNat : Int) - 48) dx.2 dy.1
    omega
   have hik : i * B.length + k ≤ 100010000 := by
    have : i * B.length ≤ 10000 * 10000 := Nat.mul_le_mul zO hv
    omega
   have e : ((i : Int) + (k : Int) + 1).toNat = i + k + 1 := by omega
   have hg : m.getD (i + k + 1) 0 = m[i + k + 1] := by simp [List.getD, hc]
   have hg' : m.getD (((i : Int) + (k : Int) + 1).toNat) 0 = m[i + k + 1] := by rw [e, hg]
   generalize m[i + k + 1] = c at *
   refine wk ?_
   refine q0H (v0c rfl rfl rfl hx) rfl ?_
   refine wk ?_
   refine q0H (v0c rfl rfl rfl hy) rfl ?_
   refine wk ?_
   rw [e, hg]
   exact j0b (g := (k, m)) (k + 1, m.set (i + k + 1) (c + ((x.toNat : Int) - 48) * ((y.toNat : Int) - 48))) ⟨hst, by show k + 1 ≤ B.length; omega⟩ (by show B.length - (k + 1) < B.length - k; omega) (ent ⟨.refl _, .refl _, .refl _, .refl _, .int (by dsimp only; omega), trivial⟩ ⟨⟨_, rfl, .row rfl (fun i' hi q hq => W1D (by omega) i' q hq)⟩, trivial⟩)
  ·obtain rfl : k = B.length := by omega
   refine wk ?_
   exact j0b (g := (i, l)) (i + 1, m) ⟨g1.row (by omega), by show i + 1 ≤ A.length; omega⟩ (by show A.length - (i + 1) < A.length - i; omega) (ent ⟨.refl _, .refl _, .refl _, .int (by dsimp only; omega), trivial⟩ zT)
 ·obtain rfl : i = A.length := by omega
  have hll := h1.len
  have hall := h1.all
  have hbd : ∀ x ∈ l, 0 ≤ x ∧ x ≤ 10000000000 := fun x hx => by
   have := h1.bd x hx
   have h3 : A.length * B.length ≤ 10000 * 10000 := Nat.mul_le_mul hu hv
   omega
  rw [va, vv] at hall
  refine wk ?_
  refine j0A (Z0r (n := N) (sz := 1) 51 (zs := [.int .u8 0]) rfl zi5 rfl rfl rfl rfl (by simp only [maxLen]; omega) (by omega) rfl) rfl ?_
  refine wk ?_
  refine j0g (γ := Nat × List UInt8 × Int) (fun q => [(5, .osl 50), (8, .osl 51), (9, .av (vi q.2.2)), (10, .av (vi ((q.1 : Int) - 1)))]) (fun q => [(50, .row 3 1 N (nf l)), (51, .row 5 1 N (bf q.2.1))]) (fun q => CInv l q.2.1 q.1 q.2.2 10000000000) (fun q => q.1) (N, List.replicate N 0, 0) ((hll.trans hN) ▸ CInv.zero (by simp) (by decide)) (ent zS ⟨⟨_, rfl, .refl _⟩, ⟨_, rfl, .row rfl (fun i hi j hj => j1f N i j hi hj)⟩, trivial⟩) ?_
  rintro ⟨k, o, c⟩ hinv
  dsimp only at hinv ⊢
  have hk := hinv.le
  have hol := hinv.len
  have hc0 := hinv.c0
  refine wk ?_
  (refine j0a rfl ?_ ?_ <;> intro hb <;> (try simp only [zA, zB, zG, zC, zD, zN] at hb) <;> (try exact zQ))
  ·obtain ⟨j, rfl⟩ : ∃ j, k = j + 1 := ⟨k - 1, by omega⟩
   have hx : l[j]? = some l[j] := List.getElem?_eq_getElem zO
   have hxb := hbd _ (List.mem_of_getElem? hx)
   have hst := hinv.step hx hxb
   have e : (((j + 1 : Nat) : Int) - 1).toNat = j := by omega
   have hg : l.getD j 0 = l[j] := by simp [List.getD, hx]
   have hg' : l.getD ((((j + 1 : Nat) : Int) - 1).toNat) 0 = l[j] := by rw [e, hg]
   generalize l[j] = x at *
   refine wk ?_
   rw [e, hg]
   exact j0b (g := (j + 1, o, c)) (j, o.set j (byt ((c + x) % 10)), (c + x) / 10) hst (by show j < j + 1; omega) (ent ⟨.refl _, .refl _, .refl _, .int (by dsimp only; omega), trivial⟩ ⟨⟨_, rfl, .refl _⟩, ⟨_, rfl, .row rfl (fun i hi q hq => y1t (w0R (by omega)).symm (by omega) i q hq)⟩, trivial⟩)
  ·obtain rfl : k = 0 := by omega
   have hne : o ≠ [] := fun e => by rw [e] at hol; simp at hol; omega
   have hb0 := Y0W o hne zO
   rw [hinv.all hne (n := u * v) (by rw [hall]; simp) (by rw [hll, hN]; exact hlt)] at hb0
   refine wk ?_
   refine j0j (J0E (l := o) rfl rfl zO zO (fun i hi => rfl)) rfl ?_
   refine wk ?_
   exact zV
end Go.Proofs.YtfggdokihnopeaaGreatDoor
section
namespace Go.Proofs.YtfggdokihnopeaaGreatDoor
open Go Go.Vc Go.RowKit Go.Na Go.Lib
set_option maxHeartbeats 4000000
theorem X1C (x : Int) (w : World) : (Instr.buildSlice 154 1 #[(0, .int .u8 x)]).run Tryz.prog w = .ok (.slice (some ⟨w.heap.size, 0, none⟩) 1 1) (w.alloc (.cells #[.int .u8 x] 5)) := by kernel_rfl
section
variable {E : Env} {T : Tab} {O : Go.Vc.Own} {d : Option Nat} {ty : TypeId} {pos : String} {af : Array Edge} {g : Option (Nat × Bool)}
theorem Z0z (b : UInt8) {x : Operand} {n : Int} (hx : T.ev x = .av (v8 n)) (hn : n = b.toNat) : GV Tryz.prog E ⟨d, .buildSlice 154 1 #[(0, x)], ty, pos, af, g⟩ T O (.av (.sl 1 1 (bf [b]))) [] [] := by
 subst hn
 exact j0S (is := [0]) (xs := [x]) (vs := [.int .u8 b.toNat]) (us := [.int .u8 b.toNat]) (X1C _) rfl (by simp only [List.map_cons, List.map_nil, hx]) rfl (fun i hi j hj => by
  obtain rfl : i = 0 := zO
  obtain rfl : j = 0 := zO
  exact ⟨_, rfl, rfl⟩)
end
theorem x1M (u : Nat) (neg : Bool) (hu : (decDigits u).length ≤ 1000000) : CtrA Tryz.prog 162 [vS (decDigits u), vb neg] (vI (if neg then -(u : Int) else u)) := by
 cases neg with
 |false =>
  refine j0s _ Tryz.func162 rfl rfl Tryz.ntmps162 rfl fun w Z => ?_
  refine zU ?_
  refine wk ?_
  exact j0c rfl (.tmp rfl) (by rw [if_neg (by simp)]; exact congrArg vS (v0d u).symm)
 |true =>
  by_cases h0 : u = 0
  ·subst h0
   refine j0s _ Tryz.func162 rfl rfl Tryz.ntmps162 rfl fun w Z => ?_
   refine zU ?_
   have e : decDigits 0 = [48] := by rw [decDigits]; rfl
   rw [e]
   refine wk ?_
   exact j0c rfl (.tmp rfl) (by simp only [if_true]; exact congrArg vS e.symm)
  ·have hne : (decDigits u == [48]) = false := by
    rw [beq_eq_false_iff_ne]
    intro e
    have := congrArg dv e
    rw [q0f] at this
    exact h0 this
   refine j0s _ Tryz.func162 rfl rfl Tryz.ntmps162 rfl fun w Z => ?_
   refine zU ?_
   refine wk ?_
   rw [hne]
   refine wk ?_
   refine j0j (w0Z rfl rfl (by simp only [List.length_cons, List.length_nil]; omega)) rfl ?_
   refine wk ?_
   exact j0c rfl (.tmp rfl) (by simp only [if_true]; exact congrArg vS (by rw [itoa_neg (show -(u : Int) < 0 by omega), Int.natAbs_neg]; rfl))
theorem w0d (m : Int) (u : Nat) (neg : Bool) (hm : m = if neg then -(u : Int) else u) (hu : (decDigits u).length ≤ 1000000) : CtrA Tryz.prog 162 [vS (decDigits u), vb neg] (vI m) := hm ▸ x1M u neg hu
theorem k0z (m : Int) (hm : (decDigits m.natAbs).length ≤ 1000000) : CtrA Tryz.prog 96 [vI m] (vI (-m)) := by
 have h1 := w0e m
 have h2 := w0w m
 have h3 := w0d (-m) m.natAbs (!decide (m < 0)) (by by_cases h : m < 0 <;> simp [h] <;> omega) hm
 refine j0s _ Tryz.func96 rfl rfl Tryz.ntmps96 rfl fun w Z => ?_
 refine zU ?_
 refine wk ?_
 exact zV
theorem w1S {k : Nat} (h : 9 < k) : decDigits k = decDigits (k / 10) ++ [byt ((k : Int) % 10)] := by
 rw [decDigits, dif_neg (by omega)]
 congr 3
theorem Z0i {k : Nat} (h : k ≤ 9) : decDigits k = [byt (k : Int)] := by
 rw [decDigits, dif_pos (by omega)]
 rfl
theorem q1w (n : Nat) (hn : n ≤ 9223372036854775807) : CtrA Tryz.prog 52 [vi n] (vI n) := by
 refine j0s _ Tryz.func52 rfl rfl Tryz.ntmps52 rfl fun w Z => ?_
 refine zU ?_
 refine wk ?_
 (first | refine j0f rfl rfl ?_ ?_ | refine j0e rfl rfl ?_ ?_) <;> intro hb <;> (try simp only [zA, zB, zG, zC, zD, zN] at hb) <;> (try exact zQ)
 ·obtain rfl : n = 0 := by omega
  refine wk ?_
  refine j0g (γ := Unit) (fun _ => [(0, .av (vi 0)), (3, .av (vS []))]) (fun _ => []) (fun _ => True) (fun _ => 0) () trivial (ent zS trivial) ?_
  rintro ⟨⟩ _
  refine wk ?_
  refine j0j (Z0z 48 rfl rfl) rfl ?_
  refine wk ?_
  refine j0j (z0S (l := [48]) rfl rfl zE (fun i hi => rfl)) rfl ?_
  refine wk ?_
  refine j0j (w0Z rfl rfl (by simp)) rfl ?_
  refine wk ?_
  exact j0c rfl (.tmp rfl) (congrArg vS (by rw [show itoa ((0 : Nat) : Int) = [48] from by rw [v0d, Z0i (by decide)]; rfl]; rfl))
 ·refine wk ?_
  refine wk ?_
  have hL := v0l (k := n) (n := 19) zO zE
  refine j0g (γ := Nat × List UInt8) (fun q => [(0, .av (vi q.1)), (3, .av (vS q.2))]) (fun _ => []) (fun q => decDigits q.1 ++ q.2 = decDigits n ∧ q.1 ≤ n) (fun q => q.1) (n, []) ⟨by simp, Nat.le_refl _⟩ (ent zS trivial) ?_
  rintro ⟨k, s⟩ ⟨h1, h2⟩
  dsimp only at h1 h2 ⊢
  have hl1 := congrArg List.length h1
  rw [List.length_append] at hl1
  refine wk ?_
  (refine j0a rfl ?_ ?_ <;> intro hb <;> (try simp only [zA, zB, zG, zC, zD, zN] at hb) <;> (try exact zQ))
  ·refine wk ?_
   refine j0j (Z0z (byt ((k : Int) % 10)) rfl (w0R zO).symm) rfl ?_
   refine wk ?_
   refine j0j (z0S (l := [byt ((k : Int) % 10)]) rfl rfl zE (fun i hi => rfl)) rfl ?_
   refine wk ?_
   refine j0j (w0Z rfl rfl (by simp only [List.length_cons, List.length_nil]; omega)) rfl ?_
   refine wk ?_
   exact j0b (g := (k, s)) (k / 10, [byt ((k : Int) % 10)] ++ s) ⟨by show decDigits (k / 10) ++ ([byt ((k : Int) % 10)] ++ s) = _; rw [← List.append_assoc, ← w1S (by omega)]; exact h1, by show k / 10 ≤ n; omega⟩ (by show k / 10 < k; omega) (ent ⟨.int (by dsimp only; omega), .refl _, trivial⟩ trivial)
  ·rw [Z0i (by omega)] at h1
   refine wk ?_
   refine j0j (Z0z (byt (k : Int)) rfl (w0R zO).symm) rfl ?_
   refine wk ?_
   refine j0j (z0S (l := [byt (k : Int)]) rfl rfl zE (fun i hi => rfl)) rfl ?_
   refine wk ?_
   refine j0j (w0Z rfl rfl (by simp only [List.length_cons, List.length_nil]; omega)) rfl ?_
   refine wk ?_
   exact j0c rfl (.tmp rfl) (congrArg vS (by rw [v0d, ← h1]))
theorem W1I (n : Int) (hn : -9223372036854775807 ≤ n ∧ n ≤ 9223372036854775807) : CtrA Tryz.prog 52 [vi n] (vI n) := by
 by_cases h : n < 0
 ·have h1 := q1w n.natAbs zO
  rw [show ((n.natAbs : Nat) : Int) = -n by omega] at h1
  have h2 := k0z (-n) (by have := v0l (k := (-n).natAbs) (n := 19) zO zE; omega)
  rw [Int.neg_neg] at h2
  refine j0s _ Tryz.func52 rfl rfl Tryz.ntmps52 rfl fun w Z => ?_
  refine zU ?_
  refine wk ?_
  (first | refine j0f rfl rfl ?_ ?_ | refine j0e rfl rfl ?_ ?_) <;> intro hb <;> (try simp only [zA, zB, zG, zC, zD, zN] at hb) <;> (try exact zQ)
  refine wk ?_
  (refine j0a rfl ?_ ?_ <;> intro hb <;> (try simp only [zA, zB, zG, zC, zD, zN] at hb) <;> (try exact zQ))
  refine wk ?_
  exact zV
 ·have h1 := q1w n.toNat zO
  rwa [Int.toNat_of_nonneg zO] at h1
theorem Z0U (m : Int) (hm : (decDigits m.natAbs).length ≤ 18) : CtrA Tryz.prog 269 [vI m] (vi m) := by
 have h1 := w0e m
 have h2 := w0w m
 have hd := j0L m.natAbs
 have hv := q0f m.natAbs
 have hlt := w0W _ hd
 rw [hv] at hlt
 have hp : (10 : Nat) ^ (decDigits m.natAbs).length ≤ 10 ^ 18 := Nat.pow_le_pow_right zE hm
 have hb18 : m.natAbs < 1000000000000000000 := Nat.lt_of_lt_of_le hlt hp
 clear hlt hp
 generalize decDigits m.natAbs = D at *
 have hpre : ∀ i, dv (D.take i) ≤ m.natAbs := fun i => by
  have e := q0W (D.take i) (D.drop i)
  rw [List.take_append_drop, hv] at e
  have : dv (D.take i) * 1 ≤ dv (D.take i) * 10 ^ (D.drop i).length := Nat.mul_le_mul_left _ (Nat.pow_pos zE)
  omega
 refine j0s _ Tryz.func269 rfl rfl Tryz.ntmps269 rfl fun w Z => ?_
 refine zU ?_
 refine wk ?_
 refine j0g (γ := Nat) (fun i => [(0, .av (vI m)), (3, .av (vi (dv (D.take i)))), (4, .av (vS D)), (5, .av (vi i))]) (fun _ => []) (fun i => i ≤ D.length) (fun i => D.length - i) 0 (Nat.zero_le _) (ent zS trivial) ?_
 intro i hi
 have hpi := hpre i
 refine wk ?_
 (refine j0a rfl ?_ ?_ <;> intro hb <;> (try simp only [zA, zB, zG, zC, zD, zN] at hb) <;> (try exact zQ))
 ·have hil : i < D.length := by omega
  have hx : D[i]? = some D[i] := List.getElem?_eq_getElem hil
  have dx := hd _ (List.mem_of_getElem? hx)
  have hst := V0s hil
  have hp2 := hpre (i + 1)
  have dx' := dgI dx
  generalize D[i] = x at *
  refine wk ?_
  refine j0j (v0c rfl rfl rfl hx) rfl ?_
  refine wk ?_
  exact j0b (i + 1) zO zO (ent zS trivial)
 ·obtain rfl : i = D.length := by omega
  rw [List.take_length] at *
  refine wk ?_
  (refine j0a rfl ?_ ?_ <;> intro hb <;> (try simp only [zA, zB, zG, zC, zD, zN] at hb) <;> (try exact zQ))
  ·refine wk ?_
   exact j0c rfl (.tmp rfl) (congrArg vi zO)
  ·refine wk ?_
   exact j0c rfl (.tmp rfl) (congrArg vi zO)
def b18 (m : Int) : Prop := (decDigits m.natAbs).length ≤ 18
instance (m : Int) : Decidable (b18 m) := by unfold b18; infer_instance
theorem V0c (m n : Int) (hm : b18 m) (hn : b18 n) : CtrA Tryz.prog 206 [vI m, vI n] (j0x [vi m, vi n, vb true]) := by
 have h1 := w0e m
 have h2 := w0e n
 have h3 := Z0U m hm
 have h4 := Z0U n hn
 unfold b18 at hm hn
 refine j0s _ Tryz.func206 rfl rfl Tryz.ntmps206 rfl fun w Z => ?_
 refine zU ?_
 refine wk ?_
 (first | refine j0f rfl rfl ?_ ?_ | refine j0e rfl rfl ?_ ?_) <;> intro hb <;> (try simp only [zA, zB, zG, zC, zD, zN] at hb) <;> (try exact zQ)
 refine wk ?_
 (refine j0a rfl ?_ ?_ <;> intro hb <;> (try simp only [zA, zB, zG, zC, zD, zN] at hb) <;> (try exact zQ))
 refine wk ?_
 exact zX
theorem V0b (m n : Int) (h : ¬ (b18 m ∧ b18 n)) : CtrA Tryz.prog 206 [vI m, vI n] (j0x [vi 0, vi 0, vb false]) := by
 have h1 := w0e m
 have h2 := w0e n
 unfold b18 at h
 refine j0s _ Tryz.func206 rfl rfl Tryz.ntmps206 rfl fun w Z => ?_
 refine zU ?_
 refine wk ?_
 (first | refine j0f rfl rfl ?_ ?_ | refine j0e rfl rfl ?_ ?_) <;> intro hb <;> (try simp only [zA, zB, zG, zC, zD, zN] at hb) <;> (try exact zQ)
 ·refine wk ?_
  exact zX
 ·refine wk ?_
  (refine j0a rfl ?_ ?_ <;> intro hb <;> (try simp only [zA, zB, zG, zC, zD, zN] at hb) <;> (try exact zQ))
  ·refine wk ?_
   exact zX
theorem z0k {m : Int} (h : b18 m) : -1000000000000000000 < m ∧ m < 1000000000000000000 := by
 have hlt := w0W _ (j0L m.natAbs)
 rw [q0f] at hlt
 have hp : (10 : Nat) ^ (decDigits m.natAbs).length ≤ 10 ^ 18 := Nat.pow_le_pow_right zE h
 have : m.natAbs < 1000000000000000000 := Nat.lt_of_lt_of_le hlt hp
 omega
end Go.Proofs.YtfggdokihnopeaaGreatDoor
end
namespace Go.Proofs.YtfggdokihnopeaaGreatDoor
open Go Go.Vc Go.RowKit Go.Na Go.Lib
set_option maxHeartbeats 4000000
theorem W1P (m n : Int) (hm : LI 5000 m) (hn : LI 5000 n) : CtrA Tryz.prog 209 [vI m, vI n] (vI (m + n)) := by
 by_cases hb : b18 m ∧ b18 n
 ·have hbr := V0c m n hb.1 hb.2
  have hof := W1I (m + n) (by have := z0k hb.1; have := z0k hb.2; omega)
  have := z0k hb.1
  have := z0k hb.2
  refine j0s _ Tryz.func209 rfl rfl Tryz.ntmps209 rfl fun w Z => ?_
  refine zU ?_
  refine wk ?_
  exact zV
 have hbr := V0b m n hb
 have h1 := w0e m
 have h2 := w0e n
 have h3 := w0w m
 have h4 := w0w n
 have l1 := hm.len zE
 have l2 := hn.len zE
 by_cases hs : (m < 0 ↔ n < 0)
 ·have h6 := V0M m.natAbs n.natAbs true (by omega) (by omega) (by simp)
  rw [if_pos rfl] at h6
  have l3 := v0l (k := m.natAbs + n.natAbs) (n := 5001) (by have := hm.abs.add hn.abs; unfold LI at this; omega) zE
  have h7 := w0d (m + n) (m.natAbs + n.natAbs) (decide (m < 0)) (by split <;> simp_all <;> omega) (by omega)
  rw [show decide (n < 0) = decide (m < 0) from by simp [hs]] at h4
  cases hd : decide (m < 0)
  all_goals
   rw [hd] at h3 h4 h7
   refine j0s _ Tryz.func209 rfl rfl Tryz.ntmps209 rfl fun w Z => ?_
   refine zU ?_
   refine wk ?_
   exact zV
 ·have h5 := y1S m.natAbs n.natAbs
  have e4 : decide (n < 0) = !decide (m < 0) := by by_cases a : m < 0 <;> by_cases b : n < 0 <;> simp_all
  rw [e4] at h4
  by_cases hl : m.natAbs < n.natAbs
  ·rw [decide_eq_true hl] at h5
   have h6 := V0M n.natAbs m.natAbs false zO zO (fun _ => by omega)
   rw [if_neg (by simp)] at h6
   have l3 := v0l (k := n.natAbs - m.natAbs) (n := 5000) (by unfold LI at hn; omega) zE
   have h7 := w0d (m + n) (n.natAbs - m.natAbs) (!decide (m < 0)) (by split <;> simp_all <;> omega) (by omega)
   cases hd : decide (m < 0)
   all_goals
    rw [hd] at h3 h4 h7
    refine j0s _ Tryz.func209 rfl rfl Tryz.ntmps209 rfl fun w Z => ?_
    refine zU ?_
    refine wk ?_
    exact zV
  ·rw [decide_eq_false hl] at h5
   have h6 := V0M m.natAbs n.natAbs false zO zO (fun _ => by omega)
   rw [if_neg (by simp)] at h6
   have l3 := v0l (k := m.natAbs - n.natAbs) (n := 5000) (by unfold LI at hm; omega) zE
   have h7 := w0d (m + n) (m.natAbs - n.natAbs) (decide (m < 0)) (by split <;> simp_all <;> omega) (by omega)
   cases hd : decide (m < 0)
   all_goals
    rw [hd] at h3 h4 h7
    refine j0s _ Tryz.func209 rfl rfl Tryz.ntmps209 rfl fun w Z => ?_
    refine zU ?_
    refine wk ?_
    exact zV
theorem Y0q (m n : Int) (hm : LI 5000 m) (hn : LI 5000 n) : CtrA Tryz.prog 144 [vI m, vI n] (vI (m - n)) := by
 have h1 := k0z n (by have := hn.len zE; omega)
 have h2 := W1P m (-n) hm hn.neg
 rw [← Int.sub_eq_add_neg] at h2
 refine j0s _ Tryz.func144 rfl rfl Tryz.ntmps144 rfl fun w Z => ?_
 refine zU ?_
 refine wk ?_
 exact zV
theorem w0c (m : Int) : (itoa m == [48]) = decide (m = 0) := by
 have e0 : itoa 0 = [48] := by rw [j0E (by decide)]; exact y0i
 by_cases h : m = 0
 ·subst h; rw [e0]; rfl
 ·rw [decide_eq_false h, beq_eq_false_iff_ne, ← e0]
  exact fun e => h (w0H e)
theorem q1D (m n : Int) (hm : LI 5000 m) (hn : LI 5000 n) : CtrA Tryz.prog 79 [vI m, vI n] (vi (sgn (m - n))) := by
 have h1 := Y0q m n hm hn
 generalize m - n = d at *
 have h2 := w0w d
 have h3 := w0c d
 by_cases h0 : d = 0
 ·rw [decide_eq_true h0] at h3
  refine j0s _ Tryz.func79 rfl rfl Tryz.ntmps79 rfl fun w Z => ?_
  refine zU ?_
  refine wk ?_
  rw [h3]
  refine wk ?_
  exact j0c rfl (.tmp rfl) (congrArg vi (by unfold sgn; rw [if_pos h0]))
 ·rw [decide_eq_false h0] at h3
  by_cases hd : d < 0
  ·rw [decide_eq_true hd] at h2
   refine j0s _ Tryz.func79 rfl rfl Tryz.ntmps79 rfl fun w Z => ?_
   refine zU ?_
   refine wk ?_
   rw [h3]
   refine wk ?_
   exact j0c rfl (.tmp rfl) (congrArg vi (by unfold sgn; rw [if_neg h0, if_pos hd]))
  ·rw [decide_eq_false hd] at h2
   refine j0s _ Tryz.func79 rfl rfl Tryz.ntmps79 rfl fun w Z => ?_
   refine zU ?_
   refine wk ?_
   rw [h3]
   refine wk ?_
   exact j0c rfl (.tmp rfl) (congrArg vi (by unfold sgn; rw [if_neg h0, if_neg hd]))
theorem w0j (m n : Int) (hm : LI 5000 m) (hn : LI 5000 n) : CtrA Tryz.prog 143 [vI m, vI n] (vI (m * n)) := by
 have h1 := w0e m
 have h2 := w0e n
 have h3 := w0w m
 have h4 := w0w n
 have l1 := hm.len zE
 have l2 := hn.len zE
 have h6 := q1L m.natAbs n.natAbs zO zO
 have l3 := (hm.mul hn).len zE
 rw [Int.natAbs_mul] at l3
 have hsg : m * n = if (decide (m < 0) != decide (n < 0)) = true then -((m.natAbs * n.natAbs : Nat) : Int) else ((m.natAbs * n.natAbs : Nat) : Int) := by
  rw [Int.natCast_mul]
  by_cases a : m < 0 <;> by_cases b : n < 0
  ·rw [if_neg (by simp [a, b]), show ((m.natAbs : Nat) : Int) = -m by omega, show ((n.natAbs : Nat) : Int) = -n by omega]; simp only [Int.neg_mul, Int.mul_neg, Int.neg_neg]
  ·rw [if_pos (by simp [a, b]), show ((m.natAbs : Nat) : Int) = -m by omega, show ((n.natAbs : Nat) : Int) = n by omega]; simp only [Int.neg_mul, Int.mul_neg, Int.neg_neg]
  ·rw [if_pos (by simp [a, b]), show ((m.natAbs : Nat) : Int) = m by omega, show ((n.natAbs : Nat) : Int) = -n by omega]; simp only [Int.neg_mul, Int.mul_neg, Int.neg_neg]
  ·rw [if_neg (by simp [a, b]), show ((m.natAbs : Nat) : Int) = m by omega, show ((n.natAbs : Nat) : Int) = n by omega]
 have h7 := w0d (m * n) (m.natAbs * n.natAbs) (decide (m < 0) != decide (n < 0)) hsg zO
 have hlen : ∀ k : Int, (itoa k).length = (decDigits k.natAbs).length + (if k < 0 then 1 else 0) := fun k => by
  by_cases h : k < 0
  ·rw [itoa_neg h, if_pos h]; rfl
  ·rw [j0E h, if_neg h]; rfl
 have e1 := hlen m
 have e2 := hlen n
 have e3 : (itoa m).length ≤ 5001 := by rw [e1]; split <;> omega
 have e4 : (itoa n).length ≤ 5001 := by rw [e2]; split <;> omega
 by_cases hb : b18 m ∧ b18 n
 ·have hbr := V0c m n hb.1 hb.2
  have hin : (itoa m).length + (itoa n).length ≤ 18 → -1000000000000000000 ≤ m * n ∧ m * n ≤ 1000000000000000000 := fun h => by
   have q1 : LI (itoa m).length m := .of_len (by rw [e1]; omega)
   have q2 : LI (itoa n).length n := .of_len (by rw [e2]; omega)
   have q3 := (q1.mul q2).mono h
   have q4 : (m * n).natAbs < 1000000000000000000 := q3
   omega
  refine j0s _ Tryz.func143 rfl rfl Tryz.ntmps143 rfl fun w Z => ?_
  refine zU ?_
  refine wk ?_
  (refine j0a rfl ?_ ?_ <;> intro hb <;> (try simp only [zA, zB, zG, zC, zD, zN] at hb) <;> (try exact zQ))
  ·have hin' := hin zO
   have hof := W1I (m * n) zO
   refine wk ?_
   exact zV
  ·refine wk ?_
   exact zV
 ·have hbr := V0b m n hb
  refine j0s _ Tryz.func143 rfl rfl Tryz.ntmps143 rfl fun w Z => ?_
  refine zU ?_
  refine wk ?_
  exact zV
theorem y1h {l m : List UInt8} (h : l = m) : SLe (.av (vS l)) (.av (vS m)) := SLe.of_eq (by rw [h])
theorem j1z (u v : Nat) (hv0 : 0 < v) (hu : (decDigits u).length ≤ 10000) (hv : (decDigits v).length ≤ 10000) : CtrA Tryz.prog 270 [vS (decDigits u), vS (decDigits v)] (j0x [vS (decDigits (u / v)), vS (decDigits (u % v))]) := by
 have pu := v0H u
 have va := q0f u
 have da := j0L u
 generalize decDigits u = A at *
 have hvlt := w0W _ (j0L v)
 rw [q0f] at hvlt
 have e0 : decDigits (dv (A.take 0) % v) = [48] := by rw [show dv (A.take 0) = 0 from rfl, Nat.zero_mod, y0i]
 refine j0s _ Tryz.func270 rfl rfl Tryz.ntmps270 rfl fun w Z => ?_
 refine zU ?_
 refine wk ?_
 refine j0g (γ := Nat × List UInt8) (fun q => [(0, .av (vS A)), (1, .av (vS (decDigits v))), (6, .av (vS q.2)), (7, .av (vS (decDigits (dv (A.take q.1) % v)))), (8, .av (vi q.1))]) (fun _ => []) (fun q => q.1 ≤ A.length ∧ q.2.length = q.1 ∧ (∀ b ∈ q.2, isD b) ∧ dv q.2 = dv (A.take q.1) / v) (fun q => A.length - q.1) (0, []) ⟨Nat.zero_le _, rfl, by simp, by rw [show dv (A.take 0) = 0 from rfl, Nat.zero_div]; rfl⟩ (ent ⟨.refl _, .refl _, .refl _, y1h e0.symm, .refl _, trivial⟩ trivial) ?_
 rintro ⟨i, Q⟩ ⟨h1, h2, h3, h4⟩
 dsimp only at h1 h2 h3 h4 ⊢
 refine wk ?_
 (refine j0a rfl ?_ ?_ <;> intro hb <;> (try simp only [zA, zB, zG, zC, zD, zN] at hb) <;> (try exact zQ))
 ·have hil : i < A.length := by omega
  have hx : A[i]? = some A[i] := List.getElem?_eq_getElem hil
  have dx := da _ (List.mem_of_getElem? hx)
  have hsl : (A.take (i + 1)).drop i = [A[i]] := by
   rw [X0C hil, List.drop_append_of_le_length (by simp; omega), List.drop_eq_nil_of_le (by simp; omega)]; rfl
  have hst := V0s hil
  generalize A[i] = x at *
  have hxd : x.toNat - 48 < 10 := by have := dx.2; omega
  generalize hU : dv (A.take i) = U at *
  have hR : U % v < v := Nat.mod_lt _ hv0
  have hq : U = U / v * v + U % v := by have := Nat.div_add_mod U v; rw [Nat.mul_comm] at this; omega
  obtain ⟨k1, k2, k3⟩ := w1U hR hq hxd
  obtain ⟨N, hN⟩ : ∃ N, N = 10000 := ⟨_, rfl⟩
  have hvN : v < 10 ^ N := Nat.lt_of_lt_of_le hvlt (Nat.pow_le_pow_right zE zO)
  have hlN : (decDigits (U % v)).length ≤ N := v0l (Nat.lt_trans hR hvN) zO
  have hlR : (decDigits (U % v)).length ≤ 10000 := by omega
  have hb0 := Y0W (decDigits (U % v) ++ [x]) (by simp) (by simp; omega)
  rw [x0r _ (by simp) (fun b hb => by
   rcases List.mem_append.1 hb with h | h
   ·exact j0L _ b h
   ·rw [List.mem_singleton.1 h]; exact dx), y0M, q0f, Nat.mul_comm] at hb0
  rw [← hst] at k2 k3
  generalize hM : 10 * (U % v) + (x.toNat - 48) = M at *
  have hlM' : ∀ j, (decDigits (M - j)).length ≤ N + 1 := fun j => v0l (by
   have h10 : 10 ^ (N + 1) = 10 ^ N * 10 := Nat.pow_succ ..
   generalize 10 ^ N = p at *
   omega) zO
  have hlM : ∀ j, (decDigits (M - j)).length ≤ 10001 := fun j => by have := hlM' j; omega
  clear hlM' hlN hvN
  clear hN
  refine wk ?_
  refine j0j (W1p i (i + 1) rfl rfl rfl rfl zO zO zO) rfl ?_
  refine wk ?_
  rw [hsl]
  refine wk ?_
  refine j0j (w0Z rfl rfl (by simp only [List.length_cons, List.length_nil]; omega)) rfl ?_
  refine wk ?_
  refine j0g (γ := Nat) (fun j => [(0, .av (vS A)), (1, .av (vS (decDigits v))), (6, .av (vS Q)), (7, .av (vS (decDigits (M - j * v)))), (8, .av (vi i)), (9, .av (v8 (48 + j)))]) (fun _ => []) (fun j => j ≤ M / v) (fun j => M / v - j) 0 (Nat.zero_le _) (ent ⟨.refl _, .refl _, .refl _, y1h (by rw [Nat.zero_mul]; rfl), .refl _, .refl _, trivial⟩ trivial) ?_
  intro j hj
  have hjm : j * v ≤ M := (Nat.le_div_iff_mul_le hv0).1 hj
  have hless := y1S (M - j * v) v
  have hlj := hlM (j * v)
  by_cases hlt : M - j * v < v
  ·rw [decide_eq_true hlt] at hless
   have hje : j = M / v := by
    refine Nat.le_antisymm hj ?_
    rcases Nat.lt_or_ge j (M / v) with h | h
    ·have := (Nat.le_div_iff_mul_le hv0).1 (show j + 1 ≤ M / v from h)
     rw [Nat.add_mul] at this; omega
    ·exact h
   have hmod : M - j * v = M % v := by
    have := Nat.div_add_mod M v
    rw [Nat.mul_comm, ← hje] at this; omega
   refine wk ?_
   refine j0j (Z0z (byt (j : Int)) rfl (w0R zO).symm) rfl ?_
   refine wk ?_
   refine j0j (z0S (l := [byt (j : Int)]) rfl rfl zE (fun i hi => rfl)) rfl ?_
   refine wk ?_
   refine j0j (w0Z rfl rfl (by simp only [List.length_cons, List.length_nil]; omega)) rfl ?_
   refine wk ?_
   exact j0b (g := (i, Q)) (i + 1, Q ++ [byt (j : Int)]) ⟨by show i + 1 ≤ A.length; omega, by simp [h2], fun b hb => by
    rcases List.mem_append.1 hb with h | h
    ·exact h3 b h
    ·rw [List.mem_singleton.1 h]; exact X0Q (by omega), by
    show dv (Q ++ [byt (j : Int)]) = dv (A.take (i + 1)) / v
    have := j1j (d := (j : Int)) zO
    rw [y0M, h4, k2, ← hje]; omega⟩ (by show A.length - (i + 1) < A.length - i; omega) (ent ⟨.refl _, .refl _, .refl _, y1h (by
    show decDigits (M - j * v) = decDigits (dv (A.take (i + 1)) % v)
    rw [hmod, k3]), .int (by dsimp only; omega), trivial⟩ trivial)
  ·rw [decide_eq_false hlt] at hless
   have hp := V0M (M - j * v) v false zO zO (fun _ => by omega)
   rw [if_neg (by simp)] at hp
   have hjj : j + 1 ≤ M / v := (Nat.le_div_iff_mul_le hv0).2 (by rw [Nat.add_mul]; omega)
   refine wk ?_
   exact j0b (j + 1) hjj (by omega) (ent ⟨.refl _, .refl _, .refl _, y1h (by rw [Nat.add_mul, Nat.one_mul, Nat.sub_sub]), .refl _, SLe.of_eq (by rw [Int.natCast_add, Int.add_assoc]; rfl), trivial⟩ trivial)
 ·obtain rfl : i = A.length := by omega
  rw [List.take_length] at *
  have hne : Q ≠ [] := fun e => by rw [e] at h2; simp at h2; omega
  have hb0 := Y0W Q hne zO
  rw [x0r Q hne h3, h4, va] at hb0
  rw [va]
  refine wk ?_
  exact zW
theorem W0Z : itoa 1 = [49] := by rw [j0E (by decide)]; rw [show (1 : Int).natAbs = 1 from rfl, decDigits]; rfl
theorem x1r (m n : Int) (hn0 : n ≠ 0) (hm : LI 2000 m) (hn : LI 2000 n) : CtrA Tryz.prog 207 [vI m, vI n] (j0x [vI (m.fdiv n), vI (m.fmod n)]) := by
 by_cases hb : b18 m ∧ b18 n
 ·have hbr := V0c m n hb.1 hb.2
  have q1 := z0k hb.1
  have q2 := z0k hb.2
  have hlt := J1F (m := m) hn0
  have hfd := j1K (m := m) hn0
  have hfl : ((m - m.fmod n).tdiv n).natAbs ≤ (m - m.fmod n).natAbs := Int.natAbs_tdiv_le_natAbs ..
  have ho1 := W1I (m.fdiv n) (by rw [hfd] at hfl; omega)
  have ho2 := W1I (m.fmod n) zO
  have htm := X0D (m := m) hn0
  have htl : (m.tmod n).natAbs < n.natAbs := by rw [Int.natAbs_tmod]; exact Nat.mod_lt _ (by omega)
  generalize hr : m.tmod n = r at *
  by_cases hc : r ≠ 0 ∧ ¬ (r < 0 ↔ n < 0)
  ·rw [if_pos hc] at htm
   have e2 : (decide (r < 0) == decide (n < 0)) = false := by
    have := hc.2
    by_cases a : r < 0 <;> by_cases b : n < 0 <;> simp_all
   have e3 : (r != 0) = true := by simp [hc.1]
   rw [← hfd] at ho1 ⊢
   rw [htm] at ho1 ho2 hlt ⊢
   refine j0s _ Tryz.func207 rfl rfl Tryz.ntmps207 rfl fun w Z => ?_
   refine zU ?_
   refine wk ?_
   refine j0j (J0B rfl rfl hn0) rfl ?_
   refine wk ?_
   rw [hr, e3]
   refine wk ?_
   rw [e2]
   refine wk ?_
   refine j0j (J0A rfl rfl hn0 zO) rfl ?_
   refine wk ?_
   exact zW
  ·rw [if_neg hc] at htm
   rw [← hfd] at ho1 ⊢
   rw [htm] at ho1 ho2 hlt ⊢
   by_cases h0 : r = 0
   ·have e3 : (r != 0) = false := by simp [h0]
    refine j0s _ Tryz.func207 rfl rfl Tryz.ntmps207 rfl fun w Z => ?_
    refine zU ?_
    refine wk ?_
    refine j0j (J0B rfl rfl hn0) rfl ?_
    refine wk ?_
    rw [hr, e3]
    refine wk ?_
    refine j0j (J0A rfl rfl hn0 zO) rfl ?_
    refine wk ?_
    exact zW
   ·have e3 : (r != 0) = true := by simp [h0]
    have hiff : r < 0 ↔ n < 0 := Classical.byContradiction fun h => hc ⟨h0, h⟩
    have e2 : (decide (r < 0) == decide (n < 0)) = true := by simp [hiff]
    refine j0s _ Tryz.func207 rfl rfl Tryz.ntmps207 rfl fun w Z => ?_
    refine zU ?_
    refine wk ?_
    refine j0j (J0B rfl rfl hn0) rfl ?_
    refine wk ?_
    rw [hr, e3]
    refine wk ?_
    rw [e2]
    refine wk ?_
    refine j0j (J0A rfl rfl hn0 zO) rfl ?_
    refine wk ?_
    exact zW
 have hbr := V0b m n hb
 have h1 := w0e m
 have h2 := w0e n
 have h3 := w0w m
 have h4 := w0w n
 have l1 := hm.len zE
 have l2 := hn.len zE
 have hd := j1z m.natAbs n.natAbs zO zO zO
 have hf := j1J m n hn0
 have hfm := J1E m n
 have hlq : LI 2001 ((m.natAbs / n.natAbs : Nat) : Int) := by
  have := Nat.div_le_self m.natAbs n.natAbs
  exact (hm.mono (by decide)).le (by rw [Int.natAbs_natCast]; exact this)
 have hlf := hm.fdiv hn0
 have lq := hlq.len zE
 rw [Int.natAbs_natCast] at lq
 have hrest := w0c ((m.natAbs % n.natAbs : Nat) : Int)
 rw [v0d] at hrest
 have hto := w0j (m.fdiv n) n (hlf.mono zE) (hn.mono zE)
 have hmi := Y0q m (m.fdiv n * n) (hm.mono zE) ((hlf.mul hn).mono zE)
 rw [← hfm] at hmi
 generalize m.natAbs / n.natAbs = q at *
 generalize m.natAbs % n.natAbs = s at *
 by_cases hs : decide (m < 0) = decide (n < 0)
 ·rw [if_pos hs] at hf
  have hsi := w0d (m.fdiv n) q false (by rw [hf]; rfl) (by omega)
  rw [← hs] at h4
  cases hd' : decide (m < 0)
  all_goals
   rw [hd'] at h3 h4
   refine j0s _ Tryz.func207 rfl rfl Tryz.ntmps207 rfl fun w Z => ?_
   refine zU ?_
   refine wk ?_
   (first | refine j0f rfl rfl ?_ ?_ | refine j0e rfl rfl ?_ ?_) <;> intro hb <;> (try simp only [zA, zB, zG, zC, zD, zN] at hb) <;> (try exact zQ)
   ·refine wk ?_
    exact zW
   ·refine wk ?_
    exact zW
 ·rw [if_neg hs] at hf
  have e4 : decide (n < 0) = !decide (m < 0) := by by_cases a : m < 0 <;> by_cases b : n < 0 <;> simp_all
  rw [e4] at h4
  have hsi := w0d (-(q : Int)) q true rfl zO
  by_cases h0 : s = 0
  ·rw [if_pos h0] at hf
   rw [decide_eq_true (by omega)] at hrest
   rw [← hf] at hsi
   cases hd' : decide (m < 0)
   all_goals
    rw [hd'] at h3 h4
    refine j0s _ Tryz.func207 rfl rfl Tryz.ntmps207 rfl fun w Z => ?_
    refine zU ?_
    refine wk ?_
    rw [hrest]
    refine wk ?_
    exact zW
  ·rw [if_neg h0] at hf
   rw [decide_eq_false (by omega)] at hrest
   have hm1 := Y0q (-(q : Int)) 1 ((hlq.neg).mono zE) (.small zE zE)
   rw [← hf] at hm1
   rw [vI, vI, W0Z] at hm1
   cases hd' : decide (m < 0)
   all_goals
    rw [hd'] at h3 h4
    refine j0s _ Tryz.func207 rfl rfl Tryz.ntmps207 rfl fun w Z => ?_
    refine zU ?_
    refine wk ?_
    rw [hrest]
    refine wk ?_
    exact zW
theorem x1d (u v : Nat) (hv : v ≠ 0) : ((u : Int)).fmod (v : Int) = ((u % v : Nat) : Int) := by
 refine (j0P (q := ((u / v : Nat) : Int)) ?_ (.inl ⟨by omega, ?_⟩)).2
 ·have := Nat.div_add_mod u v
  rw [Nat.mul_comm] at this
  omega
 ·have := Nat.mod_lt u (show v > 0 by omega)
  omega
theorem k0j (u : Nat) (hu : (decDigits u).length ≤ 1000000) : CtrA Tryz.prog 162 [vS (decDigits u), vb false] (vI u) := w0d u u false rfl hu
theorem y0r (u v : Nat) (hv : v ≠ 0) : Nat.gcd v (u % v) = Nat.gcd u v := by
 rw [Nat.gcd_comm u v, Nat.gcd_rec v u, Nat.gcd_comm]
theorem x1L (m n : Int) (hm : LI 2000 m) (hn : LI 2000 n) : CtrA Tryz.prog 142 [vI m, vI n] (vI ((Int.gcd m n : Nat) : Int)) := by
 have h1 := w0e m
 have h2 := w0e n
 have l1 := hm.len zE
 have l2 := hn.len zE
 have s1 := k0j m.natAbs zO
 have s2 := k0j n.natAbs zO
 have hg : Int.gcd m n = Nat.gcd m.natAbs n.natAbs := rfl
 rw [hg]
 have hl1 : LI 2000 ((m.natAbs : Nat) : Int) := hm.abs
 have hl2 : LI 2000 ((n.natAbs : Nat) : Int) := hn.abs
 clear hm hn hg
 generalize m.natAbs = M at *
 generalize n.natAbs = N at *
 refine j0s _ Tryz.func142 rfl rfl Tryz.ntmps142 rfl fun w Z => ?_
 refine zU ?_
 refine wk ?_
 refine j0g (γ := Nat × Nat) (fun q => [(0, .av (vI q.1)), (1, .av (vI q.2))]) (fun _ => []) (fun q => Nat.gcd q.1 q.2 = Nat.gcd M N ∧ LI 2000 (q.1 : Int) ∧ LI 2000 (q.2 : Int)) (fun q => q.2) (M, N) ⟨rfl, hl1, hl2⟩ (ent zS trivial) ?_
 rintro ⟨u, v⟩ ⟨g1, g2, g3⟩
 dsimp only at g1 g2 g3 ⊢
 have hz := w0c (v : Int)
 by_cases hv : v = 0
 ·rw [decide_eq_true (by omega)] at hz
  refine wk ?_
  rw [hz]
  refine wk ?_
  exact j0c rfl (.tmp rfl) (by rw [← g1, hv, Nat.gcd_zero_right])
 ·rw [decide_eq_false (by omega)] at hz
  by_cases hb : b18 (u : Int) ∧ b18 (v : Int)
  ·have hbr := V0c u v hb.1 hb.2
   have q1 := z0k hb.1
   have q2 := z0k hb.2
   refine wk ?_
   rw [hz]
   refine wk ?_
   refine j0g (γ := Nat × Nat) (fun q => [(5, .av (vi q.1)), (6, .av (vi q.2))]) (fun _ => []) (fun q => Nat.gcd q.1 q.2 = Nat.gcd M N ∧ q.1 < 1000000000000000000 ∧ q.2 < 1000000000000000000) (fun q => q.2) (u, v) ⟨g1, by dsimp only; omega, by dsimp only; omega⟩ (ent zS trivial) ?_
   rintro ⟨x, y⟩ ⟨k1, k2, k3⟩
   dsimp only at k1 k2 k3 ⊢
   refine wk ?_
   (refine j0a rfl ?_ ?_ <;> intro hb <;> (try simp only [zA, zB, zG, zC, zD, zN] at hb) <;> (try exact zQ))
   ·refine wk ?_
    exact j0b (g := (x, y)) (y, x % y) ⟨by show Nat.gcd y (x % y) = _; rw [y0r x y (by omega), k1], k3, by show x % y < _; have := Nat.mod_lt x (show y > 0 by omega); omega⟩ (by show x % y < y; exact Nat.mod_lt _ (by omega)) (ent ⟨.refl _, .int (by dsimp only; omega), trivial⟩ trivial)
   ·obtain rfl : y = 0 := by omega
    rw [Nat.gcd_zero_right] at k1
    have hof := q1w x zO
    refine wk ?_
    exact j0c rfl (.tmp rfl) (by rw [k1])
  ·have hbr := V0b u v hb
   have hp := x1r u v zO g2 g3
   rw [x1d u v hv] at hp
   refine wk ?_
   rw [hz]
   refine wk ?_
   exact j0b (g := (u, v)) (v, u % v) ⟨by show Nat.gcd v (u % v) = _; rw [y0r u v hv, g1], g3, g3.le (by have := Nat.mod_lt u (show v > 0 by omega); dsimp only; omega)⟩ (by show u % v < v; exact Nat.mod_lt _ (by omega)) (ent zS trivial)
theorem Z0T {b : UInt8} (h : (b.toNat : Int) < 48 ∨ 57 < (b.toNat : Int)) : ¬ isD b := by
 rintro ⟨h1, h2⟩; omega
theorem V0j {l : List UInt8} {b : UInt8} (hb : b ∈ szL l) (h : ¬ isD b) : chk l = 3 := x0P fun hn => h (hn.dig b hb)
theorem Y0J (l : List UInt8) : (szL l).length ≤ l.length := by
 cases l with
 |nil => exact Nat.le_refl _
 |cons b r =>
  by_cases hb : b = 45
  ·rw [szL, if_pos hb]; simp
  ·rw [szL, if_neg hb]; exact Nat.le_refl _
theorem len1 {l : List UInt8} (h : (szL l).head? = some 48) (hl : l.length ≤ 1) : l = [48] := by
 cases l with
 |nil => simp [szL] at h
 |cons b r =>
  have : r = [] := List.length_eq_zero_iff.1 (by simp at hl ⊢; omega)
  subst this
  by_cases hb : b = 45
  ·rw [szL, if_pos hb] at h; simp at h
  ·rw [szL, if_neg hb] at h; simp at h; rw [h]
theorem Q0R (l : List UInt8) (hl : l.length ≤ 1000000) : CtrA Tryz.prog 140 [vS l] (vi (chk l)) := by
 have h1 := z1g l
 cases hs : szL l with
 |nil =>
  rw [hs] at h1
  refine j0s _ Tryz.func140 rfl rfl Tryz.ntmps140 rfl fun w Z => ?_
  refine zU ?_
  refine wk ?_
  exact j0c rfl (.tmp rfl) (congrArg vi (x0P fun h => h.ne hs).symm)
 |cons b r =>
  rw [hs] at h1
  refine j0s _ Tryz.func140 rfl rfl Tryz.ntmps140 rfl fun w Z => ?_
  refine zU ?_
  refine wk ?_
  (first | refine j0f rfl rfl ?_ ?_ | refine j0e rfl rfl ?_ ?_) <;> intro hb <;> (try simp only [zA, zB, zG, zC, zD, zN] at hb) <;> (try exact zQ)
  ·have hb48 : b = 48 := (y1g b 48).1 hb
   refine wk ?_
   (first | refine j0f rfl rfl ?_ ?_ | refine j0e rfl rfl ?_ ?_) <;> intro hb <;> (try simp only [zA, zB, zG, zC, zD, zN] at hb) <;> (try exact zQ)
   ·refine wk ?_
    exact j0c rfl (.tmp rfl) (congrArg vi (x0P fun h => by
     have := h.hd (by rw [hs, hb48]; rfl)
     rw [this] at hs
     have e : szL [48] = [48] := rfl
     rw [e] at hs
     injection hs with _ hs
     subst hs
     simp at hb).symm)
   ·refine wk ?_
    (refine j0a rfl ?_ ?_ <;> intro hb <;> (try simp only [zA, zB, zG, zC, zD, zN] at hb) <;> (try exact zQ))
    ·refine wk ?_
     exact j0c rfl (.tmp rfl) (congrArg vi (x0P fun h => by
      have := h.hd (by rw [hs, hb48]; rfl)
      rw [this] at hb
      simp at hb).symm)
    ·have hh : (szL l).head? = some 48 → l = [48] := fun h => len1 h zO
     refine wk ?_
     have hsl := Y0J l
     rw [hs] at hsl
     refine j0g (γ := Nat) (fun i => [(0, .av (vS l)), (3, .av (vS (b :: r))), (4, .av (vi i))]) (fun _ => []) (fun i => i ≤ (b :: r).length ∧ ∀ k, k < i → ∀ x, (b :: r)[k]? = some x → isD x) (fun i => (b :: r).length - i) 0 ⟨Nat.zero_le _, fun k hk => absurd hk zO⟩ (ent zS trivial) ?_
     rintro i ⟨hi, hall⟩
     refine wk ?_
     (refine j0a rfl ?_ ?_ <;> intro hb <;> (try simp only [zA, zB, zG, zC, zD, zN] at hb) <;> (try exact zQ))
     ·have hx : (b :: r)[i]? = some (b :: r)[i] := List.getElem?_eq_getElem zO
      have hm := List.mem_of_getElem? hx
      generalize (b :: r)[i] = x at *
      refine wk ?_
      refine j0j (v0c rfl rfl rfl hx) rfl ?_
      refine wk ?_
      (first | refine j0f rfl rfl ?_ ?_ | refine j0e rfl rfl ?_ ?_) <;> intro hb <;> (try simp only [zA, zB, zG, zC, zD, zN] at hb) <;> (try exact zQ)
      ·refine wk ?_
       exact j0c rfl (.tmp rfl) (congrArg vi (V0j (by rw [hs]; exact hm) (Z0T (.inl (by omega)))).symm)
      ·refine wk ?_
       refine x0m (v0c rfl rfl rfl hx) rfl rfl rfl ?_
       refine wk ?_
       (refine j0a rfl ?_ ?_ <;> intro hb <;> (try simp only [zA, zB, zG, zC, zD, zN] at hb) <;> (try exact zQ))
       ·refine wk ?_
        exact j0c rfl (.tmp rfl) (congrArg vi (V0j (by rw [hs]; exact hm) (Z0T (.inr (by omega)))).symm)
       ·refine wk ?_
        exact j0b (i + 1) ⟨by omega, fun k hk y hy => by
         rcases (by omega : k < i ∨ k = i) with h | h
         ·exact hall k h y hy
         ·subst h
          rw [hx] at hy
          cases hy
          exact ⟨by omega, by omega⟩⟩ zO (ent zS trivial)
     ·obtain rfl : i = (b :: r).length := by omega
      have hn : IsNum l := ⟨by rw [hs]; simp, hh, fun y hy => by
       rw [hs] at hy
       obtain ⟨k, hk, rfl⟩ := List.getElem_of_mem hy
       exact hall k hk _ (List.getElem?_eq_getElem hk)⟩
      refine wk ?_
      (refine j0a rfl ?_ ?_ <;> intro hb <;> (try simp only [zA, zB, zG, zC, zD, zN] at hb) <;> (try exact zQ))
      all_goals
       refine wk ?_
       first
        |exact j0c rfl (.tmp rfl) (congrArg vi (by unfold chk; rw [if_pos hn, if_pos (by rw [hs]; omega)]))
        |exact j0c rfl (.tmp rfl) (congrArg vi (by unfold chk; rw [if_pos hn, if_neg (by rw [hs]; omega)]))
  ·have hh : (szL l).head? = some 48 → l = [48] := fun h => by
    rw [hs] at h
    simp at h
    exact absurd ((y1g b 48).2 h) hb
   refine wk ?_
   have hsl := Y0J l
   rw [hs] at hsl
   refine j0g (γ := Nat) (fun i => [(0, .av (vS l)), (3, .av (vS (b :: r))), (4, .av (vi i))]) (fun _ => []) (fun i => i ≤ (b :: r).length ∧ ∀ k, k < i → ∀ x, (b :: r)[k]? = some x → isD x) (fun i => (b :: r).length - i) 0 ⟨Nat.zero_le _, fun k hk => absurd hk zO⟩ (ent zS trivial) ?_
   rintro i ⟨hi, hall⟩
   refine wk ?_
   (refine j0a rfl ?_ ?_ <;> intro hb <;> (try simp only [zA, zB, zG, zC, zD, zN] at hb) <;> (try exact zQ))
   ·have hx : (b :: r)[i]? = some (b :: r)[i] := List.getElem?_eq_getElem zO
    have hm := List.mem_of_getElem? hx
    generalize (b :: r)[i] = x at *
    refine wk ?_
    refine j0j (v0c rfl rfl rfl hx) rfl ?_
    refine wk ?_
    (first | refine j0f rfl rfl ?_ ?_ | refine j0e rfl rfl ?_ ?_) <;> intro hb <;> (try simp only [zA, zB, zG, zC, zD, zN] at hb) <;> (try exact zQ)
    ·refine wk ?_
     exact j0c rfl (.tmp rfl) (congrArg vi (V0j (by rw [hs]; exact hm) (Z0T (.inl (by omega)))).symm)
    ·refine wk ?_
     refine x0m (v0c rfl rfl rfl hx) rfl rfl rfl ?_
     refine wk ?_
     (refine j0a rfl ?_ ?_ <;> intro hb <;> (try simp only [zA, zB, zG, zC, zD, zN] at hb) <;> (try exact zQ))
     ·refine wk ?_
      exact j0c rfl (.tmp rfl) (congrArg vi (V0j (by rw [hs]; exact hm) (Z0T (.inr (by omega)))).symm)
     ·refine wk ?_
      exact j0b (i + 1) ⟨by omega, fun k hk y hy => by
       rcases (by omega : k < i ∨ k = i) with h | h
       ·exact hall k h y hy
       ·subst h
        rw [hx] at hy
        cases hy
        exact ⟨by omega, by omega⟩⟩ zO (ent zS trivial)
   ·obtain rfl : i = (b :: r).length := by omega
    have hn : IsNum l := ⟨by rw [hs]; simp, hh, fun y hy => by
     rw [hs] at hy
     obtain ⟨k, hk, rfl⟩ := List.getElem_of_mem hy
     exact hall k hk _ (List.getElem?_eq_getElem hk)⟩
    refine wk ?_
    (refine j0a rfl ?_ ?_ <;> intro hb <;> (try simp only [zA, zB, zG, zC, zD, zN] at hb) <;> (try exact zQ))
    all_goals
     refine wk ?_
     first
      |exact j0c rfl (.tmp rfl) (congrArg vi (by unfold chk; rw [if_pos hn, if_pos (by rw [hs]; omega)]))
      |exact j0c rfl (.tmp rfl) (congrArg vi (by unfold chk; rw [if_pos hn, if_neg (by rw [hs]; omega)]))
abbrev vR (q : Rat) : AV := vS (rtx q)
def spZ (l : List UInt8) : Int := match spI l with | some i => i | none => -1
theorem X1f {l : List UInt8} {i : Nat} (h : ∀ k, k < i → ∀ x, l[k]? = some x → x ≠ 47) (hi : l[i]? = some 47) : spI l = some i := by
 obtain ⟨hl, e⟩ := List.getElem?_eq_some_iff.1 hi
 unfold spI
 rw [List.findIdx?_eq_some_iff_getElem]
 exact ⟨hl, by rw [e]; rfl, fun j hj => by simpa using h j hj _ (List.getElem?_eq_getElem (by omega))⟩
theorem X1g {l : List UInt8} (h : ∀ k, k < l.length → ∀ x, l[k]? = some x → x ≠ 47) : spI l = none := k0n fun hm => by
 obtain ⟨k, hk, e⟩ := List.getElem_of_mem hm
 exact h k hk _ (List.getElem?_eq_getElem hk) e
theorem v1v (l : List UInt8) (hl : l.length ≤ 1000000) : CtrA Tryz.prog 141 [vS l] (vi (spZ l)) := by
 refine j0s _ Tryz.func141 rfl rfl Tryz.ntmps141 rfl fun w Z => ?_
 refine zU ?_
 refine wk ?_
 refine j0g (γ := Nat) (fun i => [(0, .av (vS l)), (3, .av (vi i))]) (fun _ => []) (fun i => i ≤ l.length ∧ ∀ k, k < i → ∀ x, l[k]? = some x → x ≠ 47) (fun i => l.length - i) 0 ⟨Nat.zero_le _, fun k hk => absurd hk zO⟩ (ent zS trivial) ?_
 rintro i ⟨hi, hall⟩
 refine wk ?_
 (refine j0a rfl ?_ ?_ <;> intro hb <;> (try simp only [zA, zB, zG, zC, zD, zN] at hb) <;> (try exact zQ))
 ·have hx : l[i]? = some l[i] := List.getElem?_eq_getElem zO
  generalize l[i] = x at *
  refine wk ?_
  refine j0j (v0c rfl rfl rfl hx) rfl ?_
  refine wk ?_
  (refine j0a rfl ?_ ?_ <;> intro hb <;> (try simp only [zA, zB, zG, zC, zD, zN] at hb) <;> (try exact zQ))
  ·have hb' := (y1g x 47).1 hb
   subst hb'
   refine wk ?_
   exact j0c rfl (.tmp rfl) (congrArg vi (by unfold spZ; rw [X1f hall hx]))
  ·refine wk ?_
   exact j0b (i + 1) ⟨by omega, fun k hk y hy => by
    rcases (by omega : k < i ∨ k = i) with h | h
    ·exact hall k h y hy
    ·rw [h, hx] at hy
     cases hy
     exact fun e => hb ((y1g x 47).2 e)⟩ zO (ent zS trivial)
 ·obtain rfl : i = l.length := by omega
  refine wk ?_
  exact j0c rfl (.tmp rfl) (congrArg vi (by unfold spZ; rw [X1g hall]))
theorem v1C (l : List UInt8) (hl : l.length ≤ 1000000) : CtrA Tryz.prog 139 [vS l] (j0x [vS (spN l), vS (spD l)]) := by
 have h1 := v1v l hl
 unfold spZ at h1
 unfold spN spD
 cases h : spI l with
 |none =>
  rw [h] at h1
  refine j0s _ Tryz.func139 rfl rfl Tryz.ntmps139 rfl fun w Z => ?_
  refine zU ?_
  refine wk ?_
  exact zW
 |some i =>
  rw [h] at h1
  dsimp only at h1
  have hi := (k0m h).2.2
  refine j0s _ Tryz.func139 rfl rfl Tryz.ntmps139 rfl fun w Z => ?_
  refine zU ?_
  refine wk ?_
  refine q0H (W1q i rfl rfl rfl zO) rfl ?_
  refine wk ?_
  refine q0H (x0S (i + 1) rfl rfl rfl zO) rfl ?_
  refine wk ?_
  exact zW
theorem v1D (q : Rat) (hl : (rtx q).length ≤ 1000000) : CtrA Tryz.prog 139 [vR q] (j0x [vI q.num, vI (q.den : Int)]) := by
 have := v1C (rtx q) hl
 rwa [v1A, v1x] at this
theorem v1i {k : Nat} {q : Rat} (h : LR k q) (hk : 0 < k) : (rtx q).length ≤ 2 * k + 2 := by
 have h1 := h.1.len hk
 have h2 := h.2.len hk
 rw [Int.natAbs_natCast] at h2
 have h3 : (itoa q.num).length ≤ k + 1 := by
  by_cases hn : q.num < 0
  ·rw [itoa_neg hn]; simp; omega
  ·rw [j0E hn]; omega
 unfold rtx
 split
 ·omega
 ·simp; omega
theorem V1e (a b c d e : ByteArray) (w : World) : (Instr.buildSlice 128 5 #[(0, .string a), (1, .string b), (2, .string c), (3, .string d), (4, .string e)]).run Tryz.prog w = .ok (.slice (some ⟨w.heap.size, 0, none⟩) 5 5) (w.alloc (.cells #[.string a, .string b, .string c, .string d, .string e] 98)) := by kernel_rfl
def Z1J (a b c d e : Int) : AV := .sl 5 1 (fun i _ => vS (match i with | 0 => itoa a | 1 => itoa b | 2 => itoa c | 3 => itoa d | _ => itoa e))
theorem j1t (q r : Rat) (hq : LR 900 q) (hr : LR 900 r) : CtrA Tryz.prog 78 [vR q, vR r] (Z1J (q.num * r.den) (r.num * q.den) (q.den * r.den) (q.num * r.num) (q.den * r.num)) := by
 have h1 := v1D q (by have := v1i hq zE; omega)
 have h2 := v1D r (by have := v1i hr zE; omega)
 have m1 : LI 5000 q.num := hq.1.mono zE
 have m2 : LI 5000 (q.den : Int) := hq.2.mono zE
 have m3 : LI 5000 r.num := hr.1.mono zE
 have m4 : LI 5000 (r.den : Int) := hr.2.mono zE
 have t1 := w0j _ _ m1 m4
 have t2 := w0j _ _ m3 m2
 have t3 := w0j _ _ m2 m4
 have t4 := w0j _ _ m1 m3
 have t5 := w0j _ _ m2 m3
 refine j0s _ Tryz.func78 rfl rfl Tryz.ntmps78 rfl fun w Z => ?_
 refine zU ?_
 refine wk ?_
 refine j0j (j0S (is := [0, 1, 2, 3, 4]) (xs := [_, _, _, _, _]) (vs := [_, _, _, _, _]) (us := [_, _, _, _, _]) (row := fun i _ => vS (match i with | 0 => itoa (q.num * r.den) | 1 => itoa (r.num * q.den) | 2 => itoa (q.den * r.den) | 3 => itoa (q.num * r.num) | _ => itoa (q.den * r.num))) (V1e _ _ _ _ _) rfl rfl rfl (fun i hi j hj => by
  obtain rfl : j = 0 := zO
  rcases (by omega : i = 0 ∨ i = 1 ∨ i = 2 ∨ i = 3 ∨ i = 4) with rfl | rfl | rfl | rfl | rfl <;> exact ⟨_, rfl, rfl⟩)) rfl ?_
 refine wk ?_
 exact zV
theorem rtx_0 : rtx 0 = [48] := by
 have := Y0B 0
 rw [show ((0 : Int) : Rat) = 0 from rfl] at this
 rw [this, j0E (by decide)]; exact y0i
theorem z0d (q r : Rat) (hq : LR 900 q) (hr : LR 900 r) : CtrA Tryz.prog 34 [vR q, vR r] (vi (rsg (q - r))) := by
 have h1 := j1t q r hq hr
 have h2 := q1D (q.num * r.den) (r.num * q.den) ((hq.1.mul hr.2).mono zE) ((hr.1.mul hq.2).mono zE)
 rw [v1s] at h2
 unfold Z1J at h1
 refine j0s _ Tryz.func34 rfl rfl Tryz.ntmps34 rfl fun w Z => ?_
 refine zU ?_
 refine wk ?_
 exact zV
theorem z0e (n : Int) (hn : -9223372036854775807 ≤ n ∧ n ≤ 9223372036854775807) : CtrA Tryz.prog 13 [vi n] (vR (n : Rat)) := by
 have h1 := W1I n hn
 rw [vR, Y0B]
 refine j0s _ Tryz.func13 rfl rfl Tryz.ntmps13 rfl fun w Z => ?_
 refine zU ?_
 refine wk ?_
 exact zV
end Go.Proofs.YtfggdokihnopeaaGreatDoor
