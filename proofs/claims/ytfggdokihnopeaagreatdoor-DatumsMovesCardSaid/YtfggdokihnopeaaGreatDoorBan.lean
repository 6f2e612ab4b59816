/- A part of the proof. -/
import Derived.Lib.AtoiAll
import Derived.Lib.Atoi
import Derived.Test.YtfggdokihnopeaaGreatDoorBag
import Derived.Test.YtfggdokihnopeaaGreatDoorBah
import Derived.Test.YtfggdokihnopeaaGreatDoorBak
set_option linter.unusedVariables false
set_option linter.unusedSimpArgs false
namespace Go.Na
open Go.Lib
def dvA (a : Nat) (l : List UInt8) : Nat := l.foldl (fun a b => a * 10 + (b.toNat - 48)) a
def dv (l : List UInt8) : Nat := dvA 0 l
def isD (b : UInt8) : Prop := 48 ≤ b.toNat ∧ b.toNat ≤ 57
instance (b : UInt8) : Decidable (isD b) := by unfold isD; infer_instance
structure Can (l : List UInt8) : Prop where
 ne : l ≠ []
 dig : ∀ b ∈ l, isD b
 hd : ∀ r, l = 48 :: r → r = []
theorem K0L (a : Nat) (l m : List UInt8) : dvA a (l ++ m) = dvA (dvA a l) m := by simp [dvA]
theorem z0l (l : List UInt8) (b : UInt8) : dv (l ++ [b]) = dv l * 10 + (b.toNat - 48) := by simp [dv, dvA]
theorem X1t (a : Nat) : ∀ l : List UInt8, dvA a l = a * 10 ^ l.length + dv l := by
 intro l
 induction l generalizing a with
 |nil => simp [dvA, dv]
 |cons b l ih =>
  show dvA (a * 10 + (b.toNat - 48)) l = a * 10 ^ (l.length + 1) + dvA (0 * 10 + (b.toNat - 48)) l
  rw [ih, ih (0 * 10 + (b.toNat - 48)), Nat.pow_succ, Nat.zero_mul, Nat.zero_add, Nat.add_mul, Nat.mul_assoc, Nat.mul_comm 10, Nat.add_assoc]
theorem v0b (l m : List UInt8) : dv (l ++ m) = dv l * 10 ^ m.length + dv m := by
 rw [show dv (l ++ m) = dvA (dv l) m from K0L 0 l m, X1t]
theorem x0s : ∀ l : List UInt8, (∀ b ∈ l, isD b) → dv l < 10 ^ l.length := by
 intro l
 induction l with
 |nil => intro _; simp [dv, dvA]
 |cons b l ih =>
  intro h
  have h1 := ih fun c hc => h c (by simp [hc])
  have h2 := (h b (by simp)).2
  rw [show b :: l = [b] ++ l from rfl, v0b, show ([b] ++ l).length = l.length + 1 by simp, Nat.pow_succ]
  have : dv [b] = b.toNat - 48 := by simp [dv, dvA]
  rw [this]
  have : (b.toNat - 48) * 10 ^ l.length ≤ 9 * 10 ^ l.length := Nat.mul_le_mul_right _ (by omega)
  omega
theorem u8d (k : Nat) (h : k < 10) : (UInt8.ofNat (48 + k)).toNat = 48 + k := by
 rw [UInt8.toNat_ofNat']; omega
theorem j0P : ∀ u : Nat, ∀ b ∈ decDigits u, isD b := by
 intro u
 induction u using Nat.strongRecOn with
 |_ u ih =>
  intro b hb
  rw [decDigits] at hb
  split at hb
  ·rename_i h
   rw [List.mem_singleton.1 hb]
   unfold isD; rw [u8d u h]; omega
  ·rename_i h
   rcases List.mem_append.1 hb with h1 | h1
   ·exact ih (u / 10) (by omega) b h1
   ·rw [List.mem_singleton.1 h1]
    unfold isD; rw [u8d _ (Nat.mod_lt _ (by omega))]; have := Nat.mod_lt u (show 10 > 0 by omega); omega
theorem q0j : ∀ u : Nat, dv (decDigits u) = u := by
 intro u
 induction u using Nat.strongRecOn with
 |_ u ih =>
  rw [decDigits]
  split
  ·rename_i h
   simp only [dv, dvA, List.foldl_cons, List.foldl_nil]
   rw [u8d u h]; omega
  ·rename_i h
   rw [z0l, ih (u / 10) (by omega), u8d _ (Nat.mod_lt _ (by omega))]
   omega
theorem w0B (u : Nat) : decDigits u ≠ [] := by
 intro h
 have := decDigits_length u
 have := nDigits_pos u
 rw [h] at *
 simp at *
 omega
theorem q1v : ∀ u : Nat, ∀ r, decDigits u = 48 :: r → r = [] := by
 intro u
 induction u using Nat.strongRecOn with
 |_ u ih =>
  intro r h
  rw [decDigits] at h
  split at h
  ·injection h with _ h; exact h.symm
  ·rename_i hu
   cases hd : decDigits (u / 10) with
   |nil => exact absurd hd (w0B _)
   |cons c s =>
    rw [hd] at h
    simp only [List.cons_append, List.cons.injEq] at h
    have := ih (u / 10) (by omega) s (by rw [hd, h.1])
    subst this
    have hv := q0j (u / 10)
    rw [hd, h.1] at hv
    simp [dv, dvA] at hv
    omega
theorem Q1o (u : Nat) : Can (decDigits u) := ⟨w0B u, j0P u, q1v u⟩
theorem ofd {b : UInt8} (h : isD b) : UInt8.ofNat (48 + (b.toNat - 48)) = b := by
 apply UInt8.toNat_inj.1
 have := h.1; have := h.2
 rw [u8d _ (by omega)]; omega
theorem X1w {l : List UInt8} (h : Can l) (h0 : l ≠ [48]) : 0 < dv l := by
 cases l with
 |nil => exact absurd rfl h.ne
 |cons b r =>
  rw [show b :: r = [b] ++ r from rfl, v0b]
  have hb := h.dig b (by simp)
  have : dv [b] = b.toNat - 48 := by simp [dv, dvA]
  rw [this]
  have hp : 0 < 10 ^ r.length := Nat.pow_pos (by decide)
  by_cases hz : b.toNat = 48
  ·have : b = 48 := UInt8.toNat_inj.1 hz
   subst this
   have := h.hd r rfl
   subst this
   exact absurd rfl h0
  ·have h1 := hb.1
   have : 1 * 10 ^ r.length ≤ (b.toNat - 48) * 10 ^ r.length := Nat.mul_le_mul_right _ (by omega)
   omega
theorem k0e : ∀ n : Nat, ∀ l : List UInt8, l.length = n → Can l → decDigits (dv l) = l := by
 intro n
 induction n with
 |zero => intro l hl h; exact absurd (List.length_eq_zero_iff.1 hl) h.ne
 |succ n ih =>
  intro l hl h
  have hs := List.dropLast_concat_getLast h.ne
  generalize hm : l.dropLast = m at hs
  generalize l.getLast h.ne = b at hs
  subst hs
  have hb := h.dig b (by simp)
  rw [z0l]
  cases m with
  |nil =>
   have : dv [] = 0 := rfl
   rw [this, decDigits, dif_pos (by have := hb.2; omega), Nat.zero_mul, Nat.zero_add, ofd hb]; rfl
  |cons c s =>
   have hc : Can (c :: s) := ⟨by simp, fun x hx => h.dig x (List.mem_append_left _ hx), fun r hr => by
    injection hr with h1 h2
    subst h1
    have := h.hd (s ++ [b]) rfl
    simp at this⟩
   have hne : c :: s ≠ [48] := by
    intro he
    rw [he] at h
    have := h.hd [b] rfl
    simp at this
   have hp := X1w hc hne
   have h2 := hb.2
   rw [decDigits, dif_neg (by omega)]
   have e1 : (dv (c :: s) * 10 + (b.toNat - 48)) / 10 = dv (c :: s) := by omega
   have e2 : (dv (c :: s) * 10 + (b.toNat - 48)) % 10 = b.toNat - 48 := by omega
   rw [e1, e2, ih (c :: s) (by simp at hl ⊢; omega) hc, ofd hb]
theorem Q1p {l : List UInt8} : Can l ↔ ∃ u, l = decDigits u := ⟨fun h => ⟨dv l, (k0e _ l rfl h).symm⟩, fun ⟨u, h⟩ => h ▸ Q1o u⟩
theorem Y0Q {u v : Nat} (h : decDigits u = decDigits v) : u = v := by rw [← q0j u, h, q0j]
theorem x0a {m n : Int} (h : itoa m = itoa n) : m = n := by
 unfold itoa at h
 have hx : ∀ a b : Nat, 45 :: decDigits a ≠ decDigits b := fun a b e => by
  have := j0P b 45 (by rw [← e]; simp)
  exact absurd this (by decide)
 split at h <;> split at h
 ·injection h with _ h
  have := Y0Q h; omega
 ·exact absurd h (hx _ _)
 ·exact absurd h.symm (hx _ _)
 ·have := Y0Q h; omega
def rtx (q : Rat) : List UInt8 := if q.den = 1 then itoa q.num else itoa q.num ++ 47 :: decDigits q.den
theorem y1x (n : Int) : ∀ b ∈ itoa n, isD b ∨ b = 45 := fun b hb => by
 unfold itoa at hb
 split at hb
 ·rcases List.mem_cons.1 hb with h | h
  ·exact .inr h
  ·exact .inl (j0P _ b h)
 ·exact .inl (j0P _ b hb)
theorem v1x (n : Int) : (47 : UInt8) ∉ itoa n := fun h => by
 rcases y1x n 47 h with h | h
 ·exact absurd h (by decide)
 ·exact absurd h (by decide)
theorem w1H {a b c d : List UInt8} (ha : (47 : UInt8) ∉ a) (hc : (47 : UInt8) ∉ c) (h : a ++ 47 :: b = c ++ 47 :: d) : a = c ∧ b = d := by
 induction a generalizing c with
 |nil =>
  cases c with
  |nil => simp at h; exact ⟨rfl, h⟩
  |cons x c => simp at h; exact absurd (by rw [h.1]; simp) hc
 |cons y a ih =>
  cases c with
  |nil => simp at h; exact absurd (by rw [h.1]; simp) ha
  |cons x c =>
   simp at h
   obtain ⟨e1, e2⟩ := ih (fun q => ha (by simp [q])) (fun q => hc (by simp [q])) h.2
   exact ⟨by rw [h.1, e1], e2⟩
theorem rtx_inj {p q : Rat} (h : rtx p = rtx q) : p = q := by
 unfold rtx at h
 split at h <;> split at h
 ·rename_i h1 h2
  exact Rat.ext (x0a h) (h1.trans h2.symm)
 ·exact absurd (h ▸ (by simp : (47 : UInt8) ∈ itoa q.num ++ 47 :: decDigits q.den)) (v1x _)
 ·exact absurd (h ▸ (by simp : (47 : UInt8) ∈ itoa p.num ++ 47 :: decDigits p.den)) (v1x _)
 ·obtain ⟨e1, e2⟩ := w1H (v1x _) (v1x _) h
  exact Rat.ext (x0a e1) (Y0Q e2)
theorem v0i (n : Nat) : itoa (n : Int) = decDigits n := by unfold itoa; rw [if_neg (by omega)]; simp
theorem V1G {n d g : Int} (hd : d ≠ 0) (hg : g = if d < 0 then -((Int.gcd n d : Nat) : Int) else ((Int.gcd n d : Nat) : Int)) : rtx (Rat.divInt n d) = if d / g = 1 then itoa (n / g) else itoa (n / g) ++ 47 :: itoa (d / g) := by
 have h1 : (Rat.divInt n d).num = n / g := by
  rw [Rat.num_divInt, Int.gcd_comm d n, hg]
  split
  ·rename_i h
   rw [Int.sign_eq_neg_one_of_neg h, Int.ediv_neg, Int.neg_mul, Int.one_mul]
   exact Int.neg_ediv_of_dvd (Int.gcd_dvd_left ..)
  ·rename_i h
   rw [Int.sign_eq_one_of_pos (by omega), Int.one_mul]
 have h2 : ((Rat.divInt n d).den : Int) = d / g := by
  rw [Rat.den_divInt, if_neg hd, Int.gcd_comm d n, hg, Int.natCast_ediv]
  split
  ·rename_i h
   rw [Int.ediv_neg, show ((d.natAbs : Nat) : Int) = -d by omega]
   exact Int.neg_ediv_of_dvd (Int.gcd_dvd_right ..)
  ·rename_i h
   rw [show ((d.natAbs : Nat) : Int) = d by omega]
 unfold rtx
 rw [← h1, ← h2, v0i]
 by_cases h : (Rat.divInt n d).den = 1
 ·rw [if_pos h, if_pos (by omega)]
 ·rw [if_neg h, if_neg (by omega)]
end Go.Na
namespace Go.Na
theorem j0S {m n q r : Int} (h : m = q * n + r) (hr : (0 ≤ r ∧ r < n) ∨ (n < r ∧ r ≤ 0)) : m.fdiv n = q ∧ m.fmod n = r := by
 have h2 : ∀ {m n q r : Int}, m = q * n + r → 0 ≤ r → r < n → m.fdiv n = q := by
  intro m n q r h h0 h1
  rw [Int.fdiv_eq_ediv_of_nonneg _ (by omega)]
  have := (Int.ediv_emod_unique (a := m) (b := n) (r := r) (q := q) (by omega)).2 ⟨by rw [h, Int.mul_comm]; omega, h0, h1⟩
  exact this.1
 have hq : m.fdiv n = q := by
  rcases hr with ⟨h0, h1⟩ | ⟨h0, h1⟩
  ·exact h2 h h0 h1
  ·rw [← Int.neg_fdiv_neg]
   exact h2 (r := -r) (by rw [h, Int.mul_neg]; omega) (by omega) (by omega)
 refine ⟨hq, ?_⟩
 have := Int.mul_fdiv_add_fmod m n
 rw [hq] at this
 rw [Int.mul_comm] at this
 omega
theorem J0l {m n : Int} (h : n ∣ m) : m.fdiv n = m / n := by
 rw [Int.fdiv_eq_ediv, if_pos (.inr h)]; omega
abbrev B : Int := 1000000000
def vw (f : Nat → Int) : Nat → Int
 |0 => 0
 |n + 1 => vw f n + f n * B ^ n
theorem X0b {f g : Nat → Int} : ∀ {n : Nat}, (∀ i, i < n → f i = g i) → vw f n = vw g n
 |0, _ => rfl
 |n + 1, h => by
  show vw f n + f n * B ^ n = vw g n + g n * B ^ n
  rw [X0b fun i hi => h i (by omega), h n (by omega)]
theorem J1Z {f g : Nat → Int} {k : Nat} (ho : ∀ i, i ≠ k → g i = f i) : ∀ {n : Nat}, k < n → vw g n = vw f n + (g k - f k) * B ^ k
 |0, h => by omega
 |n + 1, h => by
  show vw g n + g n * B ^ n = vw f n + f n * B ^ n + (g k - f k) * B ^ k
  by_cases hk : k = n
  ·subst hk
   rw [X0b fun i hi => ho i (by omega), Int.sub_mul]; omega
  ·rw [J1Z ho (show k < n by omega), ho n (fun e => hk e.symm)]; omega
theorem X0l (n : Nat) : 0 < B ^ n := Int.pow_pos (by decide)
theorem x0N {f : Nat → Int} (h : ∀ i, 0 ≤ f i) : ∀ n, 0 ≤ vw f n
 |0 => Int.le_refl 0
 |n + 1 => Int.add_nonneg (x0N h n) (Int.mul_nonneg (h n) (Int.le_of_lt (X0l n)))
theorem z1x {f : Nat → Int} (h0 : ∀ i, 0 ≤ f i) (h : ∀ i, f i < B) : ∀ n, vw f n < B ^ n
 |0 => by show (0 : Int) < B ^ 0; decide
 |n + 1 => by
  have h1 := z1x h0 h n
  have h2 : f n * B ^ n ≤ (B - 1) * B ^ n := Int.mul_le_mul_of_nonneg_right (by have := h n; omega) (Int.le_of_lt (X0l n))
  rw [Int.pow_succ]
  show vw f n + f n * B ^ n < B ^ n * B
  rw [Int.sub_mul, Int.one_mul, Int.mul_comm B] at h2
  omega
theorem x1p {f : Nat → Int} {n : Nat} (h : ∀ i, n ≤ i → f i = 0) : ∀ m, vw f (n + m) = vw f n
 |0 => rfl
 |m + 1 => by
  show vw f (n + m) + f (n + m) * B ^ (n + m) = _
  rw [x1p h m, h (n + m) (by omega)]; simp
theorem w1e {f : Nat → Int} {j m n : Nat} {V r : Int} (h0 : ∀ i, 0 ≤ f i) (h1 : ∀ i, f i < B) (hz : ∀ i, j ≤ i → f i = 0) (hm : m ≤ j) (hV0 : 0 ≤ V) (hV : V < B ^ m) (hj : j ≤ n) (he : vw f n + r * B ^ j = V) : r = 0 := by
 have e1 : vw f n = vw f j := by
  have := x1p hz (n - j)
  rwa [show j + (n - j) = n by omega] at this
 have h2 := z1x h0 h1 j
 have h3 := x0N h0 j
 have h4 : B ^ m ≤ B ^ j := by
  rw [show j = m + (j - m) by omega, Int.pow_add]
  have := X0l (j - m)
  have h5 : B ^ m * 1 ≤ B ^ m * B ^ (j - m) := Int.mul_le_mul_of_nonneg_left (by omega) (Int.le_of_lt (X0l m))
  omega
 have hp := X0l j
 rcases Int.lt_trichotomy r 0 with h | h | h
 ·have : r * B ^ j ≤ (-1) * B ^ j := Int.mul_le_mul_of_nonneg_right (by omega) (Int.le_of_lt hp)
  omega
 ·exact h
 ·have : 1 * B ^ j ≤ r * B ^ j := Int.mul_le_mul_of_nonneg_right (by omega) (Int.le_of_lt hp)
  omega
theorem K0E {f f' g : Nat → Int} {i u N : Nat} {c V r s r' : Int} (hj : i + u < N) (he : vw f N + r * B ^ (i + u) = V + c * vw g i * B ^ u)
  (hs : s = f (i + u) + r + c * g i) (hf : f' (i + u) + r' * B = s) (ho : ∀ k, k ≠ i + u → f' k = f k) : vw f' N + r' * B ^ (i + 1 + u) = V + c * vw g (i + 1) * B ^ u := by
 rw [J1Z ho hj, show i + 1 + u = (i + u) + 1 by omega, Int.pow_succ]
 show _ = V + c * (vw g i + g i * B ^ i) * B ^ u
 have e : B ^ (i + u) = B ^ i * B ^ u := Int.pow_add ..
 rw [e] at he ⊢
 have e2 : f' (i + u) = s - r' * B := by omega
 rw [e2, hs]
 generalize B ^ i = p at he ⊢
 generalize B ^ u = q at he ⊢
 grind
theorem w0Q (s : Int) : let r := s.tdiv B; let t := s - r * B; (0 ≤ t → t < B ∧ t + r * B = s) ∧ (t < 0 → 0 ≤ t + B ∧ t + B < B ∧ (t + B) + (r - 1) * B = s) := by
 intro r t
 have h4 : t = s - r * 1000000000 := rfl
 have h5 : r = s.tdiv 1000000000 := rfl
 clear_value r t
 have h3 : -1000000000 < t ∧ t < 1000000000 := by
  rcases Int.le_total 0 s with h | h
  ·rw [Int.tdiv_eq_ediv_of_nonneg h] at h5; omega
  ·have : s = -(-s) := by omega
   rw [this, Int.neg_tdiv, Int.tdiv_eq_ediv_of_nonneg (by omega)] at h5; omega
 show (0 ≤ t → t < 1000000000 ∧ t + r * 1000000000 = s) ∧ (t < 0 → 0 ≤ t + 1000000000 ∧ t + 1000000000 < 1000000000 ∧ (t + 1000000000) + (r - 1) * 1000000000 = s)
 refine ⟨fun h => ⟨by omega, by omega⟩, fun h => ⟨by omega, by omega, by omega⟩⟩
theorem Z1z {f : Nat → Int} {n N : Nat} (h0 : ∀ i, 0 ≤ f i) (hN : n + 2 ≤ N) : (f (n + 1) * B + f n) * B ^ n ≤ vw f N := by
 have h1 : ∀ m, vw f (n + 2) ≤ vw f (n + 2 + m) := fun m => by
  induction m with
  |zero => exact Int.le_refl _
  |succ m ih => exact Int.le_trans ih (by
    show vw f (n + 2 + m) ≤ vw f (n + 2 + m) + f (n + 2 + m) * B ^ (n + 2 + m)
    have := Int.mul_nonneg (h0 (n + 2 + m)) (Int.le_of_lt (X0l (n + 2 + m)))
    omega)
 have h2 := h1 (N - (n + 2))
 rw [show n + 2 + (N - (n + 2)) = N by omega] at h2
 refine Int.le_trans ?_ h2
 show _ ≤ vw f n + f n * B ^ n + f (n + 1) * B ^ (n + 1)
 have h3 := x0N h0 n
 have e : (f (n + 1) * B + f n) * B ^ n = f n * B ^ n + f (n + 1) * B ^ (n + 1) := by
  rw [Int.pow_succ]
  generalize B ^ n = p
  grind
 omega
theorem X1B {f g : Nat → Int} {n N : Nat} {b k : Int} (h0 : ∀ i, 0 ≤ f i) (hg0 : ∀ i, 0 ≤ g i) (hg : ∀ i, g i < B) (hN : n + 2 ≤ N) (hb : b = if n = 0 then g n else g n + 1) (hb0 : 0 < b) (hk0 : 0 ≤ k) (hk : k ≤ (f (n + 1) * B + f n) / b) : k * vw g (n + 1) ≤ vw f N := by
 have h1 := Z1z h0 hN
 have hp := X0l n
 have h2 : vw g (n + 1) ≤ b * B ^ n := by
  show vw g n + g n * B ^ n ≤ b * B ^ n
  by_cases hn : n = 0
  ·subst hn
   rw [if_pos rfl] at hb
   subst hb
   show 0 + _ ≤ _
   omega
  ·rw [if_neg hn] at hb
   have := z1x hg0 hg n
   rw [hb, Int.add_mul, Int.one_mul]; omega
 have h3 : k * b ≤ f (n + 1) * B + f n := by
  have := Int.ediv_mul_le (f (n + 1) * B + f n) (show b ≠ 0 by omega)
  exact Int.le_trans (Int.mul_le_mul_of_nonneg_right hk (Int.le_of_lt hb0)) this
 have h4 : k * vw g (n + 1) ≤ k * (b * B ^ n) := Int.mul_le_mul_of_nonneg_left h2 hk0
 have h5 : k * (b * B ^ n) ≤ (f (n + 1) * B + f n) * B ^ n := by
  rw [← Int.mul_assoc]; exact Int.mul_le_mul_of_nonneg_right h3 (Int.le_of_lt hp)
 omega
theorem J1Y {f g : Nat → Int} (hf0 : ∀ i, 0 ≤ f i) (hf : ∀ i, f i < B) (hg0 : ∀ i, 0 ≤ g i) {i : Nat} (hlt : f i < g i) : ∀ {n : Nat}, i < n → (∀ k, i < k → k < n → f k = g k) → vw f n < vw g n
 |0, h, _ => by omega
 |n + 1, h, hs => by
  show vw f n + f n * B ^ n < vw g n + g n * B ^ n
  by_cases hin : i = n
  ·subst hin
   have h1 := z1x hf0 hf i
   have h2 := x0N hg0 i
   have h3 : (f i + 1) * B ^ i ≤ g i * B ^ i := Int.mul_le_mul_of_nonneg_right (by omega) (Int.le_of_lt (X0l i))
   rw [Int.add_mul, Int.one_mul] at h3
   omega
  ·have := J1Y hf0 hf hg0 hlt (show i < n by omega) fun k h1 h2 => hs k h1 (by omega)
   rw [hs n (by omega) (by omega)]; omega
theorem X0c {f g : Nat → Int} (h : ∀ i, g (i + 1) = f i) : ∀ n, vw g (n + 1) = vw f n * B + g 0
 |0 => by show 0 + g 0 * B ^ 0 = 0 * B + g 0; simp
 |n + 1 => by
  show vw g (n + 1) + g (n + 1) * B ^ (n + 1) = (vw f n + f n * B ^ n) * B + g 0
  rw [X0c h n, h n, Int.pow_succ]
  generalize B ^ n = p
  grind
end Go.Na
namespace Go.Na
open Go.Lib
def pad (k : Nat) : List UInt8 := List.replicate (9 - (decDigits k).length) 48 ++ decDigits k
theorem v0q {k : Nat} : ∀ {n : Nat}, k < 10 ^ n → 0 < n → (decDigits k).length ≤ n := by
 induction k using Nat.strongRecOn with
 |_ k ih =>
  intro n h hn
  rw [decDigits]
  split
  ·simp; omega
  ·rename_i hk
   have hn1 : 1 < n := by
    rcases Nat.lt_or_ge 1 n with h1 | h1
    ·exact h1
    ·have : n = 1 := by omega
     subst this; omega
   obtain ⟨m, rfl⟩ : ∃ m, n = m + 1 := ⟨n - 1, by omega⟩
   rw [Nat.pow_succ] at h
   have := ih (k / 10) (by omega) (n := m) (by omega) (by omega)
   simp; omega
theorem Z0o {k : Nat} (h : k < 1000000000) : (pad k).length = 9 := by
 have := v0q (n := 9) h (by decide)
 simp [pad]; omega
theorem z1T (n : Nat) : dv (List.replicate n 48) = 0 := by
 induction n with
 |zero => rfl
 |succ n ih => rw [List.replicate_succ', z0l, ih]; decide
theorem X1v (k : Nat) : dv (pad k) = k := by
 rw [pad, v0b, z1T, q0j]; simp
theorem V1t (k : Nat) : ∀ b ∈ pad k, isD b := fun b hb => by
 rcases List.mem_append.1 hb with h | h
 ·rw [(List.mem_replicate.1 h).2]; decide
 ·exact j0P k b h
def tl (f : Nat → Int) : Nat → List UInt8
 |0 => []
 |n + 1 => pad (f n).toNat ++ tl f n
theorem x1d {f : Nat → Int} (h : ∀ i, f i < B) : ∀ n, (tl f n).length = 9 * n
 |0 => rfl
 |n + 1 => by
  have h1 : f n < 1000000000 := h n
  rw [tl, List.length_append, x1d h n, Z0o (by omega)]; omega
theorem J1Q (f : Nat → Int) : ∀ n, ∀ b ∈ tl f n, isD b
 |0, b, hb => by simp [tl] at hb
 |n + 1, b, hb => (List.mem_append.1 hb).elim (V1t _ b) (J1Q f n b)
theorem K1r (n : Nat) : ((10 ^ (9 * n) : Nat) : Int) = B ^ n := by
 rw [Nat.pow_mul]; simp
theorem X1x {f : Nat → Int} (h0 : ∀ i, 0 ≤ f i) (h : ∀ i, f i < B) : ∀ n, ((dv (tl f n) : Nat) : Int) = vw f n
 |0 => rfl
 |n + 1 => by
  have := h0 n
  rw [tl, v0b, X1v, x1d h, Int.natCast_add, Int.natCast_mul, X1x h0 h n, K1r, Int.toNat_of_nonneg (h0 n)]
  show _ = vw f n + f n * B ^ n
  omega
theorem W1c {f : Nat → Int} (h0 : ∀ i, 0 ≤ f i) (h : ∀ i, f i < B) {n : Nat} (hn : f n ≠ 0) : decDigits (f n).toNat ++ tl f n = decDigits (vw f (n + 1)).toNat := by
 have hp := h0 n
 have hc : Can (decDigits (f n).toNat ++ tl f n) := ⟨by simp [w0B], fun b hb => (List.mem_append.1 hb).elim (j0P _ b) (J1Q f n b), fun r hr => by
  cases hd : decDigits (f n).toNat with
  |nil => exact absurd hd (w0B _)
  |cons c s =>
   rw [hd] at hr
   injection hr with h1 h2
   subst h1
   have := q1v _ s hd
   subst this
   have hv := q0j (f n).toNat
   rw [hd] at hv
   simp [dv, dvA] at hv
   omega⟩
 rw [← k0e _ _ rfl hc]
 congr 1
 have h1 : ((dv (decDigits (f n).toNat ++ tl f n) : Nat) : Int) = vw f (n + 1) := by
  rw [v0b, q0j, x1d h, Int.natCast_add, Int.natCast_mul, X1x h0 h n, K1r, Int.toNat_of_nonneg (h0 n)]
  show _ = vw f n + f n * B ^ n
  omega
 rw [← h1]; simp
theorem w1b {s : List UInt8} (h : ∀ b ∈ s, isD b) : dv s = dv (s.take (s.length - 9)) * 1000000000 + dv (s.drop (s.length - 9)) ∧ dv (s.drop (s.length - 9)) < 1000000000 := by
 constructor
 ·have e := v0b (s.take (s.length - 9)) (s.drop (s.length - 9))
  rw [List.take_append_drop] at e
  by_cases hl : 9 ≤ s.length
  ·rw [show (s.drop (s.length - 9)).length = 9 by simp; omega] at e
   exact e
  ·rw [show s.length - 9 = 0 by omega] at e ⊢
   simp [dv, dvA]
 ·have h1 := x0s (s.drop (s.length - 9)) fun b hb => h b (List.mem_of_mem_drop hb)
  have h2 : (10 : Nat) ^ (s.drop (s.length - 9)).length ≤ 10 ^ 9 := Nat.pow_le_pow_right (by decide) (by simp; omega)
  exact Nat.lt_of_lt_of_le h1 h2
theorem X1u (b : UInt8) : dv [b] = b.toNat - 48 := by simp [dv, dvA]
theorem x0r (b : UInt8) (l : List UInt8) : dv (b :: l) = (b.toNat - 48) * 10 ^ l.length + dv l := by
 rw [show b :: l = [b] ++ l from rfl, v0b, X1u]
theorem dgI {b : UInt8} (h : isD b) : 0 ≤ ((b.toNat : Int) - 48) ∧ ((b.toNat : Int) - 48) ≤ 9 := by
 have := h.1; have := h.2; omega
theorem x0Q {u v : Nat} (h : (decDigits u).length < (decDigits v).length) : u < v := by
 rcases Nat.lt_or_ge u v with h1 | h1
 ·exact h1
 ·exfalso
  have h2 := x0s _ (j0P u)
  rw [q0j] at h2
  have h3 : 0 < (decDigits u).length := List.length_pos_iff.2 (w0B u)
  have := v0q (k := v) (n := (decDigits u).length) (by omega) h3
  omega
def LI (k : Nat) (m : Int) : Prop := m.natAbs < 10 ^ k
theorem LI.len {k : Nat} {m : Int} (h : LI k m) (hk : 0 < k) : (decDigits m.natAbs).length ≤ k := v0q h hk
theorem LI.of_len {k : Nat} {m : Int} (h : (decDigits m.natAbs).length ≤ k) : LI k m := by
 have hlt := x0s _ (j0P m.natAbs)
 rw [q0j] at hlt
 exact Nat.lt_of_lt_of_le hlt (Nat.pow_le_pow_right (by decide) h)
theorem LI.mono {k l : Nat} {m : Int} (h : LI k m) (hl : k ≤ l) : LI l m := Nat.lt_of_lt_of_le h (Nat.pow_le_pow_right (by decide) hl)
theorem LI.le {k : Nat} {m n : Int} (h : LI k m) (hl : n.natAbs ≤ m.natAbs) : LI k n := Nat.lt_of_le_of_lt hl h
theorem LI.neg {k : Nat} {m : Int} (h : LI k m) : LI k (-m) := h.le (by omega)
theorem LI.add {k : Nat} {m n : Int} (h : LI k m) (h' : LI k n) : LI (k + 1) (m + n) := by
 unfold LI at *
 rw [Nat.pow_succ]; omega
theorem LI.sub {k : Nat} {m n : Int} (h : LI k m) (h' : LI k n) : LI (k + 1) (m - n) := by
 unfold LI at *
 rw [Nat.pow_succ]; omega
theorem LI.mul {k l : Nat} {m n : Int} (h : LI k m) (h' : LI l n) : LI (k + l) (m * n) := by
 unfold LI at *
 rw [Nat.pow_add, Int.natAbs_mul]
 exact Nat.mul_lt_mul'' h h'
theorem LI.small {k : Nat} {m : Int} (h : m.natAbs < 10) (hk : 0 < k) : LI k m := by
 unfold LI
 have : 10 ^ 1 ≤ 10 ^ k := Nat.pow_le_pow_right (by decide) hk
 omega
def szL : List UInt8 → List UInt8
 |[] => []
 |b :: r => if b = 45 then r else b :: r
structure IsNum (l : List UInt8) : Prop where
 ne : szL l ≠ []
 hd : (szL l).head? = some 48 → l = [48]
 dig : ∀ b ∈ szL l, isD b
theorem q1x {b : UInt8} (h : isD b) : b ≠ 45 := by
 rintro rfl; exact absurd h (by decide)
theorem J0j (u : Nat) : ∃ b r, decDigits u = b :: r ∧ isD b := by
 cases h : decDigits u with
 |nil => exact absurd h (w0B u)
 |cons b r => exact ⟨b, r, rfl, j0P u b (by rw [h]; simp)⟩
theorem V1X (u : Nat) : szL (decDigits u) = decDigits u := by
 obtain ⟨b, r, h, hd⟩ := J0j u
 rw [h, szL, if_neg (q1x hd)]
theorem itoa_neg {m : Int} (h : m < 0) : itoa m = 45 :: decDigits m.natAbs := by unfold itoa; rw [if_pos h]
theorem j0G {m : Int} (h : ¬ m < 0) : itoa m = decDigits m.natAbs := by
 unfold itoa; rw [if_neg h]; congr 1; omega
theorem x0Z (m : Int) : szL (itoa m) = decDigits m.natAbs := by
 by_cases h : m < 0
 ·rw [itoa_neg h, szL, if_pos rfl]
 ·rw [j0G h, V1X]
theorem y0F : decDigits 0 = [48] := by rw [decDigits]; rfl
theorem q1w {u : Nat} (h : (decDigits u).head? = some 48) : u = 0 := by
 cases hd : decDigits u with
 |nil => exact absurd hd (w0B u)
 |cons b r =>
  rw [hd] at h
  simp at h
  subst h
  have := q1v u r hd
  subst this
  have hv := q0j u
  rw [hd] at hv
  simp [dv, dvA] at hv
  exact hv.symm
theorem x0V (m : Int) : IsNum (itoa m) := by
 refine ⟨by rw [x0Z]; exact w0B _, fun h => ?_, by rw [x0Z]; exact j0P _⟩
 rw [x0Z] at h
 have := q1w h
 obtain rfl : m = 0 := by omega
 rw [j0G (by decide)]; exact y0F
theorem x0x (l : List UInt8) : IsNum l ↔ ∃ m : Int, l = itoa m := by
 constructor
 ·intro h
  have hc : Can (szL l) := ⟨h.ne, h.dig, fun r hr => by
   have := h.hd (by rw [hr]; rfl)
   subst this
   have e : szL [48] = [48] := rfl
   rw [e] at hr
   injection hr with _ hr
   exact hr.symm⟩
  obtain ⟨u, hu⟩ := Q1p.1 hc
  cases l with
  |nil => exact absurd rfl h.ne
  |cons b r =>
   by_cases hb : b = 45
   ·subst hb
    have e : szL (45 :: r) = r := by rw [szL, if_pos rfl]
    rw [e] at hu
    have h0 : u ≠ 0 := by
     rintro rfl
     have := h.hd (by rw [e, hu, y0F]; rfl)
     injection this with h1 _
     exact absurd h1 (by decide)
    exact ⟨-(u : Int), by rw [itoa_neg (by omega), hu]; simp⟩
   ·have e : szL (b :: r) = b :: r := by rw [szL, if_neg hb]
    rw [e] at hu
    exact ⟨(u : Int), by rw [hu, v0i]⟩
 ·rintro ⟨m, rfl⟩; exact x0V m
open Classical in
noncomputable def chk (l : List UInt8) : Int := if IsNum l then (if 1024 < (szL l).length then 11 else 0) else 3
theorem y0i {l : List UInt8} (h : ¬ IsNum l) : chk l = 3 := if_neg h
theorem J0L {m : Int} (h : LI 1000 m) : chk (itoa m) = 0 := by
 unfold chk
 rw [if_pos (x0V m), x0Z, if_neg]
 have := h.len (by decide); omega
theorem J0g {l : List UInt8} (h : chk l = 0) : ∃ m : Int, l = itoa m := by
 unfold chk at h
 split at h
 ·rename_i hn; exact (x0x l).1 hn
 ·exact absurd h (by decide)
theorem y0B {l : List UInt8} (hl : l.length ≤ 1000) : chk l = 0 ∨ chk l = 3 := by
 unfold chk
 split
 ·rw [if_neg]
  ·exact .inl rfl
  ·have : (szL l).length ≤ l.length := by
    cases l with
    |nil => simp [szL]
    |cons b r =>
     by_cases hb : b = 45
     ·rw [szL, if_pos hb]; simp
     ·rw [szL, if_neg hb]; exact Nat.le_refl _
   omega
 ·exact .inr rfl
def spI (l : List UInt8) : Option Nat := l.findIdx? (· == 47)
def spN (l : List UInt8) : List UInt8 := match spI l with | some i => l.take i | none => l
def spD (l : List UInt8) : List UInt8 := match spI l with | some i => l.drop (i + 1) | none => [49]
theorem K0k {l : List UInt8} (h : (47 : UInt8) ∉ l) : spI l = none := by
 unfold spI
 rw [List.findIdx?_eq_none_iff]
 intro x hx
 simp
 rintro rfl; exact h hx
theorem z1c {a b : List UInt8} (h : (47 : UInt8) ∉ a) : spI (a ++ 47 :: b) = some a.length := by
 unfold spI
 induction a with
 |nil => rw [List.nil_append, List.findIdx?_cons]; rfl
 |cons x a ih =>
  have hx : (x == 47) = false := by simp; rintro rfl; exact h (by simp)
  rw [List.cons_append, List.findIdx?_cons, hx, ih (fun q => h (by simp [q]))]
  simp
theorem K0j {l : List UInt8} {i : Nat} (h : spI l = some i) : l = l.take i ++ 47 :: l.drop (i + 1) ∧ (47 : UInt8) ∉ l.take i ∧ i < l.length := by
 unfold spI at h
 rw [List.findIdx?_eq_some_iff_getElem] at h
 obtain ⟨hi, h1, h2⟩ := h
 refine ⟨?_, fun hm => ?_, hi⟩
 ·conv => lhs; rw [← List.take_append_drop i l, List.drop_eq_getElem_cons hi]
  simp at h1
  rw [h1]
 ·obtain ⟨k, hk, e⟩ := List.getElem_of_mem hm
  have hk' : k < i := by simp at hk; omega
  have := h2 k hk'
  rw [List.getElem_take] at e
  simp [e] at this
def j1K (l : List UInt8) : Prop := ∃ q : Rat, l = rtx q
theorem Z0u (m : Int) : rtx (m : Rat) = itoa m := by
 unfold rtx
 rw [if_pos (by simp)]
 simp
theorem w1E (q : Rat) : spI (rtx q) = if q.den = 1 then none else some (itoa q.num).length := by
 unfold rtx
 split
 ·exact K0k (v1x _)
 ·exact z1c (v1x _)
theorem w1G (q : Rat) : spN (rtx q) = itoa q.num := by
 unfold spN
 rw [w1E]
 by_cases h : q.den = 1
 ·rw [if_pos h]; simp only [rtx, if_pos h]
 ·rw [if_neg h]; simp only [rtx, if_neg h]; simp
theorem w1D (q : Rat) : spD (rtx q) = itoa (q.den : Int) := by
 unfold spD
 rw [w1E, v0i]
 by_cases h : q.den = 1
 ·rw [if_pos h, h]; rw [decDigits]; rfl
 ·rw [if_neg h]; simp only [rtx, if_neg h]; simp
theorem X0M (m e : Int) : j1K (itoa m ++ 47 :: itoa e) ↔ 1 < e ∧ Int.gcd m e = 1 := by
 constructor
 ·rintro ⟨q, hq⟩
  unfold rtx at hq
  split at hq
  ·exact absurd (hq ▸ (by simp : (47 : UInt8) ∈ itoa m ++ 47 :: itoa e)) (v1x _)
  ·rename_i h1
   obtain ⟨e1, e2⟩ := w1H (v1x _) (v1x _) hq
   rw [← v0i] at e2
   have hm := x0a e1
   have he := x0a e2
   have := q.den_nz
   subst hm he
   exact ⟨by omega, by have := q.reduced; unfold Nat.Coprime at this; exact this⟩
 ·rintro ⟨h1, h2⟩
  refine ⟨⟨m, e.toNat, by omega, ?_⟩, ?_⟩
  ·unfold Nat.Coprime
   rw [show e.toNat = e.natAbs by omega]; exact h2
  ·unfold rtx
   have hne : ¬ (e.toNat = 1) := by omega
   rw [if_neg hne, ← v0i]
   show _ = itoa m ++ 47 :: itoa ((e.toNat : Nat) : Int)
   rw [Int.toNat_of_nonneg (by omega)]
theorem X0N (m : Int) : j1K (itoa m) := ⟨m, (Z0u m).symm⟩
theorem w0Z {l : List UInt8} (h : j1K l) : IsNum (spN l) ∧ IsNum (spD l) := by
 obtain ⟨q, rfl⟩ := h
 rw [w1G, w1D]
 exact ⟨x0V _, x0V _⟩
open Classical in
noncomputable def q0T (l : List UInt8) : Int := if j1K l then 0 else 3
theorem j0u (q : Rat) : q0T (rtx q) = 0 := if_pos ⟨q, rfl⟩
theorem w0e {l : List UInt8} (h : ¬ j1K l) : q0T l = 3 := if_neg h
def LR (k : Nat) (q : Rat) : Prop := LI k q.num ∧ LI k (q.den : Int)
theorem LR.mono {k l : Nat} {q : Rat} (h : LR k q) (hl : k ≤ l) : LR l q := ⟨h.1.mono hl, h.2.mono hl⟩
theorem v0Q {k : Nat} {n d : Int} (hd : d ≠ 0) (hn : LI k n) (hdd : LI k d) : LR k (Rat.divInt n d) := by
 have hg : 0 < d.gcd n := Nat.pos_of_ne_zero fun h => hd (Int.gcd_eq_zero_iff.1 h).1
 constructor
 ·refine hn.le ?_
  rw [Rat.num_divInt]
  have h1 : ((d.gcd n : Nat) : Int) ∣ d.sign * n := Int.dvd_mul_of_dvd_right (Int.gcd_dvd_right ..)
  have h2 := Int.ediv_mul_cancel h1
  generalize d.sign * n / ((d.gcd n : Nat) : Int) = a at h2
  have h3 := congrArg Int.natAbs h2
  rw [Int.natAbs_mul, Int.natAbs_mul, Int.natAbs_natCast, Int.natAbs_sign_of_ne_zero hd, Nat.one_mul] at h3
  rw [← h3]
  exact Nat.le_mul_of_pos_right _ hg
 ·refine hdd.le ?_
  rw [Rat.den_divInt, if_neg hd, Int.natAbs_natCast]
  exact Nat.div_le_self ..
theorem sub_eq (q r : Rat) : q - r = Rat.divInt (q.num * r.den - r.num * q.den) (q.den * r.den) := by
 conv => lhs; rw [← Rat.num_divInt_den q, ← Rat.num_divInt_den r]
 rw [Rat.divInt_sub_divInt _ _ (by have := q.den_nz; omega) (by have := r.den_nz; omega)]
theorem add_eq (q r : Rat) : q + r = Rat.divInt (q.num * r.den + r.num * q.den) (q.den * r.den) := by
 conv => lhs; rw [← Rat.num_divInt_den q, ← Rat.num_divInt_den r]
 rw [Rat.divInt_add_divInt _ _ (by have := q.den_nz; omega) (by have := r.den_nz; omega)]
theorem mul_eq (q r : Rat) : q * r = Rat.divInt (q.num * r.num) (q.den * r.den) := by
 conv => lhs; rw [← Rat.num_divInt_den q, ← Rat.num_divInt_den r]
 rw [Rat.divInt_mul_divInt]
theorem div_eq (q r : Rat) : q / r = Rat.divInt (q.num * r.den) (q.den * r.num) := by
 conv => lhs; rw [Rat.div_def, ← Rat.num_divInt_den q, ← Rat.num_divInt_den r, Rat.inv_divInt]
 rw [Rat.divInt_mul_divInt]
theorem LR.sub {k : Nat} {q r : Rat} (h : LR k q) (h' : LR k r) : LR (k + k + 1) (q - r) := by
 rw [sub_eq]
 exact v0Q (by have := q.den_nz; have := r.den_nz; simp; omega) ((h.1.mul h'.2).sub (h'.1.mul h.2)) ((h.2.mul h'.2).mono (by omega))
theorem LR.int {k : Nat} {m : Int} (h : LI k m) (hk : 0 < k) : LR k (m : Rat) := by
 constructor
 ·simpa using h
 ·simp; exact .small (by decide) hk
theorem LR.neg {k : Nat} {q : Rat} (h : LR k q) : LR k (-q) := ⟨by rw [Rat.neg_num]; exact h.1.neg, by rw [Rat.neg_den]; exact h.2⟩
def rsg (q : Rat) : Int := if q.num = 0 then 0 else if q.num < 0 then -1 else 1
def sgn (m : Int) : Int := if m = 0 then 0 else if m < 0 then -1 else 1
theorem j1r (n d : Int) (hd : 0 < d) : rsg (Rat.divInt n d) = sgn n := by
 unfold rsg sgn
 have hg : 0 < d.gcd n := Nat.pos_of_ne_zero fun h => by have := (Int.gcd_eq_zero_iff.1 h).1; omega
 have h1 : ((d.gcd n : Nat) : Int) ∣ n := Int.gcd_dvd_right ..
 have h2 := Int.ediv_mul_cancel h1
 have hnum : (Rat.divInt n d).num = n / ((d.gcd n : Nat) : Int) := by
  rw [Rat.num_divInt, Int.sign_eq_one_of_pos hd, Int.one_mul]
 rw [hnum]
 generalize n / ((d.gcd n : Nat) : Int) = a at h2
 generalize hG : ((d.gcd n : Nat) : Int) = g at h2
 have hg' : 0 < g := by omega
 rcases Int.lt_trichotomy a 0 with h | h | h
 ·have : n < 0 := by rw [← h2]; exact Int.mul_neg_of_neg_of_pos h hg'
  rw [if_neg (by omega), if_pos h, if_neg (by omega), if_pos this]
 ·subst h
  have : n = 0 := by rw [← h2]; simp
  rw [if_pos rfl, if_pos this]
 ·have : 0 < n := by rw [← h2]; exact Int.mul_pos h hg'
  rw [if_neg (by omega), if_neg (by omega), if_neg (by omega), if_neg (by omega)]
theorem w1x (q r : Rat) : sgn (q.num * r.den - r.num * q.den) = rsg (q - r) := by
 rw [sub_eq, j1r]
 have := q.den_nz; have := r.den_nz
 exact Int.mul_pos (by omega) (by omega)
theorem w1l {q r : Rat} : rsg (q - r) < 0 ↔ q < r := by
 have h : q < r ↔ q - r < 0 := by constructor <;> intro h <;> grind
 rw [h]
 unfold rsg
 have hn : (q - r < 0) ↔ (q - r).num < 0 := by rw [← Rat.not_le, ← Rat.num_nonneg]; omega
 rw [hn]
 split
 ·omega
 ·split <;> omega
theorem Y0j {q r : Rat} : rsg (q - r) = 0 ↔ q = r := by
 unfold rsg
 have h0 : (q - r).num = 0 ↔ q = r := by
  rw [Rat.num_eq_zero]; grind
 rw [← h0]
 split
 ·simp_all
 ·split <;> simp_all
end Go.Na
namespace Go.Proofs.YtfggdokihnopeaaGreatDoor
open Go Go.Vc Go.RowKit Go.Na Go.Lib
set_option maxHeartbeats 4000000
abbrev vi (n : Int) : AV := .val (.int .i64 n)
abbrev vb (b : Bool) : AV := .val (.bool b)
abbrev vI (n : Int) : AV := vS (itoa n)
end Go.Proofs.YtfggdokihnopeaaGreatDoor
section
end
section
end
section
end
section
end
namespace Go.Proofs.YtfggdokihnopeaaGreatDoor
open Go Go.Vc Go.RowKit Go.Na Go.Lib
set_option maxHeartbeats 4000000
theorem w0o (m : Int) : (itoa m == [48]) = decide (m = 0) := by
 have e0 : itoa 0 = [48] := by rw [j0G (by decide)]; exact y0F
 by_cases h : m = 0
 ·subst h; rw [e0]; rfl
 ·rw [decide_eq_false h, beq_eq_false_iff_ne, ← e0]
  exact fun e => h (x0a e)
end Go.Proofs.YtfggdokihnopeaaGreatDoor
section
end
namespace Go.Proofs.YtfggdokihnopeaaGreatDoor
open Go Go.Vc Go.RowKit Go.Na Go.Lib
set_option maxHeartbeats 4000000
theorem X0O : itoa 1 = [49] := by rw [j0G (by decide)]; rw [show (1 : Int).natAbs = 1 from rfl, decDigits]; rfl
theorem y0O (u v : Nat) (hv : v ≠ 0) : Nat.gcd v (u % v) = Nat.gcd u v := by
 rw [Nat.gcd_comm u v, Nat.gcd_rec v u, Nat.gcd_comm]
theorem Z0D (l : List UInt8) : (szL l).length ≤ l.length := by
 cases l with
 |nil => exact Nat.le_refl _
 |cons b r =>
  by_cases hb : b = 45
  ·rw [szL, if_pos hb]; simp
  ·rw [szL, if_neg hb]; exact Nat.le_refl _
abbrev vR (q : Rat) : AV := vS (rtx q)
theorem rtx_0 : rtx 0 = [48] := by
 have := Z0u 0
 rw [show ((0 : Int) : Rat) = 0 from rfl] at this
 rw [this, j0G (by decide)]; exact y0F
theorem k0H (m : Int) : (itoa m == [49]) = decide (m = 1) := by
 by_cases h : m = 1
 ·rw [h, X0O]; rfl
 ·rw [decide_eq_false h, beq_eq_false_iff_ne, ← X0O]
  exact fun e => h (x0a e)
theorem w1F (l : List UInt8) : (spN l).length ≤ l.length := by
 unfold spN; split
 ·simp; omega
 ·exact Nat.le_refl _
theorem w1C (l : List UInt8) : (spD l).length ≤ l.length + 1 := by
 unfold spD; split
 ·simp; omega
 ·simp
theorem x0m {m : Int} {k : Nat} (h : (itoa m).length ≤ k) : LI k m := .of_len (by
 by_cases hm : m < 0
 ·rw [itoa_neg hm] at h; simp at h; omega
 ·rw [j0G hm] at h; exact h)
theorem j0X {P : Program} {f : FuncId} {fn : Func} {c : Code} (hf : P.funcs[f]? = some fn) (hb : fn.body = some c) (hname : (fn.name == "runtime.NumGoroutine") = false) : Enters P f := x0t hf hb hname
theorem J0R {P : Program} {f : FuncId} {us : List Value} {v : Value} {res : AV} (he : Enters P f) (h : ∀ Z w, ZOk Z w → Calls P f us.toArray w fun e w' => e = .returned v ∧ Below w.heap.size w w') (hv : ∀ Z w, res.ok Z w v) : CtrA P f (us.map AV.val) res := by
 refine ⟨he, fun w Z vs hZ hvs => ?_⟩
 have : vs = us := by
  clear h he
  induction us generalizing vs with
  |nil => cases vs with
   |nil => rfl
   |cons _ _ => exact hvs.elim
  |cons u us ih => cases vs with
   |nil => exact hvs.elim
   |cons v vs => obtain ⟨h1, h2⟩ := hvs; rw [ih vs h2]; rw [show v = u from h1]
 subst this
 refine (h Z w hZ).mono ?_
 rintro e w' ⟨rfl, hb⟩
 exact ⟨v, Z, rfl, hb, fun _ h => h, fun _ h => .inl h, fun k hk => Nat.lt_of_lt_of_le (hZ.1 k hk) hb.size, hv Z _⟩
theorem W1x {u v : Value} (Z : j0s) (w : World) : (j0B [.val u, .val v]).ok Z w (.tuple #[u, v]) := by
 refine ⟨[u, v], rfl, rfl, fun i hi => ?_⟩
 have hi' : i < 2 := hi
 rcases (by omega : i = 0 ∨ i = 1) with rfl | rfl <;> exact ⟨_, rfl, rfl⟩
theorem W1y {u v x : Value} (Z : j0s) (w : World) : (j0B [.val u, .val v, .val x]).ok Z w (.tuple #[u, v, x]) := by
 refine ⟨[u, v, x], rfl, rfl, fun i hi => ?_⟩
 have hi' : i < 3 := hi
 rcases (by omega : i = 0 ∨ i = 1 ∨ i = 2) with rfl | rfl | rfl <;> exact ⟨_, rfl, rfl⟩
theorem Below.drewN' {B : Nat} {w : World} (n : Nat) : Below B w (w.drewN n) := ⟨rfl, rfl, rfl, Nat.le_refl _, fun _ _ => rfl⟩
theorem Below.grow' {w : World} (os : Array Obj) : Below w.heap.size w (Go.Sort.grow w os) := by
 refine ⟨rfl, rfl, rfl, by simp [Go.Sort.grow], fun k hk => ?_⟩
 simp [Go.Sort.grow, Array.getElem?_append_left hk]
theorem z1h (l : List UInt8) : Lib.trimPrefix l [45] = Na.szL l := by
 cases l with
 |nil => rfl
 |cons b r =>
  by_cases hb : b = 45
  ·subst hb
   rw [Na.szL, if_pos rfl]
   unfold Lib.trimPrefix Lib.hasPrefix
   simp [List.isPrefixOf]
  ·rw [Na.szL, if_neg hb]
   unfold Lib.trimPrefix Lib.hasPrefix
   rw [if_neg]
   simp [List.isPrefixOf, Ne.symm hb]
theorem x1g (l : List UInt8) : CtrA Tryz.prog 224 [vS l, vS [45]] (vS (Na.szL l)) := by
 refine J0R (us := [.string (bs l), .string (bs [45])]) (j0X Tryz.func224 rfl rfl) (fun Z w _ => (Tryz.strings_TrimPrefix (bs l) (bs [45]) w).mono ?_) (fun Z w => rfl)
 rintro e w' ⟨rfl, rfl⟩
 exact ⟨by rw [← z1h], Below.refl _ _⟩
theorem X1V (l : List UInt8) : CtrA Tryz.prog 232 [vS l, vS [45]] (vb (decide (l.head? = some 45))) := by
 refine J0R (us := [.string (bs l), .string (bs [45])]) (j0X Tryz.func232 rfl rfl) (fun Z w _ => (Tryz.strings_HasPrefix (bs l) (bs [45]) w).mono ?_) (fun Z w => rfl)
 rintro e w' ⟨rfl, rfl⟩
 refine ⟨?_, Below.refl _ _⟩
 congr 2
 show Lib.hasPrefix l [45] = _
 cases l with
 |nil => rfl
 |cons b r =>
  unfold Lib.hasPrefix
  by_cases h : b = 45
  ·subst h; simp [List.isPrefixOf]
  ·have h' : (45 : UInt8) ≠ b := fun e => h e.symm
   simp [List.isPrefixOf, h, h']
theorem y0C (a b : List UInt8) : CtrA Tryz.prog 289 [vS a, vS b] (vi (Lib.compareBytes a b)) := by
 refine J0R (us := [.string (bs a), .string (bs b)]) (j0X Tryz.func289 rfl rfl) (fun Z w _ => (Tryz.strings_Compare (bs a) (bs b) w).mono ?_) (fun Z w => rfl)
 rintro e w' ⟨rfl, rfl⟩
 exact ⟨rfl, Below.refl _ _⟩
theorem Q1X {Z : j0s} {w : World} (h : ZOk Z w) : Lib.TabIs Tryz.prog w "internal/strconv.uint64pow10" .u64 Lib.pow10Tab := by
 obtain ⟨b, t, fr, h1, _, _, h4⟩ := h.2 (2, .ob (k1t (Lib.pow10Tab.map (Value.int .u64)).toArray) (q1U _)) (by simp [glb])
 simp only [Value.pointer.injEq, Option.some.injEq, Addr.mk.injEq, and_true] at h1
 subst h1
 have hg : Tryz.prog.globalNamed "internal/strconv.uint64pow10" = some 2 := by kernel_rfl
 unfold Lib.TabIs World.var?
 rw [hg]
 simp only [Option.bind_some, h4]
theorem k0G (n : Int) (h : -9223372036854775808 ≤ n ∧ n ≤ 9223372036854775807) : CtrA Tryz.prog 173 [vi n] (vI n) := by
 refine J0R (us := [.int .i64 n]) (j0X Tryz.func173 rfl rfl) (fun Z w hZ => (Tryz.strconv_Itoa n h.1 h.2 w (Q1X hZ)).mono ?_) (fun Z w => rfl)
 rintro e w' ⟨rfl, k, os, rfl⟩
 exact ⟨rfl, (Below.drewN' k).trans (Below.grow' (w := w.drewN k) os)⟩
theorem z0k : ∀ (l : List UInt8) (a : Nat), (∀ b ∈ l, isD b) → Lib.decFrom a l = some (dvA a l)
 |[], _, _ => rfl
 |b :: l, a, h => by
  have hb := h b (by simp)
  have : Lib.digitVal b = some (b.toNat - 48) := if_pos hb
  simp only [Lib.decFrom, this]
  rw [z0k l _ fun c hc => h c (by simp [hc])]
  rfl
theorem Z0P {l : List UInt8} (hne : l ≠ []) (h : ∀ b ∈ l, isD b) : Lib.atoi l = some ((dv l : Nat) : Int) := by
 cases l with
 |nil => exact absurd rfl hne
 |cons b r =>
  have hb := h b (by simp)
  have h1 : (b == 45) = false := by simp; exact q1x hb
  have h2 : (b == 43) = false := by simp; rintro rfl; exact absurd hb (by decide)
  have h3 : Lib.decNat (b :: r) = some (dv (b :: r)) := by
   unfold Lib.decNat
   rw [if_neg (by simp)]
   exact z0k _ 0 h
  simp [Lib.atoi, h1, h2, h3]
theorem X0q (m : Int) : Lib.atoi (itoa m) = some m := by
 by_cases h : m < 0
 ·rw [itoa_neg h]
  have h3 : Lib.decNat (decDigits m.natAbs) = some m.natAbs := by
   unfold Lib.decNat
   rw [if_neg (by simp [w0B]), z0k _ 0 (j0P _)]
   exact congrArg some (q0j _)
  simp [Lib.atoi, h3]; omega
 ·rw [j0G h, Z0P (w0B _) (j0P _), q0j]
  congr 1; omega
abbrev K1N : AV := .val .nilIface
theorem j1W (l : List UInt8) (n : Int) (hl : l.length ≤ 18) (h : Lib.atoi l = some n) : CtrA Tryz.prog 290 [vS l] (j0B [vi n, K1N]) := by
 refine J0R (us := [.string (bs l)]) (j0X Tryz.func290 rfl rfl) (fun Z w _ => (Tryz.strconv_Atoi (bs l) n hl h w).mono ?_) (fun Z w => W1x Z w)
 rintro e w' ⟨rfl, t, rfl⟩
 exact ⟨rfl, rfl, rfl, rfl, by rw [Lib.bytesWorld_size]; omega, fun k hk => Lib.bytesWorld_at_old w 5 t k hk⟩
abbrev ten : List UInt8 := [48, 49, 50, 51, 52, 53, 54, 55, 56, 57]
theorem Z0E (b : UInt8) : ten.contains b = true ↔ isD b := by
 constructor
 ·intro h
  simp [ten] at h
  rcases h with rfl | rfl | rfl | rfl | rfl | rfl | rfl | rfl | rfl | rfl <;> decide
 ·intro h
  rw [← ofd h]
  have := h.1; have := h.2
  rcases (by omega : b.toNat - 48 = 0 ∨ b.toNat - 48 = 1 ∨ b.toNat - 48 = 2 ∨ b.toNat - 48 = 3 ∨ b.toNat - 48 = 4 ∨ b.toNat - 48 = 5 ∨ b.toNat - 48 = 6 ∨ b.toNat - 48 = 7 ∨ b.toNat - 48 = 8 ∨ b.toNat - 48 = 9) with e | e | e | e | e | e | e | e | e | e <;> rw [e] <;> decide
theorem q1C {l : List UInt8} : l.dropWhile (ten.contains ·) = [] ↔ ∀ b ∈ l, isD b := by
 induction l with
 |nil => simp
 |cons b l ih =>
  rw [List.dropWhile_cons]
  by_cases h : ten.contains b = true
  ·rw [if_pos h, ih]
   simp [(Z0E b).1 h]
  ·rw [if_neg h]
   constructor
   ·intro e; cases e
   ·intro e; exact absurd ((Z0E b).2 (e b (by simp))) h
theorem Y0w {l : List UInt8} : Lib.trimS l ten = [] ↔ ∀ b ∈ l, isD b := by
 unfold Lib.trimS Lib.trimLeftS Lib.trimRightS
 rw [q1C]
 constructor
 ·intro h
  have h1 : ∀ b ∈ l.reverse.dropWhile (ten.contains ·), isD b := fun b hb => h b (List.mem_reverse.2 hb)
  intro b hb
  have hs := List.takeWhile_append_dropWhile (p := (ten.contains ·)) (l := l.reverse)
  have hb' : b ∈ l.reverse := by simp [hb]
  rw [← hs] at hb'
  rcases List.mem_append.1 hb' with h2 | h2
  ·exact (Z0E b).1 (List.all_eq_true.1 (List.all_takeWhile) b h2)
  ·exact h1 b h2
 ·intro h b hb
  have : b ∈ l.reverse.dropWhile (ten.contains ·) := List.mem_reverse.1 hb
  exact h b (by simpa using (List.dropWhile_sublist _).subset this)
theorem Z1p (l : List UInt8) (hl : l.length ≤ 1000000) : CtrA Tryz.prog 225 [vS l, vS ten] (vS (Lib.trimS l ten)) := by
 refine J0R (us := [.string (bs l), .string (bs ten)]) (j0X Tryz.func225 rfl rfl) (fun Z w _ => (Any.strings_Trim_laid Tryz.lays160 (by kernel_rfl) (bs l) (bs ten) w (by show l.length ≤ _; omega) zE (ascii_of_all zE)).mono ?_) (fun Z w => rfl)
 rintro e w' ⟨rfl, hb⟩
 exact ⟨rfl, hb⟩
theorem Q1C (l : List UInt8) (hl : l.length ≤ 1000000) : CtrA Tryz.prog 223 [vS l, vS [47]] (j0B [vS (Lib.cut l [47]).1, vS (Lib.cut l [47]).2.1, vb (Lib.cut l [47]).2.2]) := by
 refine J0R (us := [.string (bs l), .string (bs [47])]) (j0X Tryz.func223 rfl rfl) (fun Z w hZ => ?_) (fun Z w => W1y Z w)
 obtain ⟨b, m, h1, _, _, h4⟩ := hZ.2 (1, .ob k1r q1S) (by simp [glb])
 simp only [Value.pointer.injEq, Option.some.injEq, Addr.mk.injEq, and_true] at h1
 subst h1
 refine (Tryz.strings_Cut (bs l) (bs [47]) m w (by show l.length < _; omega) h4).mono ?_
 rintro e w' ⟨rfl, n, rfl⟩
 exact ⟨rfl, Below.drewN' n⟩
end Go.Proofs.YtfggdokihnopeaaGreatDoor
section
namespace Go.Proofs.YtfggdokihnopeaaGreatDoor
open Go Go.Vc Go.RowKit Go.Na Go.Lib
set_option maxHeartbeats 4000000
theorem X0d (l : List UInt8) (hl : l.length ≤ 1000000) : CtrA Tryz.prog 165 [vS l] (vi (chk l)) := by
 have h1 := x1g l
 have hsl := Z0D l
 cases hs : Na.szL l with
 |nil =>
  rw [hs] at h1
  refine j0r _ Tryz.func165 rfl rfl Tryz.ntmps165 rfl fun w Z => ?_
  refine zU ?_
  refine wk ?_
  exact j0c rfl (.tmp rfl) (congrArg vi (y0i fun h => h.ne hs).symm)
 |cons b r =>
  rw [hs] at h1 hsl
  have h2 := Z1p (b :: r) zO
  by_cases ht : Lib.trimS (b :: r) ten = []
  ·rw [ht] at h2
   have hd := Y0w.1 ht
   by_cases hb : b = 48
   ·by_cases hl1 : l = [48]
    ·have hn : IsNum l := ⟨by rw [hs]; simp, fun _ => hl1, fun y hy => hd y (by rw [← hs]; exact hy)⟩
     have e0 : (l == [48]) = true := by rw [hl1]; rfl
     have hr : r = [] := by
      rw [hl1] at hs
      have : Na.szL [48] = [48] := rfl
      rw [this] at hs
      injection hs with _ hs
      exact hs.symm
     subst hb hr
     have hc : chk l = 0 := by unfold chk; rw [if_pos hn, hs]; rfl
     rw [hc]
     refine j0r _ Tryz.func165 rfl rfl Tryz.ntmps165 rfl fun w Z => ?_
     refine zU ?_
     refine wk ?_
     rw [e0]
     refine wk ?_
     exact zV
    ·have e0 : (l == [48]) = false := by rw [beq_eq_false_iff_ne]; exact hl1
     subst hb
     have hc : chk l = 3 := y0i fun h => hl1 (h.hd (by rw [hs]; rfl))
     rw [hc]
     refine j0r _ Tryz.func165 rfl rfl Tryz.ntmps165 rfl fun w Z => ?_
     refine zU ?_
     refine wk ?_
     rw [e0]
     refine wk ?_
     exact zV
   ·have hn : IsNum l := ⟨by rw [hs]; simp, fun h => by rw [hs] at h; simp at h; exact absurd h hb, fun y hy => hd y (by rw [← hs]; exact hy)⟩
    have e1 : ((b.toNat : Int) == 48) = false := by
     rw [beq_eq_false_iff_ne]; exact fun e => hb ((z1u b 48).1 e)
    refine j0r _ Tryz.func165 rfl rfl Tryz.ntmps165 rfl fun w Z => ?_
    refine zU ?_
    refine wk ?_
    rw [e1]
    refine wk ?_
    (refine j0a rfl ?_ ?_ <;> intro hb <;> (try simp only [zA, zB, zG, zC, zD, zN] at hb) <;> (try exact zQ))
    all_goals
     refine wk ?_
     first
      |exact j0c rfl (.tmp rfl) (congrArg vi (by unfold chk; rw [if_pos hn, if_pos (by rw [hs]; omega)]))
      |exact j0c rfl (.tmp rfl) (congrArg vi (by unfold chk; rw [if_pos hn, if_neg (by rw [hs]; omega)]))
  ·have hc : chk l = 3 := y0i fun h => ht (Y0w.2 fun y hy => h.dig y (by rw [hs]; exact hy))
   rw [hc]
   have e1 : (Lib.trimS (b :: r) ten == []) = false := by
    rw [beq_eq_false_iff_ne]; exact ht
   generalize Lib.trimS (b :: r) ten = X at *
   refine j0r _ Tryz.func165 rfl rfl Tryz.ntmps165 rfl fun w Z => ?_
   refine zU ?_
   refine wk ?_
   rw [e1]
   refine wk ?_
   exact zV
theorem w0w (m : Int) (h : LI 1000 m) : CtrA Tryz.prog 165 [vI m] (vi 0) := by
 have := X0d (itoa m) (by
  have := h.len zE
  by_cases hm : m < 0
  ·rw [itoa_neg hm]; simp; omega
  ·rw [j0G hm]; omega)
 rwa [J0L h] at this
theorem W1Q (n : Nat) (g : Nat → Int) (hn : n ≤ 1000000) (hg : ∀ i, i < n → LI 1000 (g i)) : CtrA Tryz.prog 226 [.sl n 1 (fun i _ => vI (g i))] (vi 0) := by
 refine j0r _ Tryz.func226 rfl rfl Tryz.ntmps226 rfl fun w Z => ?_
 refine zU ?_
 refine wk ?_
 refine j0h (γ := Nat) (fun i => [(6, .av (.sl n 1 (fun i _ => vI (g i)))), (7, .av (vi n)), (8, .av (vi i))]) (fun _ => []) (fun i => i ≤ n) (fun i => n - i) 0 (Nat.zero_le _) (ent zS trivial) ?_
 intro i hi
 refine wk ?_
 (refine j0a rfl ?_ ?_ <;> intro hb <;> (try simp only [zA, zB, zG, zC, zD, zN] at hb) <;> (try exact zQ))
 ·have hc := w0w (g i) (hg i zO)
  refine wk ?_
  exact j0b (i + 1) zO zO (ent zS trivial)
 ·refine wk ?_
  exact zV
def two (a b : Int) (i : Nat) : Int := if i = 0 then a else b
theorem W1s (a b : ByteArray) (w : World) : (Instr.buildSlice 128 2 #[(0, .string a), (1, .string b)]).run Tryz.prog w = .ok (.slice (some ⟨w.heap.size, 0, none⟩) 2 2) (w.alloc (.cells #[.string a, .string b] 98)) := by kernel_rfl
section
variable {E : Env} {T : Tab} {O : Go.Vc.Own} {d : Option Nat} {ty : TypeId} {pos : String} {af : Array Edge} {g : Option (Nat × Bool)}
theorem v0J {x y : Operand} {a b : Int} (hx : T.ev x = .av (vI a)) (hy : T.ev y = .av (vI b)) : GV Tryz.prog E ⟨d, .buildSlice 128 2 #[(0, x), (1, y)], ty, pos, af, g⟩ T O (.av (.sl 2 1 (fun i _ => vI (two a b i)))) [] [] :=
 j0E (is := [0, 1]) (xs := [x, y]) (vs := [.string (bs (itoa a)), .string (bs (itoa b))]) (us := [.string (bs (itoa a)), .string (bs (itoa b))]) (W1s _ _) rfl (by simp only [List.map_cons, List.map_nil, hx, hy]) rfl (fun i hi j hj => by
  obtain rfl : j = 0 := zO
  rcases (by omega : i = 0 ∨ i = 1) with rfl | rfl <;> exact ⟨_, rfl, rfl⟩)
end
theorem X0h (n : Int) (h : -9223372036854775808 ≤ n ∧ n ≤ 9223372036854775807) : CtrA Tryz.prog 102 [vi n] (vI n) := by
 have h1 := k0G n h
 refine j0r _ Tryz.func102 rfl rfl Tryz.ntmps102 rfl fun w Z => ?_
 refine zU ?_
 refine wk ?_
 exact zV
theorem K0a (n : Int) (h : -9223372036854775808 ≤ n ∧ n ≤ 9223372036854775807) : CtrA Tryz.prog 236 [vi n] (j0B [vI n, vi 0]) := by
 have h1 := X0h n h
 refine j0r _ Tryz.func236 rfl rfl Tryz.ntmps236 rfl fun w Z => ?_
 refine zU ?_
 refine wk ?_
 exact zW
theorem v1d (m : Int) : ∃ b r, itoa m = b :: r ∧ ((b.toNat : Int) == 45) = decide (m < 0) := by
 by_cases h : m < 0
 ·exact ⟨45, _, itoa_neg h, by rw [decide_eq_true h]; rfl⟩
 ·obtain ⟨b, r, e, hd⟩ := J0j m.natAbs
  refine ⟨b, r, by rw [j0G h, e], ?_⟩
  rw [decide_eq_false h, beq_eq_false_iff_ne]
  exact fun e => q1x hd ((z1u b 45).1 e)
theorem K0f (m : Int) : CtrA Tryz.prog 227 [vI m] (vi (sgn m)) := by
 have h0 := w0o m
 obtain ⟨b, r, e, hb⟩ := v1d m
 by_cases hz : m = 0
 ·rw [decide_eq_true hz] at h0
  refine j0r _ Tryz.func227 rfl rfl Tryz.ntmps227 rfl fun w Z => ?_
  refine zU ?_
  refine wk ?_
  rw [h0]
  refine wk ?_
  exact j0c rfl (.tmp rfl) (congrArg vi (by unfold sgn; rw [if_pos hz]))
 ·rw [decide_eq_false hz] at h0
  by_cases hn : m < 0
  ·rw [decide_eq_true hn] at hb
   refine j0r _ Tryz.func227 rfl rfl Tryz.ntmps227 rfl fun w Z => ?_
   refine zU ?_
   refine wk ?_
   rw [h0]
   refine wk ?_
   refine j0j (v0h (b := b) rfl rfl rfl (by rw [e]; rfl)) rfl ?_
   refine wk ?_
   rw [hb]
   refine wk ?_
   exact j0c rfl (.tmp rfl) (congrArg vi (by unfold sgn; rw [if_neg hz, if_pos hn]))
  ·rw [decide_eq_false hn] at hb
   refine j0r _ Tryz.func227 rfl rfl Tryz.ntmps227 rfl fun w Z => ?_
   refine zU ?_
   refine wk ?_
   rw [h0]
   refine wk ?_
   refine j0j (v0h (b := b) rfl rfl rfl (by rw [e]; rfl)) rfl ?_
   refine wk ?_
   rw [hb]
   refine wk ?_
   exact j0c rfl (.tmp rfl) (congrArg vi (by unfold sgn; rw [if_neg hz, if_neg hn]))
theorem W1E (m : Int) (hm : LI 1000 m) : CtrA Tryz.prog 252 [vI m] (j0B [vi (sgn m), vi 0]) := by
 have h1 := w0w m hm
 have h2 := K0f m
 refine j0r _ Tryz.func252 rfl rfl Tryz.ntmps252 rfl fun w Z => ?_
 refine zU ?_
 refine wk ?_
 exact zW
theorem Z0Y : ∀ {a b : List UInt8}, a.length = b.length → (∀ x ∈ a, isD x) → (∀ x ∈ b, isD x) → Lib.compareBytes a b = sgn ((dv a : Int) - dv b)
 |[], [], _, _, _ => rfl
 |x :: a, y :: b, hl, ha, hb => by
  have hl' : a.length = b.length := by simpa using hl
  have ih := Z0Y hl' (fun z hz => ha z (by simp [hz])) (fun z hz => hb z (by simp [hz]))
  have h1 := dgI (ha x (by simp))
  have h2 := dgI (hb y (by simp))
  have l1 := x0s a fun z hz => ha z (by simp [hz])
  have l2 := x0s b fun z hz => hb z (by simp [hz])
  rw [← hl'] at l2
  rw [x0r, x0r, ← hl']
  unfold Lib.compareBytes
  generalize hp : 10 ^ a.length = p at l1 l2 ⊢
  rcases Nat.lt_trichotomy x.toNat y.toNat with h | h | h
  ·have h3 : (x.toNat - 48 + 1) * p ≤ (y.toNat - 48) * p := Nat.mul_le_mul_right _ zO
   rw [Nat.add_mul] at h3
   have hx : x < y := h
   rw [if_pos hx]
   unfold sgn
   rw [if_neg (by omega), if_pos (by omega)]
  ·have : x = y := UInt8.toNat_inj.1 h
   subst this
   have hx : ¬ x < x := Nat.lt_irrefl _
   rw [if_neg hx, if_neg hx, ih]
   congr 1; omega
  ·have h3 : (y.toNat - 48 + 1) * p ≤ (x.toNat - 48) * p := Nat.mul_le_mul_right _ zO
   rw [Nat.add_mul] at h3
   have hx : ¬ x < y := Nat.not_lt.2 (Nat.le_of_lt h)
   have hy : y < x := h
   rw [if_neg hx, if_pos hy]
   unfold sgn
   rw [if_neg (by omega), if_neg (by omega)]
theorem z1z (u v : Nat) : CtrA Tryz.prog 228 [vS (decDigits u), vS (decDigits v)] (vi (sgn ((u : Int) - v))) := by
 have h1 := y0C (decDigits u) (decDigits v)
 by_cases hl : (decDigits u).length = (decDigits v).length
 ·rw [Z0Y hl (j0P u) (j0P v), q0j, q0j] at h1
  refine j0r _ Tryz.func228 rfl rfl Tryz.ntmps228 rfl fun w Z => ?_
  refine zU ?_
  refine wk ?_
  (refine j0a rfl ?_ ?_ <;> intro hb <;> (try simp only [zA, zB, zG, zC, zD, zN] at hb) <;> (try exact zQ))
  refine wk ?_
  exact zV
 ·refine j0r _ Tryz.func228 rfl rfl Tryz.ntmps228 rfl fun w Z => ?_
  refine zU ?_
  refine wk ?_
  (refine j0a rfl ?_ ?_ <;> intro hb <;> (try simp only [zA, zB, zG, zC, zD, zN] at hb) <;> (try exact zQ))
  refine wk ?_
  (refine j0a rfl ?_ ?_ <;> intro hb <;> (try simp only [zA, zB, zG, zC, zD, zN] at hb) <;> (try exact zQ))
  ·refine wk ?_
   have := x0Q (u := u) (v := v) zO
   exact j0c rfl (.tmp rfl) (congrArg vi (by unfold sgn; rw [if_neg (by omega), if_pos (by omega)]))
  ·refine wk ?_
   have := x0Q (u := v) (v := u) zO
   exact j0c rfl (.tmp rfl) (congrArg vi (by unfold sgn; rw [if_neg (by omega), if_neg (by omega)]))
theorem Z0F (m : Int) : CtrA Tryz.prog 224 [vI m, vS [45]] (vS (decDigits m.natAbs)) := by
 have := x1g (itoa m)
 rwa [x0Z] at this
theorem Z0w {m n : Int} (h : sgn m = sgn n) : sgn m * sgn ((m.natAbs : Int) - n.natAbs) = sgn (m - n) := by
 unfold sgn at *
 split at h
 ·split at h
  ·simp_all
  ·split at h <;> simp at h
 ·split at h
  ·split at h
   ·simp at h
   ·split at h
    ·rw [if_neg (by assumption), if_pos (by assumption)]
     by_cases e : m = n
     ·rw [if_pos (by omega), if_pos (by omega)]; rfl
     ·by_cases l : m < n
      ·rw [if_neg (by omega), if_neg (by omega), if_neg (by omega), if_pos (by omega)]; rfl
      ·rw [if_neg (by omega), if_pos (by omega), if_neg (by omega), if_neg (by omega)]; rfl
    ·simp at h
  ·split at h
   ·simp at h
   ·split at h
    ·simp at h
    ·rw [if_neg (by assumption), if_neg (by assumption)]
     by_cases e : m = n
     ·rw [if_pos (by omega), if_pos (by omega)]; rfl
     ·by_cases l : m < n
      ·rw [if_neg (by omega), if_pos (by omega), if_neg (by omega), if_pos (by omega)]; rfl
      ·rw [if_neg (by omega), if_neg (by omega), if_neg (by omega), if_neg (by omega)]; rfl
theorem z0H (m n : Int) (hm : LI 1000 m) (hn : LI 1000 n) : CtrA Tryz.prog 166 [vI m, vI n] (j0B [vi (sgn (m - n)), vi 0]) := by
 have h0 := W1Q 2 (two m n) zE (fun i hi => by rcases (by omega : i = 0 ∨ i = 1) with rfl | rfl <;> assumption)
 have h1 := K0f m
 have h2 := K0f n
 have h3 := Z0F m
 have h4 := Z0F n
 have h5 := z1z m.natAbs n.natAbs
 have s3 : ∀ k : Int, sgn k = 0 ∨ sgn k = 1 ∨ sgn k = -1 := fun k => by unfold sgn; split; exact .inl rfl; split; exact .inr (.inr rfl); exact .inr (.inl rfl)
 have r1 := s3 m
 have r2 := s3 n
 have r3 := s3 ((m.natAbs : Int) - n.natAbs)
 have hlt : sgn m < sgn n → sgn (m - n) = -1 := fun h => by
  unfold sgn at *
  split at h <;> split at h <;> (try split at h) <;> (try split at h) <;> (try omega) <;> rw [if_neg (by omega), if_pos (by omega)]
 have hgt : sgn n < sgn m → sgn (m - n) = 1 := fun h => by
  unfold sgn at *
  split at h <;> split at h <;> (try split at h) <;> (try split at h) <;> (try omega) <;> rw [if_neg (by omega), if_neg (by omega)]
 have heq := Z0w (m := m) (n := n)
 have hmul : -1 ≤ sgn m * sgn ((m.natAbs : Int) - n.natAbs) ∧ sgn m * sgn ((m.natAbs : Int) - n.natAbs) ≤ 1 := by
  rcases r1 with e | e | e <;> rcases r3 with e' | e' | e' <;> rw [e, e'] <;> decide
 refine j0r _ Tryz.func166 rfl rfl Tryz.ntmps166 rfl fun w Z => ?_
 refine zU ?_
 refine wk ?_
 refine j0j (v0J rfl rfl) rfl ?_
 refine wk ?_
 generalize sgn m = s at *
 generalize sgn n = t at *
 generalize sgn ((m.natAbs : Int) - n.natAbs) = q at *
 (refine j0a rfl ?_ ?_ <;> intro hb <;> (try simp only [zA, zB, zG, zC, zD, zN] at hb) <;> (try exact zQ))
 ·refine wk ?_
  exact j0v (rvs := [_, _]) (τs := [_, _]) rfl rfl ⟨.tmp rfl, .tmp rfl, trivial⟩ (by rw [hlt (by omega)])
 ·refine wk ?_
  (refine j0a rfl ?_ ?_ <;> intro hb <;> (try simp only [zA, zB, zG, zC, zD, zN] at hb) <;> (try exact zQ))
  ·refine wk ?_
   exact j0v (rvs := [_, _]) (τs := [_, _]) rfl rfl ⟨.tmp rfl, .tmp rfl, trivial⟩ (by rw [hgt (by omega)])
  ·refine wk ?_
   exact j0v (rvs := [_, _]) (τs := [_, _]) rfl rfl ⟨.tmp rfl, .tmp rfl, trivial⟩ (by rw [heq (by omega)])
end Go.Proofs.YtfggdokihnopeaaGreatDoor
end
namespace Go.Na
open Go.Lib
def wd (V : Nat) (i : Nat) : Int := ((V / 1000000000 ^ i % 1000000000 : Nat) : Int)
def nw (V : Nat) : Nat := if h : V = 0 then 0 else nw (V / 1000000000) + 1
termination_by V
decreasing_by omega
theorem q0L : nw 0 = 0 := by rw [nw]; simp
theorem z0R {V : Nat} (h : V ≠ 0) : nw V = nw (V / 1000000000) + 1 := by rw [nw, dif_neg h]
theorem q0y (V i : Nat) : 0 ≤ wd V i ∧ wd V i < B := by
 unfold wd
 have := Nat.mod_lt (V / 1000000000 ^ i) (show 1000000000 > 0 by decide)
 show 0 ≤ ((V / 1000000000 ^ i % 1000000000 : Nat) : Int) ∧ ((V / 1000000000 ^ i % 1000000000 : Nat) : Int) < 1000000000
 omega
theorem X0e (V i : Nat) : wd V (i + 1) = wd (V / 1000000000) i := by
 unfold wd
 rw [Nat.pow_succ, Nat.mul_comm, ← Nat.div_div_eq_div_mul]
theorem X0f (V : Nat) : wd V 0 = ((V % 1000000000 : Nat) : Int) := by simp [wd]
theorem v0W : ∀ V : Nat, V < 1000000000 ^ nw V := by
 intro V
 induction V using Nat.strongRecOn with
 |_ V ih =>
  by_cases h : V = 0
  ·subst h; exact Nat.pow_pos (by decide)
  ·rw [z0R h, Nat.pow_succ]
   have := ih (V / 1000000000) (by omega)
   omega
theorem Z0l {V : Nat} : ∀ {n : Nat}, V < 1000000000 ^ n → nw V ≤ n := by
 induction V using Nat.strongRecOn with
 |_ V ih =>
  intro n hn
  by_cases h : V = 0
  ·subst h; rw [q0L]; omega
  ·rw [z0R h]
   cases n with
   |zero => simp at hn; exact absurd hn h
   |succ n =>
    rw [Nat.pow_succ] at hn
    have := ih (V / 1000000000) (by omega) (n := n) (by omega)
    omega
theorem V0B {V : Nat} : nw V = 0 ↔ V = 0 := by
 constructor
 ·intro h
  have := v0W V
  rw [h] at this; simpa using this
 ·rintro rfl; exact q0L
theorem v0n {V i : Nat} (h : nw V ≤ i) : wd V i = 0 := by
 have h1 := v0W V
 have h2 : V < 1000000000 ^ i := Nat.lt_of_lt_of_le h1 (Nat.pow_le_pow_right (by decide) h)
 unfold wd
 rw [Nat.div_eq_of_lt h2]; rfl
theorem y0f : ∀ {V : Nat}, V ≠ 0 → wd V (nw V - 1) ≠ 0 := by
 intro V
 induction V using Nat.strongRecOn with
 |_ V ih =>
  intro h
  rw [z0R h]
  by_cases h1 : V / 1000000000 = 0
  ·rw [h1, q0L]
   show wd V 0 ≠ 0
   rw [X0f]
   omega
  ·have := ih (V / 1000000000) (by omega) h1
   have h2 : nw (V / 1000000000) ≠ 0 := fun e => h1 (V0B.1 e)
   rw [show nw (V / 1000000000) + 1 - 1 = (nw (V / 1000000000) - 1) + 1 by omega, X0e]
   exact this
theorem z0Z : ∀ (n V : Nat), V < 1000000000 ^ n → vw (wd V) n = V
 |0, V, h => by simp at h; subst h; rfl
 |n + 1, V, h => by
  have hs : vw (wd V) (n + 1) = vw (wd (V / 1000000000)) n * B + wd V 0 := X0c (fun i => X0e V i) n
  rw [hs, z0Z n (V / 1000000000) (by rw [Nat.pow_succ] at h; omega), X0f]
  show ((V / 1000000000 : Nat) : Int) * 1000000000 + _ = _
  omega
theorem Z1D {f : Nat → Int} : ∀ {n V : Nat}, (∀ i, 0 ≤ f i) → (∀ i, f i < B) → vw f n = V → ∀ i, i < n → f i = wd V i
 |0, _, _, _, _, i, hi => by omega
 |n + 1, V, h0, h1, hv, i, hi => by
  have hs : vw f (n + 1) = vw (fun i => f (i + 1)) n * B + f 0 := X0c (fun i => rfl) n
  rw [hs] at hv
  have a0 := h0 0
  have a1 : f 0 < 1000000000 := h1 0
  have hv' : vw (fun i => f (i + 1)) n * 1000000000 + f 0 = V := hv
  have hn := x0N (f := fun i => f (i + 1)) (fun i => h0 (i + 1)) n
  generalize hw : vw (fun i => f (i + 1)) n = W at hv' hn
  have hq : W = ((V / 1000000000 : Nat) : Int) := by omega
  cases i with
  |zero => rw [X0f]; omega
  |succ i =>
   rw [X0e]
   exact Z1D (f := fun i => f (i + 1)) (fun i => h0 (i + 1)) (fun i => h1 (i + 1)) (by rw [hw, hq]) i (by omega)
theorem Y1y (n : Nat) : ((1000000000 ^ n : Nat) : Int) = B ^ n := by simp
theorem K1d {V d : Nat} (h : d < 1000000000) (i : Nat) : wd (V * 1000000000 + d) i = match i with | 0 => (d : Int) | i + 1 => wd V i := by
 cases i with
 |zero => rw [X0f]; show ((_ : Nat) : Int) = (d : Int); omega
 |succ i =>
  rw [X0e]
  show wd _ _ = wd _ _
  congr 1; omega
end Go.Na
namespace Go.Na
open Go
theorem Z1C {V W : Nat} (hn : nw V = nw W) (h : ∀ i, i < nw V → wd V i = wd W i) : V = W := by
 have h1 := z0Z (nw V) V (v0W V)
 have h2 := z0Z (nw W) W (v0W W)
 rw [← hn, ← X0b h] at h2
 omega
theorem K0t (f g : Nat → Int) : ∀ n, (∀ i, i < n → f i = g i) ∨ ∃ j, j < n ∧ f j ≠ g j ∧ ∀ k, j < k → k < n → f k = g k
 |0 => .inl (fun i h => absurd h (Nat.not_lt_zero i))
 |n + 1 => by
  by_cases he : f n = g n
  ·rcases K0t f g n with h | ⟨j, h1, h2, h3⟩
   ·exact .inl fun i hi => by
     rcases Nat.lt_succ_iff_lt_or_eq.1 hi with h' | rfl
     ·exact h i h'
     ·exact he
   ·exact .inr ⟨j, by omega, h2, fun k h4 h5 => by
     rcases Nat.lt_succ_iff_lt_or_eq.1 h5 with h' | rfl
     ·exact h3 k h4 h'
     ·exact he⟩
  ·exact .inr ⟨n, by omega, he, fun k h4 h5 => by omega⟩
theorem X0U {V W j : Nat} (hn : nw V = nw W) (hj : j < nw V) (hlt : wd V j < wd W j) (h : ∀ k, j < k → k < nw V → wd V k = wd W k) : V < W := by
 have h0 := J1Y (f := wd V) (g := wd W) (fun i => (q0y V i).1) (fun i => (q0y V i).2) (fun i => (q0y W i).1) hlt hj h
 rw [z0Z _ _ (v0W V), hn, z0Z _ _ (v0W W)] at h0
 omega
theorem k0J {V W : Nat} (h : nw V < nw W) : V < W := by
 apply Nat.lt_of_not_le
 intro hle
 have := Z0l (V := W) (n := nw V) (Nat.lt_of_le_of_lt hle (v0W V))
 omega
def x1H (f g : Nat → Int) : Nat → Int
 |0 => 0
 |n + 1 => if f n ≠ g n then f n - g n else x1H f g n
def bey (V W : Nat) : Int := if (nw V : Int) ≠ nw W then nw V - nw W else x1H (wd V) (wd W) (nw V)
theorem W1p {f g : Nat → Int} {n : Nat} (h : ∀ i, i < n → f i = g i) : x1H f g n = 0 := by
 induction n with
 |zero => rfl
 |succ n ih =>
  unfold x1H
  rw [if_neg (by simp [h n (by omega)])]
  exact ih fun i hi => h i (by omega)
theorem W1q {f g : Nat → Int} {n j : Nat} (hj : j < n) (hne : f j ≠ g j) (h : ∀ k, j < k → k < n → f k = g k) : x1H f g n = f j - g j := by
 induction n with
 |zero => omega
 |succ n ih =>
  unfold x1H
  by_cases e : n = j
  ·subst e; rw [if_pos hne]
  ·rw [if_neg (by simp [h n (by omega) (by omega)])]
   exact ih (by omega) fun k h1 h2 => h k h1 (by omega)
theorem q1a (V W : Nat) : 0 ≤ bey V W ↔ W ≤ V := by
 unfold bey
 by_cases hn : nw V = nw W
 ·rw [if_neg (by omega)]
  rcases K0t (wd V) (wd W) (nw V) with h | ⟨j, h1, h2, h3⟩
  ·rw [W1p h, Z1C hn h]; simp
  ·rw [W1q h1 h2 h3]
   rcases Int.lt_or_gt_of_ne h2 with h | h
   ·have := X0U hn h1 h h3
    omega
   ·have := X0U hn.symm (by omega) h (fun k h4 h5 => (h3 k h4 (by omega)).symm)
    omega
 ·rw [if_pos (by omega)]
  rcases Nat.lt_or_gt_of_ne hn with h | h
  ·have := k0J h; omega
  ·have := k0J h; omega
def X0k (V : Nat) (i : Nat) : Int := if i < nw V then wd V i else 0
theorem W0Y (V i : Nat) : 0 ≤ X0k V i ∧ X0k V i ≤ 999999999 := by
 have r1 := q0y V i
 have : Na.B = 1000000000 := rfl
 unfold X0k; split <;> omega
theorem W0X (V i : Nat) : X0k V i = wd V i := by
 unfold X0k; split
 ·rfl
 ·rw [v0n (by omega)]
def y1k (W : Nat) : Int := if 1 < nw W then X0k W (nw W - 1) + 1 else X0k W (nw W - 1)
def z1W (V W : Nat) : Int := (X0k V (nw W) * 1000000000 + X0k V (nw W - 1)) / y1k W
def est (V W : Nat) : Int := if 0 < z1W V W then (if 999999999 < z1W V W then 999999999 else z1W V W) else 1
theorem k0m {W : Nat} (h : W ≠ 0) : 0 < y1k W := by
 have h1 := y0f h
 have h2 := q0y W (nw W - 1)
 unfold y1k
 rw [W0X]
 split <;> omega
theorem z1V {V W : Nat} (hW : W ≠ 0) (hle : W ≤ V) : 1 ≤ est V W ∧ est V W ≤ 999999999 ∧ est V W * W ≤ V := by
 have hb := k0m hW
 have hn := z0R hW
 have hV : V < 1000000000 ^ (nw V + nw W + 2) := Nat.lt_of_lt_of_le (v0W V) (Nat.pow_le_pow_right (by decide) (by omega))
 have e1 := z0Z _ _ hV
 have e2 : vw (wd W) (nw W - 1 + 1) = W := by
  have : nw W - 1 + 1 = nw W := by omega
  rw [this]; exact z0Z _ _ (v0W W)
 have hB : y1k W = if nw W - 1 = 0 then wd W (nw W - 1) else wd W (nw W - 1) + 1 := by
  unfold y1k
  rw [W0X]
  by_cases h : 1 < nw W
  ·rw [if_pos h, if_neg (by omega)]
  ·rw [if_neg h, if_pos (by omega)]
 have key := fun k h0 h1 => X1B (f := wd V) (g := wd W) (n := nw W - 1) (N := nw V + nw W + 2) (b := y1k W) (k := k) (fun i => (q0y V i).1) (fun i => (q0y W i).1) (fun i => (q0y W i).2) (by omega) hB hb h0 h1
 have ew : nw W - 1 + 1 = nw W := by omega
 rw [e1, e2, ew, ← W0X, ← W0X] at key
 change ∀ k, 0 ≤ k → k ≤ z1W V W → k * W ≤ V at key
 unfold est
 split
 ·split
  ·exact ⟨by omega, by omega, key _ (by omega) (by omega)⟩
  ·exact ⟨by omega, by omega, key _ (by omega) (by omega)⟩
 ·refine ⟨by omega, by omega, by omega⟩
end Go.Na
namespace Go.Proofs.YtfggdokihnopeaaGreatDoor
open Go Go.Vc Go.RowKit Go.Na Go.Lib
set_option maxHeartbeats 4000000
theorem J0d (V W : Nat) (b c : Bool) (hV : nw V ≤ 232) (hW : nw W ≤ 232) : CtrA Tryz.prog 292 [wA b (nw V) (wd V), wA c (nw W) (wd W)] (vi (bey V W)) := by
 refine j0r _ Tryz.func292 rfl rfl Tryz.ntmps292 rfl fun w Z => ?_
 refine zU ?_
 refine wl ?_
 (refine j0a rfl ?_ ?_ <;> intro hb <;> (try simp only [zA, zB, zG, zC, zD, zN] at hb) <;> (try exact zQ))
 ·refine wl ?_
  exact j0c rfl (.tmp rfl) (congrArg vi (by unfold bey; rw [if_pos (by omega)]))
 ·refine wl ?_
  refine j0h (γ := Nat) (fun (i : Nat) => [(0, .av (wA b (nw V) (wd V))), (1, .av (wA c (nw W) (wd W))), (4, .av (vi 0)), (5, .av (vi ((i : Int) - 1)))]) (fun _ => []) (fun i => i ≤ nw V ∧ x1H (wd V) (wd W) (nw V) = x1H (wd V) (wd W) i) (fun i => i) (nw V) ⟨by omega, rfl⟩ (ent zS trivial) ?_
  rintro i ⟨hi, ht⟩
  refine wl ?_
  (refine j0a rfl ?_ ?_ <;> intro hb <;> (try simp only [zA, zB, zG, zC, zD, zN] at hb) <;> (try exact zQ))
  ·obtain ⟨k, rfl⟩ : ∃ k, i = k + 1 := ⟨i - 1, by omega⟩
   have r1 := q0y V k
   have r2 := q0y W k
   have : Na.B = 1000000000 := rfl
   have e : ((k + 1 : Nat) : Int) - 1 = k := by omega
   rw [e]
   refine wl ?_
   (refine j0a rfl ?_ ?_ <;> intro hb <;> (try simp only [zA, zB, zG, zC, zD, zN] at hb) <;> (try exact zQ))
   ·refine wl ?_
    exact j0c rfl (.tmp rfl) (congrArg vi (by unfold bey; rw [if_neg (by omega), ht, x1H, if_pos (by assumption)]))
   ·refine wl ?_
    exact j0b k ⟨by omega, by rw [ht, x1H, if_neg (by omega)]⟩ (by omega) (ent zS trivial)
  ·obtain rfl : i = 0 := by omega
   refine wl ?_
   exact j0c rfl (.tmp rfl) (congrArg vi (by unfold bey; rw [if_neg (by omega), ht]; rfl))
theorem x1e (V : Nat) (b : Bool) (hV : nw V ≤ 232) (i : Int) (k : Nat) (hi : i = k) : CtrA Tryz.prog 322 [wA b (nw V) (wd V), vi i] (vi (X0k V k)) := by
 subst hi
 have r1 := q0y V k
 refine j0r _ Tryz.func322 rfl rfl Tryz.ntmps322 rfl fun w Z => ?_
 refine zU ?_
 refine wl ?_
 (refine j0a rfl ?_ ?_ <;> intro hb <;> (try simp only [zA, zB, zG, zC, zD, zN] at hb) <;> (try exact zQ))
 ·refine wl ?_
  exact j0c rfl (.tmp rfl) (congrArg vi (by unfold X0k; rw [if_neg (by omega)]))
 ·refine wl ?_
  exact j0c rfl (.tmp rfl) (congrArg vi (by unfold X0k; rw [if_pos (by omega)]))
theorem V0e (V W : Nat) (b c : Bool) (hV : nw V ≤ 232) (hW : nw W ≤ 232) (h0 : W ≠ 0) : CtrA Tryz.prog 293 [wA b (nw V) (wd V), wA c (nw W) (wd W)] (vi (est V W)) := by
 have hn := z0R h0
 have h1 := x1e V b hV (nw W) (nw W) rfl
 have h2 := x1e V b hV (nw W - 1) (nw W - 1) zO
 have h3 := x1e W c hW (nw W - 1) (nw W - 1) zO
 have r1 := W0Y V (nw W)
 have r2 := W0Y V (nw W - 1)
 have r3 := W0Y W (nw W - 1)
 have hpos := k0m h0
 refine j0r _ Tryz.func293 rfl rfl Tryz.ntmps293 rfl fun w Z => ?_
 refine zU ?_
 refine wl ?_
 (refine j0a rfl ?_ ?_ <;> intro hb <;> (try simp only [zA, zB, zG, zC, zD, zN] at hb) <;> (try exact zQ))
 ·have he : z1W V W = (X0k V (nw W) * 1000000000 + X0k V (nw W - 1)) / (X0k W (nw W - 1) + 1) := by unfold z1W y1k; rw [if_pos (by omega)]
  refine wl ?_
  rw [← he]
  (refine j0a rfl ?_ ?_ <;> intro hb <;> (try simp only [zA, zB, zG, zC, zD, zN] at hb) <;> (try exact zQ))
  ·refine wl ?_
   exact j0c rfl (.tmp rfl) (congrArg vi (by unfold est; rw [he]; exact (if_pos (by omega)).symm))
  ·refine wl ?_
   exact j0c rfl (.tmp rfl) (congrArg vi (by unfold est; rw [he]; exact (if_neg (by omega)).symm))
 ·have he : z1W V W = (X0k V (nw W) * 1000000000 + X0k V (nw W - 1)) / X0k W (nw W - 1) := by unfold z1W y1k; rw [if_neg (by omega)]
  unfold y1k at hpos
  rw [if_neg (by omega)] at hpos
  refine wl ?_
  rw [← he]
  (refine j0a rfl ?_ ?_ <;> intro hb <;> (try simp only [zA, zB, zG, zC, zD, zN] at hb) <;> (try exact zQ))
  ·refine wl ?_
   exact j0c rfl (.tmp rfl) (congrArg vi (by unfold est; rw [he]; exact (if_pos (by omega)).symm))
  ·refine wl ?_
   exact j0c rfl (.tmp rfl) (congrArg vi (by unfold est; rw [he]; exact (if_neg (by omega)).symm))
end Go.Proofs.YtfggdokihnopeaaGreatDoor
namespace Go.Na
open Go Go.Vc
structure CI (V W u : Nat) (c : Int) (i : Nat) (r : Int) (n : Nat) (f : Nat → Int) : Prop where
 lo : ∀ k, 0 ≤ f k
 hi : ∀ k, f k < B
 out : ∀ k, n ≤ k → f k = 0
 nle : n ≤ 232
 val : vw f 232 + r * B ^ (i + u) = V + c * vw (wd W) i * B ^ u
 rest : -B ≤ r ∧ r ≤ B
 iu : i + u ≤ 232
theorem CI.zero {V W u : Nat} {c : Int} (hV : nw V ≤ 232) (hu : u ≤ 232) : CI V W u c 0 0 (nw V) (wd V) :=
 ⟨fun k => (q0y V k).1, fun k => (q0y V k).2, fun k hk => v0n hk, hV, by
  rw [z0Z 232 V (Nat.lt_of_lt_of_le (v0W V) (Nat.pow_le_pow_right (by decide) hV))]
  simp [vw], by decide, by omega⟩
theorem CI.step {V W u : Nat} {c : Int} {i : Nat} {r : Int} {n : Nat} {f : Nat → Int} (h : CI V W u c i r n f) (hlt : i + u < 232) (hc : -999999999 ≤ c ∧ c ≤ 999999999) {s t r' : Int} (hs : s = f (i + u) + r + c * wd W i) (ht : t + r' * 1000000000 = s) (h0 : 0 ≤ t) (h1 : t < 1000000000) (n' : Nat) (hn1 : i + u + 1 ≤ n') (hn2 : n ≤ n') (hn3 : n' ≤ 232) :
  CI V W u c (i + 1) r' n' (upd f (i + u) t) := by
 have hw := q0y W i
 have hl := h.lo (i + u)
 have hh := h.hi (i + u)
 have hr := h.rest
 have hB : B = 1000000000 := rfl
 rw [hB] at hw hh hr
 have p1 : -(999999999 * 999999999) ≤ c * wd W i ∧ c * wd W i ≤ 999999999 * 999999999 := by
  have a1 : c * wd W i ≤ 999999999 * wd W i := Int.mul_le_mul_of_nonneg_right hc.2 hw.1
  have a2 : -999999999 * wd W i ≤ c * wd W i := Int.mul_le_mul_of_nonneg_right hc.1 hw.1
  omega
 refine ⟨fun k => ?_, fun k => ?_, fun k hk => ?_, hn3, ?_, by rw [hB]; omega, by omega⟩
 ·unfold upd; split
  ·exact h0
  ·exact h.lo k
 ·unfold upd; split
  ·rw [hB]; exact h1
  ·exact h.hi k
 ·unfold upd; rw [if_neg (by omega)]; exact h.out k (by omega)
 ·exact K0E hlt h.val hs (by rw [X0a, hB]; exact ht) (fun k hk => Q0K _ _ hk)
theorem CI.end0 {V W u : Nat} {c : Int} {i : Nat} {r : Int} {n : Nat} {f : Nat → Int} (h : CI V W u c i r n f) (hi : nw W ≤ i) {R : Nat} (hR : (R : Int) = V + c * W * B ^ u) (hR2 : nw R ≤ 232) (he : i + u = 232) : r = 0 := by
 have hw : vw (wd W) i = W := z0Z i W (Nat.lt_of_lt_of_le (v0W W) (Nat.pow_le_pow_right zE hi))
 have hv := h.val
 rw [hw, ← hR, he] at hv
 have hlt : (R : Int) < B ^ 232 := by
  have := Nat.lt_of_lt_of_le (v0W R) (Nat.pow_le_pow_right zE hR2)
  rw [← Y1y]
  exact Int.ofNat_lt.2 this
 exact w1e (j := 232) (m := 232) (n := 232) h.lo h.hi (fun k hk => h.out k (by have := h.nle; omega)) (Nat.le_refl _) zO hlt (Nat.le_refl _) hv
theorem CI.fin {V W u : Nat} {c : Int} {i : Nat} {n : Nat} {f : Nat → Int} (h : CI V W u c i 0 n f) (hi : nw W ≤ i) {R : Nat} (hR : (R : Int) = V + c * W * B ^ u) (hR2 : nw R ≤ 232) : f = wd R ∧ nw R ≤ n := by
 have hw : vw (wd W) i = W := z0Z i W (Nat.lt_of_lt_of_le (v0W W) (Nat.pow_le_pow_right zE hi))
 have hv := h.val
 rw [hw, ← hR, Int.zero_mul, Int.add_zero] at hv
 have e : f = wd R := by
  funext k
  by_cases hk : k < 232
  ·exact Z1D h.lo h.hi hv k hk
  ·rw [h.out k (by have := h.nle; omega), v0n (by omega)]
 refine ⟨e, ?_⟩
 apply Nat.le_of_not_lt
 intro hlt
 have hR0 : R ≠ 0 := fun e => by rw [e, q0L] at hlt; omega
 have := y0f hR0
 rw [← e, h.out _ (by omega)] at this
 exact this rfl
end Go.Na
namespace Go.Proofs.YtfggdokihnopeaaGreatDoor
open Go Go.Vc Go.RowKit Go.Na Go.Lib
set_option maxHeartbeats 4000000
theorem w0a (b : Bool) (n m : Nat) (f : Nat → Int) (hmn : m ≤ n) (hn : n ≤ 232) (hz : ∀ i, m ≤ i → i < n → f i = 0) (ht : m = 0 ∨ f (m - 1) ≠ 0) : CtrH Tryz.prog 291 [.own 1000 0] [(1000, .wi b n f)] (.own 1000 0) [(1000, .wi b m f)] := by
 refine Q0R _ Tryz.func291 rfl rfl Tryz.ntmps291 rfl rfl fun w Z ν => ?_
 refine zU ?_
 refine wl ?_
 refine j0h (γ := Nat) (fun (i : Nat) => [(0, .own 1000 0)]) (fun (i : Nat) => [(1000, .wi b i f)]) (fun i => m ≤ i ∧ i ≤ n) (fun i => i) n ⟨by omega, by omega⟩ (ent ⟨.refl _, trivial⟩ zT) ?_
 rintro i ⟨h1, h2⟩
 refine wl ?_
 (first | refine j0g rfl rfl ?_ ?_ | refine j0f rfl rfl ?_ ?_) <;> intro hb <;> (try simp only [zA, zB, zG, zC, zD, zN] at hb) <;> (try exact zQ)
 ·refine wl ?_
  have e : ((i : Int) - 1).toNat = i - 1 := by omega
  rw [e]
  refine wl ?_
  (refine j0a rfl ?_ ?_ <;> intro hb <;> (try simp only [zA, zB, zG, zC, zD, zN] at hb) <;> (try exact zQ))
  ·refine wl ?_
   exact j0b (i - 1) ⟨by by_cases h : i = m
                         · subst h; exact absurd hb (by rcases ht with h | h; exact absurd h zO; exact h)
                         · omega, by omega⟩ (by omega) (ent ⟨.refl _, trivial⟩ ⟨⟨_, rfl, by rw [show ((i - 1 : Nat) : Int) = (i : Int) - 1 by omega]; exact .refl _⟩, trivial⟩)
  ·obtain rfl : i = m := (by
    apply Classical.byContradiction
    intro hne
    exact hb (hz _ zO zO))
   refine wl ?_
   exact v0Z rfl rfl rfl
 ·obtain rfl : i = m := zO
  refine wl ?_
  exact v0Z rfl rfl rfl
theorem q1k (b b' : Bool) (V W R u : Nat) (c : Int) (hV : nw V ≤ 232) (hW : nw W + u ≤ 232) (hR2 : nw R ≤ 232) (hc : -999999999 ≤ c ∧ c ≤ 999999999) (hR : (R : Int) = V + c * W * Na.B ^ u) :
  CtrH Tryz.prog 294 [.own 1000 0, .own 1001 0, .av (vi c), .av (vi u)] [(1000, .wi b (nw V) (wd V)), (1001, .wi b' (nw W) (wd W))] (.av .any) [(1000, .wi b (nw R) (wd R)), (1001, .wi b' (nw W) (wd W))] := by
 refine Q0R _ Tryz.func294 rfl rfl Tryz.ntmps294 rfl rfl fun w Z ν => ?_
 refine zU ?_
 refine wl ?_
 refine j0h (γ := Nat × Int × Nat × (Nat → Int)) (fun q => [(0, .own 1000 0), (1, .own 1001 0), (2, .av (vi c)), (3, .av (vi u)), (8, .av (vi q.2.1)), (9, .av (vi q.1))]) (fun q => [(1000, .wi b q.2.2.1 q.2.2.2), (1001, .wi b' (nw W) (wd W))]) (fun q => CI V W u c q.1 q.2.1 q.2.2.1 q.2.2.2) (fun q => 232 - q.1) (0, 0, nw V, wd V) (CI.zero hV zO) (ent zS zT) ?_
 rintro ⟨i, r, n, f⟩ h
 dsimp only at h
 have hiu := h.iu
 have hl := h.lo (i + u)
 have hh := h.hi (i + u)
 have hr := h.rest
 have hn := h.nle
 have hw := q0y W i
 have hB : Na.B = 1000000000 := rfl
 rw [hB] at hh hr hw
 have p1 : -(999999999 * 999999999) ≤ c * wd W i ∧ c * wd W i ≤ 999999999 * 999999999 := by
  have a1 : c * wd W i ≤ 999999999 * wd W i := Int.mul_le_mul_of_nonneg_right hc.2 hw.1
  have a2 : -999999999 * wd W i ≤ c * wd W i := Int.mul_le_mul_of_nonneg_right hc.1 hw.1
  omega
 have hmx : ((max n (i + u + 1) : Nat) : Int) = if (n : Int) < (i : Int) + u + 1 then (i : Int) + u + 1 else n := by split <;> omega
 dsimp only
 refine wl ?_
 (first | refine j0g rfl rfl ?_ ?_ | refine j0f rfl rfl ?_ ?_) <;> intro hb <;> (try simp only [zA, zB, zG, zC, zD, zN] at hb) <;> (try exact zQ)
 ·have hlt : i + u < 232 := by omega
  have hq := w0Q (f (i + u) + r + c * wd W i)
  dsimp only at hq
  rw [hB] at hq
  refine wl ?_
  (refine j0a rfl ?_ ?_ <;> intro hb <;> (try simp only [zA, zB, zG, zC, zD, zN] at hb) <;> (try exact zQ))
  refine wl ?_
  (refine j0a rfl ?_ ?_ <;> intro hb <;> (try simp only [zA, zB, zG, zC, zD, zN] at hb) <;> (try exact zQ))
  ·refine wl ?_
   exact j0b (g := (i, r, n, f)) (i + 1, (f (i + u) + r + c * wd W i).tdiv 1000000000 - 1, max n (i + u + 1), upd f (i + u) (f (i + u) + r + c * wd W i - (f (i + u) + r + c * wd W i).tdiv 1000000000 * 1000000000 + 1000000000)) (CI.step h hlt hc (s := f (i + u) + r + c * wd W i) (t := f (i + u) + r + c * wd W i - (f (i + u) + r + c * wd W i).tdiv 1000000000 * 1000000000 + 1000000000) (r' := (f (i + u) + r + c * wd W i).tdiv 1000000000 - 1) rfl (by omega) (by omega) (by omega) (max n (i + u + 1)) (by omega) (by omega) (by omega)) (by show 232 - (i + 1) < 232 - i; omega) (ent ⟨.refl _, .refl _, .refl _, .refl _, .refl _, .int (by show (i : Int) + 1 = ((i + 1 : Nat) : Int); omega), trivial⟩ ⟨⟨_, rfl, by rw [hmx]; exact .refl _⟩, ⟨_, rfl, .refl _⟩, trivial⟩)
  ·refine wl ?_
   exact j0b (g := (i, r, n, f)) (i + 1, (f (i + u) + r + c * wd W i).tdiv 1000000000, max n (i + u + 1), upd f (i + u) (f (i + u) + r + c * wd W i - (f (i + u) + r + c * wd W i).tdiv 1000000000 * 1000000000)) (CI.step h hlt hc (s := f (i + u) + r + c * wd W i) (t := f (i + u) + r + c * wd W i - (f (i + u) + r + c * wd W i).tdiv 1000000000 * 1000000000) (r' := (f (i + u) + r + c * wd W i).tdiv 1000000000) rfl (by omega) (by omega) (by omega) (max n (i + u + 1)) (by omega) (by omega) (by omega)) (by show 232 - (i + 1) < 232 - i; omega) (ent ⟨.refl _, .refl _, .refl _, .refl _, .refl _, .int (by show (i : Int) + 1 = ((i + 1 : Nat) : Int); omega), trivial⟩ ⟨⟨_, rfl, by rw [hmx]; exact .refl _⟩, ⟨_, rfl, .refl _⟩, trivial⟩)
 ·refine wl ?_
  (refine j0a rfl ?_ ?_ <;> intro hb <;> (try simp only [zA, zB, zG, zC, zD, zN] at hb) <;> (try exact zQ))
  ·have hlt : i + u < 232 := (by
    apply Classical.byContradiction
    intro hge
    exact hb (h.end0 zO hR hR2 zO))
   have hq := w0Q (f (i + u) + r)
   dsimp only at hq
   rw [hB] at hq
   refine wl ?_
   (refine j0a rfl ?_ ?_ <;> intro hb <;> (try simp only [zA, zB, zG, zC, zD, zN] at hb) <;> (try exact zQ))
   refine wl ?_
   (refine j0a rfl ?_ ?_ <;> intro hb <;> (try simp only [zA, zB, zG, zC, zD, zN] at hb) <;> (try exact zQ))
   ·refine wl ?_
    exact j0b (g := (i, r, n, f)) (i + 1, (f (i + u) + r).tdiv 1000000000 - 1, max n (i + u + 1), upd f (i + u) (f (i + u) + r - (f (i + u) + r).tdiv 1000000000 * 1000000000 + 1000000000)) (CI.step h hlt hc (s := f (i + u) + r) (t := f (i + u) + r - (f (i + u) + r).tdiv 1000000000 * 1000000000 + 1000000000) (r' := (f (i + u) + r).tdiv 1000000000 - 1) (by rw [v0n (V := W) (i := i) (by omega), Int.mul_zero, Int.add_zero]) (by omega) (by omega) (by omega) (max n (i + u + 1)) (by omega) (by omega) (by omega)) (by show 232 - (i + 1) < 232 - i; omega) (ent ⟨.refl _, .refl _, .refl _, .refl _, .refl _, .int (by show (i : Int) + 1 = ((i + 1 : Nat) : Int); omega), trivial⟩ ⟨⟨_, rfl, by rw [hmx]; exact .refl _⟩, ⟨_, rfl, .refl _⟩, trivial⟩)
   ·refine wl ?_
    exact j0b (g := (i, r, n, f)) (i + 1, (f (i + u) + r).tdiv 1000000000, max n (i + u + 1), upd f (i + u) (f (i + u) + r - (f (i + u) + r).tdiv 1000000000 * 1000000000)) (CI.step h hlt hc (s := f (i + u) + r) (t := f (i + u) + r - (f (i + u) + r).tdiv 1000000000 * 1000000000) (r' := (f (i + u) + r).tdiv 1000000000) (by rw [v0n (V := W) (i := i) (by omega), Int.mul_zero, Int.add_zero]) (by omega) (by omega) (by omega) (max n (i + u + 1)) (by omega) (by omega) (by omega)) (by show 232 - (i + 1) < 232 - i; omega) (ent ⟨.refl _, .refl _, .refl _, .refl _, .refl _, .int (by show (i : Int) + 1 = ((i + 1 : Nat) : Int); omega), trivial⟩ ⟨⟨_, rfl, by rw [hmx]; exact .refl _⟩, ⟨_, rfl, .refl _⟩, trivial⟩)
  ·refine wl ?_
   subst hb
   obtain ⟨rfl, hle⟩ := h.fin zO hR hR2
   have ht := w0a b n (nw R) (wd R) hle hn (fun i h _ => v0n h) (by
    by_cases h0 : R = 0
    ·left; rw [h0, q0L]
    ·exact .inr (y0f h0))
   refine j0C (j0o [] ht rfl ⟨rfl, trivial⟩ rfl) rfl ?_
   refine wl ?_
   exact q0o (T' := []) (O' := [(1000, .wi b (nw R) (wd R)), (1001, .wi b' (nw W) (wd W))]) (ent trivial zT) (W0K rfl rfl rfl)
theorem V0T (b b' : Bool) (V W R u : Nat) (c : Int) (hV : nw V ≤ 232) (hW : nw W + u ≤ 232) (hR2 : nw R ≤ 232) (hc : -999999999 ≤ c ∧ c ≤ 999999999) (hR : (R : Int) = V + c * W * Na.B ^ u) :
  CtrH Tryz.prog 294 [.own 1000 0, .av (wA b' (nw W) (wd W)), .av (vi c), .av (vi u)] [(1000, .wi b (nw V) (wd V))] (.av .any) [(1000, .wi b (nw R) (wd R))] := by
 refine Q0R _ Tryz.func294 rfl rfl Tryz.ntmps294 rfl rfl fun w Z ν => ?_
 refine zU ?_
 refine wl ?_
 refine j0h (γ := Nat × Int × Nat × (Nat → Int)) (fun q => [(0, .own 1000 0), (1, .av (wA b' (nw W) (wd W))), (2, .av (vi c)), (3, .av (vi u)), (8, .av (vi q.2.1)), (9, .av (vi q.1))]) (fun q => [(1000, .wi b q.2.2.1 q.2.2.2)]) (fun q => CI V W u c q.1 q.2.1 q.2.2.1 q.2.2.2) (fun q => 232 - q.1) (0, 0, nw V, wd V) (CI.zero hV zO) (ent zS zT) ?_
 rintro ⟨i, r, n, f⟩ h
 dsimp only at h
 have hiu := h.iu
 have hl := h.lo (i + u)
 have hh := h.hi (i + u)
 have hr := h.rest
 have hn := h.nle
 have hw := q0y W i
 have hB : Na.B = 1000000000 := rfl
 rw [hB] at hh hr hw
 have p1 : -(999999999 * 999999999) ≤ c * wd W i ∧ c * wd W i ≤ 999999999 * 999999999 := by
  have a1 : c * wd W i ≤ 999999999 * wd W i := Int.mul_le_mul_of_nonneg_right hc.2 hw.1
  have a2 : -999999999 * wd W i ≤ c * wd W i := Int.mul_le_mul_of_nonneg_right hc.1 hw.1
  omega
 have hmx : ((max n (i + u + 1) : Nat) : Int) = if (n : Int) < (i : Int) + u + 1 then (i : Int) + u + 1 else n := by split <;> omega
 dsimp only
 refine wl ?_
 (first | refine j0g rfl rfl ?_ ?_ | refine j0f rfl rfl ?_ ?_) <;> intro hb <;> (try simp only [zA, zB, zG, zC, zD, zN] at hb) <;> (try exact zQ)
 ·have hlt : i + u < 232 := by omega
  have hq := w0Q (f (i + u) + r + c * wd W i)
  dsimp only at hq
  rw [hB] at hq
  refine wl ?_
  (refine j0a rfl ?_ ?_ <;> intro hb <;> (try simp only [zA, zB, zG, zC, zD, zN] at hb) <;> (try exact zQ))
  refine wl ?_
  (refine j0a rfl ?_ ?_ <;> intro hb <;> (try simp only [zA, zB, zG, zC, zD, zN] at hb) <;> (try exact zQ))
  ·refine wl ?_
   exact j0b (g := (i, r, n, f)) (i + 1, (f (i + u) + r + c * wd W i).tdiv 1000000000 - 1, max n (i + u + 1), upd f (i + u) (f (i + u) + r + c * wd W i - (f (i + u) + r + c * wd W i).tdiv 1000000000 * 1000000000 + 1000000000)) (CI.step h hlt hc (s := f (i + u) + r + c * wd W i) (t := f (i + u) + r + c * wd W i - (f (i + u) + r + c * wd W i).tdiv 1000000000 * 1000000000 + 1000000000) (r' := (f (i + u) + r + c * wd W i).tdiv 1000000000 - 1) rfl (by omega) (by omega) (by omega) (max n (i + u + 1)) (by omega) (by omega) (by omega)) (by show 232 - (i + 1) < 232 - i; omega) (ent ⟨.refl _, .refl _, .refl _, .refl _, .refl _, .int (by show (i : Int) + 1 = ((i + 1 : Nat) : Int); omega), trivial⟩ ⟨⟨_, rfl, by rw [hmx]; exact .refl _⟩, trivial⟩)
  ·refine wl ?_
   exact j0b (g := (i, r, n, f)) (i + 1, (f (i + u) + r + c * wd W i).tdiv 1000000000, max n (i + u + 1), upd f (i + u) (f (i + u) + r + c * wd W i - (f (i + u) + r + c * wd W i).tdiv 1000000000 * 1000000000)) (CI.step h hlt hc (s := f (i + u) + r + c * wd W i) (t := f (i + u) + r + c * wd W i - (f (i + u) + r + c * wd W i).tdiv 1000000000 * 1000000000) (r' := (f (i + u) + r + c * wd W i).tdiv 1000000000) rfl (by omega) (by omega) (by omega) (max n (i + u + 1)) (by omega) (by omega) (by omega)) (by show 232 - (i + 1) < 232 - i; omega) (ent ⟨.refl _, .refl _, .refl _, .refl _, .refl _, .int (by show (i : Int) + 1 = ((i + 1 : Nat) : Int); omega), trivial⟩ ⟨⟨_, rfl, by rw [hmx]; exact .refl _⟩, trivial⟩)
 ·refine wl ?_
  (refine j0a rfl ?_ ?_ <;> intro hb <;> (try simp only [zA, zB, zG, zC, zD, zN] at hb) <;> (try exact zQ))
  ·have hlt : i + u < 232 := (by
    apply Classical.byContradiction
    intro hge
    exact hb (h.end0 zO hR hR2 zO))
   have hq := w0Q (f (i + u) + r)
   dsimp only at hq
   rw [hB] at hq
   refine wl ?_
   (refine j0a rfl ?_ ?_ <;> intro hb <;> (try simp only [zA, zB, zG, zC, zD, zN] at hb) <;> (try exact zQ))
   refine wl ?_
   (refine j0a rfl ?_ ?_ <;> intro hb <;> (try simp only [zA, zB, zG, zC, zD, zN] at hb) <;> (try exact zQ))
   ·refine wl ?_
    exact j0b (g := (i, r, n, f)) (i + 1, (f (i + u) + r).tdiv 1000000000 - 1, max n (i + u + 1), upd f (i + u) (f (i + u) + r - (f (i + u) + r).tdiv 1000000000 * 1000000000 + 1000000000)) (CI.step h hlt hc (s := f (i + u) + r) (t := f (i + u) + r - (f (i + u) + r).tdiv 1000000000 * 1000000000 + 1000000000) (r' := (f (i + u) + r).tdiv 1000000000 - 1) (by rw [v0n (V := W) (i := i) (by omega), Int.mul_zero, Int.add_zero]) (by omega) (by omega) (by omega) (max n (i + u + 1)) (by omega) (by omega) (by omega)) (by show 232 - (i + 1) < 232 - i; omega) (ent ⟨.refl _, .refl _, .refl _, .refl _, .refl _, .int (by show (i : Int) + 1 = ((i + 1 : Nat) : Int); omega), trivial⟩ ⟨⟨_, rfl, by rw [hmx]; exact .refl _⟩, trivial⟩)
   ·refine wl ?_
    exact j0b (g := (i, r, n, f)) (i + 1, (f (i + u) + r).tdiv 1000000000, max n (i + u + 1), upd f (i + u) (f (i + u) + r - (f (i + u) + r).tdiv 1000000000 * 1000000000)) (CI.step h hlt hc (s := f (i + u) + r) (t := f (i + u) + r - (f (i + u) + r).tdiv 1000000000 * 1000000000) (r' := (f (i + u) + r).tdiv 1000000000) (by rw [v0n (V := W) (i := i) (by omega), Int.mul_zero, Int.add_zero]) (by omega) (by omega) (by omega) (max n (i + u + 1)) (by omega) (by omega) (by omega)) (by show 232 - (i + 1) < 232 - i; omega) (ent ⟨.refl _, .refl _, .refl _, .refl _, .refl _, .int (by show (i : Int) + 1 = ((i + 1 : Nat) : Int); omega), trivial⟩ ⟨⟨_, rfl, by rw [hmx]; exact .refl _⟩, trivial⟩)
  ·refine wl ?_
   subst hb
   obtain ⟨rfl, hle⟩ := h.fin zO hR hR2
   have ht := w0a b n (nw R) (wd R) hle hn (fun i h _ => v0n h) (by
    by_cases h0 : R = 0
    ·left; rw [h0, q0L]
    ·exact .inr (y0f h0))
   refine j0C (j0o [] ht rfl ⟨rfl, trivial⟩ rfl) rfl ?_
   refine wl ?_
   exact q0o (T' := []) (O' := [(1000, .wi b (nw R) (wd R))]) (ent trivial zT) (W0K rfl rfl rfl)
theorem w1U : Tryz.prog.built 297 [] = some (wvs 232 false 0 (fun _ => 0)).toArray := by kernel_rfl
theorem J1H (b : Bool) : Tryz.prog.built 297 [(0, .bool b)] = some (wvs 232 b 0 (fun _ => 0)).toArray := by cases b <;> kernel_rfl
def z0y (b : Bool) (V : Nat) (b' : Bool) (W : Nat) : Bool × Nat := if b = b' then (b, V + W) else if W ≤ V then (b, V - W) else (b', W - V)
theorem Z0K (b b' : Bool) (V W : Nat) (hV : nw V ≤ 232) (hW : nw W ≤ 232) (hR2 : nw (z0y b V b' W).2 ≤ 232) :
  CtrH Tryz.prog 311 [.own 1000 0, .av (wA b' (nw W) (wd W))] [(1000, .wi b (nw V) (wd V))] (.av .any) [(1000, .wi (z0y b V b' W).1 (nw (z0y b V b' W).2) (wd (z0y b V b' W).2))] := by
 have hbe := fun c => J0d V W b c hV hW
 unfold z0y at hR2 ⊢
 by_cases hbb : b = b'
 ·subst hbb
  rw [if_pos rfl] at hR2 ⊢
  dsimp only at hR2 ⊢
  have hc := V0T b b V W (V + W) 0 1 hV (by omega) hR2 (by omega) (by simp)
  have hbq : (b == b) = true := by simp
  refine Q0R _ Tryz.func311 rfl rfl Tryz.ntmps311 rfl rfl fun w Z ν => ?_
  refine zU ?_
  refine wl ?_
  rw [hbq]
  refine wl ?_
  refine j0C (j0o [] hc rfl ⟨rfl, trivial⟩ rfl) rfl ?_
  refine wl ?_
  exact q0o (T' := []) (O' := [(1000, .wi b (nw (V + W)) (wd (V + W)))]) (ent trivial zT) (W0M rfl rfl rfl)
 ·rw [if_neg hbb] at hR2 ⊢
  have hbq : (b == b') = false := by simpa using hbb
  have hb2 := q1a V W
  have hbe := J0d V W b b' hV hW
  by_cases hle : W ≤ V
  ·rw [if_pos hle] at hR2 ⊢
   dsimp only at hR2 ⊢
   have hc := V0T b b' V W (V - W) 0 (-1) hV (by omega) hR2 (by omega) (by simp; omega)
   refine Q0R _ Tryz.func311 rfl rfl Tryz.ntmps311 rfl rfl fun w Z ν => ?_
   refine zU ?_
   refine wl ?_
   rw [hbq]
   refine wl ?_
   refine j0j (q0p hbe rfl ⟨.w rfl rfl, .av rfl, trivial⟩ (q0I _)) rfl ?_
   refine wl ?_
   (refine j0a rfl ?_ ?_ <;> intro hb <;> (try simp only [zA, zB, zG, zC, zD, zN] at hb) <;> (try exact zQ))
   refine wl ?_
   refine j0C (j0o [] hc rfl ⟨rfl, trivial⟩ rfl) rfl ?_
   refine wl ?_
   exact q0o (T' := []) (O' := [(1000, .wi b (nw (V - W)) (wd (V - W)))]) (ent trivial zT) (W0M rfl rfl rfl)
  ·rw [if_neg hle] at hR2 ⊢
   dsimp only at hR2 ⊢
   have hc := q1k b' b W V (W - V) 0 (-1) hW (by omega) hR2 (by omega) (by simp; omega)
   refine Q0R _ Tryz.func311 rfl rfl Tryz.ntmps311 rfl rfl fun w Z ν => ?_
   refine zU ?_
   refine wl ?_
   rw [hbq]
   refine wl ?_
   refine j0j (q0p hbe rfl ⟨.w rfl rfl, .av rfl, trivial⟩ (q0I _)) rfl ?_
   refine wl ?_
   (refine j0a rfl ?_ ?_ <;> intro hb <;> (try simp only [zA, zB, zG, zC, zD, zN] at hb) <;> (try exact zQ))
   refine wl ?_
   refine j0j (Y0Y rfl) rfl ?_
   refine j0C (q1K 5 rfl) rfl ?_
   refine q0M (z0O rfl rfl rfl) ?_
   refine wl ?_
   refine j0C (j0o [(1000, 5), (1001, 1000)] hc rfl ⟨rfl, rfl, trivial⟩ rfl) rfl ?_
   refine wl ?_
   refine j0j (Y0Z rfl rfl) rfl ?_
   refine j0j (v0t rfl) rfl ?_
   refine q0M (z0O rfl rfl rfl) ?_
   refine wl ?_
   exact q0o (T' := []) (O' := [(1000, .wi b' (nw (W - V)) (wd (W - V)))]) (ent trivial zT) (W0K rfl rfl rfl)
theorem Z1S : wd 0 = fun _ => 0 := by funext i; simp [wd]
theorem v1m (W i : Nat) : W % 1000000000 ^ (i + 1) = W % 1000000000 ^ i + (wd W i).toNat * 1000000000 ^ i := by
 rw [Nat.mod_pow_succ]
 have : (wd W i).toNat = W / 1000000000 ^ i % 1000000000 := by unfold wd; exact Int.toNat_natCast _
 rw [this, Nat.mul_comm]
theorem z1A (b b' : Bool) (V W : Nat) (hVW : nw V + nw W ≤ 232) :
  CtrH Tryz.prog 237 [.av (wA b (nw V) (wd V)), .av (wA b' (nw W) (wd W))] [] (.own 7 0) [(7, .wi (b != b') (nw (V * W)) (wd (V * W)))] := by
 have hbd : ∀ i, i ≤ nw W → nw (V * (W % 1000000000 ^ i)) ≤ 232 := fun i hi => by
  refine Z0l ?_
  have h1 : W % 1000000000 ^ i < 1000000000 ^ i := Nat.mod_lt _ (Nat.pow_pos zE)
  have h2 : V * (W % 1000000000 ^ i) < 1000000000 ^ (nw V) * 1000000000 ^ i := by
   refine Nat.lt_of_le_of_lt (Nat.mul_le_mul_left V (Nat.le_of_lt h1)) ?_
   exact (Nat.mul_lt_mul_right (Nat.pow_pos zE)).2 (v0W V)
  rw [← Nat.pow_add] at h2
  exact Nat.lt_of_lt_of_le h2 (Nat.pow_le_pow_right zE zO)
 refine Q0R _ Tryz.func237 rfl rfl Tryz.ntmps237 rfl rfl fun w Z ν => ?_
 refine zU ?_
 refine wl ?_
 refine q0n (j0n (is := [0]) (xs := [_]) (vs := [.bool (b != b')]) (J1H _) rfl rfl) rfl ?_
 refine x0l (y1s 7 rfl) rfl rfl ?_
 refine wl ?_
 refine j0h (γ := Nat) (fun i => [(0, .av (wA b (nw V) (wd V))), (1, .av (wA b' (nw W) (wd W))), (5, .own 7 0), (21, .av (vi (nw W))), (22, .av (vi i))]) (fun i => [(7, .wi (b != b') (nw (V * (W % 1000000000 ^ i))) (wd (V * (W % 1000000000 ^ i))))]) (fun i => i ≤ nw W) (fun i => nw W - i) 0 zO (ent zS ⟨⟨_, rfl, by
  rw [show V * (W % 1000000000 ^ 0) = 0 by rw [Nat.pow_zero, Nat.mod_one, Nat.mul_zero], q0L, Z1S]
  exact .refl _⟩, trivial⟩) ?_
 intro i hi
 refine wl ?_
 (refine j0a rfl ?_ ?_ <;> intro hb <;> (try simp only [zA, zB, zG, zC, zD, zN] at hb) <;> (try exact zQ))
 ·have hw := q0y W i
  have hB : Na.B = 1000000000 := rfl
  rw [hB] at hw
  have hc := V0T (b != b') b (V * (W % 1000000000 ^ i)) V (V * (W % 1000000000 ^ (i + 1))) i (wd W i) (hbd i hi) zO (hbd (i + 1) zO) zO (by
   have hwc : ((wd W i).toNat : Int) = wd W i := Int.toNat_of_nonneg hw.1
   rw [v1m, Nat.mul_add, ← Y1y i]
   generalize 1000000000 ^ i = p
   simp only [Int.natCast_add, Int.natCast_mul, hwc]
   grind)
  refine wl ?_
  refine j0C (j0o [(1000, 7)] hc rfl ⟨rfl, trivial⟩ rfl) rfl ?_
  refine wl ?_
  exact j0b (i + 1) zO zO (ent zS zT)
 ·obtain rfl : i = nw W := by omega
  refine wl ?_
  have e : W % 1000000000 ^ nw W = W := Nat.mod_eq_of_lt (v0W W)
  rw [e]
  exact v0Z rfl rfl rfl
end Go.Proofs.YtfggdokihnopeaaGreatDoor
section
namespace Go.Na
open Go Go.Vc
theorem w1R {b : Bool} {n : Int} {f : Nat → Int} {m : Nat} (hm : m ≤ 231) :
  (wvs 232 b n f).take 3 ++ ((wvs 232 b n f).drop 2).take m ++ (wvs 232 b n f).drop (3 + m) = wvs 232 b n (V1K f m) := by
 have hl := q0v 232 b n f
 apply List.ext_getElem?
 intro i
 rw [List.append_assoc]
 by_cases h3 : i < 3
 ·rw [List.getElem?_append_left (by simp [hl]; omega), List.getElem?_take_of_lt h3]
  rcases (by omega : i = 0 ∨ i = 1 ∨ i = 2) with rfl | rfl | rfl
  ·rfl
  ·rfl
  ·rw [w0b (k := 0) rfl (by decide), w0b (k := 0) rfl (by decide)]
   unfold V1K; rw [if_neg (by omega)]
 ·rw [List.getElem?_append_right (by simp [hl]; omega)]
  have hlt : ((wvs 232 b n f).take 3).length = 3 := by simp [hl]
  rw [hlt]
  by_cases hi : i < 3 + m
  ·rw [List.getElem?_append_left (by simp [hl]; omega), List.getElem?_take_of_lt (by omega), List.getElem?_drop]
   rw [w0b (k := i - 3) (by omega) (by omega), w0b (k := i - 2) (by omega) (by omega)]
   unfold V1K; rw [if_pos (by omega)]
   congr 3
  ·have hlm : (((wvs 232 b n f).drop 2).take m).length = m := by simp [hl]; omega
   rw [List.getElem?_append_right (by rw [hlm]; omega), hlm, List.getElem?_drop]
   have e : 3 + m + (i - 3 - m) = i := by omega
   rw [e]
   by_cases h4 : i < 234
   ·rw [w0b (k := i - 2) (by omega) (by omega), w0b (k := i - 2) (by omega) (by omega)]
    unfold V1K; rw [if_neg (by omega)]
   ·rw [List.getElem?_eq_none (by rw [hl]; omega), List.getElem?_eq_none (by rw [q0v]; omega)]
theorem w1y {R : Nat} {d : Nat} (hd : d < 1000000000) : upd (V1K (wd R) (nw R)) 0 (d : Int) = wd (R * 1000000000 + d) := by
 funext i
 rw [K1d hd]
 cases i with
 |zero => rw [X0a]
 |succ i =>
  rw [Q0K _ _ (by omega)]
  unfold V1K
  split
  ·rfl
  ·rw [v0n (by omega)]
   show 0 = wd R i
   rw [v0n (by omega)]
theorem Y1l {R d : Nat} (hd : d < 1000000000) : nw (R * 1000000000 + d) ≤ nw R + 1 := by
 refine Z0l ?_
 have := v0W R
 rw [Nat.pow_succ]
 have h2 : (R + 1) * 1000000000 ≤ 1000000000 ^ nw R * 1000000000 := Nat.mul_le_mul_right _ this
 omega
theorem q1y {H W d : Nat} (hW : 0 < W) (hd : d < 1000000000) : (H % W * 1000000000 + d) % W = (H * 1000000000 + d) % W ∧ (H % W * 1000000000 + d) / W = (H * 1000000000 + d) / W % 1000000000 ∧ (H % W * 1000000000 + d) / W < 1000000000 := by
 have h2 := Nat.div_add_mod H W
 have hr := Nat.mod_lt H hW
 generalize H % W = r at *
 generalize H / W = q at *
 subst h2
 have e : (W * q + r) * 1000000000 + d = (r * 1000000000 + d) + W * (q * 1000000000) := by
  rw [← Nat.mul_assoc, Nat.add_mul, Nat.add_assoc, Nat.add_comm]
 have hX : r * 1000000000 + d < 1000000000 * W := by omega
 have hq : (r * 1000000000 + d) / W < 1000000000 := (Nat.div_lt_iff_lt_mul hW).2 hX
 rw [e, Nat.add_mul_mod_self_left, Nat.add_mul_div_left _ _ hW, Nat.add_mul_mod_self_right, Nat.mod_eq_of_lt hq]
 exact ⟨rfl, rfl, hq⟩
theorem k0g {V W k : Nat} (hW : W ≠ 0) :
  (V / 1000000000 ^ (k + 1) % W * 1000000000 + V / 1000000000 ^ k % 1000000000) % W = V / 1000000000 ^ k % W ∧ (V / 1000000000 ^ (k + 1) % W * 1000000000 + V / 1000000000 ^ k % 1000000000) / W = V / W / 1000000000 ^ k % 1000000000 ∧ (V / 1000000000 ^ (k + 1) % W * 1000000000 + V / 1000000000 ^ k % 1000000000) / W < 1000000000 := by
 have h1 : V / 1000000000 ^ k = V / 1000000000 ^ (k + 1) * 1000000000 + V / 1000000000 ^ k % 1000000000 := by
  rw [Nat.pow_succ, ← Nat.div_div_eq_div_mul]
  have := Nat.div_add_mod (V / 1000000000 ^ k) 1000000000
  omega
 have h3 : V / W / 1000000000 ^ k = V / 1000000000 ^ k / W := by
  rw [Nat.div_div_eq_div_mul, Nat.div_div_eq_div_mul, Nat.mul_comm]
 rw [h3]
 have hd : V / 1000000000 ^ k % 1000000000 < 1000000000 := Nat.mod_lt _ zE
 have := q1y (H := V / 1000000000 ^ (k + 1)) (Nat.pos_of_ne_zero hW) hd
 rw [← h1] at this
 exact this
def hiq (Q k : Nat) : Nat → Int := fun j => if k ≤ j then wd Q j else 0
theorem k0D {Q k : Nat} : upd (hiq Q (k + 1)) k (wd Q k) = hiq Q k := by
 funext j
 unfold upd hiq
 by_cases h : j = k
 ·subst h; rw [if_pos rfl, if_pos (Nat.le_refl _)]
 ·rw [if_neg h]
  by_cases h2 : k ≤ j
  ·rw [if_pos (by omega), if_pos h2]
  ·rw [if_neg (by omega), if_neg h2]
theorem k0E (Q : Nat) : hiq Q 0 = wd Q := by funext j; unfold hiq; rw [if_pos (Nat.zero_le _)]
theorem v1c {Q k : Nat} (h : nw Q ≤ k) : hiq Q k = fun _ => 0 := by
 funext j
 unfold hiq
 split
 ·exact v0n zO
 ·rfl
theorem v0w {V W : Nat} (h : V ≤ W) : nw V ≤ nw W := Z0l (Nat.lt_of_le_of_lt h (v0W W))
end Go.Na
namespace Go.Na
open Go Go.Vc
def J1k (Q n : Nat) : Nat → Int := fun j => if j < n then wd Q j else 0
theorem v1n {Q n : Nat} : upd (J1k Q n) n (wd Q n) = J1k Q (n + 1) := by
 funext j
 unfold upd J1k
 by_cases h : j = n
 ·subst h; rw [if_pos rfl, if_pos (by omega)]
 ·rw [if_neg h]
  by_cases h2 : j < n
  ·rw [if_pos h2, if_pos (by omega)]
  ·rw [if_neg h2, if_neg (by omega)]
theorem v1o (Q : Nat) : J1k Q 0 = fun _ => 0 := by funext j; unfold J1k; rw [if_neg (by omega)]
theorem y1z {Q n : Nat} (h : nw Q ≤ n) : J1k Q n = wd Q := by
 funext j
 unfold J1k
 split
 ·rfl
 ·rw [v0n (by omega)]
theorem v1y {V n : Nat} (h : V / 1000000000 ^ n = 0) : nw V ≤ n := by
 refine Z0l ?_
 have := Nat.lt_mul_div_succ V (Nat.pow_pos (n := n) (show 0 < 1000000000 by decide))
 rw [h] at this
 omega
theorem w1c {l : List UInt8} {V n : Nat} (hd : ∀ b ∈ l, isD b) (h : dv l = V / 1000000000 ^ n) : dv (l.take (l.length - 9)) = V / 1000000000 ^ (n + 1) ∧ ((dv (l.drop (l.length - 9)) : Nat) : Int) = wd V n := by
 obtain ⟨h1, h2⟩ := w1b hd
 rw [h] at h1
 generalize dv (l.take (l.length - 9)) = a at *
 generalize dv (l.drop (l.length - 9)) = b at *
 unfold wd
 rw [Nat.pow_succ, ← Nat.div_div_eq_div_mul]
 generalize V / 1000000000 ^ n = q at *
 constructor
 ·omega
 ·omega
end Go.Na
end
section
namespace Go.Proofs.YtfggdokihnopeaaGreatDoor
open Go Go.Vc Go.RowKit Go.Na Go.Lib
set_option maxHeartbeats 4000000
section
variable {E : Env} {T : Tab} {O : Go.Vc.Own} {d : Option Nat} {ty : TypeId} {pos : String} {af : Array Edge} {g : Option (Nat × Bool)}
theorem k0x {t t' e : TypeId} {x y : Operand} {r m : Nat} {b : Bool} {n : Int} {f : Nat → Int} [ht : SlTy Tryz.prog t e 1] (hx : T.ev x = .ocs r 3 231) (hy : T.ev y = .ocs r 2 m) (hr : Go.Vc.look O r = some (Res.wi b n f)) (hm : m ≤ 231) :
  GV Tryz.prog E ⟨d, .call ⟨.builtin .copy, #[x, y], #[t, t']⟩, ty, pos, af, g⟩ T O (.av (.val (.int .i64 (m : Nat)))) [r] [(r, .wi b n (V1K f m))] :=
 K0T hx hy hr hm (by rw [q0v]; omega) (by rw [q0v]; omega) x1C (w1R hm)
theorem z0N {t e : TypeId} {x z : Operand} {r off len h : Nat} {us : List Value} [ht : ArrTy Tryz.prog t len e 1] (hx : T.ev x = .own r off) (hr : Go.Vc.look O r = some (Res.vb us)) (hhi : T.ev z = .av (.val (.int .i64 h))) (hhn : h ≤ len) (hl : 0 < len) :
  GV Tryz.prog E ⟨d, .slice t x none (some z) none, ty, pos, af, g⟩ T O (.ocs r off h) [r] [] := by
 have := y0o (P := Tryz.prog) (E := E) (T := T) (O := O) (d := d) (ty := ty) (pos := pos) (af := af) (g := g) (t := t) (x := x) (lo := none) (hi := some z) (r := r) (off := off) (l := 0) (h := h) (us := us) hx hr rfl ⟨_, _, hhi, rfl⟩ (Nat.zero_le _) hhn hl
 rwa [Nat.add_zero, Nat.sub_zero] at this
end
theorem j1C (b b' : Bool) (V W : Nat) (hV : nw V ≤ 231) (hW : nw W ≤ 231) (hW0 : W ≠ 0) :
  CtrH Tryz.prog 230 [.av (wA b (nw V) (wd V)), .av (wA b' (nw W) (wd W))] [] (.tupC [.own 7 0, .own 8 0]) [(7, .wi false (nw (V / W)) (wd (V / W))), (8, .wi false (nw (V % W)) (wd (V % W)))] := by
 have hWp : 0 < W := Nat.pos_of_ne_zero hW0
 have hnr : ∀ k, nw (V / 1000000000 ^ k % W) ≤ nw W := fun k => v0w (Nat.le_of_lt (Nat.mod_lt _ hWp))
 have hnq : nw (V / W) ≤ nw V := v0w (Nat.div_le_self _ _)
 refine Q0R _ Tryz.func230 rfl rfl Tryz.ntmps230 rfl rfl fun w Z ν => ?_
 refine zU ?_
 refine wl ?_
 refine j0j (j0n (is := []) (xs := []) (vs := []) w1U rfl rfl) rfl ?_
 refine j0C (y0k 7 rfl rfl) rfl ?_
 refine j0j (j0n (is := []) (xs := []) (vs := []) w1U rfl rfl) rfl ?_
 refine j0C (y0k 8 rfl rfl) rfl ?_
 refine wl ?_
 refine j0h (γ := Nat × Nat) (fun q => [(0, .av (wA b (nw V) (wd V))), (1, .av (wA b' (nw W) (wd W))), (6, .own 7 0), (7, .own 8 0), (8, .av (vi ((q.1 : Int) - 1)))]) (fun q => [(7, .wi false q.2 (hiq (V / W) q.1)), (8, .wi false (nw (V / 1000000000 ^ q.1 % W)) (wd (V / 1000000000 ^ q.1 % W)))]) (fun q => q.1 ≤ nw V ∧ q.2 ≤ 231 ∧ (nw (V / W) ≤ q.2 ∨ q.1 = nw V ∧ 0 < nw V)) (fun q => q.1) (nw V, 0) ⟨by show _ ≤ _; omega, by show _ ≤ _; omega, by show nw (V / W) ≤ 0 ∨ nw V = nw V ∧ 0 < nw V; omega⟩ (ent ⟨.refl _, .refl _, .refl _, .refl _, .int (by show _ = _; omega), trivial⟩ ⟨⟨_, rfl, by
  rw [v1c hnq]; exact .refl _⟩, ⟨_, rfl, by
  rw [show V / 1000000000 ^ (nw V) % W = 0 by rw [Nat.div_eq_of_lt (v0W V), Nat.zero_mod], q0L, Z1S]
  exact .refl _⟩, trivial⟩) ?_
 rintro ⟨k, n⟩ ⟨hk, hn, hqn⟩
 dsimp only at hk hn hqn ⊢
 refine wl ?_
 (refine j0a rfl ?_ ?_ <;> intro hb <;> (try simp only [zA, zB, zG, zC, zD, zN] at hb) <;> (try exact zQ))
 ·obtain ⟨j, rfl⟩ : ∃ j, k = j + 1 := ⟨k - 1, by omega⟩
  have e : ((j + 1 : Nat) : Int) - 1 = j := by omega
  rw [e]
  obtain ⟨dw1, dw2, dw3⟩ := k0g (V := V) (W := W) (k := j) hW0
  have hwd : wd V j = ((V / 1000000000 ^ j % 1000000000 : Nat) : Int) := rfl
  have hd : V / 1000000000 ^ j % 1000000000 < 1000000000 := Nat.mod_lt _ zE
  have hqd : wd (V / W) j = ((V / W / 1000000000 ^ j % 1000000000 : Nat) : Int) := rfl
  have hr1 := hnr (j + 1)
  have hmr : V / 1000000000 ^ (j + 1) % W < W := Nat.mod_lt _ hWp
  rw [← dw2] at hqd
  generalize V / 1000000000 ^ (j + 1) % W = R at *
  have hup := w1y (R := R) hd
  have hnx := Y1l (R := R) hd
  rw [← hwd] at hup
  generalize V / 1000000000 ^ j % 1000000000 = dg at *
  have ht := w0a false (nw R + 1) (nw (R * 1000000000 + dg)) (wd (R * 1000000000 + dg)) hnx zO (fun i h _ => v0n h) (by
   by_cases h0 : R * 1000000000 + dg = 0
   ·left; rw [h0, q0L]
   ·exact .inr (y0f h0))
  generalize R * 1000000000 + dg = X at *
  refine wl ?_
  refine q0n (y0o (l := 1) (h := 232) rfl rfl ⟨_, _, rfl, rfl⟩ rfl zE zE zE) rfl ?_
  refine wl ?_
  refine q0n (z0N (h := nw R) rfl rfl rfl zO zE) rfl ?_
  refine wl ?_
  refine v0S (k0x (m := nw R) rfl rfl rfl zO) rfl ?_
  refine wl ?_
  refine y0y (x0U 0 rfl rfl rfl rfl zE) ?_
  refine wl ?_
  refine j0x (Q1I 8 (n' := ((nw R + 1 : Nat) : Int)) (f' := wd X) rfl rfl zO hup) ?_
  refine j0C (j0o [(1000, 8)] ht rfl ⟨rfl, trivial⟩ rfl) rfl ?_
  refine wl ?_
  refine j0h (γ := Nat × Nat) (fun q => [(0, .av (wA b (nw V) (wd V))), (1, .av (wA b' (nw W) (wd W))), (6, .own 7 0), (7, .own 8 0), (8, .av (vi j)), (9, .av (vi q.2))]) (fun q => [(7, .wi false n (hiq (V / W) (j + 1))), (8, .wi false (nw q.1) (wd q.1))]) (fun q => X = q.1 + q.2 * W) (fun q => q.1) (X, 0) (by show X = X + 0 * W; omega) (ent zS zT) ?_
  rintro ⟨Y, dd⟩ hY
  dsimp only at hY ⊢
  have hYX : nw Y ≤ 232 := Nat.le_trans (v0w (by omega : Y ≤ X)) zO
  have hbe := J0d Y W false b' hYX zO
  have hb2 := q1a Y W
  have hdd : dd < 1000000000 := by
   refine Nat.lt_of_le_of_lt ?_ dw3
   rw [Nat.le_div_iff_mul_le hWp]; omega
  refine wl ?_
  refine j0j (q0p hbe rfl ⟨.w rfl rfl, .av rfl, trivial⟩ (q0I _)) rfl ?_
  refine wl ?_
  (refine j0a rfl ?_ ?_ <;> intro hb <;> (try simp only [zA, zB, zG, zC, zD, zN] at hb) <;> (try exact zQ))
  ·have hes := V0e Y W false b' hYX zO hW0
   obtain ⟨he1, he2, he3⟩ := z1V hW0 (hb2.1 zO)
   obtain ⟨κ, hκ⟩ : ∃ κ : Nat, est Y W = κ := ⟨(est Y W).toNat, by omega⟩
   rw [hκ] at hes he1 he2 he3
   have hle : κ * W ≤ Y := by rw [← Int.natCast_mul] at he3; omega
   have hsub : (dd + κ) * W ≤ X := by rw [Nat.add_mul]; omega
   have hdk : dd + κ < 1000000000 := by
    refine Nat.lt_of_le_of_lt ?_ dw3
    rw [Nat.le_div_iff_mul_le hWp]; exact hsub
   have hcz := V0T false b' Y W (Y - κ * W) 0 (-(κ : Int)) hYX (by omega) (Nat.le_trans (v0w (Nat.sub_le _ _)) hYX) (by omega) (by rw [Int.natCast_sub hle, Int.natCast_mul]; simp; grind)
   refine wl ?_
   refine j0j (q0p hes rfl ⟨.w rfl rfl, .av rfl, trivial⟩ (q0I _)) rfl ?_
   refine wl ?_
   refine j0C (j0o [(1000, 8)] hcz rfl ⟨rfl, trivial⟩ rfl) rfl ?_
   refine wl ?_
   have hκ0 : 0 < κ * W := Nat.mul_pos zO hWp
   exact j0b (g := (Y, dd)) (Y - κ * W, dd + κ) (by show X = Y - κ * W + (dd + κ) * W; rw [Nat.add_mul]; omega) (by show Y - κ * W < Y; omega) (ent ⟨.refl _, .refl _, .refl _, .refl _, .refl _, .int (by show (dd : Int) + κ = ((dd + κ : Nat) : Int); omega), trivial⟩ zT)
  ·have hlt : Y < W := by omega
   have q1 : X % W = Y := by rw [hY, Nat.add_mul_mod_self_right, Nat.mod_eq_of_lt hlt]
   have q2 : X / W = dd := by rw [hY, Nat.add_mul_div_right _ _ hWp, Nat.div_eq_of_lt hlt, Nat.zero_add]
   rw [q2] at hqd
   rw [q1] at dw1
   have hmx : ((max n (j + 1) : Nat) : Int) = if (n : Int) < (j : Int) + 1 then (j : Int) + 1 else n := by split <;> omega
   refine wl ?_
   exact j0b (g := (j + 1, n)) (j, max n (j + 1)) ⟨by show j ≤ nw V; omega, by show max n (j + 1) ≤ 231; omega, .inl (by show nw (V / W) ≤ max n (j + 1); omega)⟩ (by show j < j + 1; omega) (ent zS ⟨⟨_, rfl, by
    dsimp only
    rw [hmx, show hiq (V / W) j = _ from (k0D (Q := V / W) (k := j)).symm, hqd]
    exact .refl _⟩, ⟨_, rfl, by
    dsimp only
    rw [← dw1]
    exact .refl _⟩, trivial⟩)
 ·obtain rfl : k = 0 := by omega
  rw [k0E, Nat.pow_zero, Nat.div_one]
  have ht := w0a false n (nw (V / W)) (wd (V / W)) zO zO (fun i h _ => v0n h) (by
   by_cases h0 : V / W = 0
   ·left; rw [h0, q0L]
   ·exact .inr (y0f h0))
  refine wl ?_
  refine j0C (j0o [(1000, 7)] ht rfl ⟨rfl, trivial⟩ rfl) rfl ?_
  refine wl ?_
  exact q0o (T' := [(4, .own 7 0), (5, .own 8 0)]) (O' := [(7, .wi false (nw (V / W)) (wd (V / W))), (8, .wi false (nw (V % W)) (wd (V % W)))]) (ent zS zT) (K0n (c1 := .own 7 0) (c2 := .own 8 0) rfl rfl rfl rfl rfl)
end Go.Proofs.YtfggdokihnopeaaGreatDoor
end
namespace Go.Proofs.YtfggdokihnopeaaGreatDoor
open Go Go.Vc Go.RowKit Go.Na Go.Lib
set_option maxHeartbeats 4000000
theorem y0w (m : Int) (hm : (decDigits m.natAbs).length ≤ 2000) : CtrH Tryz.prog 229 [.av (vI m)] [] (.own 7 0) [(7, .wi (decide (m < 0)) (nw m.natAbs) (wd m.natAbs))] := by
 obtain ⟨hb, rs, ei, hb'⟩ := v1d m
 have h1 := Z0F m
 have hdd := j0P m.natAbs
 have hdv := q0j m.natAbs
 refine Q0R _ Tryz.func229 rfl rfl Tryz.ntmps229 rfl rfl fun w Z ν => ?_
 generalize decDigits m.natAbs = D at *
 generalize hV : m.natAbs = V at *
 refine zU ?_
 refine wl ?_
 refine j0j (v0h (b := hb) rfl rfl rfl (by rw [ei]; rfl)) rfl ?_
 refine wl ?_
 rw [hb']
 refine wl ?_
 refine j0j (j0n (is := [0]) (xs := [_]) (vs := [.bool (decide (m < 0))]) (J1H _) rfl rfl) rfl ?_
 refine j0C (y0k 7 rfl rfl) rfl ?_
 refine wl ?_
 refine j0h (γ := List UInt8 × Nat) (fun q => [(3, .av (vS q.1)), (4, .own 7 0)]) (fun q => [(7, .wi (decide (m < 0)) q.2 (J1k V q.2))]) (fun q => (∀ b ∈ q.1, isD b) ∧ dv q.1 = V / 1000000000 ^ q.2 ∧ 9 * q.2 ≤ D.length + 8 ∧ (q.1 ≠ [] → q.1.length + 9 * q.2 ≤ D.length)) (fun q => q.1.length) (D, 0) ⟨hdd, by show dv D = V / 1000000000 ^ 0; rw [hdv, Nat.pow_zero, Nat.div_one], by show 9 * 0 ≤ _; omega, fun _ => by show D.length + 9 * 0 ≤ _; omega⟩ (ent zS ⟨⟨_, rfl, by rw [v1o]; exact .refl _⟩, trivial⟩) ?_
 rintro ⟨l, n⟩ ⟨hl, hv, hn, hc⟩
 dsimp only at hl hv hn hc ⊢
 refine wl ?_
 (refine j0a rfl ?_ ?_ <;> intro hb <;> (try simp only [zA, zB, zG, zC, zD, zN] at hb) <;> (try exact zQ))
 ·have hne : l ≠ [] := fun e => by subst e; simp at *
  have hc := hc hne
  obtain ⟨e1, e2⟩ := w1c hl hv
  have hdr : ∀ b ∈ l.drop (l.length - 9), isD b := fun b hb => hl b (List.mem_of_mem_drop hb)
  have hat := j1W (l.drop (l.length - 9)) _ (by rw [List.length_drop]; omega) (Z0P (fun e => by
   have := congrArg List.length e
   rw [List.length_drop] at this
   simp only [List.length_nil] at this
   omega) hdr)
  rw [e2] at hat
  refine wl ?_
  refine q0n (y0n (l.length - 9) rfl rfl (by split <;> omega) zO) rfl ?_
  refine wl ?_
  refine j0j (X1P (l.length - 9) rfl rfl (by split <;> omega) zO) rfl ?_
  refine wl ?_
  exact j0b (g := (l, n)) (l.take (l.length - 9), n + 1) ⟨fun b hb => hl b (List.mem_of_mem_take hb), e1, by show 9 * (n + 1) ≤ _; omega, fun hn => by
   show (l.take (l.length - 9)).length + 9 * (n + 1) ≤ D.length
   have : l.length - 9 ≠ 0 := fun e => hn (by show l.take (l.length - 9) = []; rw [e, List.take_zero])
   rw [List.length_take]; omega⟩ (by show (l.take (l.length - 9)).length < l.length; rw [List.length_take]; omega) (ent zS ⟨⟨_, rfl, by
   dsimp only
   rw [← v1n]
   exact .refl _⟩, trivial⟩)
 ·have hl0 : l = [] := List.eq_nil_of_length_eq_zero zO
  subst hl0
  have hnw : nw V ≤ n := v1y hv.symm
  rw [y1z hnw]
  have ht := w0a (decide (m < 0)) n (nw V) (wd V) hnw zO (fun i h _ => v0n h) (by
   by_cases h0 : V = 0
   ·left; rw [h0, q0L]
   ·exact .inr (y0f h0))
  refine wl ?_
  refine j0C (j0o [(1000, 7)] ht rfl ⟨rfl, trivial⟩ rfl) rfl ?_
  refine wl ?_
  exact q0o (T' := [(2, .own 7 0)]) (O' := [(7, .wi (decide (m < 0)) (nw V) (wd V))]) (ent ⟨.refl _, trivial⟩ zT) (v0Z rfl rfl rfl)
end Go.Proofs.YtfggdokihnopeaaGreatDoor
