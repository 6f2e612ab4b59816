/- A part of the proof that the law returns true at every input and that the input reads behind the call as it read before; this part states nothing of its own that needs a condition of the input. -/
import Derived.Test.YtdoppiajbpmmkaaGreatKe
set_option linter.unusedVariables false
set_option linter.unusedSimpArgs false
set_option linter.unnecessarySimpa false
namespace Go.Proofs.YtdoppiajbpmmkaaGreat
open Go Go.Vc Go.RowKit
set_option maxHeartbeats 1000000
/-! The span's dimension is 3 exactly if four points are not coplanar. -/
def det (u v w : Tr) : Int := tdot (tcr u v) w
theorem six_det (a b c d : Tr) : six a b c d = det (tsub b a) (tsub c a) (tsub d a) := rfl
theorem tr_ne {w : Tr} (h : w ≠ tz) : w.x ≠ 0 ∨ w.y ≠ 0 ∨ w.z ≠ 0 := by
  by_cases hx : w.x = 0
  · by_cases hy : w.y = 0
    · by_cases hz : w.z = 0
      · exact absurd (tr_ext hx hy hz) h
      · exact .inr (.inr hz)
    · exact .inr (.inl hy)
  · exact .inl hx
theorem mul_z {a b : Int} (h : a ≠ 0) (e : a * b = 0) : b = 0 := by
  rcases Int.mul_eq_zero.1 e with h1 | h1
  · exact absurd h1 h
  · exact h1
/-- Three vectors across a vector that is not 0. -/
theorem det_flat {n u v w : Tr} (hn : n ≠ tz) (h1 : tdot n u = 0) (h2 : tdot n v = 0) (h3 : tdot n w = 0) : det u v w = 0 := by
  simp only [tdot] at h1 h2 h3
  rcases tr_ne hn with h | h | h
  · refine mul_z h ?_
    simp only [det, tdot, tcr]; grind
  · refine mul_z h ?_
    simp only [det, tdot, tcr]; grind
  · refine mul_z h ?_
    simp only [det, tdot, tcr]; grind
/-- Two vectors along one that is not 0. -/
theorem cr_par {n u v : Tr} (hn : n ≠ tz) (h1 : tcr n u = tz) (h2 : tcr n v = tz) : tcr u v = tz := by
  simp only [tcr, tz, Tr.mk.injEq] at h1 h2
  obtain ⟨a1, a2, a3⟩ := h1
  obtain ⟨b1, b2, b3⟩ := h2
  have k : n.x * n.x * (tcr u v).x = 0 ∧ n.x * n.x * (tcr u v).y = 0 ∧ n.x * n.x * (tcr u v).z = 0 ∧ n.y * n.y * (tcr u v).x = 0 ∧ n.y * n.y * (tcr u v).y = 0 ∧ n.y * n.y * (tcr u v).z = 0 ∧ n.z * n.z * (tcr u v).x = 0 ∧ n.z * n.z * (tcr u v).y = 0 ∧ n.z * n.z * (tcr u v).z = 0 := by
    simp only [tcr]
    refine ⟨?_, ?_, ?_, ?_, ?_, ?_, ?_, ?_, ?_⟩ <;> grind
  obtain ⟨k1, k2, k3, k4, k5, k6, k7, k8, k9⟩ := k
  rcases tr_ne hn with h | h | h
  · have h' := Int.mul_ne_zero h h
    exact tr_ext (mul_z h' k1) (mul_z h' k2) (mul_z h' k3)
  · have h' := Int.mul_ne_zero h h
    exact tr_ext (mul_z h' k4) (mul_z h' k5) (mul_z h' k6)
  · have h' := Int.mul_ne_zero h h
    exact tr_ext (mul_z h' k7) (mul_z h' k8) (mul_z h' k9)
theorem tg_pos {a : Tr} (h : a ≠ tz) : tg a ≠ 0 := by
  intro e
  apply h
  obtain ⟨d1, d2, d3⟩ := tg_dvd a
  rw [e] at d1 d2 d3
  have := Nat.eq_zero_of_zero_dvd d1
  have := Nat.eq_zero_of_zero_dvd d2
  have := Nat.eq_zero_of_zero_dvd d3
  exact tr_ext (by show a.x = 0; omega) (by show a.y = 0; omega) (by show a.z = 0; omega)
/-- A vector is a multiple of its primitive. -/
theorem tpr_mul {a : Tr} (h : a ≠ tz) : ∃ g : Int, 0 < g ∧ a.x = g * (tpr a).x ∧ a.y = g * (tpr a).y ∧ a.z = g * (tpr a).z := by
  have hg := tg_pos h
  obtain ⟨d1, d2, d3⟩ := tg_dvd a
  refine ⟨(tg a : Int), by omega, ?_⟩
  unfold tpr
  rw [if_neg hg]
  exact ⟨(Int.mul_tdiv_cancel' (Int.ofNat_dvd_left.2 d1)).symm, (Int.mul_tdiv_cancel' (Int.ofNat_dvd_left.2 d2)).symm, (Int.mul_tdiv_cancel' (Int.ofNat_dvd_left.2 d3)).symm⟩
theorem tpr_dot {a : Tr} (h : a ≠ tz) : ∃ g : Int, 0 < g ∧ ∀ p, tdot a p = g * tdot (tpr a) p := by
  obtain ⟨g, g0, h1, h2, h3⟩ := tpr_mul h
  refine ⟨g, g0, fun p => ?_⟩
  simp only [tdot]
  rw [h1, h2, h3]
  generalize (tpr a).x = X; generalize (tpr a).y = Y; generalize (tpr a).z = Z
  grind
theorem tpr_dot0 {a : Tr} (h : a ≠ tz) (p : Tr) : tdot (tpr a) p = 0 ↔ tdot a p = 0 := by
  obtain ⟨g, g0, hp⟩ := tpr_dot h
  rw [hp p]
  constructor
  · intro e; rw [e, Int.mul_zero]
  · intro e; exact mul_z (by omega) e
/-- What is known of a span after k points. -/
structure SpI (l : List Tr) (k : Nat) (s : Spn) : Prop where
  d0 : s.dim = 0 → ∀ i, i < k → gt l i = s.pt
  d1 : s.dim = 1 → s.way ≠ tz ∧ ∀ i, i < k → tcr s.way (tsub (gt l i) s.pt) = tz
  d2 : s.dim = 2 → s.way ≠ tz ∧ ∀ i, i < k → tdot s.way (tsub (gt l i) s.pt) = 0
  pt : s.dim ≠ -1 → ∃ i, i < k ∧ gt l i = s.pt
  no : s.dim = -1 → k = 0
  w1 : s.dim = 1 → ∃ i, i < k ∧ s.way = tsub (gt l i) s.pt
  w2 : s.dim = 2 → ∃ i j, i < k ∧ j < k ∧ (∃ g : Int, g ≠ 0 ∧ ∀ p, tdot (tcr (tsub (gt l i) s.pt) (tsub (gt l j) s.pt)) p = g * tdot s.way p)
  w3 : s.dim = 3 → ∃ i j m, i < k ∧ j < k ∧ m < k ∧ six s.pt (gt l i) (gt l j) (gt l m) ≠ 0
  rg : s.dim = -1 ∨ s.dim = 0 ∨ s.dim = 1 ∨ s.dim = 2 ∨ s.dim = 3
theorem tsub_z {a b : Tr} (h : tsub a b = tz) : a = b := by
  simp only [tsub, tz, Tr.mk.injEq] at h
  exact tr_ext (by omega) (by omega) (by omega)
theorem tsub_s (a : Tr) : tsub a a = tz := by simp only [tsub, tz, Int.sub_self]
theorem tcr_s (a : Tr) : tcr a a = tz := by simp only [tcr, tz, Tr.mk.injEq]; refine ⟨?_, ?_, ?_⟩ <;> grind
theorem tcr_z (a : Tr) : tcr a tz = tz := by simp [tcr, tz]
theorem tdot_z (a : Tr) : tdot a tz = 0 := by simp [tdot, tz]
theorem tdot_cr1 (a b : Tr) : tdot (tcr a b) a = 0 := by simp only [tdot, tcr]; grind
theorem tdot_cr2 (a b : Tr) : tdot (tcr a b) b = 0 := by simp only [tdot, tcr]; grind
theorem tdot_tz (p : Tr) : tdot tz p = 0 := by simp [tdot, tz]
theorem SpI.step {l : List Tr} {k : Nat} {s : Spn} (h : SpI l k s) : SpI l (k + 1) (spStep s (gt l k)) := by
  have hlt : ∀ {q : Nat → Prop}, (∀ i, i < k → q i) → q k → ∀ i, i < k + 1 → q i := fun h1 h2 i hi => by
    by_cases e : i = k
    · rw [e]; exact h2
    · exact h1 i (by omega)
  unfold spStep
  by_cases c0 : s.dim = -1
  · rw [if_pos c0]
    have k0 := h.no c0
    subst k0
    exact ⟨fun _ i hi => by obtain rfl : i = 0 := by omega
                            rfl, fun e => by simp at e, fun e => by simp at e, fun _ => ⟨0, by omega, rfl⟩, fun e => by simp at e, fun e => by simp at e, fun e => by simp at e, fun e => by simp at e, .inr (.inl rfl)⟩
  rw [if_neg c0]
  obtain ⟨i0, hi0, hp0⟩ := h.pt c0
  by_cases c1 : s.dim = 0
  · rw [if_pos c1]
    split
    · rename_i hz
      exact ⟨fun _ => hlt (h.d0 c1) (tsub_z hz), fun e => by omega, fun e => by omega, fun _ => ⟨i0, by omega, hp0⟩, fun e => by omega, fun e => by omega, fun e => by omega, fun e => by omega, .inr (.inl c1)⟩
    · rename_i hz
      refine ⟨fun e => by simp at e, fun _ => ⟨hz, hlt (fun i hi => ?_) (tcr_s _)⟩, fun e => by simp at e, fun _ => ⟨i0, by omega, hp0⟩, fun e => by simp at e, fun _ => ⟨k, by omega, rfl⟩, fun e => by simp at e, fun e => by simp at e, .inr (.inr (.inl rfl))⟩
      rw [h.d0 c1 i hi]
      show tcr _ (tsub s.pt s.pt) = tz
      rw [tsub_s, tcr_z]
  rw [if_neg c1]
  by_cases c2 : s.dim = 1
  · rw [if_pos c2]
    obtain ⟨hw, hc⟩ := h.d1 c2
    obtain ⟨iw, hiw, ew⟩ := h.w1 c2
    split
    · rename_i hz
      exact ⟨fun e => by omega, fun _ => ⟨hw, hlt hc hz⟩, fun e => by omega, fun _ => ⟨i0, by omega, hp0⟩, fun e => by omega, fun _ => ⟨iw, by omega, ew⟩, fun e => by omega, fun e => by omega, .inr (.inr (.inl c2))⟩
    · rename_i hz
      refine ⟨fun e => by simp at e, fun e => by simp at e, fun _ => ⟨hz, hlt (fun i hi => ?_) (tdot_cr2 _ _)⟩, fun _ => ⟨i0, by omega, hp0⟩, fun e => by simp at e, fun e => by simp at e, fun _ => ⟨iw, k, by omega, by omega, 1, by decide, fun p => ?_⟩, fun e => by simp at e, .inr (.inr (.inr (.inl rfl)))⟩
      · have hci := hc i hi
        show tdot (tcr s.way (tsub (gt l k) s.pt)) (tsub (gt l i) s.pt) = 0
        generalize tsub (gt l i) s.pt = u at hci
        generalize tsub (gt l k) s.pt = v
        simp only [tcr, tz, Tr.mk.injEq] at hci
        obtain ⟨a1, a2, a3⟩ := hci
        simp only [tdot, tcr]; grind
      · show tdot (tcr (tsub (gt l iw) s.pt) (tsub (gt l k) s.pt)) p = 1 * tdot (tcr s.way (tsub (gt l k) s.pt)) p
        rw [← ew, Int.one_mul]
  rw [if_neg c2]
  by_cases c3 : s.dim = 2
  · rw [if_pos c3]
    obtain ⟨hw, hc⟩ := h.d2 c3
    obtain ⟨i, j, hi, hj, g, hg, hp⟩ := h.w2 c3
    obtain ⟨g', g0, hp'⟩ := tpr_dot hw
    split
    · rename_i hz
      refine ⟨fun e => by simp at e, fun e => by simp at e, fun _ => ⟨tpr_ne hw, hlt (fun i hi => (tpr_dot0 hw _).2 (hc i hi)) hz⟩, fun _ => ⟨i0, by omega, hp0⟩, fun e => by simp at e, fun e => by simp at e, fun _ => ⟨i, j, by omega, by omega, g * g', Int.mul_ne_zero hg (by omega), fun p => ?_⟩, fun e => by simp at e, .inr (.inr (.inr (.inl rfl)))⟩
      show tdot (tcr (tsub (gt l i) s.pt) (tsub (gt l j) s.pt)) p = g * g' * tdot (tpr s.way) p
      rw [hp p, hp' p, Int.mul_assoc]
    · rename_i hz
      refine ⟨fun e => by simp at e, fun e => by simp at e, fun e => by simp at e, fun _ => ⟨i0, by omega, hp0⟩, fun e => by simp at e, fun e => by simp at e, fun e => by simp at e, fun _ => ⟨i, j, k, by omega, by omega, by omega, ?_⟩, .inr (.inr (.inr (.inr rfl)))⟩
      show tdot (tcr (tsub (gt l i) s.pt) (tsub (gt l j) s.pt)) (tsub (gt l k) s.pt) ≠ 0
      rw [hp, hp']
      exact Int.mul_ne_zero hg (Int.mul_ne_zero (by omega) hz)
  rw [if_neg c3]
  have c4 : s.dim = 3 := by have := h.rg; omega
  obtain ⟨i, j, m, hi, hj, hm, hs⟩ := h.w3 c4
  exact ⟨fun e => by omega, fun e => by omega, fun e => by omega, fun _ => ⟨i0, by omega, hp0⟩, fun e => by omega, fun e => by omega, fun e => by omega, fun _ => ⟨i, j, m, by omega, by omega, by omega, hs⟩, h.rg⟩
theorem SpI.to (l : List Tr) : ∀ k, k ≤ l.length → SpI l k (spTo l k)
  | 0, _ => ⟨fun e => by simp [spTo] at e, fun e => by simp [spTo] at e, fun e => by simp [spTo] at e, fun e => by simp [spTo] at e, fun _ => rfl, fun e => by simp [spTo] at e, fun e => by simp [spTo] at e, fun e => by simp [spTo] at e, .inl rfl⟩
  | k + 1, hk => by
    rw [spTo_succ (by omega)]
    exact (SpI.to l k (by omega)).step
end Go.Proofs.YtdoppiajbpmmkaaGreat
namespace Go.Proofs.YtdoppiajbpmmkaaGreat
open Go Go.Vc Go.RowKit
set_option maxHeartbeats 1000000
/-! Points of dimension 3 have a facet. -/
def Sol (l : List Tr) : Prop := ∃ a b c d, a < l.length ∧ b < l.length ∧ c < l.length ∧ d < l.length ∧ six (gt l a) (gt l b) (gt l c) (gt l d) ≠ 0
theorem six12 (a b c d : Tr) : six b a c d = - six a b c d := by simp only [six, tac, tdot, tcr, tsub]; grind
theorem six23 (a b c d : Tr) : six a c b d = - six a b c d := by simp only [six, tac, tdot, tcr, tsub]; grind
theorem tac23 (a b c : Tr) : tac a c b = tmul (tac a b c) (-1) := by simp only [tac, tcr, tsub, tmul, Tr.mk.injEq]; refine ⟨?_, ?_, ?_⟩ <;> grind
/-- Three of the points in order. -/
theorem sorted3 {n : Nat} {P : Nat → Nat → Nat → Prop} (h12 : ∀ a b c, P a b c → P b a c) (h23 : ∀ a b c, P a b c → P a c b) (hne : ∀ a b, ¬ P a a b) {a b c : Nat} (ha : a < n) (hb : b < n) (hc : c < n) (h : P a b c) : ∃ i j k, i < n ∧ j < i ∧ k < j ∧ P i j k := by
  have hab : a ≠ b := fun e => hne b c (by rw [e] at h; exact h)
  have hbc : b ≠ c := fun e => by rw [e] at h; exact hne c a (h23 _ _ _ (h12 _ _ _ h))
  have hac : a ≠ c := fun e => by rw [e] at h; exact hne c b (h23 _ _ _ h)
  rcases (by omega : (b < a ∧ c < b) ∨ (c < a ∧ b < c) ∨ (a < b ∧ c < a) ∨ (c < b ∧ a < c) ∨ (a < c ∧ b < a) ∨ (b < c ∧ a < b)) with ⟨h1, h2⟩ | ⟨h1, h2⟩ | ⟨h1, h2⟩ | ⟨h1, h2⟩ | ⟨h1, h2⟩ | ⟨h1, h2⟩
  · exact ⟨a, b, c, ha, h1, h2, h⟩
  · exact ⟨a, c, b, ha, h1, h2, h23 _ _ _ h⟩
  · exact ⟨b, a, c, hb, h1, h2, h12 _ _ _ h⟩
  · exact ⟨b, c, a, hb, h1, h2, h23 _ _ _ (h12 _ _ _ h)⟩
  · exact ⟨c, a, b, hc, h1, h2, h12 _ _ _ (h23 _ _ _ h)⟩
  · exact ⟨c, b, a, hc, h1, h2, h12 _ _ _ (h23 _ _ _ (h12 _ _ _ h))⟩
theorem six_aa (a c d : Tr) : six a a c d = 0 := six_same rfl c d
theorem sol_iff (l : List Tr) : Sol l ↔ Solid l := by
  constructor
  · rintro ⟨a, b, c, d, ha, hb, hc, hd, h⟩
    obtain ⟨i, j, k, hi, hj, hk, hs⟩ := sorted3 (P := fun a b c => six (gt l a) (gt l b) (gt l c) (gt l d) ≠ 0) (fun a b c h => by rw [six12]; omega) (fun a b c h => by rw [six23]; omega) (fun a b h => h (six_aa _ _ _)) ha hb hc h
    exact ⟨i, hi, j, hj, k, hk, d, hd, hs⟩
  · rintro ⟨a, ha, b, hb, c, hc, d, hd, h⟩
    exact ⟨a, b, c, d, ha, by omega, by omega, hd, h⟩
theorem tcr_sub (n a b p : Tr) : tcr n (tsub a p) = tz → tcr n (tsub b p) = tz → tcr n (tsub b a) = tz := by
  simp only [tcr, tsub, tz, Tr.mk.injEq]
  rintro ⟨h1, h2, h3⟩ ⟨h4, h5, h6⟩
  refine ⟨?_, ?_, ?_⟩ <;> grind
theorem tdot_sub (n a b p : Tr) : tdot n (tsub a p) = 0 → tdot n (tsub b p) = 0 → tdot n (tsub b a) = 0 := by
  simp only [tdot, tsub]
  intro h1 h2
  grind
theorem dim3_iff (l : List Tr) : (spn l).dim = 3 ↔ Sol l := by
  have h := SpI.to l l.length (Nat.le_refl _)
  have e : spTo l l.length = spn l := rfl
  rw [e] at h
  constructor
  · intro h3
    obtain ⟨i0, hi0, ep⟩ := h.pt (by omega)
    obtain ⟨i, j, m, hi, hj, hm, hs⟩ := h.w3 h3
    exact ⟨i0, i, j, m, hi0, hi, hj, hm, by rw [ep]; exact hs⟩
  · rintro ⟨a, b, c, d, ha, hb, hc, hd, hs⟩
    rcases h.rg with h1 | h1 | h1 | h1 | h1
    · have := h.no h1; omega
    · exact absurd (six_same ((h.d0 h1 a ha).trans (h.d0 h1 b hb).symm) _ _) hs
    · obtain ⟨hw, hall⟩ := h.d1 h1
      exact absurd (six_zero (cr_par hw (tcr_sub _ _ _ _ (hall a ha) (hall b hb)) (tcr_sub _ _ _ _ (hall a ha) (hall c hc))) _) hs
    · obtain ⟨hw, hall⟩ := h.d2 h1
      exact absurd (det_flat hw (tdot_sub _ _ _ _ (hall a ha) (hall b hb)) (tdot_sub _ _ _ _ (hall a ha) (hall c hc)) (tdot_sub _ _ _ _ (hall a ha) (hall d hd))) hs
    · exact h1
/-- A least one of what is ordered. -/
theorem tot_min {P : Nat → Prop} {R : Nat → Nat → Prop} (tot : ∀ i j, P i → P j → R i j ∨ R j i) (tr : ∀ i j k, P i → P j → P k → R i j → R j k → R i k) : ∀ n, (∃ i, i < n ∧ P i) → ∃ i, i < n ∧ P i ∧ ∀ j, j < n → P j → R i j
  | 0, ⟨i, hi, _⟩ => absurd hi (Nat.not_lt_zero _)
  | n + 1, h => by
    by_cases hex : ∃ i, i < n ∧ P i
    · obtain ⟨i, hi, hp, hr⟩ := tot_min tot tr n hex
      by_cases hn : P n
      · rcases tot i n hp hn with h1 | h1
        · refine ⟨i, by omega, hp, fun j hj hpj => ?_⟩
          by_cases e : j = n
          · rw [e]; exact h1
          · exact hr j (by omega) hpj
        · refine ⟨n, by omega, hn, fun j hj hpj => ?_⟩
          by_cases e : j = n
          · rw [e]; rcases tot n n hn hn with h2 | h2 <;> exact h2
          · exact tr n i j hn hp hpj h1 (hr j (by omega) hpj)
      · refine ⟨i, by omega, hp, fun j hj hpj => ?_⟩
        by_cases e : j = n
        · rw [e] at hpj; exact absurd hpj hn
        · exact hr j (by omega) hpj
    · obtain ⟨i, hi, hp⟩ := h
      have hin : i = n := by
        by_cases e : i = n
        · exact e
        · exact absurd ⟨i, by omega, hp⟩ hex
      subst hin
      refine ⟨i, by omega, hp, fun j hj hpj => ?_⟩
      by_cases e : j = i
      · rw [e]; rcases tot i i hp hp with h2 | h2 <;> exact h2
      · exact absurd ⟨j, by omega, hpj⟩ hex
def phi (v : Tr) : Int := v.x * 1000000000000 + v.y * 1000000 + v.z
theorem phi_z {v : Tr} (h : BT 200000 v) (e : phi v = 0) : v = tz := by
  have hx := h.x; have hy := h.y; have hz := h.z
  unfold phi at e
  exact tr_ext (by show v.x = 0; omega) (by show v.y = 0; omega) (by show v.z = 0; omega)
theorem phi_sub (a b : Tr) : phi (tsub a b) = phi a - phi b := by unfold phi tsub; simp only; omega
/-- With a functional that is 0 at two vectors, the determinants with them go together. -/
theorem det_f (F u v q r : Tr) (h1 : tdot F u = 0) (h2 : tdot F v = 0) : tdot F q * det u v r = tdot F r * det u v q := by
  simp only [tdot, det, tcr] at *; grind
theorem det_tr (F b p q r : Tr) (h : tdot F b = 0) : tdot F q * det b p r = tdot F p * det b q r + tdot F r * det b p q := by
  simp only [tdot, det, tcr] at *; grind
theorem det_an (b p q : Tr) : det b p q = - det b q p := by simp only [tdot, det, tcr]; grind
theorem det_same (b p : Tr) : det b p p = 0 := by simp only [tdot, det, tcr]; grind
theorem det_z (b p : Tr) : det b p tz = 0 := by simp [tdot, det, tcr, tz]
theorem det_par {b p : Tr} (h : tcr b p = tz) (q : Tr) : det b p q = 0 := by unfold det; rw [h, tdot_tz]
theorem par_f {F b p : Tr} (hb : b ≠ tz) (h : tcr b p = tz) (h0 : tdot F b = 0) : tdot F p = 0 := by
  simp only [tcr, tz, Tr.mk.injEq] at h
  obtain ⟨a1, a2, a3⟩ := h
  simp only [tdot] at *
  rcases tr_ne hb with hx | hx | hx
  · refine mul_z hx ?_; grind
  · refine mul_z hx ?_; grind
  · refine mul_z hx ?_; grind
theorem le_of_mul {a b : Int} (ha : 0 < a) (h : 0 ≤ a * b) : 0 ≤ b := by
  rcases (by omega : b < 0 ∨ 0 ≤ b) with h1 | h1
  · have := Int.mul_neg_of_pos_of_neg ha h1; omega
  · exact h1
/-- All points are on one side of three that are not collinear. -/
def Side (l : List Tr) (a b c : Nat) : Prop := tac (gt l a) (gt l b) (gt l c) ≠ tz ∧ ((∀ q, q < l.length → 0 ≤ six (gt l a) (gt l b) (gt l c) (gt l q)) ∨ (∀ q, q < l.length → six (gt l a) (gt l b) (gt l c) (gt l q) ≤ 0))
theorem exists_side {l : List Tr} (hl : RT l) (hS : Sol l) : ∃ a b c, a < l.length ∧ b < l.length ∧ c < l.length ∧ Side l a b c := by
  obtain ⟨s1, s2, s3, s4, k1, k2, k3, k4, hs⟩ := hS
  obtain ⟨a, ha, _, hmin⟩ := tot_min (P := fun _ => True) (R := fun i j => phi (gt l i) ≤ phi (gt l j)) (fun i j _ _ => by omega) (fun i j k _ _ _ h1 h2 => by omega) l.length ⟨s1, k1, trivial⟩
  have hB : ∀ i, BT 200000 (tsub (gt l i) (gt l a)) := fun i => (hl i).sub (hl a)
  have hpos : ∀ i, i < l.length → tsub (gt l i) (gt l a) ≠ tz → 0 < phi (tsub (gt l i) (gt l a)) := fun i hi hne => by
    have h1 := hmin i hi trivial
    have h2 : phi (tsub (gt l i) (gt l a)) ≠ 0 := fun e => hne (phi_z (hB i) e)
    rw [phi_sub] at *; omega
  -- the differences
  generalize hv : (fun i => tsub (gt l i) (gt l a)) = v at *
  have hvi : ∀ i, tsub (gt l i) (gt l a) = v i := fun i => by rw [← hv]
  have hpos' : ∀ i, i < l.length → v i ≠ tz → 0 < phi (v i) := fun i hi hne => by rw [← hvi] at hne ⊢; exact hpos i hi hne
  have hsix : ∀ i j q, six (gt l a) (gt l i) (gt l j) (gt l q) = det (v i) (v j) (v q) := fun i j q => by rw [six_det, hvi, hvi, hvi]
  have hwit : ∃ i j q, i < l.length ∧ j < l.length ∧ q < l.length ∧ det (v i) (v j) (v q) ≠ 0 := by
    refine Classical.byContradiction fun hno => ?_
    have hz : ∀ i j q, i < l.length → j < l.length → q < l.length → det (v i) (v j) (v q) = 0 := fun i j q hi hj hq => Classical.byContradiction fun h => hno ⟨i, j, q, hi, hj, hq, h⟩
    apply hs
    have e : six (gt l s1) (gt l s2) (gt l s3) (gt l s4) = det (v s2) (v s3) (v s4) - det (v s1) (v s3) (v s4) + det (v s1) (v s2) (v s4) - det (v s1) (v s2) (v s3) := by
      rw [← hvi, ← hvi, ← hvi, ← hvi]
      simp only [six, tac, det, tdot, tcr, tsub]; grind
    rw [e, hz _ _ _ k2 k3 k4, hz _ _ _ k1 k3 k4, hz _ _ _ k1 k2 k4, hz _ _ _ k1 k2 k3]
    rfl
  obtain ⟨w1, w2, w3, q1, q2, q3, hw⟩ := hwit
  have hv1 : v w1 ≠ tz := fun e => hw (by rw [e]; simp [det, tcr, tdot, tz])
  -- the first rotation
  obtain ⟨b, hb, hbz, hbm⟩ := tot_min (P := fun i => i < l.length ∧ v i ≠ tz) (R := fun i j => 0 ≤ phi (v i) * (v j).y - phi (v j) * (v i).y) (fun i j _ _ => by
      generalize phi (v i) = A; generalize phi (v j) = B
      have : A * (v j).y - B * (v i).y = -(B * (v i).y - A * (v j).y) := by omega
      omega) (fun i j k hi hj hk h1 h2 => by
      have p1 := hpos' i hi.1 hi.2
      have p2 := hpos' j hj.1 hj.2
      have p3 := hpos' k hk.1 hk.2
      generalize phi (v i) = A at *; generalize phi (v j) = B at *; generalize phi (v k) = C at *
      generalize (v i).y = x at *; generalize (v j).y = y at *; generalize (v k).y = z at *
      refine le_of_mul p2 ?_
      have e : B * (A * z - C * x) = A * (B * z - C * y) + C * (A * y - B * x) := by grind
      rw [e]
      have := Int.mul_nonneg (Int.le_of_lt p1) h2
      have := Int.mul_nonneg (Int.le_of_lt p3) h1
      omega) l.length ⟨w1, q1, q1, hv1⟩
  have hbz := hbz.2
  have hbpos := hpos' b hb hbz
  have hF : ∃ F : Tr, F ≠ tz ∧ tdot F (v b) = 0 ∧ ∀ i, i < l.length → 0 ≤ tdot F (v i) := by
    refine ⟨⟨-(v b).y * 1000000000000, phi (v b) - (v b).y * 1000000, -(v b).y⟩, fun e => ?_, ?_, fun i hi => ?_⟩
    · simp only [tz, Tr.mk.injEq] at e; omega
    · unfold tdot phi; simp only; grind
    · have e : tdot ⟨-(v b).y * 1000000000000, phi (v b) - (v b).y * 1000000, -(v b).y⟩ (v i) = phi (v b) * (v i).y - phi (v i) * (v b).y := by
        unfold tdot; simp only; generalize phi (v b) = B; unfold phi; grind
      rw [e]
      by_cases hz : v i = tz
      · rw [hz]; simp [phi, tz]
      · exact hbm i hi ⟨hi, hz⟩
  obtain ⟨F, hFz, hFb, hF0⟩ := hF
  have hr0 : ∃ r, r < l.length ∧ 0 < tdot F (v r) := by
    refine Classical.byContradiction fun hno => hw ?_
    have hz : ∀ i, i < l.length → tdot F (v i) = 0 := fun i hi => by
      have := hF0 i hi
      have : ¬ 0 < tdot F (v i) := fun h => hno ⟨i, hi, h⟩
      omega
    exact det_flat hFz (hz _ q1) (hz _ q2) (hz _ q3)
  obtain ⟨r, hr, hrp⟩ := hr0
  by_cases hc : ∃ p, p < l.length ∧ tdot F (v p) = 0 ∧ tcr (v b) (v p) ≠ tz
  · obtain ⟨p, hp, hp0, hpz⟩ := hc
    refine ⟨a, b, p, ha, hb, hp, by unfold tac; rw [hvi, hvi]; exact hpz, ?_⟩
    rcases (by omega : 0 ≤ det (v b) (v p) (v r) ∨ det (v b) (v p) (v r) ≤ 0) with h1 | h1
    · refine .inl fun q hq => ?_
      rw [hsix]
      refine le_of_mul hrp ?_
      rw [det_f F _ _ (v r) (v q) hFb hp0]
      exact Int.mul_nonneg (hF0 q hq) h1
    · refine .inr fun q hq => ?_
      rw [hsix]
      have h2 := le_of_mul (b := - det (v b) (v p) (v q)) hrp (by
        have := det_f F _ _ (v r) (v q) hFb hp0
        have h3 := Int.mul_nonneg (hF0 q hq) (show 0 ≤ - det (v b) (v p) (v r) by omega)
        rw [Int.mul_neg] at h3 ⊢
        omega)
      omega
  · have hpar : ∀ p, p < l.length → tdot F (v p) = 0 → tcr (v b) (v p) = tz := fun p hp h0 => Classical.byContradiction fun h => hc ⟨p, hp, h0, h⟩
    obtain ⟨c, hcl, hcP, hcm⟩ := tot_min (P := fun i => i < l.length ∧ 0 < tdot F (v i)) (R := fun i j => 0 ≤ det (v b) (v i) (v j)) (fun i j _ _ => by have := det_an (v b) (v i) (v j); omega) (fun i j k hi hj hk h1 h2 => by
      refine le_of_mul hj.2 ?_
      rw [det_tr F _ (v i) (v j) (v k) hFb]
      have := Int.mul_nonneg (Int.le_of_lt hi.2) h2
      have := Int.mul_nonneg (Int.le_of_lt hk.2) h1
      omega) l.length ⟨r, hr, hr, hrp⟩
    refine ⟨a, b, c, ha, hb, hcl, ?_, .inl fun q hq => ?_⟩
    · unfold tac
      rw [hvi, hvi]
      intro e
      have := par_f hbz e hFb
      omega
    · rw [hsix]
      have h0 := hF0 q hq
      by_cases hq0 : tdot F (v q) = 0
      · rw [det_an, det_par (hpar q hq hq0)]; decide
      · exact hcm q hq ⟨hq, by omega⟩
end Go.Proofs.YtdoppiajbpmmkaaGreat
namespace Go.Proofs.YtdoppiajbpmmkaaGreat
open Go Go.Vc Go.RowKit
set_option maxHeartbeats 1000000
/-! The facets are those of the reference. -/
theorem tmul_neg2 (a : Tr) : tmul (tmul a (-1)) (-1) = a := by cases a; simp [tmul]
theorem tg_neg (a : Tr) : tg (tmul a (-1)) = tg a := by
  unfold tg tmul
  simp only [Int.neg_mul, Int.one_mul, Int.natAbs_neg]
theorem tpr_neg (a : Tr) : tpr (tmul a (-1)) = tmul (tpr a) (-1) := by
  unfold tpr
  rw [tg_neg]
  split
  · rfl
  · simp only [tmul, Int.neg_mul, Int.one_mul, Int.neg_tdiv]
theorem tmul_ne_iff {a : Tr} : tmul a (-1) = tz ↔ a = tz := by
  constructor
  · intro h
    have := congrArg (fun v => tmul v (-1)) h
    simp only [tmul_neg2] at this
    rw [this]; rfl
  · rintro rfl; rfl
/-- Three points of the list span a plane with this outward normal. -/
structure OutF (l : List Tr) (a b c : Nat) (n : Tr) : Prop where
  ha : a < l.length
  hb : b < l.length
  hc : c < l.length
  ne : tac (gt l a) (gt l b) (gt l c) ≠ tz
  ev : n = tpr (tac (gt l a) (gt l b) (gt l c))
  le : ∀ i, i < l.length → tdot n (gt l i) ≤ tdot n (gt l a)
theorem tac_dot1 (a b c : Tr) : tdot (tac a b c) b = tdot (tac a b c) a := by simp only [tac, tdot, tcr, tsub]; grind
theorem tac_dot2 (a b c : Tr) : tdot (tac a b c) c = tdot (tac a b c) a := by simp only [tac, tdot, tcr, tsub]; grind
theorem tpr_dot_eq {v a b : Tr} (h : v ≠ tz) (e : tdot v a = tdot v b) : tdot (tpr v) a = tdot (tpr v) b := by
  obtain ⟨g, hg, hd⟩ := tpr_dot h
  rw [hd, hd] at e
  exact Int.eq_of_mul_eq_mul_left (by omega) e
theorem OutF.at1 {l : List Tr} {a b c : Nat} {n : Tr} (h : OutF l a b c n) : tdot n (gt l b) = tdot n (gt l a) := by
  rw [h.ev]; exact tpr_dot_eq h.ne (tac_dot1 _ _ _)
theorem OutF.at2 {l : List Tr} {a b c : Nat} {n : Tr} (h : OutF l a b c n) : tdot n (gt l c) = tdot n (gt l a) := by
  rw [h.ev]; exact tpr_dot_eq h.ne (tac_dot2 _ _ _)
theorem OutF.nz {l : List Tr} {a b c : Nat} {n : Tr} (h : OutF l a b c n) : n ≠ tz := by rw [h.ev]; exact tpr_ne h.ne
/-- Not all points lie in one plane. -/
theorem off_plane {l : List Tr} (hS : Sol l) {n : Tr} (hn : n ≠ tz) (m : Int) : ∃ i, i < l.length ∧ tdot n (gt l i) ≠ m := by
  refine Classical.byContradiction fun hno => ?_
  have hz : ∀ i, i < l.length → tdot n (gt l i) = m := fun i hi => Classical.byContradiction fun h => hno ⟨i, hi, h⟩
  obtain ⟨a, b, c, d, ha, hb, hc, hd, h⟩ := hS
  apply h
  have e : ∀ i, i < l.length → tdot n (tsub (gt l i) (gt l a)) = 0 := fun i hi => by
    have h1 := hz i hi
    have h2 := hz a ha
    simp only [tdot, tsub] at *
    grind
  exact det_flat hn (e b hb) (e c hc) (e d hd)
theorem any_t {p : Nat → Bool} {n i : Nat} (hi : i < n) (h : p i = true) : (List.range n).any p = true := List.any_eq_true.2 ⟨i, List.mem_range.2 hi, h⟩
theorem any_ff {p : Nat → Bool} {n : Nat} (h : ∀ i, i < n → p i = false) : (List.range n).any p = false := by
  rw [List.any_eq_false]
  intro i hi
  rw [h i (List.mem_range.1 hi)]
  decide
theorem mem_pK' {l : List Tr} {i j k' : Nat} (h : plB l i j k' = true) : ∀ {k}, k' < k → plF l i j k' ∈ pK l i j k
  | k + 1, hk => by
    unfold pK
    rw [List.mem_append]
    by_cases e : k' = k
    · subst e; rw [if_pos h]; exact .inr (List.mem_singleton.2 rfl)
    · exact .inl (mem_pK' h (by omega))
theorem mem_pJ' {l : List Tr} {i j' k' : Nat} (h : plB l i j' k' = true) (hk : k' < j') : ∀ {j}, j' < j → plF l i j' k' ∈ pJ l i j
  | j + 1, hj => by
    unfold pJ
    rw [List.mem_append]
    by_cases e : j' = j
    · subst e; exact .inr (mem_pK' h hk)
    · exact .inl (mem_pJ' h hk (by omega))
theorem mem_pI' {l : List Tr} {i' j' k' : Nat} (h : plB l i' j' k' = true) (hk : k' < j') (hj : j' < i') : ∀ {i}, i' < i → plF l i' j' k' ∈ pI l i
  | i + 1, hi => by
    unfold pI
    rw [List.mem_append]
    by_cases e : i' = i
    · subst e; exact .inr (mem_pJ' h hk hj)
    · exact .inl (mem_pI' h hk hj (by omega))
theorem plN_tac (l : List Tr) (i j k : Nat) : plN l i j k = tpr (tac (gt l k) (gt l i) (gt l j)) := rfl
/-- The planes found are those with an outward normal. -/
theorem planes_out {l : List Tr} {f : Fc} (h : f ∈ planesL l) : ∃ a b c, OutF l a b c f.n := by
  have hF := planes_isF h
  obtain ⟨i, j, k, h1, h2, h3, h4, e⟩ := mem_pI h
  unfold plB at h4
  rw [Bool.and_eq_true, decide_eq_true_eq] at h4
  have hne : tac (gt l k) (gt l i) (gt l j) ≠ tz := fun e => h4.1 (by rw [plN_tac, e]; rfl)
  have hne' : tac (gt l k) (gt l j) (gt l i) ≠ tz := by rw [tac23]; exact tmul_ne hne
  have hm : ∀ n m, f.n = n → f.m = m → tdot n (gt l k) = m → ∀ q, q < l.length → tdot f.n (gt l q) ≤ tdot f.n (gt l k) := by
    rintro n m rfl rfl hk q hq
    rw [hk]; exact hF.le q hq
  unfold plF facN at e
  split at e
  · refine ⟨k, j, i, by omega, by omega, by omega, hne', ?_, ?_⟩
    · rw [e, tac23, tpr_neg]; rfl
    · refine hm _ _ (by rw [e]) (by rw [e]) ?_
      rw [tdot_neg]; rfl
  · refine ⟨k, i, j, by omega, by omega, by omega, hne, ?_, ?_⟩
    · rw [e]; rfl
    · exact hm (plN l i j k) (plM l i j k) (by rw [e]) (by rw [e]) rfl
theorem planes_of {l : List Tr} (hS : Sol l) {f : Fc} (hF : IsF l f) {a b c : Nat} (h : OutF l a b c f.n) : f ∈ planesL l := by
  obtain ⟨i, j, k, hi, hj, hk, hne, hpm, ei, ej, ek⟩ := sorted3 (n := l.length) (P := fun i j k => tac (gt l k) (gt l i) (gt l j) ≠ tz ∧ (tpr (tac (gt l k) (gt l i) (gt l j)) = f.n ∨ tpr (tac (gt l k) (gt l i) (gt l j)) = tmul f.n (-1)) ∧ tdot f.n (gt l i) = f.m ∧ tdot f.n (gt l j) = f.m ∧ tdot f.n (gt l k) = f.m) (fun x y z ⟨h1, h2, h3, h4, h5⟩ => ⟨by rw [tac23]; exact tmul_ne h1, by
      rw [tac23, tpr_neg]
      rcases h2 with h2 | h2
      · exact .inr (by rw [h2])
      · exact .inl (by rw [h2, tmul_neg2]), h4, h3, h5⟩) (fun x y z ⟨h1, h2, h3, h4, h5⟩ => by
      have e : tac (gt l y) (gt l x) (gt l z) = tmul (tac (gt l z) (gt l x) (gt l y)) (-1) := by
        simp only [tac, tcr, tsub, tmul, Tr.mk.injEq]; refine ⟨?_, ?_, ?_⟩ <;> grind
      refine ⟨by rw [e]; exact tmul_ne h1, ?_, h3, h5, h4⟩
      rw [e, tpr_neg]
      rcases h2 with h2 | h2
      · exact .inr (by rw [h2])
      · exact .inl (by rw [h2, tmul_neg2])) (fun x y ⟨h1, _⟩ => h1 (by
      simp only [tac, tcr, tsub, tz, Tr.mk.injEq]; refine ⟨?_, ?_, ?_⟩ <;> grind)) h.hb h.hc h.ha (by
      have hm : tdot f.n (gt l a) = f.m := by
        obtain ⟨q, hq, e⟩ := hF.at_
        have := h.le q hq
        have := hF.le a h.ha
        omega
      exact ⟨h.ne, .inl h.ev.symm, by rw [h.at1, hm], by rw [h.at2, hm], hm⟩)
  have hb : plB l i j k = true ∧ plF l i j k = f := by
    obtain ⟨q, hq, hqm⟩ := off_plane hS h.nz f.m
    have hq' := hF.le q hq
    unfold plB plF facN facB plM
    rw [plN_tac]
    rcases hpm with e | e
    · rw [e, ek]
      have hg : anyGt l f.n f.m l.length = false := any_ff fun i hi => by
        have := hF.le i hi
        rw [decide_eq_false_iff_not]; omega
      rw [hg]
      refine ⟨by simp [h.nz], ?_⟩
      rw [if_neg (by decide), ← hF.s]
    · rw [e, tdot_neg, ek]
      have hg : anyGt l (tmul f.n (-1)) (-f.m) l.length = true := any_t hq (by rw [decide_eq_true_eq, tdot_neg]; omega)
      have hl : anyLt l (tmul f.n (-1)) (-f.m) l.length = false := any_ff fun i hi => by
        have := hF.le i hi
        rw [decide_eq_false_iff_not, tdot_neg]; omega
      rw [hg, hl]
      refine ⟨by simp [tmul_ne_iff, h.nz], ?_⟩
      rw [if_pos rfl, tmul_neg2, Int.neg_neg, onTo_neg, ← hF.s]
  rw [← hb.2]
  exact mem_pI' hb.1 hk hj hi
/-! Ordered lists of facets. -/
theorem lex_ir (a : Tr) : ¬ lexT a a := by unfold lexT; omega
theorem lex_tr {a b c : Tr} (h1 : lexT a b) (h2 : lexT b c) : lexT a c := by unfold lexT at *; omega
theorem lex_3 {a b : Tr} (h1 : ¬ lexT a b) (h2 : ¬ lexT b a) : a = b := by
  unfold lexT at *
  exact tr_ext (by omega) (by omega) (by omega)
def LexS (K : List Fc) : Prop := K.Pairwise (fun a b => lexT a.n b.n)
theorem LexS.eq {K L : List Fc} (hK : LexS K) (hL : LexS L) (h : ∀ f, f ∈ K ↔ f ∈ L) : K = L := by
  unfold LexS at *
  have nd : ∀ {M : List Fc}, M.Pairwise (fun a b => lexT a.n b.n) → M.Nodup := fun hM => List.Pairwise.imp (S := (· ≠ ·)) (fun {a b} hab e => lex_ir a.n (by rw [← e] at hab; exact hab)) hM
  have hp : K.Perm L := (List.perm_ext_iff_of_nodup (nd hK) (nd hL)).2 h
  exact List.Perm.eq_of_pairwise (fun a b _ _ h1 h2 => absurd (lex_tr h1 h2) (lex_ir _)) hK hL hp
theorem gf_of_mem {L : List Fc} {f : Fc} (h : f ∈ L) : ∃ i, i < L.length ∧ gf L i = f := by
  obtain ⟨i, hi, e⟩ := List.getElem_of_mem h
  exact ⟨i, hi, by rw [gf_eq hi, e]⟩
theorem cpt_lex {L : List Fc} (hu : ∀ f ∈ L, ∀ g ∈ L, f.n = g.n → f = g) (hs : L.Pairwise (fun a b => leF a b = true)) : ∀ m, m ≤ L.length → LexS (cptToF L m) ∧ ∀ f, f ∈ cptToF L m ↔ ∃ i, i < m ∧ gf L i = f
  | 0, _ => ⟨List.Pairwise.nil, fun f => ⟨fun h => (by cases h), fun ⟨i, hi, _⟩ => absurd hi (Nat.not_lt_zero _)⟩⟩
  | m + 1, hm => by
    obtain ⟨ih1, ih2⟩ := cpt_lex hu hs m (by omega)
    have hle : ∀ i j, i < j → j < L.length → ¬ lexT (gf L j).n (gf L i).n := fun i j hij hj => by
      have := List.pairwise_iff_getElem.1 hs i j (by omega) hj hij
      unfold leF at this
      rw [Bool.not_eq_true', decide_eq_false_iff_not] at this
      rw [gf_eq hj, gf_eq (by omega)]
      exact this
    rw [cptToF_succ]
    split
    · rename_i hc
      refine ⟨?_, fun f => ?_⟩
      · unfold LexS at *
        rw [List.pairwise_append]
        refine ⟨ih1, List.pairwise_singleton _ _, fun x hx y hy => ?_⟩
        rw [List.mem_singleton] at hy
        subst hy
        obtain ⟨i, hi, rfl⟩ := (ih2 x).1 hx
        unfold cptPF at hc
        rw [Bool.or_eq_true, decide_eq_true_eq, decide_eq_true_eq] at hc
        have hne := hc.resolve_left (by omega)
        have h1 : lexT (gf L (m - 1)).n (gf L m).n := Classical.byContradiction fun h => hne (lex_3 (hle (m - 1) m (by omega) (by omega)) h)
        by_cases e : i = m - 1
        · rw [e]; exact h1
        · have h2 := hle i (m - 1) (by omega) (by omega)
          by_cases h3 : lexT (gf L i).n (gf L (m - 1)).n
          · exact lex_tr h3 h1
          · rw [lex_3 h3 h2]; exact h1
      · rw [List.mem_append, List.mem_singleton, ih2]
        constructor
        · rintro (⟨i, hi, e⟩ | e)
          · exact ⟨i, by omega, e⟩
          · exact ⟨m, by omega, e.symm⟩
        · rintro ⟨i, hi, e⟩
          by_cases h : i = m
          · subst h; exact .inr e.symm
          · exact .inl ⟨i, by omega, e⟩
    · rename_i hc
      refine ⟨ih1, fun f => ?_⟩
      rw [ih2]
      constructor
      · rintro ⟨i, hi, e⟩; exact ⟨i, by omega, e⟩
      · rintro ⟨i, hi, e⟩
        by_cases h : i = m
        · subst h
          unfold cptPF at hc
          rw [Bool.or_eq_true, decide_eq_true_eq, decide_eq_true_eq, not_or] at hc
          have hn : (gf L i).n = (gf L (i - 1)).n := Classical.byContradiction hc.2
          exact ⟨i - 1, by omega, by rw [← e]; exact (hu _ (gf_mem (by omega)) _ (gf_mem (by omega)) hn).symm⟩
        · exact ⟨i, by omega, e⟩
theorem facets_mem {l : List Tr} : LexS (facetsL l) ∧ ∀ f, f ∈ facetsL l ↔ f ∈ planesL l := by
  have hp := List.mergeSort_perm (planesL l) leF
  obtain ⟨h1, h2⟩ := cpt_lex (L := sortF (planesL l)) (fun f hf g hg h => isF_inj (planes_isF (hp.mem_iff.1 hf)) (planes_isF (hp.mem_iff.1 hg)) h) (List.pairwise_mergeSort leF_tr leF_to _) _ (Nat.le_refl _)
  refine ⟨h1, fun f => (h2 f).trans ?_⟩
  rw [← hp.mem_iff]
  exact ⟨fun ⟨i, hi, e⟩ => e ▸ gf_mem hi, gf_of_mem⟩
theorem facets_iff {l : List Tr} (hS : Sol l) (f : Fc) : f ∈ facetsL l ↔ IsF l f ∧ ∃ a b c, OutF l a b c f.n := by
  rw [facets_mem.2]
  exact ⟨fun h => ⟨planes_isF h, planes_out h⟩, fun ⟨h1, a, b, c, h2⟩ => planes_of hS h1 h2⟩
theorem exHi_ge (l : List Tr) (d : Tr) : ∀ k i, i < k → tdot d (gt l i) ≤ tdot d (gt l (exHi l d k))
  | k + 1, i, hi => by
    unfold exHi
    by_cases e : i = k
    · subst e; split <;> omega
    · have := exHi_ge l d k i (by omega)
      split <;> omega
theorem supBest_ge {l : List Tr} {d : Tr} {i : Nat} (h : i < l.length) : tdot d (gt l i) ≤ supBest l d := exHi_ge l d _ i h
theorem supBest_at {l : List Tr} (d : Tr) (h : 0 < l.length) : ∃ i, i < l.length ∧ tdot d (gt l i) = supBest l d := ⟨_, exHi_lt l d _ _ (Nat.le_refl _) h, rfl⟩
theorem sup_isF {l : List Tr} (d : Tr) (h : 0 < l.length) : IsF l ⟨d, supBest l d, onTo l d (supBest l d) l.length⟩ := ⟨fun i hi => supBest_ge hi, rfl, supBest_at d h⟩
theorem six_dot (a b c d : Tr) : six a b c d = tdot (tac a b c) d - tdot (tac a b c) a := by simp only [six, tdot, tsub]; grind
theorem facets_pos {l : List Tr} (hl : RT l) (h : (spn l).dim = 3) : 0 < (facetsL l).length := by
  have hS := (dim3_iff l).1 h
  obtain ⟨a, b, c, ha, hb, hc, hne, hs⟩ := exists_side hl hS
  have key : ∀ b c, b < l.length → c < l.length → tac (gt l a) (gt l b) (gt l c) ≠ tz → (∀ q, q < l.length → six (gt l a) (gt l b) (gt l c) (gt l q) ≤ 0) → 0 < (facetsL l).length := by
    intro b c hb hc hne hs
    refine List.length_pos_of_mem ((facets_iff hS _).2 ⟨sup_isF (tpr (tac (gt l a) (gt l b) (gt l c))) (by omega), a, b, c, ha, hb, hc, hne, rfl, fun i hi => ?_⟩)
    have := hs i hi
    rw [six_dot] at this
    obtain ⟨g, hg, hd⟩ := tpr_dot hne
    rw [hd, hd, ← Int.mul_sub] at this
    have := le_of_mul (b := tdot (tpr (tac (gt l a) (gt l b) (gt l c))) (gt l a) - tdot (tpr (tac (gt l a) (gt l b) (gt l c))) (gt l i)) hg (by rw [Int.mul_sub] at this ⊢; omega)
    dsimp only
    omega
  rcases hs with hs | hs
  · refine key c b hc hb (by rw [tac23]; exact tmul_ne hne) fun q hq => ?_
    have := hs q hq
    rw [six23]; omega
  · exact key b c hb hc hne hs
end Go.Proofs.YtdoppiajbpmmkaaGreat
namespace Go.Proofs.YtdoppiajbpmmkaaGreat
open Go Go.Vc Go.RowKit
set_option maxHeartbeats 8000000
/-! KDQ -/
theorem facs_q (l : List Tr) (hf : few l) : CtrA Tryz.prog 19 [ts l] (tupOf [fs (facQ l), vi (errF l)]) := by
  refine facs_c l hf fun h hd => ?_
  obtain ⟨hl, _⟩ := hf.le h
  exact facets_pos hl (by rcases dim_cases hl with h1 | h1 | h1 | h1 | h1 <;> omega)
/-- A facet with any numbers for points. -/
structure Fz where
  n : Tr
  m : Int
  s : List Int
def fzf (f : Fz) : Nat → AV
  | 0 => vi f.n.x
  | 1 => vi f.n.y
  | 2 => vi f.n.z
  | 3 => vi f.m
  | _+4 => zs f.s
/-- Two facets. -/
def f2 (a b : Fz) (i : Nat) : AV := if i < 5 then fzf a i else fzf b (i - 5)
end Go.Proofs.YtdoppiajbpmmkaaGreat
