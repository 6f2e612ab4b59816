/- A part of the proof that the law returns true at every input and that the input reads behind the call as it read before; this part states nothing of its own that needs a condition of the input. -/
import Derived.Test.YtdoppiajbpmmkaaGreatGb
set_option linter.unusedVariables false
set_option linter.unusedSimpArgs false
set_option linter.unnecessarySimpa false
namespace Go.Proofs.YtdoppiajbpmmkaaGreat
open Go Go.Vc Go.RowKit
set_option maxHeartbeats 1000000
/-! A vertex lies on a facet; what lies in front of all points lies in front of a facet. -/
section
variable {l : List Tr}
theorem perp_ne {a b : Tr} (ha : a ≠ tz) (hb : b ≠ tz) (h : tdot a b = 0) : tcr a b ≠ tz := fun e => hb (par_perp ha e h)
theorem perp_ex {a : Tr} (ha : a ≠ tz) : ∃ c : Tr, c ≠ tz ∧ tdot c a = 0 := by
  rcases tr_ne ha with h | h | h
  · exact ⟨⟨-a.y, a.x, 0⟩, fun e => by simp only [tz, Tr.mk.injEq] at e; omega, by simp only [tdot]; grind⟩
  · exact ⟨⟨a.y, -a.x, 0⟩, fun e => by simp only [tz, Tr.mk.injEq] at e; omega, by simp only [tdot]; grind⟩
  · exact ⟨⟨a.z, 0, -a.x⟩, fun e => by simp only [tz, Tr.mk.injEq] at e; omega, by simp only [tdot]; grind⟩
theorem off_dv (hS : Sol l) {n : Tr} (hn : n ≠ tz) (v : Nat) : ∃ i, i < l.length ∧ tdot n (dv l v i) ≠ 0 := by
  obtain ⟨i, hi, h⟩ := off_plane hS hn (tdot n (gt l v))
  exact ⟨i, hi, by rw [dv_dot]; omega⟩
theorem sgn_ch (hS : Sol l) {c a b : Tr} (hc : c ≠ tz) (v : Nat) (h1 : tdot c a = 0) (h2 : tdot c b = 0) : ∃ d : Tr, d ≠ tz ∧ tdot d a = 0 ∧ tdot d b = 0 ∧ ∃ i, i < l.length ∧ 0 < tdot d (dv l v i) := by
  obtain ⟨i, hi, hne⟩ := off_dv hS hc v
  rcases (by omega : 0 < tdot c (dv l v i) ∨ tdot c (dv l v i) < 0) with h | h
  · exact ⟨c, hc, h1, h2, i, hi, h⟩
  · exact ⟨tmul c (-1), tmul_ne hc, by rw [tdot_neg]; omega, by rw [tdot_neg]; omega, i, hi, by rw [tdot_neg]; omega⟩
/-- One turn of a plane about its points. -/
theorem turn1 {v : Nat} {n c : Tr} (hS : Sol l) (hn : ∀ i, i < l.length → tdot n (dv l v i) ≤ 0) (h0 : n ≠ tz) (hc : ∀ i, i < l.length → tdot n (dv l v i) = 0 → tdot c (dv l v i) = 0) :
    ∃ (j : Nat) (g : Tr) (a b : Int), j < l.length ∧ tdot n (dv l v j) < 0 ∧ (∀ i, i < l.length → tdot g (dv l v i) ≤ 0) ∧ tdot g (dv l v j) = 0 ∧ 0 < b ∧ (∀ z, tdot g z = a * tdot n z + b * tdot c z) ∧ ((∃ i, i < l.length ∧ 0 < tdot c (dv l v i)) → 0 < a ∧ 0 < tdot c (dv l v j)) := by
  obtain ⟨i0, hi0, hne⟩ := off_dv hS h0 v
  obtain ⟨j, hj, hnj, hall⟩ := wrapj hn (fun i hi e => Int.le_of_eq (hc i hi e)) ⟨i0, hi0, by have := hn i0 hi0; omega⟩
  refine ⟨j, lc (tdot c (dv l v j)) (-(tdot n (dv l v j))) n c, tdot c (dv l v j), -(tdot n (dv l v j)), hj, hnj, fun i hi => ?_, ?_, by omega, fun z => lc_dot _ _ _ _ _, ?_⟩
  · rw [lc_dot, Int.neg_mul]; have := hall i hi; omega
  · rw [lc_dot, Int.neg_mul, Int.mul_comm]; omega
  · rintro ⟨i, hi, hp⟩
    have h1 := hall i hi
    have h2 : tdot n (dv l v i) < 0 := by
      have := hn i hi
      rcases (by omega : tdot n (dv l v i) < 0 ∨ tdot n (dv l v i) = 0) with h | h
      · exact h
      · have := hc i hi h; omega
    have h3 := Int.mul_neg_of_neg_of_pos hnj hp
    have : 0 < tdot c (dv l v j) := by
      refine Classical.byContradiction fun hno => ?_
      have := Int.mul_nonneg_of_nonpos_of_nonpos (show tdot c (dv l v j) ≤ 0 by omega) (Int.le_of_lt h2)
      omega
    exact ⟨this, this⟩
/-- The second turn. -/
theorem turn2 {v p : Nat} {g c z : Tr} (hS : Sol l) (hv : v < l.length) (hp : p < l.length) (hg : ∀ i, i < l.length → tdot g (dv l v i) ≤ 0) (h0 : g ≠ tz) (gp : tdot g (dv l v p) = 0) (hne : dv l v p ≠ tz) (hcp : tdot c (dv l v p) = 0) (hz : (tdot c z = 0 ∧ 0 < tdot g z ∧ ∃ i, i < l.length ∧ 0 < tdot c (dv l v i)) ∨ (tdot g z = 0 ∧ 0 < tdot c z)) :
    ∃ f, f ∈ facetsL l ∧ v ∈ f.s ∧ (tdot c z = 0 → 0 < tdot f.n z) := by
  have fin : ∀ (G : Tr) (q : Nat), q < l.length → (∀ i, i < l.length → tdot G (dv l v i) ≤ 0) → G ≠ tz → tdot G (dv l v p) = 0 → tdot G (dv l v q) = 0 → tcr (dv l v p) (dv l v q) ≠ tz → (tdot c z = 0 → 0 < tdot G z) → ∃ f, f ∈ facetsL l ∧ v ∈ f.s ∧ (tdot c z = 0 → 0 < tdot f.n z) := by
    intro G q hq hG hG0 h1 h2 h3 h4
    obtain ⟨f, hf, hvf, a, b, ha, hb, hab⟩ := facet_of hS hv hp hq hG hG0 h1 h2 h3
    refine ⟨f, hf, hvf, fun h => ?_⟩
    exact (sgn_tr (X := tdot G z) (D := tdot f.n z) (nn := a) (sg := b) (by rw [Int.mul_comm]; exact hab z) ha hb).2.1.1 (h4 h)
  by_cases hex : ∃ q, q < l.length ∧ tdot g (dv l v q) = 0 ∧ tcr (dv l v p) (dv l v q) ≠ tz
  · obtain ⟨q, hq, gq, hn⟩ := hex
    exact fin g q hq hg h0 gp gq hn (fun h => by rcases hz with h1 | h1; exact h1.2.1; omega)
  · have hpar : ∀ i, i < l.length → tdot g (dv l v i) = 0 → tdot c (dv l v i) = 0 := fun i hi e => by
      have : tcr (dv l v p) (dv l v i) = tz := Classical.byContradiction fun h => hex ⟨i, hi, e, h⟩
      exact par_f hne this hcp
    obtain ⟨j, G, a, b, hj, hnj, hG, hGj, hb, hab, hpos⟩ := turn1 hS hg h0 hpar
    have hz2 : (tdot c z = 0 ∧ 0 < tdot G z) ∨ (0 < tdot c z ∧ 0 < tdot G z) := by
      rcases hz with ⟨h1, h2, h3⟩ | ⟨h1, h2⟩
      · refine .inl ⟨h1, ?_⟩
        rw [hab, h1]
        have := Int.mul_pos (hpos h3).1 h2
        omega
      · refine .inr ⟨h2, ?_⟩
        rw [hab, h1]
        have := Int.mul_pos hb h2
        omega
    refine fin G j hj hG (fun e => ?_) ?_ hGj (fun e => ?_) (fun _ => by rcases hz2 with h | h <;> exact h.2)
    · rw [e, tdot_tz] at hz2; omega
    · rw [hab, gp, hcp]; simp
    · have := par_f (F := g) hne e gp; omega
/-- What lies in front of all points lies in front of a facet. -/
theorem sep_facet (hl : RT l) (hS : Sol l) {p h : Tr} (hh : ∀ i, i < l.length → tdot h (gt l i) < tdot h p) : ∃ f, f ∈ facetsL l ∧ f.m < tdot f.n p := by
  obtain ⟨M, hM, hMb⟩ := boundI (fun i => tdot D0 (gt l i) - tdot D0 p) l.length
  have eH : ∀ z, tdot (lc (1000000000000000000 + M) 1 h D0) z = (1000000000000000000 + M) * tdot h z + tdot D0 z := fun z => by rw [lc_dot, Int.one_mul]
  generalize lc (1000000000000000000 + M) 1 h D0 = H at eH
  have hHp : ∀ i, i < l.length → tdot H (gt l i) < tdot H p := fun i hi => by
    have h1 := hh i hi
    have h2 := hMb i hi
    have h3 := Int.mul_le_mul_of_nonneg_left (show tdot h (gt l i) + 1 ≤ tdot h p by omega) (show 0 ≤ 1000000000000000000 + M by omega)
    rw [eH, eH]
    rw [Int.mul_add, Int.mul_one] at h3
    omega
  obtain ⟨a0, ha0⟩ : ∃ a, a < l.length := by obtain ⟨a0, _, _, _, ha0, _⟩ := hS; exact ⟨a0, ha0⟩
  obtain ⟨v, hv, _, hmax⟩ := tot_min (P := fun _ => True) (R := fun i j => tdot H (gt l j) ≤ tdot H (gt l i)) (fun i j _ _ => by omega) (fun i j k _ _ _ h1 h2 => by omega) l.length ⟨a0, ha0, trivial⟩
  have hle : ∀ i, i < l.length → tdot H (dv l v i) ≤ 0 := fun i hi => by rw [dv_dot]; have := hmax i hi trivial; omega
  have hz : ∀ i, i < l.length → tdot H (dv l v i) = 0 → dv l v i = tz := fun i hi e => by
    have hb : BT 200000 (dv l v i) := (hl i).sub (hl v)
    have hx := hb.x; have hy := hb.y; have hz := hb.z
    rw [eH] at e
    have h0 : tdot h (dv l v i) = 0 := by
      have e2 : tdot D0 (dv l v i) = 1000000000000 * (dv l v i).x + 1000000 * (dv l v i).y + 1 * (dv l v i).z := rfl
      rcases (by omega : tdot h (dv l v i) = 0 ∨ 1 ≤ tdot h (dv l v i) ∨ tdot h (dv l v i) ≤ -1) with h1 | h1 | h1
      · exact h1
      · have := Int.mul_le_mul_of_nonneg_left h1 (show 0 ≤ 1000000000000000000 + M by omega)
        omega
      · have := Int.mul_le_mul_of_nonneg_left h1 (show 0 ≤ 1000000000000000000 + M by omega)
        omega
    rw [h0, Int.mul_zero, Int.zero_add] at e
    exact phi_z hb (by rw [phi_D]; exact e)
  have hq : 0 < tdot H (tsub p (gt l v)) := by
    have := hHp v hv
    have e : tdot H (tsub p (gt l v)) = tdot H p - tdot H (gt l v) := by simp only [tdot, tsub]; grind
    omega
  have hH0 : H ≠ tz := fun e => by rw [e, tdot_tz] at hq; omega
  generalize hQ : tsub p (gt l v) = q at hq
  have hq0 : q ≠ tz := fun e => by rw [e, tdot_z] at hq; omega
  obtain ⟨c0, hc0, hcq0⟩ := perp_ex hq0
  obtain ⟨c, hc, hcq, _, hci⟩ := sgn_ch hS hc0 v hcq0 hcq0
  obtain ⟨j, g, a, b, hj, hnj, hg, hgj, hb, hab, hpos⟩ := turn1 (c := c) hS hle hH0 (fun i hi e => by rw [hz i hi e, tdot_z])
  have hgq : 0 < tdot g q := by
    rw [hab, hcq]
    have := Int.mul_pos (hpos hci).1 hq
    omega
  have hg0 : g ≠ tz := fun e => by rw [e, tdot_tz] at hgq; omega
  have hj0 : dv l v j ≠ tz := fun e => by rw [e, tdot_z] at hnj; omega
  have hd0 : tcr q (dv l v j) ≠ tz := fun e => by
    have := par_f (F := g) hj0 (tcr_anz e) hgj
    omega
  obtain ⟨d, hd, hdq, hdj, hdi⟩ := sgn_ch hS hd0 v (tdot_cr1 q (dv l v j)) (tdot_cr2 q (dv l v j))
  obtain ⟨f, hf, hvf, hfz⟩ := turn2 (z := q) hS hv hj hg hg0 hgj hj0 hdj (.inl ⟨hdq, hgq, hdi⟩)
  refine ⟨f, hf, ?_⟩
  have h1 := hfz hdq
  obtain ⟨hF, _⟩ := (facets_iff hS f).1 hf
  rw [hF.s, onTo_mem] at hvf
  have e : tdot f.n q = tdot f.n p - tdot f.n (gt l v) := by rw [← hQ]; simp only [tdot, tsub]; grind
  omega
/-- A vertex lies on a facet. -/
theorem vx_facet (hS : Sol l) {v : Nat} (h : Vx l v) : ∃ f, f ∈ facetsL l ∧ v ∈ f.s := by
  obtain ⟨n, hn⟩ := h.ex
  have hle : ∀ i, i < l.length → tdot n (dv l v i) ≤ 0 := fun i hi => by
    by_cases e : gt l i = gt l v
    · unfold dv; rw [e, tsub_s, tdot_z]; exact Int.le_refl _
    · exact Int.le_of_lt (hn i hi e)
  have hz : ∀ i, i < l.length → tdot n (dv l v i) = 0 → dv l v i = tz := fun i hi e => by
    by_cases e2 : gt l i = gt l v
    · unfold dv; rw [e2, tsub_s]
    · have := hn i hi e2; omega
  have hn0 : n ≠ tz := fun e => by
    obtain ⟨i, hi, h1⟩ := off_dv hS (show (⟨1, 0, 0⟩ : Tr) ≠ tz by decide) v
    have h2 := hz i hi (by rw [e, tdot_tz])
    rw [h2, tdot_z] at h1; exact h1 rfl
  obtain ⟨c, hc, hcn⟩ := perp_ex hn0
  obtain ⟨j, g, a, b, hj, hnj, hg, hgj, hb, hab, _⟩ := turn1 (c := c) hS hle hn0 (fun i hi e => by rw [hz i hi e, tdot_z])
  have hg0 : g ≠ tz := fun e => by
    have e2 := hab c
    rw [e, tdot_tz, tdot_comm n c, hcn] at e2
    have := Int.mul_pos hb (nn_pos hc)
    omega
  have hj0 : dv l v j ≠ tz := fun e => by rw [e, tdot_z] at hnj; omega
  have hd0 := perp_ne hg0 hj0 hgj
  obtain ⟨f, hf, hvf, _⟩ := turn2 (c := tcr g (dv l v j)) (z := tcr g (dv l v j)) hS h.lt hj hg hg0 hgj hj0 (tdot_cr2 _ _) (.inr ⟨by rw [tdot_comm]; exact tdot_cr1 _ _, nn_pos hd0⟩)
  exact ⟨f, hf, hvf⟩
theorem S3.vl (s : S3 l) {i : Nat} : i ∈ VL l ↔ Vx l i := by
  constructor
  · exact s.vxm
  · intro h
    obtain ⟨f, hf, hi⟩ := vx_facet s.hS h
    exact s.mem.2 ⟨f, hf, (s.vx hf i).2 ⟨hi, h⟩⟩
end
end Go.Proofs.YtdoppiajbpmmkaaGreat
