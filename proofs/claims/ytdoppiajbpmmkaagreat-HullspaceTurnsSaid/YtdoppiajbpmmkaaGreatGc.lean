/- A part of the proof that the law returns true at every input and that the input reads behind the call as it read before; this part states nothing of its own that needs a condition of the input. -/
import Derived.Test.YtdoppiajbpmmkaaGreatGb
import Derived.Test.YtdoppiajbpmmkaaGreatKi
set_option linter.unusedVariables false
set_option linter.unusedSimpArgs false
set_option linter.unnecessarySimpa false
namespace Go.Proofs.YtdoppiajbpmmkaaGreat
open Go Go.Vc Go.RowKit
set_option maxHeartbeats 1000000
/-! A vertex lies on a facet; what lies in front of all points lies in front of a facet. -/
section
variable {l : List Tr}
theorem perp_ex {a : Tr} (ha : a ≠ tz) : ∃ c : Tr, c ≠ tz ∧ tdot c a = 0 := by
  rcases tr_ne ha with h | h | h
  · exact ⟨⟨-a.y, a.x, 0⟩, fun e => by simp only [tz, Tr.mk.injEq] at e; omega, by simp only [tdot]; grind⟩
  · exact ⟨⟨a.y, -a.x, 0⟩, fun e => by simp only [tz, Tr.mk.injEq] at e; omega, by simp only [tdot]; grind⟩
  · exact ⟨⟨a.z, 0, -a.x⟩, fun e => by simp only [tz, Tr.mk.injEq] at e; omega, by simp only [tdot]; grind⟩
theorem off_dv (hS : Sol l) {n : Tr} (hn : n ≠ tz) (v : Nat) : ∃ i, i < l.length ∧ tdot n (dv l v i) ≠ 0 := by
  obtain ⟨i, hi, h⟩ := off_plane hS hn (tdot n (gt l v))
  exact ⟨i, hi, by rw [dv_dot]; omega⟩
theorem sgn_ch (hS : Sol l) {c a b : Tr} (hc : c ≠ tz) (v : Nat) (h1 : tdot c a = 0) (h2 : tdot c b = 0) : ∃ d : Tr, d ≠ tz ∧ tdot d a = 0 ∧ tdot d b = 0 ∧ ∃ i, i < l.length ∧ 0 < tdot d (dv l v i) := by
  obtain ⟨i, hi, hne⟩ := off_dv hS hc v
  rcases (by omega : 0 < tdot c (dv l v i) ∨ tdot c (dv l v i) < 0) with h | h
  · exact ⟨c, hc, h1, h2, i, hi, h⟩
  · exact ⟨tmul c (-1), tmul_ne hc, by rw [tdot_neg]; omega, by rw [tdot_neg]; omega, i, hi, by rw [tdot_neg]; omega⟩
/-- One turn of a plane about its points. -/
theorem turn1 {v : Nat} {n c : Tr} (hS : Sol l) (hn : ∀ i, i < l.length → tdot n (dv l v i) ≤ 0) (h0 : n ≠ tz) (hc : ∀ i, i < l.length → tdot n (dv l v i) = 0 → tdot c (dv l v i) = 0) :
    ∃ (j : Nat) (g : Tr) (a b : Int), j < l.length ∧ tdot n (dv l v j) < 0 ∧ (∀ i, i < l.length → tdot g (dv l v i) ≤ 0) ∧ tdot g (dv l v j) = 0 ∧ 0 < b ∧ (∀ z, tdot g z = a * tdot n z + b * tdot c z) ∧ ((∃ i, i < l.length ∧ 0 < tdot c (dv l v i)) → 0 < a ∧ 0 < tdot c (dv l v j)) := by
  obtain ⟨i0, hi0, hne⟩ := off_dv hS h0 v
  obtain ⟨j, hj, hnj, hall⟩ := wrapj hn (fun i hi e => Int.le_of_eq (hc i hi e)) ⟨i0, hi0, by have := hn i0 hi0; omega⟩
  refine ⟨j, lc (tdot c (dv l v j)) (-(tdot n (dv l v j))) n c, tdot c (dv l v j), -(tdot n (dv l v j)), hj, hnj, fun i hi => ?_, ?_, by omega, fun z => lc_dot _ _ _ _ _, ?_⟩
  · rw [lc_dot, Int.neg_mul]; have := hall i hi; omega
  · rw [lc_dot, Int.neg_mul, Int.mul_comm]; omega
  · rintro ⟨i, hi, hp⟩
    have h1 := hall i hi
    have h2 : tdot n (dv l v i) < 0 := by
      have := hn i hi
      rcases (by omega : tdot n (dv l v i) < 0 ∨ tdot n (dv l v i) = 0) with h | h
      · exact h
      · have := hc i hi h; omega
    have h3 := Int.mul_neg_of_neg_of_pos hnj hp
    have : 0 < tdot c (dv l v j) := by
      refine Classical.byContradiction fun hno => ?_
      have := Int.mul_nonneg_of_nonpos_of_nonpos (show tdot c (dv l v j) ≤ 0 by omega) (Int.le_of_lt h2)
      omega
    exact ⟨this, this⟩
/-- The second turn. -/
theorem turn2 {v p : Nat} {g c z : Tr} (hS : Sol l) (hv : v < l.length) (hp : p < l.length) (hg : ∀ i, i < l.length → tdot g (dv l v i) ≤ 0) (h0 : g ≠ tz) (gp : tdot g (dv l v p) = 0) (hne : dv l v p ≠ tz) (hcp : tdot c (dv l v p) = 0) (hz : (tdot c z = 0 ∧ 0 < tdot g z ∧ ∃ i, i < l.length ∧ 0 < tdot c (dv l v i)) ∨ (tdot g z = 0 ∧ 0 < tdot c z)) :
    ∃ f, f ∈ facetsL l ∧ v ∈ f.s ∧ (tdot c z = 0 → 0 < tdot f.n z) := by
  have fin : ∀ (G : Tr) (q : Nat), q < l.length → (∀ i, i < l.length → tdot G (dv l v i) ≤ 0) → G ≠ tz → tdot G (dv l v p) = 0 → tdot G (dv l v q) = 0 → tcr (dv l v p) (dv l v q) ≠ tz → (tdot c z = 0 → 0 < tdot G z) → ∃ f, f ∈ facetsL l ∧ v ∈ f.s ∧ (tdot c z = 0 → 0 < tdot f.n z) := by
    intro G q hq hG hG0 h1 h2 h3 h4
    obtain ⟨f, hf, hvf, a, b, ha, hb, hab⟩ := facet_of hS hv hp hq hG hG0 h1 h2 h3
    refine ⟨f, hf, hvf, fun h => ?_⟩
    exact (sgn_tr (X := tdot G z) (D := tdot f.n z) (nn := a) (sg := b) (by rw [Int.mul_comm]; exact hab z) ha hb).2.1.1 (h4 h)
  by_cases hex : ∃ q, q < l.length ∧ tdot g (dv l v q) = 0 ∧ tcr (dv l v p) (dv l v q) ≠ tz
  · obtain ⟨q, hq, gq, hn⟩ := hex
    exact fin g q hq hg h0 gp gq hn (fun h => by rcases hz with h1 | h1; exact h1.2.1; omega)
  · have hpar : ∀ i, i < l.length → tdot g (dv l v i) = 0 → tdot c (dv l v i) = 0 := fun i hi e => by
      have : tcr (dv l v p) (dv l v i) = tz := Classical.byContradiction fun h => hex ⟨i, hi, e, h⟩
      exact par_f hne this hcp
    obtain ⟨j, G, a, b, hj, hnj, hG, hGj, hb, hab, hpos⟩ := turn1 hS hg h0 hpar
    have hz2 : (tdot c z = 0 ∧ 0 < tdot G z) ∨ (0 < tdot c z ∧ 0 < tdot G z) := by
      rcases hz with ⟨h1, h2, h3⟩ | ⟨h1, h2⟩
      · refine .inl ⟨h1, ?_⟩
        rw [hab, h1]
        have := Int.mul_pos (hpos h3).1 h2
        omega
      · refine .inr ⟨h2, ?_⟩
        rw [hab, h1]
        have := Int.mul_pos hb h2
        omega
    refine fin G j hj hG (fun e => ?_) ?_ hGj (fun e => ?_) (fun _ => by rcases hz2 with h | h <;> exact h.2)
    · rw [e, tdot_tz] at hz2; omega
    · rw [hab, gp, hcp]; simp
    · have := par_f (F := g) hne e gp; omega
/-- What lies in front of all points lies in front of a facet. -/
theorem sep_facet (hl : RT l) (hS : Sol l) {p h : Tr} (hh : ∀ i, i < l.length → tdot h (gt l i) < tdot h p) : ∃ f, f ∈ facetsL l ∧ f.m < tdot f.n p := by
  obtain ⟨M, hM, hMb⟩ := boundI (fun i => tdot D0 (gt l i) - tdot D0 p) l.length
  have eH : ∀ z, tdot (lc (1000000000000000000 + M) 1 h D0) z = (1000000000000000000 + M) * tdot h z + tdot D0 z := fun z => by rw [lc_dot, Int.one_mul]
  generalize lc (1000000000000000000 + M) 1 h D0 = H at eH
  have hHp : ∀ i, i < l.length → tdot H (gt l i) < tdot H p := fun i hi => by
    have h1 := hh i hi
    have h2 := hMb i hi
    have h3 := Int.mul_le_mul_of_nonneg_left (show tdot h (gt l i) + 1 ≤ tdot h p by omega) (show 0 ≤ 1000000000000000000 + M by omega)
    rw [eH, eH]
    rw [Int.mul_add, Int.mul_one] at h3
    omega
  obtain ⟨a0, ha0⟩ : ∃ a, a < l.length := by obtain ⟨a0, _, _, _, ha0, _⟩ := hS; exact ⟨a0, ha0⟩
  obtain ⟨v, hv, _, hmax⟩ := tot_min (P := fun _ => True) (R := fun i j => tdot H (gt l j) ≤ tdot H (gt l i)) (fun i j _ _ => by omega) (fun i j k _ _ _ h1 h2 => by omega) l.length ⟨a0, ha0, trivial⟩
  have hle : ∀ i, i < l.length → tdot H (dv l v i) ≤ 0 := fun i hi => by rw [dv_dot]; have := hmax i hi trivial; omega
  have hz : ∀ i, i < l.length → tdot H (dv l v i) = 0 → dv l v i = tz := fun i hi e => by
    have hb : BT 200000 (dv l v i) := (hl i).sub (hl v)
    have hx := hb.x; have hy := hb.y; have hz := hb.z
    rw [eH] at e
    have h0 : tdot h (dv l v i) = 0 := by
      have e2 : tdot D0 (dv l v i) = 1000000000000 * (dv l v i).x + 1000000 * (dv l v i).y + 1 * (dv l v i).z := rfl
      rcases (by omega : tdot h (dv l v i) = 0 ∨ 1 ≤ tdot h (dv l v i) ∨ tdot h (dv l v i) ≤ -1) with h1 | h1 | h1
      · exact h1
      · have := Int.mul_le_mul_of_nonneg_left h1 (show 0 ≤ 1000000000000000000 + M by omega)
        omega
      · have := Int.mul_le_mul_of_nonneg_left h1 (show 0 ≤ 1000000000000000000 + M by omega)
        omega
    rw [h0, Int.mul_zero, Int.zero_add] at e
    exact phi_z hb (by rw [phi_D]; exact e)
  have hq : 0 < tdot H (tsub p (gt l v)) := by
    have := hHp v hv
    have e : tdot H (tsub p (gt l v)) = tdot H p - tdot H (gt l v) := by simp only [tdot, tsub]; grind
    omega
  have hH0 : H ≠ tz := fun e => by rw [e, tdot_tz] at hq; omega
  generalize hQ : tsub p (gt l v) = q at hq
  have hq0 : q ≠ tz := fun e => by rw [e, tdot_z] at hq; omega
  obtain ⟨c0, hc0, hcq0⟩ := perp_ex hq0
  obtain ⟨c, hc, hcq, _, hci⟩ := sgn_ch hS hc0 v hcq0 hcq0
  obtain ⟨j, g, a, b, hj, hnj, hg, hgj, hb, hab, hpos⟩ := turn1 (c := c) hS hle hH0 (fun i hi e => by rw [hz i hi e, tdot_z])
  have hgq : 0 < tdot g q := by
    rw [hab, hcq]
    have := Int.mul_pos (hpos hci).1 hq
    omega
  have hg0 : g ≠ tz := fun e => by rw [e, tdot_tz] at hgq; omega
  have hj0 : dv l v j ≠ tz := fun e => by rw [e, tdot_z] at hnj; omega
  have hd0 : tcr q (dv l v j) ≠ tz := fun e => by
    have := par_f (F := g) hj0 (tcr_anz e) hgj
    omega
  obtain ⟨d, hd, hdq, hdj, hdi⟩ := sgn_ch hS hd0 v (tdot_cr1 q (dv l v j)) (tdot_cr2 q (dv l v j))
  obtain ⟨f, hf, hvf, hfz⟩ := turn2 (z := q) hS hv hj hg hg0 hgj hj0 hdj (.inl ⟨hdq, hgq, hdi⟩)
  refine ⟨f, hf, ?_⟩
  have h1 := hfz hdq
  obtain ⟨hF, _⟩ := (facets_iff hS f).1 hf
  rw [hF.s, onTo_mem] at hvf
  have e : tdot f.n q = tdot f.n p - tdot f.n (gt l v) := by rw [← hQ]; simp only [tdot, tsub]; grind
  omega
end
end Go.Proofs.YtdoppiajbpmmkaaGreat
namespace Go.Proofs.YtdoppiajbpmmkaaGreat
open Go Go.Vc Go.RowKit
set_option maxHeartbeats 1000000
/-! What is in the hull of other points, in the reference's words. -/
theorem along_iff (a b : Tr) : alongB a b = true ↔ 0 ≤ a.x * b.x ∧ 0 ≤ a.y * b.y ∧ 0 ≤ a.z * b.z := by
  have key : ∀ x y : Int, ((0 ≤ x ∨ y ≤ 0) ∧ (x ≤ 0 ∨ 0 ≤ y)) ↔ 0 ≤ x * y := fun x y => by
    constructor
    · rintro ⟨h1, h2⟩
      rcases (by omega : (0 ≤ x ∧ 0 ≤ y) ∨ (x ≤ 0 ∧ y ≤ 0) ∨ x = 0 ∨ y = 0) with h | h | h | h
      · exact Int.mul_nonneg h.1 h.2
      · exact Int.mul_nonneg_of_nonpos_of_nonpos h.1 h.2
      · rw [h]; simp
      · rw [h]; simp
    · intro h
      refine ⟨Classical.byContradiction fun hno => ?_, Classical.byContradiction fun hno => ?_⟩
      · have := Int.mul_neg_of_neg_of_pos (show x < 0 by omega) (show 0 < y by omega); omega
      · have := Int.mul_neg_of_pos_of_neg (show 0 < x by omega) (show y < 0 by omega); omega
  unfold alongB
  simp only [Bool.and_eq_true, Bool.or_eq_true, decide_eq_true_eq]
  rw [← key, ← key, ← key]
  constructor
  · rintro ⟨⟨⟨⟨⟨h1, h2⟩, h3⟩, h4⟩, h5⟩, h6⟩; exact ⟨⟨h1, h2⟩, ⟨h3, h4⟩, h5, h6⟩
  · rintro ⟨⟨h1, h2⟩, ⟨h3, h4⟩, h5, h6⟩; exact ⟨⟨⟨⟨⟨h1, h2⟩, h3⟩, h4⟩, h5⟩, h6⟩
theorem along_dot {a b : Tr} (h : alongB a b = true) : 0 ≤ tdot a b := by
  obtain ⟨h1, h2, h3⟩ := (along_iff a b).1 h
  unfold tdot; omega
theorem sgn_sg (n : Int) : (0 < n ∧ sgn n = 1) ∨ (n < 0 ∧ sgn n = -1) ∨ (n = 0 ∧ sgn n = 0) := by
  unfold sgn
  rcases (by omega : n < 0 ∨ 0 < n ∨ n = 0) with h | h | h
  · exact .inr (.inl ⟨h, if_pos h⟩)
  · exact .inl ⟨h, by rw [if_neg (by omega), if_pos h]⟩
  · exact .inr (.inr ⟨h, by rw [if_neg (by omega), if_neg (by omega)]⟩)
theorem agree_iff (a b : Int) : agreeB a b = true ↔ 0 ≤ a * b := by
  unfold agreeB
  rw [decide_eq_true_eq]
  rcases sgn_sg a with ⟨h1, e1⟩ | ⟨h1, e1⟩ | ⟨h1, e1⟩ <;> rcases sgn_sg b with ⟨h2, e2⟩ | ⟨h2, e2⟩ | ⟨h2, e2⟩ <;> rw [e1, e2]
  · have := Int.mul_pos h1 h2; omega
  · have := Int.mul_neg_of_pos_of_neg h1 h2; omega
  · rw [h2]; simp
  · have := Int.mul_neg_of_neg_of_pos h1 h2; omega
  · have := Int.mul_pos_of_neg_of_neg h1 h2; omega
  · rw [h2]; simp
  · rw [h1]; simp
  · rw [h1]; simp
  · rw [h1]; simp
theorem onSeg_iff (a b p : Tr) : onSegB a b p = true ↔ tac a b p = tz ∧ tdot (tsub a p) (tsub b p) ≤ 0 := by
  unfold onSegB; rw [Bool.and_eq_true, decide_eq_true_eq, decide_eq_true_eq]
structure TriIn (a b c p : Tr) : Prop where
  ne : tac a b c ≠ tz
  s0 : six a b c p = 0
  p1 : alongB (tac a b p) (tac a b c) = true
  p2 : alongB (tac b c p) (tac a b c) = true
  p3 : alongB (tac c a p) (tac a b c) = true
theorem inTri_iff (a b c p : Tr) : inTriB a b c p = true ↔ TriIn a b c p := by
  unfold inTriB
  simp only [Bool.and_eq_true, decide_eq_true_eq]
  constructor
  · rintro ⟨⟨⟨⟨h1, h2⟩, h3⟩, h4⟩, h5⟩; exact ⟨h1, h2, h3, h4, h5⟩
  · rintro ⟨h1, h2, h3, h4, h5⟩; exact ⟨⟨⟨⟨h1, h2⟩, h3⟩, h4⟩, h5⟩
structure SolIn (a b c d p : Tr) : Prop where
  ne : six a b c d ≠ 0
  p1 : 0 ≤ six a b c p * six a b c d
  p2 : 0 ≤ six a b p d * six a b c d
  p3 : 0 ≤ six a p c d * six a b c d
  p4 : 0 ≤ six p b c d * six a b c d
theorem inSol_iff (a b c d p : Tr) : inSolB a b c d p = true ↔ SolIn a b c d p := by
  unfold inSolB
  simp only [Bool.and_eq_true, decide_eq_true_eq, agree_iff]
  constructor
  · rintro ⟨⟨⟨⟨h1, h2⟩, h3⟩, h4⟩, h5⟩; exact ⟨h1, h2, h3, h4, h5⟩
  · rintro ⟨h1, h2, h3, h4, h5⟩; exact ⟨⟨⟨⟨h1, h2⟩, h3⟩, h4⟩, h5⟩
/-! Not in the hull of what lies behind. -/
theorem seg_out {a b p h : Tr} (hs : onSegB a b p = true) (ha : tdot h (tsub a p) < 0) (hb : tdot h (tsub b p) < 0) : False := by
  obtain ⟨h1, h2⟩ := (onSeg_iff _ _ _).1 hs
  have hb0 : tsub b p ≠ tz := fun e => by rw [e, tdot_z] at hb; omega
  have e : tdot h (tsub a p) * tdot (tsub b p) (tsub b p) = tdot h (tsub b p) * tdot (tsub a p) (tsub b p) := by
    simp only [tac, tcr, tsub, tz, Tr.mk.injEq] at h1
    simp only [tdot, tsub]
    grind
  have m1 := Int.mul_neg_of_neg_of_pos ha (nn_pos hb0)
  have m2 := Int.mul_nonneg_of_nonpos_of_nonpos (Int.le_of_lt hb) h2
  omega
theorem tac_p (a b p : Tr) : tac a b p = tcr (tsub a p) (tsub b p) := by
  simp only [tac, tcr, tsub, Tr.mk.injEq]; refine ⟨?_, ?_, ?_⟩ <;> grind
theorem tac_3 (a b c p : Tr) : tac a b c = add3 (tcr (tsub a p) (tsub b p)) (tcr (tsub b p) (tsub c p)) (tcr (tsub c p) (tsub a p)) := by
  simp only [tac, tcr, tsub, add3, Tr.mk.injEq]; refine ⟨?_, ?_, ?_⟩ <;> grind
theorem six_p (a b c p : Tr) : six a b c p = - det (tsub a p) (tsub b p) (tsub c p) := by
  simp only [six, tac, det, tcr, tsub, tdot]; grind
theorem bary3 (u v w n h : Tr) : tdot (tcr u v) n * tdot h w + tdot (tcr v w) n * tdot h u + tdot (tcr w u) n * tdot h v = det u v w * tdot h n := by
  simp only [det, tcr, tdot]; grind
theorem zero_of {x y : Int} (hy : y < 0) (e : x * y = 0) : x = 0 := by rcases Int.mul_eq_zero.1 e with h | h <;> omega
theorem three_z {x y z a b c : Int} (hx : 0 ≤ x) (hy : 0 ≤ y) (hz : 0 ≤ z) (ha : a < 0) (hb : b < 0) (hc : c < 0) (e : x * a + y * b + z * c = 0) : x = 0 ∧ y = 0 ∧ z = 0 := by
  have m1 := Int.mul_nonpos_of_nonneg_of_nonpos hx (Int.le_of_lt ha)
  have m2 := Int.mul_nonpos_of_nonneg_of_nonpos hy (Int.le_of_lt hb)
  have m3 := Int.mul_nonpos_of_nonneg_of_nonpos hz (Int.le_of_lt hc)
  exact ⟨zero_of ha (by omega), zero_of hb (by omega), zero_of hc (by omega)⟩
theorem tri_out {a b c p h : Tr} (hs : TriIn a b c p) (ha : tdot h (tsub a p) < 0) (hb : tdot h (tsub b p) < 0) (hc : tdot h (tsub c p) < 0) : False := by
  have q1 := along_dot hs.p1
  have q2 := along_dot hs.p2
  have q3 := along_dot hs.p3
  have hn := nn_pos hs.ne
  have e := bary3 (tsub a p) (tsub b p) (tsub c p) (tac a b c) h
  have h0 := hs.s0
  rw [six_p] at h0
  rw [show det (tsub a p) (tsub b p) (tsub c p) = 0 by omega, Int.zero_mul] at e
  rw [tac_p] at q1 q2 q3
  obtain ⟨z1, z2, z3⟩ := three_z q1 q2 q3 hc ha hb e
  have e2 : tdot (tac a b c) (tac a b c) = tdot (tcr (tsub a p) (tsub b p)) (tac a b c) + tdot (tcr (tsub b p) (tsub c p)) (tac a b c) + tdot (tcr (tsub c p) (tsub a p)) (tac a b c) := by
    rw [← add3_dot, ← tac_3 a b c p]
  omega
theorem bary4 (u v w x h : Tr) : det u v w * tdot h x - det v w x * tdot h u + det u w x * tdot h v - det u v x * tdot h w = 0 := by
  simp only [det, tcr, tdot]; grind
theorem six_4 (a b c d p : Tr) : six a b p d = det (tsub a p) (tsub b p) (tsub d p) ∧ six a p c d = - det (tsub a p) (tsub c p) (tsub d p) ∧ six p b c d = det (tsub b p) (tsub c p) (tsub d p) := by
  simp only [six, tac, det, tcr, tsub, tdot]; refine ⟨?_, ?_, ?_⟩ <;> grind
theorem six_sum (a b c d p : Tr) : six a b c p + six a b p d + six a p c d + six p b c d = six a b c d := by
  simp only [six, tac, tcr, tsub, tdot]; grind
theorem sol_out {a b c d p h : Tr} (hs : SolIn a b c d p) (ha : tdot h (tsub a p) < 0) (hb : tdot h (tsub b p) < 0) (hc : tdot h (tsub c p) < 0) (hd : tdot h (tsub d p) < 0) : False := by
  obtain ⟨k1, k2, k3⟩ := six_4 a b c d p
  have k0 := six_p a b c p
  have e0 := bary4 (tsub a p) (tsub b p) (tsub c p) (tsub d p) h
  have e : six a b c p * tdot h (tsub d p) + six a b p d * tdot h (tsub c p) + six a p c d * tdot h (tsub b p) + six p b c d * tdot h (tsub a p) = 0 := by
    rw [k0, k1, k2, k3]; grind
  have e2 := six_sum a b c d p
  have p1 := hs.p1; have p2 := hs.p2; have p3 := hs.p3; have p4 := hs.p4; have ne := hs.ne
  generalize six a b c p = s1 at *; generalize six a b p d = s2 at *; generalize six a p c d = s3 at *; generalize six p b c d = s4 at *
  generalize six a b c d = s at *
  have e3 : s1 * s * tdot h (tsub d p) + s2 * s * tdot h (tsub c p) + s3 * s * tdot h (tsub b p) + s4 * s * tdot h (tsub a p) = 0 := by
    have : s1 * s * tdot h (tsub d p) + s2 * s * tdot h (tsub c p) + s3 * s * tdot h (tsub b p) + s4 * s * tdot h (tsub a p) = s * (s1 * tdot h (tsub d p) + s2 * tdot h (tsub c p) + s3 * tdot h (tsub b p) + s4 * tdot h (tsub a p)) := by grind
    rw [this, e, Int.mul_zero]
  have m1 := Int.mul_nonpos_of_nonneg_of_nonpos p1 (Int.le_of_lt hd)
  have m2 := Int.mul_nonpos_of_nonneg_of_nonpos p2 (Int.le_of_lt hc)
  have m3 := Int.mul_nonpos_of_nonneg_of_nonpos p3 (Int.le_of_lt hb)
  have m4 := Int.mul_nonpos_of_nonneg_of_nonpos p4 (Int.le_of_lt ha)
  have z1 : s1 * s = 0 := zero_of hd (by omega)
  have z2 : s2 * s = 0 := zero_of hc (by omega)
  have z3 : s3 * s = 0 := zero_of hb (by omega)
  have z4 : s4 * s = 0 := zero_of ha (by omega)
  have : s * s = 0 := by rw [← e2]; simp only [Int.add_mul]; rw [e2, z1, z2, z3, z4]; rfl
  rcases Int.mul_eq_zero.1 this with h | h <;> exact ne h
theorem within_out {M : List Tr} {p h : Tr} (hM : ∀ i, i < M.length → tdot h (tsub (gt M i) p) < 0) : withinB M p = false := by
  unfold withinB
  refine any_ff fun a ha => ?_
  have h1 := hM a ha
  unfold wA
  have : ¬ gt M a = p := fun e => by rw [e, tsub_s, tdot_z] at h1; omega
  rw [decide_eq_false this, Bool.false_or]
  refine any_ff fun b hb => ?_
  have h2 := hM b (by omega)
  unfold wB
  rw [show onSegB (gt M a) (gt M b) p = false from by cases e : onSegB (gt M a) (gt M b) p; rfl; exact (seg_out e h1 h2).elim, Bool.false_or]
  refine any_ff fun c hc => ?_
  have h3 := hM c (by omega)
  unfold wC
  rw [show inTriB (gt M a) (gt M b) (gt M c) p = false from by cases e : inTriB (gt M a) (gt M b) (gt M c) p; rfl; exact (tri_out ((inTri_iff _ _ _ _).1 e) h1 h2 h3).elim, Bool.false_or]
  refine any_ff fun d hd => ?_
  cases e : inSolB (gt M a) (gt M b) (gt M c) (gt M d) p
  · rfl
  · exact (sol_out ((inSol_iff _ _ _ _ _).1 e) h1 h2 h3 (hM d (by omega))).elim
/-! In the hull: in any order. -/
theorem within_at {M : List Tr} {p : Tr} {a : Nat} (ha : a < M.length) (h : gt M a = p) : withinB M p = true :=
  any_t ha (by unfold wA; rw [decide_eq_true h]; rfl)
theorem onSeg_sym {a b p : Tr} (h : onSegB a b p = true) : onSegB b a p = true := by
  rw [onSeg_iff] at h ⊢
  obtain ⟨h1, h2⟩ := h
  refine ⟨?_, by rw [tdot_comm]; exact h2⟩
  simp only [tac, tcr, tsub, tz, Tr.mk.injEq] at h1 ⊢
  refine ⟨?_, ?_, ?_⟩ <;> grind
theorem within_seg {M : List Tr} {p : Tr} {a b : Nat} (ha : a < M.length) (hb : b < M.length) (h : onSegB (gt M a) (gt M b) p = true) : withinB M p = true := by
  have key : ∀ a b, a < M.length → b < a → onSegB (gt M a) (gt M b) p = true → withinB M p = true := fun a b ha hb h =>
    any_t ha (by unfold wA; rw [any_t hb (by unfold wB; rw [h]; rfl), Bool.or_true])
  rcases (by omega : b < a ∨ a < b ∨ a = b) with e | e | e
  · exact key a b ha e h
  · exact key b a hb e (onSeg_sym h)
  · subst e
    obtain ⟨_, h2⟩ := (onSeg_iff _ _ _).1 h
    refine within_at ha (tsub_z (Classical.byContradiction fun hne => ?_))
    have := nn_pos hne
    omega
theorem along_neg {a b : Tr} : alongB (tmul a (-1)) (tmul b (-1)) = alongB a b := by
  rw [Bool.eq_iff_iff, along_iff, along_iff]
  simp only [tmul]
  rw [show -1 * a.x * (-1 * b.x) = a.x * b.x by grind, show -1 * a.y * (-1 * b.y) = a.y * b.y by grind, show -1 * a.z * (-1 * b.z) = a.z * b.z by grind]
theorem tri12 {a b c p : Tr} (h : TriIn a b c p) : TriIn b a c p := by
  have e1 : tac b a c = tmul (tac a b c) (-1) := tac12 _ _ _
  refine ⟨by rw [e1]; exact tmul_ne h.ne, by rw [six12, h.s0]; rfl, ?_, ?_, ?_⟩
  · rw [e1, show tac b a p = tmul (tac a b p) (-1) from tac12 _ _ _, along_neg]; exact h.p1
  · rw [e1, show tac a c p = tmul (tac c a p) (-1) from tac12 _ _ _, along_neg]; exact h.p3
  · rw [e1, show tac c b p = tmul (tac b c p) (-1) from tac12 _ _ _, along_neg]; exact h.p2
theorem tri23 {a b c p : Tr} (h : TriIn a b c p) : TriIn a c b p := by
  have e1 : tac a c b = tmul (tac a b c) (-1) := tac23 _ _ _
  refine ⟨by rw [e1]; exact tmul_ne h.ne, by rw [six23, h.s0]; rfl, ?_, ?_, ?_⟩
  · rw [e1, show tac a c p = tmul (tac c a p) (-1) from tac12 _ _ _, along_neg]; exact h.p3
  · rw [e1, show tac c b p = tmul (tac b c p) (-1) from tac12 _ _ _, along_neg]; exact h.p2
  · rw [e1, show tac b a p = tmul (tac a b p) (-1) from tac12 _ _ _, along_neg]; exact h.p1
theorem within_tri {M : List Tr} {p : Tr} {a b c : Nat} (ha : a < M.length) (hb : b < M.length) (hc : c < M.length) (h : TriIn (gt M a) (gt M b) (gt M c) p) : withinB M p = true := by
  obtain ⟨i, j, k, h1, h2, h3, h4⟩ := sorted3 (P := fun a b c => TriIn (gt M a) (gt M b) (gt M c) p) (fun a b c => tri12) (fun a b c => tri23) (fun a b h => h.ne (by simp only [tac, tsub_s, tcr, tz]; simp)) ha hb hc h
  exact any_t h1 (by unfold wA; rw [any_t h2 (by unfold wB; rw [any_t h3 (by unfold wC; rw [(inTri_iff _ _ _ _).2 h4]; rfl), Bool.or_true]), Bool.or_true])
theorem six34 (a b c d : Tr) : six a b d c = - six a b c d := by simp only [six, tac, tdot, tcr, tsub]; grind
theorem sol12 {a b c d p : Tr} (h : SolIn a b c d p) : SolIn b a c d p := by
  have h1 := h.p1; have h2 := h.p2; have h3 := h.p3; have h4 := h.p4
  have ne := h.ne
  refine ⟨by rw [six12]; omega, ?_, ?_, ?_, ?_⟩
  · rw [six12, six12 a b c d, Int.neg_mul_neg]; exact h1
  · rw [six12, six12 a b c d, Int.neg_mul_neg]; exact h2
  · rw [show six b p c d = - six p b c d from six12 _ _ _ _, six12 a b c d, Int.neg_mul_neg]; exact h4
  · rw [show six p a c d = - six a p c d from six12 _ _ _ _, six12 a b c d, Int.neg_mul_neg]; exact h3
theorem sol23 {a b c d p : Tr} (h : SolIn a b c d p) : SolIn a c b d p := by
  have h1 := h.p1; have h2 := h.p2; have h3 := h.p3; have h4 := h.p4
  have ne := h.ne
  refine ⟨by rw [six23]; omega, ?_, ?_, ?_, ?_⟩
  · rw [six23, six23 a b c d, Int.neg_mul_neg]; exact h1
  · rw [show six a c p d = - six a p c d from six23 _ _ _ _, six23 a b c d, Int.neg_mul_neg]; exact h3
  · rw [show six a p b d = - six a b p d from six23 _ _ _ _, six23 a b c d, Int.neg_mul_neg]; exact h2
  · rw [six23 p b c d, six23 a b c d, Int.neg_mul_neg]; exact h4
theorem sol34 {a b c d p : Tr} (h : SolIn a b c d p) : SolIn a b d c p := by
  have h1 := h.p1; have h2 := h.p2; have h3 := h.p3; have h4 := h.p4
  have ne := h.ne
  refine ⟨by rw [six34]; omega, ?_, ?_, ?_, ?_⟩
  · rw [show six a b d p = - six a b p d from six34 _ _ _ _, six34 a b c d, Int.neg_mul_neg]; exact h2
  · rw [show six a b p c = - six a b c p from six34 _ _ _ _, six34 a b c d, Int.neg_mul_neg]; exact h1
  · rw [six34 a p c d, six34 a b c d, Int.neg_mul_neg]; exact h3
  · rw [six34 p b c d, six34 a b c d, Int.neg_mul_neg]; exact h4
/-- Four in order. -/
theorem sorted4 {n : Nat} {P : Nat → Nat → Nat → Nat → Prop} (h12 : ∀ a b c d, P a b c d → P b a c d) (h23 : ∀ a b c d, P a b c d → P a c b d) (h34 : ∀ a b c d, P a b c d → P a b d c) (hne : ∀ a b c, ¬ P a a b c) {a b c d : Nat} (ha : a < n) (hb : b < n) (hc : c < n) (hd : d < n) (h : P a b c d) : ∃ i j k q, i < n ∧ j < i ∧ k < j ∧ q < k ∧ P i j k q := by
  -- the greatest to the front, then three
  have front : ∃ i x y z, i < n ∧ x < i ∧ y < i ∧ z < i ∧ P i x y z := by
    have ne12 : ∀ a b c d, P a b c d → a ≠ b := fun a b c d h e => by subst e; exact hne _ _ _ h
    have ne13 : ∀ a b c d, P a b c d → a ≠ c := fun a b c d h => ne12 _ _ _ _ (h23 _ _ _ _ h)
    have ne14 : ∀ a b c d, P a b c d → a ≠ d := fun a b c d h => ne13 _ _ _ _ (h34 _ _ _ _ h)
    have ne23 : ∀ a b c d, P a b c d → b ≠ c := fun a b c d h => ne13 _ _ _ _ (h12 _ _ _ _ h)
    have ne24 : ∀ a b c d, P a b c d → b ≠ d := fun a b c d h => ne14 _ _ _ _ (h12 _ _ _ _ h)
    have ne34 : ∀ a b c d, P a b c d → c ≠ d := fun a b c d h => ne24 _ _ _ _ (h23 _ _ _ _ h)
    have e12 := ne12 _ _ _ _ h; have e13 := ne13 _ _ _ _ h; have e14 := ne14 _ _ _ _ h
    have e23 := ne23 _ _ _ _ h; have e24 := ne24 _ _ _ _ h; have e34 := ne34 _ _ _ _ h
    rcases (by omega : (b < a ∧ c < a ∧ d < a) ∨ (a < b ∧ c < b ∧ d < b) ∨ (a < c ∧ b < c ∧ d < c) ∨ (a < d ∧ b < d ∧ c < d)) with e | e | e | e
    · exact ⟨a, b, c, d, ha, e.1, e.2.1, e.2.2, h⟩
    · exact ⟨b, a, c, d, hb, e.1, e.2.1, e.2.2, h12 _ _ _ _ h⟩
    · exact ⟨c, a, b, d, hc, e.1, e.2.1, e.2.2, h12 _ _ _ _ (h23 _ _ _ _ h)⟩
    · exact ⟨d, a, b, c, hd, e.1, e.2.1, e.2.2, h12 _ _ _ _ (h23 _ _ _ _ (h34 _ _ _ _ h))⟩
  obtain ⟨i, x, y, z, hi, hx, hy, hz, h⟩ := front
  obtain ⟨j, k, q, h1, h2, h3, h4⟩ := sorted3 (n := i) (P := fun a b c => P i a b c) (fun a b c => h23 _ _ _ _) (fun a b c => h34 _ _ _ _) (fun a b h => hne a i b (h23 _ _ _ _ (h12 _ _ _ _ h))) hx hy hz h
  exact ⟨i, j, k, q, hi, h1, h2, h3, h4⟩
theorem within_sol {M : List Tr} {p : Tr} {a b c d : Nat} (ha : a < M.length) (hb : b < M.length) (hc : c < M.length) (hd : d < M.length) (h : SolIn (gt M a) (gt M b) (gt M c) (gt M d) p) : withinB M p = true := by
  obtain ⟨i, j, k, q, h1, h2, h3, h4, h5⟩ := sorted4 (P := fun a b c d => SolIn (gt M a) (gt M b) (gt M c) (gt M d) p) (fun a b c d => sol12) (fun a b c d => sol23) (fun a b c d => sol34) (fun a b c h => h.ne (six_aa _ _ _)) ha hb hc hd h
  exact any_t h1 (by unfold wA; rw [any_t h2 (by unfold wB; rw [any_t h3 (by unfold wC; rw [any_t (p := fun d => inSolB (gt M i) (gt M j) (gt M k) (gt M d) p) h4 ((inSol_iff _ _ _ _ _).2 h5), Bool.or_true]), Bool.or_true]), Bool.or_true])
end Go.Proofs.YtdoppiajbpmmkaaGreat
namespace Go.Proofs.YtdoppiajbpmmkaaGreat
open Go Go.Vc Go.RowKit
set_option maxHeartbeats 1000000
/-! What is no vertex lies in the hull of the others. -/
theorem dot_sh {n A B P : Tr} (hn : n ≠ tz) (hu : tdot n (tsub A P) = 0) (hp : tcr (tsub A P) (tsub B P) = tz) (hd : dot (sub (shp (axN n) A) (shp (axN n) P)) (sub (shp (axN n) B) (shp (axN n) P)) ≤ 0) : tdot (tsub A P) (tsub B P) ≤ 0 := by
  by_cases hA : A = P
  · rw [hA, tsub_s, tdot_tz]; exact Int.le_refl _
  have hne : shp (axN n) A ≠ shp (axN n) P := fun e => hA (shp_inj hn hu e.symm).symm
  have hpos : 0 < dot (sub (shp (axN n) A) (shp (axN n) P)) (sub (shp (axN n) A) (shp (axN n) P)) := by
    rcases (by have := dot_sq (sub (shp (axN n) A) (shp (axN n) P)); omega : 0 < dot (sub (shp (axN n) A) (shp (axN n) P)) (sub (shp (axN n) A) (shp (axN n) P)) ∨ dot (sub (shp (axN n) A) (shp (axN n) P)) (sub (shp (axN n) A) (shp (axN n) P)) ≤ 0) with h | h
    · exact h
    · exfalso
      have := dot_sq_zero h
      simp only [sub, Pt.mk.injEq] at this
      apply hne
      cases h1 : shp (axN n) A; cases h2 : shp (axN n) P
      rw [h1, h2] at this
      simp only [Pt.mk.injEq]
      simp only at this
      omega
  have h2 := (ax_of hn).2
  have e0 : ∀ u : Tr, shp 0 u = ⟨u.y, u.z⟩ := fun u => rfl
  have e1 : ∀ u : Tr, shp 1 u = ⟨u.x, u.z⟩ := fun u => rfl
  have e2 : ∀ u : Tr, shp 2 u = ⟨u.x, u.y⟩ := fun u => rfl
  have key : tdot (tsub A P) (tsub B P) * dot (sub (shp (axN n) A) (shp (axN n) P)) (sub (shp (axN n) A) (shp (axN n) P)) = dot (sub (shp (axN n) A) (shp (axN n) P)) (sub (shp (axN n) B) (shp (axN n) P)) * tdot (tsub A P) (tsub A P) := by
    have s0 : ∀ u v : Tr, sub (shp 0 u) (shp 0 v) = ⟨(tsub u v).y, (tsub u v).z⟩ := fun u v => rfl
    have s1 : ∀ u v : Tr, sub (shp 1 u) (shp 1 v) = ⟨(tsub u v).x, (tsub u v).z⟩ := fun u v => rfl
    have s2 : ∀ u v : Tr, sub (shp 2 u) (shp 2 v) = ⟨(tsub u v).x, (tsub u v).y⟩ := fun u v => rfl
    simp only [tcr, tz, Tr.mk.injEq] at hp
    generalize hU : tsub A P = u at *
    generalize hV : tsub B P = v at *
    rcases (by omega : axN n = 0 ∨ axN n = 1 ∨ axN n = 2) with e | e | e <;> rw [e]
    · rw [s0, s0, hU, hV]; simp only [dot, tdot]; grind
    · rw [s1, s1, hU, hV]; simp only [dot, tdot]; grind
    · rw [s2, s2, hU, hV]; simp only [dot, tdot]; grind
  have hu0 : 0 ≤ tdot (tsub A P) (tsub A P) := Int.le_of_lt (nn_pos (fun e => hA (tsub_z e)))
  have m := Int.mul_nonpos_of_nonpos_of_nonneg hd hu0
  refine Classical.byContradiction fun hno => ?_
  have := Int.mul_pos (show 0 < tdot (tsub A P) (tsub B P) by omega) hpos
  omega
theorem det_dot (n u w : Tr) : det n u w = tdot n (tcr u w) := by simp only [det, tdot, tcr]; grind
theorem perp_comp {n u w : Tr} (h1 : tdot n u = 0) (h2 : tdot n w = 0) : (tcr u w).x * tdot n n = n.x * det n u w ∧ (tcr u w).y * tdot n n = n.y * det n u w ∧ (tcr u w).z * tdot n n = n.z * det n u w := by
  rw [det_dot]
  exact cr_dot (tcr_anz (tcr_perp n u w h1 h2)) n
theorem along_of {n u1 w1 u2 w2 : Tr} (hn : n ≠ tz) (h1 : tdot n u1 = 0) (k1 : tdot n w1 = 0) (h2 : tdot n u2 = 0) (k2 : tdot n w2 = 0) (hd : 0 ≤ det n u1 w1 * det n u2 w2) : alongB (tcr u1 w1) (tcr u2 w2) = true := by
  obtain ⟨x1, y1, z1⟩ := perp_comp h1 k1
  obtain ⟨x2, y2, z2⟩ := perp_comp h2 k2
  have hp := nn_pos hn
  generalize det n u1 w1 = D1 at *
  generalize det n u2 w2 = D2 at *
  have key : ∀ a b c : Int, a * tdot n n = c * D1 → b * tdot n n = c * D2 → 0 ≤ a * b := fun a b c ha hb => by
    have e : (tdot n n * tdot n n) * (a * b) = (c * c) * (D1 * D2) := by
      have : (tdot n n * tdot n n) * (a * b) = (a * tdot n n) * (b * tdot n n) := by grind
      rw [this, ha, hb]; grind
    refine le_of_mul (Int.mul_pos hp hp) ?_
    rw [e]
    exact Int.mul_nonneg (sq_nn' c) hd
  exact (along_iff _ _).2 ⟨key _ _ _ x1 x2, key _ _ _ y1 y2, key _ _ _ z1 z2⟩
section
variable {l : List Tr}
theorem oth_ix {i x : Nat} (hx : x < l.length) (hne : gt l x ≠ gt l i) : ∃ j, j < (othT l i l.length).length ∧ gt (othT l i l.length) j = gt l x := by
  have hm : gt l x ∈ othT l i l.length := by
    unfold othT
    rw [List.take_length, List.mem_filter]
    exact ⟨gt_mem hx, by simpa using hne⟩
  obtain ⟨j, hj, e⟩ := List.getElem_of_mem hm
  exact ⟨j, hj, by rw [gt_eq hj, e]⟩
theorem oth_of {i j : Nat} (hj : j < (othT l i l.length).length) : ∃ x, x < l.length ∧ gt l x ≠ gt l i ∧ gt (othT l i l.length) j = gt l x := by
  have hm := gt_mem hj
  generalize gt (othT l i l.length) j = p at *
  unfold othT at hm
  rw [List.take_length, List.mem_filter] at hm
  obtain ⟨k, hk, e⟩ := List.getElem_of_mem hm.1
  rw [← gt_eq hk] at e
  exact ⟨k, hk, by rw [e]; simpa using hm.2, e.symm⟩
theorem vtxT_iff {i : Nat} : vtxT l i = true ↔ (∀ k, k < i → gt l k ≠ gt l i) ∧ withinB (othT l i l.length) (gt l i) = false := by
  unfold vtxT
  simp only [Bool.and_eq_true, Bool.not_eq_true', List.any_eq_false, List.mem_range, decide_eq_true_eq, ne_eq]
theorem Vx.vtx {i : Nat} (h : Vx l i) : vtxT l i = true := by
  rw [vtxT_iff]
  refine ⟨h.first, ?_⟩
  obtain ⟨g, hg⟩ := h.ex
  refine within_out (h := g) fun j hj => ?_
  obtain ⟨x, hx, hne, e⟩ := oth_of hj
  rw [e]; exact hg x hx hne
/-- A point of a facet that is none of its corners lies in the hull of others. -/
theorem FX.inn {f : Fc} (h : FX l f) {i : Nat} (hi : i ∈ f.s) (hf : ∀ k, k < i → gt l k ≠ gt l i) (hn : i ∉ vfN l f) : withinB (othT l i l.length) (gt l i) = true := by
  obtain ⟨q, hq, rfl⟩ := h.ix hi
  have hql : q < (shF2 l f).length := by rw [FX.len]; exact hq
  have hv : ¬ vtx (shF2 l f) q = true := fun hv => hn (by
    have hm := (h.ok.mem q hql).2 hv
    obtain ⟨k, hk, e⟩ := List.getElem_of_mem hm
    exact (mem_vfN _).2 ⟨k, hk, by rw [gi_eq hk, e]⟩)
  have hin : inH (othersOf (shF2 l f) q (shF2 l f).length) (gp (shF2 l f) q) = true := by
    cases hin : inH (othersOf (shF2 l f) q (shF2 l f).length) (gp (shF2 l f) q) with
    | true => rfl
    | false => exact absurd (vtx_iff.2 ⟨(first_of h hq).2 hf, hin⟩) hv
  have hA : ∀ a, a < (othersOf (shF2 l f) q (shF2 l f).length).length → ∃ x, x ∈ f.s ∧ gt l x ≠ gt l (gi f.s q) ∧ gp (othersOf (shF2 l f) q (shF2 l f).length) a = shp (axN f.n) (gt l x) := fun a ha => by
    obtain ⟨hp, hne⟩ := othersOf_mem.1 (gp_mem ha)
    obtain ⟨k, hk, e⟩ := List.getElem_of_mem hp
    rw [← gp_eq hk] at e
    have hkl : k < f.s.length := by rwa [FX.len] at hk
    rw [FX.gpk l hkl] at e
    refine ⟨gi f.s k, gi_mem hkl, fun e2 => hne ?_, e.symm⟩
    rw [← e, e2, FX.gpk l hq]
  rw [FX.gpk l hq] at hin
  have pl : ∀ {x y}, x ∈ f.s → y ∈ f.s → tdot f.n (tsub (gt l x) (gt l y)) = 0 := fun hx hy => h.d0 hy hx
  obtain ⟨a, ha, hc⟩ := (inH_iff _ _).1 hin
  obtain ⟨x, hx, hxn, ex⟩ := hA a ha
  obtain ⟨jx, hjx, ejx⟩ := oth_ix (h.ms.1 hx).1 hxn
  rcases hc with hc | ⟨b, hb, hc⟩
  · rw [ex] at hc
    exact absurd (shp_inj h.n0 (pl hi hx) hc) hxn
  obtain ⟨y, hy, hyn, ey⟩ := hA b (by omega)
  obtain ⟨jy, hjy, ejy⟩ := oth_ix (h.ms.1 hy).1 hyn
  rcases hc with hc | ⟨c, hc', hc⟩
  · rw [ex, ey] at hc
    obtain ⟨c1, c2⟩ := (btw_iff _ _ _).1 hc
    refine within_seg hjx hjy ?_
    rw [ejx, ejy, onSeg_iff]
    have e := shp_crs h.n0 (pl hy hx) (pl hi hx)
    rw [c1, Int.zero_mul] at e
    have e0 : det f.n (tsub (gt l y) (gt l x)) (tsub (gt l (gi f.s q)) (gt l x)) = 0 := mul_z (sgS_ne h.n0) e.symm
    have ht : tac (gt l x) (gt l y) (gt l (gi f.s q)) = tz := det_perp h.n0 (pl hy hx) (pl hi hx) e0
    refine ⟨ht, dot_sh h.n0 (pl hx hi) ?_ c2⟩
    rw [tac_p] at ht; exact ht
  · obtain ⟨z, hz, hzn, ez⟩ := hA c (by omega)
    obtain ⟨jz, hjz, ejz⟩ := oth_ix (h.ms.1 hz).1 hzn
    rw [ex, ey, ez] at hc
    obtain ⟨c1, c2⟩ := (wth_iff _ _ _ _).1 hc
    refine within_tri hjx hjy hjz ?_
    rw [ejx, ejy, ejz]
    have hnn := nn_pos h.n0
    have k0 := shp_crs h.n0 (pl hy hx) (pl hz hx)
    have k1 := shp_crs h.n0 (pl hy hx) (pl hi hx)
    have k2 := shp_crs h.n0 (pl hz hy) (pl hi hy)
    have k3 := shp_crs h.n0 (pl hx hz) (pl hi hz)
    have hsum := crs_sum (shp (axN f.n) (gt l (gi f.s q))) (shp (axN f.n) (gt l x)) (shp (axN f.n) (gt l y)) (shp (axN f.n) (gt l z))
    rw [← crs_rot (shp (axN f.n) (gt l (gi f.s q))) (shp (axN f.n) (gt l x)) (shp (axN f.n) (gt l y)), ← crs_rot (shp (axN f.n) (gt l (gi f.s q))) (shp (axN f.n) (gt l y)) (shp (axN f.n) (gt l z)), ← crs_rot (shp (axN f.n) (gt l (gi f.s q))) (shp (axN f.n) (gt l z)) (shp (axN f.n) (gt l x))] at hsum
    have hprod : ∀ X D X0 D0 : Int, X * tdot f.n f.n = sgS f.n * D → X0 * tdot f.n f.n = sgS f.n * D0 → 0 ≤ X * X0 → 0 ≤ D * D0 := fun X D X0 D0 e1 e2 h0 => by
      have e : (sgS f.n * sgS f.n) * (D * D0) = (tdot f.n f.n * tdot f.n f.n) * (X * X0) := by
        have : (sgS f.n * sgS f.n) * (D * D0) = (sgS f.n * D) * (sgS f.n * D0) := by grind
        rw [this, ← e1, ← e2]; grind
      refine le_of_mul (sq_p' (sgS_ne h.n0)) ?_
      rw [e]
      exact Int.mul_nonneg (Int.le_of_lt (Int.mul_pos hnn hnn)) h0
    have hs : ∀ X : Int, (X = crs (shp (axN f.n) (gt l x)) (shp (axN f.n) (gt l y)) (shp (axN f.n) (gt l (gi f.s q))) ∨ X = crs (shp (axN f.n) (gt l y)) (shp (axN f.n) (gt l z)) (shp (axN f.n) (gt l (gi f.s q))) ∨ X = crs (shp (axN f.n) (gt l z)) (shp (axN f.n) (gt l x)) (shp (axN f.n) (gt l (gi f.s q)))) → 0 ≤ X * crs (shp (axN f.n) (gt l x)) (shp (axN f.n) (gt l y)) (shp (axN f.n) (gt l z)) := fun X hX => by
      rcases c2 with ⟨s1, s2, s3⟩ | ⟨s1, s2, s3⟩
      · exact Int.mul_nonneg (by rcases hX with e | e | e <;> omega) (by omega)
      · exact Int.mul_nonneg_of_nonpos_of_nonpos (by rcases hX with e | e | e <;> omega) (by omega)
    refine ⟨fun e => c1 ?_, ?_, ?_, ?_, ?_⟩
    · have : det f.n (tsub (gt l y) (gt l x)) (tsub (gt l z) (gt l x)) = 0 := by rw [det_dot]; unfold tac at e; rw [e, tdot_z]
      rw [this, Int.mul_zero] at k0
      rcases Int.mul_eq_zero.1 k0 with h | h <;> omega
    · exact det_flat h.n0 (pl hy hx) (pl hz hx) (pl hi hx)
    · exact along_of h.n0 (pl hy hx) (pl hi hx) (pl hy hx) (pl hz hx) (hprod _ _ _ _ k1 k0 (hs _ (.inl rfl)))
    · exact along_of h.n0 (pl hz hy) (pl hi hy) (pl hy hx) (pl hz hx) (hprod _ _ _ _ k2 k0 (hs _ (.inr (.inl rfl))))
    · exact along_of h.n0 (pl hx hz) (pl hi hz) (pl hy hx) (pl hz hx) (hprod _ _ _ _ k3 k0 (hs _ (.inr (.inr rfl))))
end
end Go.Proofs.YtdoppiajbpmmkaaGreat
namespace Go.Proofs.YtdoppiajbpmmkaaGreat
open Go Go.Vc Go.RowKit
set_option maxHeartbeats 1000000
/-! A point on no facet lies in a tetrahedron of others: the ray from a vertex through it leaves by a facet's triangle. -/
structure Cyc (l : List Tr) (f : Fc) (C : Nat → Nat) (m : Nat) : Prop where
  m3 : 3 ≤ m
  mem : ∀ k, k < m → C k ∈ vfN l f
  edge : ∀ k, k < m → ∀ x ∈ f.s, 0 ≤ det f.n (dv l (C k) (C ((k + 1) % m))) (dv l (C k) x)
  str : ∀ k, 0 < k → k + 1 < m → 0 < det f.n (dv l (C 0) (C k)) (dv l (C 0) (C (k + 1)))
section
variable {l : List Tr}
theorem FX.cyc {f : Fc} (h : FX l f) : ∃ C m, Cyc l f C m := by
  have H := h.ok
  have h3 := h.three
  have sm := h.sm
  have hlt : ∀ k, k < (cornF l f).length → gi (cornF l f) k < f.s.length := fun k hk => by have := H.lt k hk; rwa [FX.len] at this
  generalize hC : cornF l f = C at *
  have hmem : ∀ k, k < C.length → gi f.s (gi C k) ∈ vfN l f := fun k hk => (mem_vfN _).2 ⟨k, by rw [hC]; exact hk, by rw [hC]⟩
  have hnn := nn_pos h.n0
  have hmod : ∀ k, k < C.length → (k + 1) % C.length < C.length := fun k hk => Nat.mod_lt _ (by omega)
  rcases (by have := sgS_ne h.n0; omega : 0 < sgS f.n ∨ sgS f.n < 0) with hs | hs
  · refine ⟨fun k => gi f.s (gi C k), C.length, h3, hmem, fun k hk x hx => ?_, fun k h0 hk => ?_⟩
    · obtain ⟨i, hi, rfl⟩ := h.ix hx
      exact (sgn_tr (h.crsk (hlt k hk) (hlt _ (hmod k hk)) hi) hnn hs).1.1 (H.edge (by omega) k hk i (by rw [FX.len]; exact hi))
    · refine (sgn_tr (h.crsk (hlt 0 (by omega)) (hlt k (by omega)) (hlt (k + 1) hk)) hnn hs).2.1.1 ?_
      have e := H.strict sm (k := k) (j := 0) (by omega) (by omega) (by omega) (by rw [Nat.mod_eq_of_lt hk]; omega) (by omega)
      rw [Nat.mod_eq_of_lt hk, crs_rot] at e
      exact e
  · have neg : ∀ {X D : Int}, X * tdot f.n f.n = sgS f.n * D → (0 ≤ X ↔ 0 ≤ -D) ∧ (0 < X ↔ 0 < -D) ∧ (X = 0 ↔ -D = 0) ∧ (X ≤ 0 ↔ -D ≤ 0) := fun {X D} e => sgn_tr (sg := - sgS f.n) (by rw [e, Int.neg_mul_neg]) hnn (by omega)
    have hr : ∀ k, (C.length - k) % C.length < C.length := fun k => Nat.mod_lt _ (by omega)
    refine ⟨fun k => gi f.s (gi C ((C.length - k) % C.length)), C.length, h3, fun k hk => hmem _ (hr k), fun k hk x hx => ?_, fun k h0 hk => ?_⟩
    · obtain ⟨i, hi, rfl⟩ := h.ix hx
      obtain ⟨j, hj, e1, e2⟩ : ∃ j, j < C.length ∧ (C.length - k) % C.length = (j + 1) % C.length ∧ (C.length - (k + 1) % C.length) % C.length = j := by
        refine ⟨C.length - k - 1, by omega, by rw [show C.length - k - 1 + 1 = C.length - k by omega], ?_⟩
        by_cases hk1 : k + 1 < C.length
        · rw [Nat.mod_eq_of_lt hk1, Nat.mod_eq_of_lt (by omega)]; omega
        · have : k + 1 = C.length := by omega
          rw [this, Nat.mod_self, Nat.sub_zero, Nat.mod_self]; omega
      simp only [e1, e2]
      have e := H.edge (by omega) j hj i (by rw [FX.len]; exact hi)
      rw [crs_flip] at e
      have := (neg (h.crsk (hlt _ (hmod j hj)) (hlt j hj) hi)).2.2.2.1 (by omega)
      omega
    · have a0 : (C.length - 0) % C.length = 0 := by rw [Nat.sub_zero, Nat.mod_self]
      have a1 : (C.length - k) % C.length = C.length - k := Nat.mod_eq_of_lt (by omega)
      have a2 : (C.length - (k + 1)) % C.length = C.length - (k + 1) := Nat.mod_eq_of_lt (by omega)
      simp only [a0, a1, a2]
      have e := H.strict sm (k := C.length - (k + 1)) (j := 0) (by omega) (by omega) (by omega) (by rw [show C.length - (k + 1) + 1 = C.length - k by omega, a1]; omega) (by omega)
      rw [show C.length - (k + 1) + 1 = C.length - k by omega, a1, crs_rot, crs_swap] at e
      have t := (neg (h.crsk (hlt 0 (by omega)) (hlt (C.length - k) (by omega)) (hlt (C.length - (k + 1)) (by omega))))
      rcases (by omega : 0 < det f.n (dv l (gi f.s (gi C 0)) (gi f.s (gi C (C.length - k)))) (dv l (gi f.s (gi C 0)) (gi f.s (gi C (C.length - (k + 1))))) ∨ 0 ≤ - det f.n (dv l (gi f.s (gi C 0)) (gi f.s (gi C (C.length - k)))) (dv l (gi f.s (gi C 0)) (gi f.s (gi C (C.length - (k + 1)))))) with h1 | h1
      · exact h1
      · have := t.1.2 h1; omega
theorem ivt {D : Nat → Int} : ∀ m, 0 ≤ D 1 → D (m + 2) ≤ 0 → ∃ k, 0 < k ∧ k + 1 < m + 3 ∧ 0 ≤ D k ∧ D (k + 1) ≤ 0
  | 0, h1, h2 => ⟨1, by omega, by omega, h1, h2⟩
  | m + 1, h1, h2 => by
    rcases (by omega : 0 ≤ D (m + 2) ∨ D (m + 2) ≤ 0) with h | h
    · exact ⟨m + 2, by omega, by omega, h, h2⟩
    · obtain ⟨k, a, b, c, d⟩ := ivt m h1 h
      exact ⟨k, a, by omega, c, d⟩
/-- The inner side of a facet's side, by the facet beyond it. -/
theorem S3.side (s : S3 l) {f : Fc} (hf : f ∈ facetsL l) {v u : Nat} (hv : v ∈ f.s) (hu : u ∈ f.s) (hne : gt l u ≠ gt l v) (he : ∀ x ∈ f.s, 0 ≤ det f.n (dv l v u) (dv l v x)) {y : Tr} (hy : tdot f.n y = 0) (hg : ∀ g ∈ facetsL l, v ∈ g.s → tdot g.n y ≤ 0) : 0 ≤ det f.n (dv l v u) y := by
  have F := s.fx hf
  obtain ⟨z, hz, hzn⟩ := F.offl hv hu hne
  have hpos : 0 < det f.n (dv l v u) (dv l v z) := by
    have := he z hz
    have : det f.n (dv l v u) (dv l v z) ≠ 0 := fun e => hzn (det_perp F.n0 (F.d0 hv hu) (F.d0 hv hz) e)
    omega
  have ev : ∀ y, tdot (tmul (tcr f.n (dv l v u)) (-1)) y = - det f.n (dv l v u) y := fun y => tdot_neg _ _
  obtain ⟨g, hgf, h1, h2, h3⟩ := F.over s.hS hf (c := tmul (tcr f.n (dv l v u)) (-1)) hv hu hne (by rw [ev, det_same]; rfl) (fun x hx => by rw [ev]; have := he x hx; omega) hz (by rw [ev]; omega)
  have hzg := h3 z hz (by rw [ev]; omega)
  have G := s.fx hgf
  have e := cramer f.n (dv l v u) (dv l v z) y g.n
  rw [det_flat F.n0 hy (F.d0 hv hu) (F.d0 hv hz), G.d0 h1 h2, Int.zero_mul, Int.mul_zero, Int.zero_add, Int.zero_add] at e
  have m1 := Int.mul_nonpos_of_nonneg_of_nonpos (Int.le_of_lt hpos) (hg g hgf h1)
  refine Classical.byContradiction fun hno => ?_
  have := Int.mul_pos_of_neg_of_neg (show det f.n (dv l v u) y < 0 by omega) hzg
  omega
theorem pos_of {a b : Int} (ha : 0 < a) (h : 0 < a * b) : 0 < b := by
  rcases (by omega : b ≤ 0 ∨ 0 < b) with h1 | h1
  · have := Int.mul_nonpos_of_nonneg_of_nonpos (Int.le_of_lt ha) h1; omega
  · exact h1
/-- A facet towards which a direction points. -/
theorem S3.ahead (s : S3 l) {p r : Tr} (hr : r ≠ tz) (hp : ∀ f ∈ facetsL l, tdot f.n p ≤ f.m) : ∃ f ∈ facetsL l, 0 < tdot f.n r := by
  obtain ⟨N, hN, hb⟩ := boundI (fun j => tdot r (gt l j) - tdot r p) l.length
  have hrr := nn_pos hr
  obtain ⟨f, hf, h⟩ := sep_facet s.hl s.hS (p := lc 1 (N + 1) p r) (h := r) (fun j hj => by
    rw [dot_lc, Int.one_mul]
    have h1 := hb j hj
    have h2 := Int.mul_le_mul_of_nonneg_left (show 1 ≤ tdot r r by omega) (show 0 ≤ N + 1 by omega)
    omega)
  rw [dot_lc, Int.one_mul] at h
  have := hp f hf
  exact ⟨f, hf, pos_of (a := N + 1) (by omega) (by omega)⟩
theorem exit_tet {n a b e P Q : Tr} {A B V : Int} (hA : 0 < A) (hB : 0 < B) (hD : 0 < det n a b) (na : tdot n a = 0) (nb : tdot n b = 0) (he : ∀ m, tdot m e = (A + B) * tdot m P - A * tdot m Q) (ne : tdot n e = 0) (h1 : 0 ≤ det n a e) (h2 : det n b e ≤ 0) (h3 : det n a e - det n b e ≤ B * det n a b) (hV : V = det a b Q) (hn : n ≠ tz) :
    0 ≤ det a b P * V ∧ 0 ≤ det a P Q * V ∧ 0 ≤ det P b Q * V ∧ 0 ≤ (V - det a b P - det a P Q - det P b Q) * V := by
  have comb : ∀ m, det n a b * ((A + B) * tdot m P - A * tdot m Q) = (-det n b e) * tdot m a + det n a e * tdot m b := fun m => by
    have c := cramer n a b e m
    rw [det_flat hn ne na nb, Int.zero_mul, Int.zero_add, det_an n e b, he] at c
    exact c
  generalize det n a b = D at *
  generalize det n a e = β at *
  generalize hα : -det n b e = α at *
  have hα0 : 0 ≤ α := by omega
  have hs : 0 < D * (A + B) := Int.mul_pos hD (by omega)
  have c1 := comb (tcr a b)
  rw [tdot_cr1, tdot_cr2] at c1
  have c2 := comb (tcr Q a)
  rw [tdot_cr1, tdot_cr2] at c2
  have c3 := comb (tcr b Q)
  rw [tdot_cr1, tdot_cr2] at c3
  have e1 : tdot (tcr a b) P = det a b P := rfl
  have e1' : tdot (tcr a b) Q = V := hV.symm
  have e2 : tdot (tcr Q a) P = det a P Q := by simp only [det, tdot, tcr]; grind
  have e2' : tdot (tcr Q a) b = V := by rw [hV]; simp only [det, tdot, tcr]; grind
  have e3 : tdot (tcr b Q) P = det P b Q := by simp only [det, tdot, tcr]; grind
  have e3' : tdot (tcr b Q) a = V := by rw [hV]; simp only [det, tdot, tcr]; grind
  rw [e1, e1'] at c1
  rw [e2, e2'] at c2
  rw [e3, e3'] at c3
  generalize det a b P = s1 at *; generalize det a P Q = s2 at *; generalize det P b Q = s3 at *
  have hVV := sq_nn' V
  have k1 : D * (A + B) * s1 = D * A * V := by grind
  have k2 : D * (A + B) * s2 = β * V := by grind
  have k3 : D * (A + B) * s3 = α * V := by grind
  have fin : ∀ x c : Int, D * (A + B) * x = c * V → 0 ≤ c → 0 ≤ x * V := fun x c e hc => by
    refine le_of_mul hs ?_
    have : D * (A + B) * (x * V) = c * (V * V) := by rw [← Int.mul_assoc, e]; grind
    rw [this]
    exact Int.mul_nonneg hc hVV
  refine ⟨fin s1 _ k1 (Int.mul_nonneg (by omega) (by omega)), fin s2 _ k2 h1, fin s3 _ k3 hα0, fin _ (D * B - α - β) (by grind) ?_⟩
  have : D * B = B * D := Int.mul_comm _ _
  omega
theorem S3.inner (s : S3 l) {i : Nat} (hi : i < l.length) (hno : ∀ f ∈ facetsL l, i ∉ f.s) : withinB (othT l i l.length) (gt l i) = true := by
  have hlt : ∀ f ∈ facetsL l, tdot f.n (gt l i) < f.m := fun f hf => by
    have F := s.fx hf
    have h1 := F.isF.le i hi
    have h2 : tdot f.n (gt l i) ≠ f.m := fun e => hno f hf (F.ms.2 ⟨hi, e⟩)
    omega
  have hpl : ∀ f ∈ facetsL l, ∀ x ∈ f.s, gt l x ≠ gt l i := fun f hf x hx e => by
    have := hlt f hf
    rw [← e, ((s.fx hf).ms.1 hx).2] at this
    omega
  have hL := facets_pos s.hl ((dim3_iff l).2 s.hS)
  have hf0 := gf_mem hL
  have hq0 : gi (gf (facetsL l) 0).s (gi (cornF l (gf (facetsL l) 0)) 0) ∈ vfN l (gf (facetsL l) 0) := (mem_vfN _).2 ⟨0, by have := (s.fx hf0).three; omega, rfl⟩
  have hqf := (s.fx hf0).vs hq0
  generalize gi (gf (facetsL l) 0).s (gi (cornF l (gf (facetsL l) 0)) 0) = q at hq0 hqf
  have hql := ((s.fx hf0).ms.1 hqf).1
  have hqn := hpl _ hf0 q hqf
  have hr0 : dv l q i ≠ tz := dv_ne (Ne.symm hqn)
  obtain ⟨f0, hf0', hf0r⟩ := s.ahead hr0 (p := gt l i) (fun f hf => Int.le_of_lt (hlt f hf))
  have hex : ∃ j, j < (facetsL l).length ∧ (j < (facetsL l).length ∧ 0 < tdot (gf (facetsL l) j).n (dv l q i)) := by
    obtain ⟨j, hj, rfl⟩ := gf_of_mem hf0'
    exact ⟨j, hj, hj, hf0r⟩
  obtain ⟨j, hj, ⟨_, hBj⟩, hmin⟩ := tot_min (P := fun j => j < (facetsL l).length ∧ 0 < tdot (gf (facetsL l) j).n (dv l q i))
    (R := fun j k => ((gf (facetsL l) j).m - tdot (gf (facetsL l) j).n (gt l i)) * tdot (gf (facetsL l) k).n (dv l q i) ≤ ((gf (facetsL l) k).m - tdot (gf (facetsL l) k).n (gt l i)) * tdot (gf (facetsL l) j).n (dv l q i))
    (fun a b _ _ => by omega) (fun a b c ha hb hc h1 h2 => by
      have p1 := ha.2; have p2 := hb.2; have p3 := hc.2
      generalize (gf (facetsL l) a).m - tdot (gf (facetsL l) a).n (gt l i) = A at *
      generalize (gf (facetsL l) b).m - tdot (gf (facetsL l) b).n (gt l i) = B at *
      generalize (gf (facetsL l) c).m - tdot (gf (facetsL l) c).n (gt l i) = C at *
      generalize tdot (gf (facetsL l) a).n (dv l q i) = X at *
      generalize tdot (gf (facetsL l) b).n (dv l q i) = Y at *
      generalize tdot (gf (facetsL l) c).n (dv l q i) = Z at *
      have e : Y * (C * X - A * Z) = Z * (B * X - A * Y) + X * (C * Y - B * Z) := by grind
      have m1 := Int.mul_nonneg (Int.le_of_lt p3) (show 0 ≤ B * X - A * Y by omega)
      have m2 := Int.mul_nonneg (Int.le_of_lt p1) (show 0 ≤ C * Y - B * Z by omega)
      have := le_of_mul p2 (b := C * X - A * Z) (by omega)
      omega) _ hex
  have hf := gf_mem hj
  have hA : 0 < (gf (facetsL l) j).m - tdot (gf (facetsL l) j).n (gt l i) := by have := hlt _ hf; omega
  have hall : ∀ g ∈ facetsL l, tdot (gf (facetsL l) j).n (dv l q i) * (tdot g.n (gt l i) - g.m) + ((gf (facetsL l) j).m - tdot (gf (facetsL l) j).n (gt l i)) * tdot g.n (dv l q i) ≤ 0 := fun g hg => by
    rcases (by omega : tdot g.n (dv l q i) ≤ 0 ∨ 0 < tdot g.n (dv l q i)) with h1 | h1
    · have m1 := Int.mul_neg_of_pos_of_neg hBj (show tdot g.n (gt l i) - g.m < 0 by have := hlt g hg; omega)
      have m2 := Int.mul_nonpos_of_nonneg_of_nonpos (Int.le_of_lt hA) h1
      omega
    · obtain ⟨k, hk, rfl⟩ := gf_of_mem hg
      have m := hmin k hk ⟨hk, h1⟩
      have e : tdot (gf (facetsL l) j).n (dv l q i) * (tdot (gf (facetsL l) k).n (gt l i) - (gf (facetsL l) k).m) = - (((gf (facetsL l) k).m - tdot (gf (facetsL l) k).n (gt l i)) * tdot (gf (facetsL l) j).n (dv l q i)) := by grind
      omega
  generalize gf (facetsL l) j = f at *
  have F := s.fx hf
  generalize hAA : f.m - tdot f.n (gt l i) = A at hA hall
  generalize hBB : tdot f.n (dv l q i) = B at hBj hall
  -- the way from a corner to the place where the ray leaves, B times
  have he : ∀ v m, tdot m (lc B A (dv l v i) (dv l q i)) = B * tdot m (dv l v i) + A * tdot m (dv l q i) := fun v m => dot_lc _ _ _ _ _
  have hen : ∀ v ∈ f.s, tdot f.n (lc B A (dv l v i) (dv l q i)) = 0 := fun v hv => by
    rw [he, hBB, dv_dot, (F.ms.1 hv).2]
    have : tdot f.n (gt l i) - f.m = -A := by omega
    rw [this]; grind
  have heg : ∀ v, ∀ g ∈ facetsL l, v ∈ g.s → tdot g.n (lc B A (dv l v i) (dv l q i)) ≤ 0 := fun v g hg hv => by
    rw [he, dv_dot g.n l v i, ((s.fx hg).ms.1 hv).2]
    exact hall g hg
  have hch : ∀ v w u, det f.n u (lc B A (dv l w i) (dv l q i)) = det f.n u (lc B A (dv l v i) (dv l q i)) - B * det f.n u (dv l v w) := fun v w u => by
    show tdot (tcr f.n u) _ = tdot (tcr f.n u) _ - B * tdot (tcr f.n u) _
    rw [he, he, dv_dot _ l w i, dv_dot _ l v i, dv_dot _ l v w]; grind
  obtain ⟨C, m, hc⟩ := F.cyc
  have cs : ∀ k, k < m → C k ∈ f.s := fun k hk => F.vs (hc.mem k hk)
  have hm3 := hc.m3
  have cne : ∀ k, 0 < k → k < m → gt l (C k) ≠ gt l (C 0) := fun k h0 hk e => by
    have ez : dv l (C 0) (C k) = tz := by unfold dv; rw [e, tsub_s]
    by_cases h1 : k + 1 < m
    · have := hc.str k h0 h1
      rw [ez, det_an, det_z] at this; omega
    · have := hc.str (k - 1) (by omega) (by omega)
      rw [show k - 1 + 1 = k by omega, ez, det_z] at this; omega
  have side : ∀ k, k < m → gt l (C ((k + 1) % m)) ≠ gt l (C k) → 0 ≤ det f.n (dv l (C k) (C ((k + 1) % m))) (lc B A (dv l (C k) i) (dv l q i)) := fun k hk hne =>
    s.side hf (cs k hk) (cs _ (Nat.mod_lt _ (by omega))) hne (hc.edge k hk) (hen _ (cs k hk)) (fun g hg hv => heg _ g hg hv)
  have d1 : 0 ≤ det f.n (dv l (C 0) (C 1)) (lc B A (dv l (C 0) i) (dv l q i)) := by
    have := side 0 (by omega) (by rw [Nat.zero_add, Nat.mod_eq_of_lt (by omega)]; exact cne 1 (by omega) (by omega))
    rwa [Nat.zero_add, Nat.mod_eq_of_lt (show 1 < m by omega)] at this
  have d2 : det f.n (dv l (C 0) (C (m - 1))) (lc B A (dv l (C 0) i) (dv l q i)) ≤ 0 := by
    have h := side (m - 1) (by omega) (by rw [show m - 1 + 1 = m by omega, Nat.mod_self]; exact (cne (m - 1) (by omega) (by omega)).symm)
    rw [show m - 1 + 1 = m by omega, Nat.mod_self, hch (C 0)] at h
    have e1 : ∀ u, det f.n (dv l (C (m - 1)) (C 0)) u = - det f.n (dv l (C 0) (C (m - 1))) u := fun u => by simp only [det, dv, tcr, tsub, tdot]; grind
    rw [e1, e1, det_same] at h
    omega
  obtain ⟨k, hk0, hkm, t1, t2⟩ := ivt (D := fun k => det f.n (dv l (C 0) (C k)) (lc B A (dv l (C 0) i) (dv l q i))) (m - 3) d1 (by rw [show m - 3 + 2 = m - 1 by omega]; exact d2)
  have hkm : k + 1 < m := by omega
  have hstr := hc.str k hk0 hkm
  have hkne : gt l (C (k + 1)) ≠ gt l (C k) := fun e => by
    have : dv l (C 0) (C (k + 1)) = dv l (C 0) (C k) := by unfold dv; rw [e]
    rw [this, det_same] at hstr; omega
  have h3 : det f.n (dv l (C 0) (C k)) (lc B A (dv l (C 0) i) (dv l q i)) - det f.n (dv l (C 0) (C (k + 1))) (lc B A (dv l (C 0) i) (dv l q i)) ≤ B * det f.n (dv l (C 0) (C k)) (dv l (C 0) (C (k + 1))) := by
    have h := side k (by omega) (by rw [Nat.mod_eq_of_lt hkm]; exact hkne)
    rw [Nat.mod_eq_of_lt hkm, hch (C 0)] at h
    have e1 : ∀ u, det f.n (dv l (C k) (C (k + 1))) u = det f.n (dv l (C 0) (C (k + 1))) u - det f.n (dv l (C 0) (C k)) u := fun u => by simp only [det, dv, tcr, tsub, tdot]; grind
    rw [e1, e1, det_same, det_an f.n (dv l (C 0) (C (k + 1))) (dv l (C 0) (C k))] at h
    grind
  -- the tetrahedron
  have hVne : det (dv l (C 0) (C k)) (dv l (C 0) (C (k + 1))) (dv l (C 0) q) ≠ 0 := fun e => by
    obtain ⟨c1, c2, c3⟩ := perp_comp (F.d0 (cs 0 (by omega)) (cs k (by omega))) (F.d0 (cs 0 (by omega)) (cs (k + 1) hkm))
    have : tdot f.n f.n * det (dv l (C 0) (C k)) (dv l (C 0) (C (k + 1))) (dv l (C 0) q) = det f.n (dv l (C 0) (C k)) (dv l (C 0) (C (k + 1))) * tdot f.n (dv l (C 0) q) := by
      show tdot f.n f.n * tdot (tcr (dv l (C 0) (C k)) (dv l (C 0) (C (k + 1)))) (dv l (C 0) q) = _
      generalize tcr (dv l (C 0) (C k)) (dv l (C 0) (C (k + 1))) = T at *
      rw [show tdot T (dv l (C 0) q) = T.x * (dv l (C 0) q).x + T.y * (dv l (C 0) q).y + T.z * (dv l (C 0) q).z from rfl, show tdot f.n (dv l (C 0) q) = f.n.x * (dv l (C 0) q).x + f.n.y * (dv l (C 0) q).y + f.n.z * (dv l (C 0) q).z from rfl]
      generalize tdot f.n f.n = N at *
      grind
    rw [e, Int.mul_zero] at this
    have hq : tdot f.n (dv l (C 0) q) < 0 := by
      rw [dv_dot, (F.ms.1 (cs 0 (by omega))).2]
      have : B = tdot f.n (gt l i) - tdot f.n (gt l q) := by rw [← hBB, dv_dot]
      omega
    have := Int.mul_neg_of_pos_of_neg hstr hq
    omega
  obtain ⟨r1, r2, r3, r4⟩ := exit_tet (n := f.n) (a := dv l (C 0) (C k)) (b := dv l (C 0) (C (k + 1))) (e := lc B A (dv l (C 0) i) (dv l q i)) (P := dv l (C 0) i) (Q := dv l (C 0) q) (A := A) (B := B) hA hBj hstr (F.d0 (cs 0 (by omega)) (cs k (by omega))) (F.d0 (cs 0 (by omega)) (cs (k + 1) hkm)) (fun m => by
    rw [he, dv_dot m l q i, dv_dot m l (C 0) i, dv_dot m l (C 0) q]; grind) (hen _ (cs 0 (by omega))) t1 t2 h3 rfl F.n0
  obtain ⟨j0, hj0, e0⟩ := oth_ix (F.ms.1 (cs 0 (by omega))).1 (hpl f hf _ (cs 0 (by omega)))
  obtain ⟨j1, hj1, e1⟩ := oth_ix (F.ms.1 (cs k (by omega))).1 (hpl f hf _ (cs k (by omega)))
  obtain ⟨j2, hj2, e2⟩ := oth_ix (F.ms.1 (cs (k + 1) hkm)).1 (hpl f hf _ (cs (k + 1) hkm))
  obtain ⟨j3, hj3, e3⟩ := oth_ix hql hqn
  refine within_sol hj0 hj1 hj2 hj3 ?_
  rw [e0, e1, e2, e3]
  have v1 : six (gt l (C 0)) (gt l (C k)) (gt l (C (k + 1))) (gt l q) = det (dv l (C 0) (C k)) (dv l (C 0) (C (k + 1))) (dv l (C 0) q) := rfl
  have v5 : six (gt l i) (gt l (C k)) (gt l (C (k + 1))) (gt l q) = det (dv l (C 0) (C k)) (dv l (C 0) (C (k + 1))) (dv l (C 0) q) - det (dv l (C 0) (C k)) (dv l (C 0) (C (k + 1))) (dv l (C 0) i) - det (dv l (C 0) (C k)) (dv l (C 0) i) (dv l (C 0) q) - det (dv l (C 0) i) (dv l (C 0) (C (k + 1))) (dv l (C 0) q) := by
    have := six_sum (gt l (C 0)) (gt l (C k)) (gt l (C (k + 1))) (gt l q) (gt l i)
    have a1 : six (gt l (C 0)) (gt l (C k)) (gt l (C (k + 1))) (gt l i) = det (dv l (C 0) (C k)) (dv l (C 0) (C (k + 1))) (dv l (C 0) i) := rfl
    have a2 : six (gt l (C 0)) (gt l (C k)) (gt l i) (gt l q) = det (dv l (C 0) (C k)) (dv l (C 0) i) (dv l (C 0) q) := rfl
    have a3 : six (gt l (C 0)) (gt l i) (gt l (C (k + 1))) (gt l q) = det (dv l (C 0) i) (dv l (C 0) (C (k + 1))) (dv l (C 0) q) := rfl
    omega
  exact ⟨hVne, r1, r2, r3, by rw [v5, v1]; exact r4⟩
end
end Go.Proofs.YtdoppiajbpmmkaaGreat
namespace Go.Proofs.YtdoppiajbpmmkaaGreat
open Go Go.Vc Go.RowKit
set_option maxHeartbeats 1000000
/-! The code's vertices are the reference's. -/
theorem exLo_ge (l : List Tr) (d : Tr) : ∀ k i, i < k → tdot d (gt l (exLo l d k)) ≤ tdot d (gt l i)
  | 0, i, h => by omega
  | k + 1, i, h => by
    have ih := exLo_ge l d k
    unfold exLo
    split
    · by_cases e : i = k
      · rw [e]; exact Int.le_refl _
      · have := ih i (by omega); omega
    · by_cases e : i = k
      · rw [e]; omega
      · exact ih i (by omega)
theorem exLo_first (l : List Tr) (d : Tr) : ∀ k i, i < exLo l d k → tdot d (gt l (exLo l d k)) < tdot d (gt l i)
  | 0, i, h => by unfold exLo at h; omega
  | k + 1, i, h => by
    have ih := exLo_first l d k
    have hg := exLo_ge l d k
    unfold exLo at h ⊢
    split
    · rename_i hc
      rw [if_pos hc] at h
      have := hg i h; omega
    · rename_i hc
      rw [if_neg hc] at h
      exact ih i h
theorem exHi_first (l : List Tr) (d : Tr) : ∀ k i, i < exHi l d k → tdot d (gt l i) < tdot d (gt l (exHi l d k))
  | 0, i, h => by unfold exHi at h; omega
  | k + 1, i, h => by
    have ih := exHi_first l d k
    have hg := exHi_ge l d k
    unfold exHi at h ⊢
    split
    · rename_i hc
      rw [if_pos hc] at h
      have := hg i h; omega
    · rename_i hc
      rw [if_neg hc] at h
      exact ih i h
theorem par_dot {d u v : Tr} (hu : tcr d u = tz) : tdot u v * tdot d d = tdot d u * tdot d v := by
  obtain ⟨x, y, z⟩ := cr_dot hu v
  rw [tdot_comm v u, tdot_comm v d] at x y z
  generalize tdot u v = U at *
  generalize tdot d v = D at *
  rw [show tdot d d = d.x * d.x + d.y * d.y + d.z * d.z from rfl, show tdot d u = d.x * u.x + d.y * u.y + d.z * u.z from rfl]
  grind
section
variable {l : List Tr}
theorem mem_corn {x : Int} : x ∈ natL (cornL l) ↔ ∃ i, i < l.length ∧ vtxT l i = true ∧ (i : Int) = x := by
  rw [mem_natL]
  unfold cornL cTo
  constructor
  · rintro ⟨i, hi, e⟩
    rw [List.mem_filter, List.mem_range] at hi
    exact ⟨i, hi.1, hi.2, e⟩
  · rintro ⟨i, h1, h2, e⟩
    exact ⟨i, List.mem_filter.2 ⟨List.mem_range.2 h1, h2⟩, e⟩
theorem vx_of {d p : Tr} (hd : d ≠ tz) (hp : ∀ j, j < l.length → tcr d (tsub (gt l j) p) = tz) {i : Nat} (hi : i < l.length) {h : Tr} (hh : h = d ∨ h = tmul d (-1)) (hmax : ∀ j, j < l.length → tdot h (gt l j) ≤ tdot h (gt l i)) (hf : ∀ k, k < i → tdot h (gt l k) < tdot h (gt l i)) : Vx l i := by
  refine ⟨hi, fun k hk e => ?_, h, fun j hj hne => ?_⟩
  · have := hf k hk
    rw [e] at this; omega
  · have h1 := hmax j hj
    rw [dv_dot]
    refine Classical.byContradiction fun hno => hne (tsub_z (par_perp hd (tcr_sub d _ _ p (hp i hi) (hp j hj)) ?_))
    have e : tdot d (tsub (gt l j) (gt l i)) = tdot d (gt l j) - tdot d (gt l i) := dv_dot d l i j
    rcases hh with rfl | rfl
    · omega
    · rw [tdot_neg, tdot_neg] at *; omega
/-- The facet that all points of a plane make. -/
theorem flat_fx (hl : RT l) (h6 : l.length ≤ 6) {n p : Tr} (hn : n ≠ tz) (hp : ∀ j, j < l.length → tdot n (tsub (gt l j) p) = 0) {a b c : Nat} (ha : a < l.length) (hb : b < l.length) (hc : c < l.length) (ht : tac (gt l a) (gt l b) (gt l c) ≠ tz) : FX l ⟨n, tdot n p, List.range l.length⟩ := by
  have e : ∀ j, j < l.length → tdot n (gt l j) = tdot n p := fun j hj => by
    have := hp j hj
    have e2 : tdot n (tsub (gt l j) p) = tdot n (gt l j) - tdot n p := by simp only [tdot, tsub]; grind
    omega
  refine ⟨hl, h6, ⟨fun i hi => Int.le_of_eq (e i hi), ?_, a, ha, e a ha⟩, hn, a, b, c, List.mem_range.2 ha, List.mem_range.2 hb, List.mem_range.2 hc, ht⟩
  show List.range l.length = onTo l n (tdot n p) l.length
  unfold onTo
  rw [List.filter_eq_self.2]
  intro i hi
  exact decide_eq_true (e i (List.mem_range.1 hi))
theorem range_gt (l : List Tr) : (List.range l.length).map (gt l) = l := by
  apply List.ext_getElem
  · simp
  · intro i h1 h2
    rw [List.getElem_map, List.getElem_range, gt_eq h2]
theorem corn_eq (hl : RT l) (h6 : l.length ≤ 6) : CornEq l := by
  have hI := SpI.to l l.length (Nat.le_refl _)
  have hsp : spTo l l.length = spn l := rfl
  rw [hsp] at hI
  obtain ⟨h1, h2⟩ := cpt_sort (rawV l (facetsL l))
  refine lt_ext h1 (natL_lt (List.Pairwise.filter _ (List.pairwise_lt_range))) fun x => ?_
  refine (h2 x).trans ?_
  rw [mem_corn]
  unfold rawV
  rcases hI.rg with hd | hd | hd | hd | hd
  · rw [if_pos hd]
    have := hI.no hd
    constructor
    · intro h; cases h
    · rintro ⟨i, hi, _⟩; omega
  · rw [if_neg (by omega), if_pos hd]
    have hall := hI.d0 hd
    obtain ⟨i0, hi0, _⟩ := hI.pt (by omega)
    rw [List.mem_singleton]
    constructor
    · rintro rfl
      refine ⟨0, by omega, Vx.vtx ⟨by omega, fun k hk => by omega, tz, fun j hj hne => absurd ?_ hne⟩, rfl⟩
      rw [hall j hj, hall 0 (by omega)]
    · rintro ⟨i, hi, hv, rfl⟩
      obtain ⟨hf, _⟩ := vtxT_iff.1 hv
      refine Classical.byContradiction fun hne => hf 0 (by omega) ?_
      rw [hall i hi, hall 0 (by omega)]
  · rw [if_neg (by omega), if_neg (by omega), if_pos hd]
    obtain ⟨hw, hall⟩ := hI.d1 hd
    obtain ⟨i0, hi0, _⟩ := hI.pt (by omega)
    generalize (spn l).way = d at hw hall
    generalize (spn l).pt = p at hall
    have hlo : exLo l d l.length < l.length := exLo_lt l d _ _ (Nat.le_refl _) (by omega)
    have hhi : exHi l d l.length < l.length := exHi_lt l d _ _ (Nat.le_refl _) (by omega)
    have g1 := exLo_ge l d l.length
    have g2 := exHi_ge l d l.length
    have f1 := exLo_first l d l.length
    have f2 := exHi_first l d l.length
    generalize exLo l d l.length = lo at *
    generalize exHi l d l.length = hi at *
    have vlo : Vx l lo := vx_of hw hall hlo (.inr rfl) (fun j hj => by rw [tdot_neg, tdot_neg]; have := g1 j hj; omega) (fun k hk => by rw [tdot_neg, tdot_neg]; have := f1 k hk; omega)
    have vhi : Vx l hi := vx_of hw hall hhi (.inl rfl) (fun j hj => g2 j hj) (fun k hk => f2 k hk)
    simp only [List.mem_cons, List.not_mem_nil, or_false]
    constructor
    · rintro (rfl | rfl)
      · exact ⟨lo, hlo, vlo.vtx, rfl⟩
      · exact ⟨hi, hhi, vhi.vtx, rfl⟩
    · rintro ⟨i, hi', hv, rfl⟩
      obtain ⟨hf, hw'⟩ := vtxT_iff.1 hv
      by_cases e1 : gt l lo = gt l i
      · refine .inl (congrArg _ (Classical.byContradiction fun hne => ?_))
        rcases (by omega : lo < i ∨ i < lo) with h | h
        · exact hf lo h e1
        · have := f1 i h; rw [e1] at this; omega
      by_cases e2 : gt l hi = gt l i
      · refine .inr (congrArg _ (Classical.byContradiction fun hne => ?_))
        rcases (by omega : hi < i ∨ i < hi) with h | h
        · exact hf hi h e2
        · have := f2 i h; rw [e2] at this; omega
      exfalso
      obtain ⟨j1, hj1, x1⟩ := oth_ix hlo e1
      obtain ⟨j2, hj2, x2⟩ := oth_ix hhi e2
      have := within_seg hj1 hj2 (p := gt l i) (by
        rw [x1, x2, onSeg_iff]
        refine ⟨cr_par hw (tcr_sub d _ _ p (hall lo hlo) (hall hi hhi)) (tcr_sub d _ _ p (hall lo hlo) (hall i hi')), ?_⟩
        have e := par_dot (v := tsub (gt l hi) (gt l i)) (tcr_sub d _ _ p (hall i hi') (hall lo hlo))
        have a1 : tdot d (tsub (gt l lo) (gt l i)) ≤ 0 := by have := g1 i hi'; have := dv_dot d l i lo; unfold dv at this; omega
        have a2 : 0 ≤ tdot d (tsub (gt l hi) (gt l i)) := by have := g2 i hi'; have := dv_dot d l i hi; unfold dv at this; omega
        have m := Int.mul_nonpos_of_nonpos_of_nonneg a1 a2
        refine Classical.byContradiction fun hno => ?_
        have := Int.mul_pos (show 0 < tdot (tsub (gt l lo) (gt l i)) (tsub (gt l hi) (gt l i)) by omega) (nn_pos hw)
        omega)
      rw [hw'] at this; cases this
  · rw [if_neg (by omega), if_neg (by omega), if_neg (by omega), if_pos hd]
    obtain ⟨hw, hall⟩ := hI.d2 hd
    obtain ⟨i0, hi0, ep⟩ := hI.pt (by omega)
    obtain ⟨a, b, ha, hb, g, hg, hgp⟩ := hI.w2 hd
    rw [← ep] at hgp hall
    have F := flat_fx hl h6 hw hall hi0 ha hb (fun e => by
      have h := hgp (spn l).way
      rw [show tcr (tsub (gt l a) (gt l i0)) (tsub (gt l b) (gt l i0)) = tz from e, tdot_tz] at h
      have := nn_pos hw
      rcases Int.mul_eq_zero.1 h.symm with h1 | h1 <;> omega)
    have ev : natL (hullN (shN l (spn l).way)) = natL (vfN l ⟨(spn l).way, tdot (spn l).way (gt l i0), List.range l.length⟩) := by
      unfold vfN cornF
      show _ = natL ((hullN (shN ((List.range l.length).map (gt l)) (spn l).way)).map (gi (List.range l.length)))
      rw [range_gt]
      congr 1
      refine (List.map_congr_left (g := id) fun k hk => ?_).trans (by simp) |>.symm
      have := hullN_lt _ k hk
      rw [shN_len] at this
      exact gi_range this
    rw [ev, mem_natL]
    constructor
    · rintro ⟨i, hi, rfl⟩
      have := (vfN_iff' F i).1 hi
      exact ⟨i, this.2.lt, this.2.vtx, rfl⟩
    · rintro ⟨i, hi, hv, rfl⟩
      refine ⟨i, Classical.byContradiction fun hn => ?_, rfl⟩
      obtain ⟨hf, hw'⟩ := vtxT_iff.1 hv
      rw [F.inn (List.mem_range.2 hi) hf hn] at hw'
      cases hw'
  · rw [if_neg (by omega), if_neg (by omega), if_neg (by omega), if_neg (by omega)]
    have s : S3 l := ⟨hl, h6, (dim3_iff l).1 hd⟩
    have e := s.vert
    have h3 : x ∈ rawTo l (facetsL l) (facetsL l).length ↔ x ∈ natL (VL l) := by
      rw [← e]
      unfold vertV
      rw [(cpt_sort _).2]
      unfold rawV
      rw [if_neg (by omega), if_neg (by omega), if_neg (by omega), if_neg (by omega)]
    rw [h3, mem_natL]
    constructor
    · rintro ⟨i, hi, rfl⟩
      have hv := s.vxm hi
      exact ⟨i, hv.lt, hv.vtx, rfl⟩
    · rintro ⟨i, hi, hv, rfl⟩
      refine ⟨i, Classical.byContradiction fun hn => ?_, rfl⟩
      obtain ⟨hf, hw'⟩ := vtxT_iff.1 hv
      by_cases hon : ∃ f ∈ facetsL l, i ∈ f.s
      · obtain ⟨f, hff, his⟩ := hon
        rw [(s.fx hff).inn his hf (fun h => hn (s.mem.2 ⟨f, hff, h⟩))] at hw'
        cases hw'
      · rw [s.inner hi (fun f hff his => hon ⟨f, hff, his⟩)] at hw'
        cases hw'
end
end Go.Proofs.YtdoppiajbpmmkaaGreat
namespace Go.Proofs.YtdoppiajbpmmkaaGreat
open Go Go.Vc Go.RowKit
/-! Vertices and Edges return what the reference returns. -/
theorem turns_all (l : List Tr) : CtrA Tryz.prog 4 [ts l] (vb true) := turns_c l fun hl h6 _ => corn_eq hl h6
end Go.Proofs.YtdoppiajbpmmkaaGreat
