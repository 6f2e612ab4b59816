/- A part of the proof that the law returns true at every input and that the input reads behind the call as it read before; this part states nothing of its own that needs a condition of the input. -/
import Derived.Test.YtacepcnbgacipaaGeo
import Derived.Test.YtacepcnbgacipaaFe
import Derived.Test.YtacepcnbgacipaaFf
set_option linter.unusedVariables false
set_option linter.unusedSimpArgs false
namespace Go.Proofs.Ytacepcnbgacipaa
open Go.Vc
theorem lex_max (f g : Nat → Int) : ∀ (S : List Nat), S ≠ [] → ∃ x ∈ S, ∀ p ∈ S, f p < f x ∨ (f p = f x ∧ g p ≤ g x)
  | [], h => absurd rfl h
  | [a], _ => ⟨a, by simp, by simp⟩
  | a :: b :: r, _ => by
    obtain ⟨x, hx, h⟩ := lex_max f g (b :: r) (by simp)
    by_cases hax : f a < f x ∨ (f a = f x ∧ g a ≤ g x)
    · refine ⟨x, List.mem_cons_of_mem _ hx, fun p hp => ?_⟩
      rcases List.mem_cons.1 hp with rfl | hp
      · exact hax
      · exact h p hp
    · refine ⟨a, by simp, fun p hp => ?_⟩
      rcases List.mem_cons.1 hp with rfl | hp
      · exact .inr ⟨rfl, Int.le_refl _⟩
      · have := h p hp
        omega
def rot (d : Pt) : Pt := ⟨-d.y, d.x⟩
theorem sq_pos {d : Pt} (h : d ≠ ⟨0, 0⟩) : 0 < d.x * d.x + d.y * d.y := by
  have h1 : 0 ≤ d.x * d.x := by
    rcases Int.le_total 0 d.x with k | k
    · exact Int.mul_nonneg k k
    · exact Int.mul_nonneg_of_nonpos_of_nonpos k k
  have h2 : 0 ≤ d.y * d.y := by
    rcases Int.le_total 0 d.y with k | k
    · exact Int.mul_nonneg k k
    · exact Int.mul_nonneg_of_nonpos_of_nonpos k k
  by_cases e1 : d.x = 0
  · by_cases e2 : d.y = 0
    · exact absurd (by cases d; simp_all) h
    · have : d.y * d.y ≠ 0 := fun h => by rcases Int.mul_eq_zero.1 h with k | k <;> exact e2 k
      omega
  · have : d.x * d.x ≠ 0 := fun h => by rcases Int.mul_eq_zero.1 h with k | k <;> exact e1 k
    omega
theorem dot_sep {d a b : Pt} (h : d ≠ ⟨0, 0⟩) (h1 : dot a d = dot b d) (h2 : dot a (rot d) = dot b (rot d)) : a = b := by
  have hp := sq_pos h
  simp only [dot, rot] at h1 h2
  have k1 : (a.x - b.x) * (d.x * d.x + d.y * d.y) = 0 := by grind
  have k2 : (a.y - b.y) * (d.x * d.x + d.y * d.y) = 0 := by grind
  rcases Int.mul_eq_zero.1 k1 with k1 | k1
  · rcases Int.mul_eq_zero.1 k2 with k2 | k2
    · cases a; cases b; simp only [Pt.mk.injEq] at *; omega
    · omega
  · omega
theorem lf_lex (M : Int) (d x p : Pt) : lf (-(M * d.x + (rot d).x)) (-(M * d.y + (rot d).y)) x p = -(M * (dot p d - dot x d) + (dot p (rot d) - dot x (rot d))) := by
  simp only [lf, dot, rot]; grind
theorem vmax {l : List Pt} (hc : chk l = 0) (h0 : 0 < l.length) {d : Pt} (hd : d ≠ ⟨0, 0⟩) (hb : BdP d) : ∃ x, x < l.length ∧ vtx l x = true ∧ ∀ p, p < l.length → dot (gp l p) d ≤ dot (gp l x) d := by
  have h := s_ok hc h0
  have sm := chk_sm hc
  obtain ⟨x0, hx0, _, _⟩ := h.cover 0 h0
  obtain ⟨x, hx, hm⟩ := lex_max (fun p => dot (gp l p) d) (fun p => dot (gp l p) (rot d)) (cpt l (ordN l)) (fun e => by rw [e] at hx0; cases hx0)
  have hbr : BdP (rot d) := by simp only [BdP, rot] at hb ⊢; omega
  refine ⟨x, h.lt x hx, h.vtx_of hx ⟨_, _, fun p hp hne => by
    rw [lf_lex 10000000000000000000 d]
    have b1 := dot_bd (sm p).bd hbr
    have b2 := dot_bd (sm x).bd hbr
    rcases hm p hp with k | ⟨k, k'⟩
    · omega
    · have : dot (gp l p) (rot d) ≠ dot (gp l x) (rot d) := fun e => hne (h.inj p hp x hx (dot_sep hd k e))
      omega⟩, fun p hp => ?_⟩
  obtain ⟨y, hy, e, _⟩ := h.cover p hp
  rw [← e]
  have := hm y hy
  omega
/-! The cone. -/
theorem trn_trans {a b c d0 : Pt} (ha : 0 < dot a d0) (hb : 0 < dot b d0) (hc : 0 < dot c d0) (h1 : 0 ≤ trn a b) (h2 : 0 ≤ trn b c) : 0 ≤ trn a c := by
  have e : trn a c * dot b d0 = trn a b * dot c d0 + trn b c * dot a d0 := by simp only [trn, dot]; grind
  have k1 := Int.mul_nonneg h1 (Int.le_of_lt hc)
  have k2 := Int.mul_nonneg h2 (Int.le_of_lt ha)
  by_cases hh : 0 ≤ trn a c
  · exact hh
  · exfalso
    have := Int.mul_neg_of_neg_of_pos (show trn a c < 0 by omega) hb
    omega
theorem trn_anti (a b : Pt) : trn b a = -trn a b := by simp only [trn]; grind
theorem ext_vec {d0 : Pt} : ∀ (C : List Pt), C ≠ [] → (∀ c ∈ C, 0 < dot c d0) → ∃ c ∈ C, ∀ c' ∈ C, 0 ≤ trn c c'
  | [], h, _ => absurd rfl h
  | [a], _, _ => ⟨a, by simp, by simp [trn, Int.mul_comm]⟩
  | a :: b :: r, _, hp => by
    obtain ⟨x, hx, h⟩ := ext_vec (b :: r) (by simp) (fun c hc => hp c (List.mem_cons_of_mem _ hc))
    by_cases hax : 0 ≤ trn x a
    · refine ⟨x, List.mem_cons_of_mem _ hx, fun p hq => ?_⟩
      rcases List.mem_cons.1 hq with rfl | hq
      · exact hax
      · exact h p hq
    · refine ⟨a, by simp, fun p hq => ?_⟩
      rcases List.mem_cons.1 hq with rfl | hq
      · simp [trn, Int.mul_comm]
      · exact trn_trans (hp a (by simp)) (hp x (List.mem_cons_of_mem _ hx)) (hp p (List.mem_cons_of_mem _ hq)) (by rw [trn_anti]; omega) (h p hq)
theorem coneX {d0 : Pt} (h0 : d0 ≠ ⟨0, 0⟩) {C : List Pt} (hne : C ≠ []) (hC : ∀ c ∈ C, 0 ≤ dot c d0) (hz : ∀ c ∈ C, c ≠ ⟨0, 0⟩) : ∃ c ∈ C, (∀ c' ∈ C, 0 ≤ dot c' (rot c)) ∨ (∀ c' ∈ C, 0 ≤ dot c' (neg (rot c))) := by
  by_cases hex : ∃ c ∈ C, dot c d0 = 0
  · obtain ⟨c, hc, e⟩ := hex
    refine ⟨c, hc, ?_⟩
    have hp := sq_pos h0
    have key : ∀ c', dot c' (rot c) * (d0.x * d0.x + d0.y * d0.y) = dot c' d0 * dot (rot c) d0 := by
      intro c'
      simp only [dot, rot] at e ⊢
      grind
    by_cases hs : 0 ≤ dot (rot c) d0
    · left
      intro c' hc'
      have k1 := Int.mul_nonneg (hC c' hc') hs
      rw [← key] at k1
      by_cases hh : 0 ≤ dot c' (rot c)
      · exact hh
      · exfalso
        have := Int.mul_neg_of_neg_of_pos (show dot c' (rot c) < 0 by omega) hp
        omega
    · right
      intro c' hc'
      have k1 := Int.mul_nonpos_of_nonneg_of_nonpos (hC c' hc') (show dot (rot c) d0 ≤ 0 by omega)
      rw [← key] at k1
      have e2 : dot c' (neg (rot c)) = -dot c' (rot c) := by simp only [dot, neg]; grind
      rw [e2]
      by_cases hh : dot c' (rot c) ≤ 0
      · omega
      · exfalso
        have := Int.mul_pos (show 0 < dot c' (rot c) by omega) hp
        omega
  · obtain ⟨c, hc, h⟩ := ext_vec (d0 := d0) C hne (fun c hc => by
      have := hC c hc
      have : dot c d0 ≠ 0 := fun e => hex ⟨c, hc, e⟩
      omega)
    refine ⟨c, hc, .inl fun c' hc' => ?_⟩
    have := h c' hc'
    have e : dot c' (rot c) = trn c c' := by simp only [dot, rot, trn]; grind
    rw [e]; exact this
end Go.Proofs.Ytacepcnbgacipaa
namespace Go.Proofs.Ytacepcnbgacipaa
open Go Go.Vc
def Up (l : List Pt) (d : Pt) (a : Pt) : Prop := ∀ p, p < l.length → dot (gp l p) d ≤ dot a d
theorem topTo_le (l : List Pt) (d : Pt) : ∀ k p, p < k → dot (gp l p) d ≤ topTo l d k
  | 0, p, h => by omega
  | k + 1, p, h => by
    rw [topTo_succ]
    by_cases e : p = k
    · subst e; omega
    · have := topTo_le l d k p (by omega); omega
theorem topTo_at (l : List Pt) (d : Pt) : ∀ k, ∃ p, (p < k ∨ p = 0) ∧ topTo l d k = dot (gp l p) d
  | 0 => ⟨0, .inr rfl, by simp [topTo]⟩
  | k + 1 => by
    obtain ⟨p, hp, e⟩ := topTo_at l d k
    rw [topTo_succ]
    by_cases h : topTo l d k ≤ dot (gp l k) d
    · exact ⟨k, .inl (by omega), by omega⟩
    · exact ⟨p, by omega, by omega⟩
theorem top_iff {l : List Pt} {d a : Pt} (h0 : 0 < l.length) (ha : ∃ i, i < l.length ∧ gp l i = a) : top l d = dot a d ↔ Up l d a := by
  obtain ⟨i, hi, rfl⟩ := ha
  have h1 := topTo_le l d l.length i hi
  obtain ⟨p, hp, e⟩ := topTo_at l d l.length
  unfold top Up
  constructor
  · intro h q hq
    rw [← h]; exact topTo_le l d l.length q hq
  · intro h
    have := h p (by omega)
    omega
theorem holds_tops {l : List Pt} {d : Pt} (h0 : 0 < l.length) {i : Nat} (hi : i < l.length) : holds (tops l d) i = true ↔ Up l d (gp l i) := by
  rw [← top_iff h0 ⟨i, hi, rfl⟩]
  unfold holds
  rw [List.any_eq_true]
  constructor
  · rintro ⟨k, hk, e⟩
    have hk' := List.mem_range.1 hk
    have e' := of_decide_eq_true e
    have hm : gi (tops l d) k ∈ tops l d := by rw [gi_eq hk']; exact List.getElem_mem hk'
    rw [e'] at hm
    simp only [tops, topsTo, List.mem_filter, decide_eq_true_eq] at hm
    exact hm.2.symm
  · intro h
    have hm : i ∈ tops l d := by
      simp only [tops, topsTo, List.mem_filter, List.mem_range, decide_eq_true_eq]
      exact ⟨hi, h.symm⟩
    obtain ⟨k, hk, e⟩ := List.getElem_of_mem hm
    exact ⟨k, List.mem_range.2 hk, by rw [gi_eq hk, e]; simp⟩
theorem nrm_ne {a b : Pt} (h : a ≠ b) : nrm a b ≠ ⟨0, 0⟩ := by
  intro e
  simp only [nrm, sub, Pt.mk.injEq] at e
  exact h (by cases a; cases b; simp only [Pt.mk.injEq] at *; omega)
theorem nrn_neg (a b : Pt) : nrn a b = neg (nrm a b) := by simp [nrn, nrm, neg]
theorem nrm_neg (a b : Pt) : nrm a b = neg (nrn a b) := by simp [nrn, nrm, neg]
theorem nrm_swap (a b : Pt) : nrm b a = nrn a b := by simp only [nrn, nrm, sub, Pt.mk.injEq]; omega
theorem nrn_swap (a b : Pt) : nrn b a = nrm a b := by simp only [nrn, nrm, sub, Pt.mk.injEq]; omega
theorem neg_neg (a : Pt) : neg (neg a) = a := by cases a; simp [neg]
theorem dot_neg (a d : Pt) : dot a (neg d) = -dot a d := by simp only [dot, neg]; grind
/-- The two points face each other. -/
def Fac (l : List Pt) (A B d : Pt) : Prop := Up l d A ∧ Up l (neg d) B
theorem fac_iff {l : List Pt} (h0 : 0 < l.length) {i j : Nat} (hi : i < l.length) (hj : j < l.length) :
    fac l i j = true ↔ ∃ a b, a < l.length ∧ b < l.length ∧ gp l a ≠ gp l b ∧ Fac l (gp l i) (gp l j) (nrm (gp l a) (gp l b)) := by
  have key : ∀ a b, fcq l i j a b = true ↔ gp l a ≠ gp l b ∧ (Fac l (gp l i) (gp l j) (nrm (gp l a) (gp l b)) ∨ Fac l (gp l i) (gp l j) (nrm (gp l b) (gp l a))) := by
    intro a b
    unfold fcq
    rw [neq_pt]
    simp only [Bool.and_eq_true, Bool.or_eq_true, Bool.not_eq_true', decide_eq_false_iff_not, holds_tops h0 hi, holds_tops h0 hj, Fac, ← nrn_neg, nrm_swap (gp l a) (gp l b), ← nrm_neg, ne_eq]
  unfold fac
  rw [List.any_eq_true]
  constructor
  · rintro ⟨a, ha, h⟩
    rw [List.any_eq_true] at h
    obtain ⟨b, hb, h⟩ := h
    have ha' := List.mem_range.1 ha
    have hb' := List.mem_range.1 hb
    obtain ⟨h1, h2 | h2⟩ := (key a b).1 h
    · exact ⟨a, b, ha', by omega, h1, h2⟩
    · exact ⟨b, a, by omega, ha', fun e => h1 e.symm, h2⟩
  · rintro ⟨a, b, ha, hb, h1, h2⟩
    have hne : a ≠ b := fun e => h1 (by rw [e])
    rcases Nat.lt_or_gt_of_ne hne with hlt | hlt
    · exact ⟨b, List.mem_range.2 hb, List.any_eq_true.2 ⟨a, List.mem_range.2 hlt, (key b a).2 ⟨fun e => h1 e.symm, .inr h2⟩⟩⟩
    · exact ⟨a, List.mem_range.2 ha, List.any_eq_true.2 ⟨b, List.mem_range.2 hlt, (key a b).2 ⟨h1, .inl h2⟩⟩⟩
/-- The vertices' points: what the program looks through. -/
structure VOk (l v : List Pt) : Prop where
  sub : ∀ k, k < v.length → ∃ x, x < l.length ∧ gp l x = gp v k
  max : ∀ d, d ≠ ⟨0, 0⟩ → BdP d → ∃ k, k < v.length ∧ Up l d (gp v k)
  sm : ∀ i, SmP (gp l i)
  pos : 0 < l.length
theorem VOk.up {l v : List Pt} (h : VOk l v) {d a : Pt} (hd : d ≠ ⟨0, 0⟩) (hb : BdP d) : Up v d a ↔ Up l d a := by
  constructor
  · intro hu p hp
    obtain ⟨k, hk, hm⟩ := h.max d hd hb
    have h1 := hm p hp
    have h2 := hu k hk
    omega
  · intro hu k hk
    obtain ⟨x, hx, e⟩ := h.sub k hk
    rw [← e]; exact hu x hx
theorem neg_ne {d : Pt} (h : d ≠ ⟨0, 0⟩) : neg d ≠ ⟨0, 0⟩ := fun e => h (by
  cases d; simp only [neg, Pt.mk.injEq] at *; omega)
theorem VOk.opd {l v : List Pt} (h : VOk l v) {A B d : Pt} (hd : d ≠ ⟨0, 0⟩) (hb : BdP d) (hA : ∃ k, k < v.length ∧ gp v k = A) (hB : ∃ k, k < v.length ∧ gp v k = B) : Go.Proofs.Ytacepcnbgacipaa.opd v A B d = true ↔ Fac l A B d := by
  have h0 : 0 < v.length := by obtain ⟨k, hk, _⟩ := hA; omega
  unfold Go.Proofs.Ytacepcnbgacipaa.opd Fac
  rw [Bool.and_eq_true, decide_eq_true_eq, decide_eq_true_eq, ← dot_neg, top_iff h0 hA, top_iff h0 hB, h.up hd hb, h.up (neg_ne hd) (neg_bd hb)]
theorem opp_iff {l v : List Pt} (h : VOk l v) {A B : Pt} (hA : ∃ k, k < v.length ∧ gp v k = A) (hB : ∃ k, k < v.length ∧ gp v k = B) (hsA : SmP A) (hsB : SmP B) (hv : ∀ k, SmP (gp v k)) :
    opp v A B = true ↔ ∃ E q, (E = A ∨ E = B) ∧ q < v.length ∧ gp v q ≠ E ∧ (Fac l A B (nrm E (gp v q)) ∨ Fac l A B (nrn E (gp v q))) := by
  have hE : ∀ i, i < 2 → gp [A, B] i = A ∨ gp [A, B] i = B := by
    intro i hi
    match i, hi with
    | 0, _ => exact .inl rfl
    | 1, _ => exact .inr rfl
  have hsE : ∀ E, E = A ∨ E = B → SmP E := by rintro E (rfl | rfl) <;> assumption
  have one : ∀ E q, (E = A ∨ E = B) → gp v q ≠ E → (opd v A B (nrm E (gp v q)) = true ↔ Fac l A B (nrm E (gp v q))) ∧ (opd v A B (nrn E (gp v q)) = true ↔ Fac l A B (nrn E (gp v q))) := by
    intro E q hEE hne
    refine ⟨h.opd (nrm_ne (fun e => hne e.symm)) (nrm_bd (hsE E hEE) (hv q)) hA hB, h.opd ?_ (nrn_bd (hsE E hEE) (hv q)) hA hB⟩
    rw [nrn_neg]; exact neg_ne (nrm_ne (fun e => hne e.symm))
  unfold opp
  rw [List.any_eq_true]
  constructor
  · rintro ⟨i, hi, h1⟩
    rw [List.any_eq_true] at h1
    obtain ⟨q, hq, h2⟩ := h1
    rw [List.any_eq_true] at h2
    obtain ⟨k, hk, h3⟩ := h2
    unfold opq at h3
    rw [Bool.and_eq_true, decide_eq_true_eq] at h3
    have hi' := hE i (List.mem_range.1 hi)
    refine ⟨gp [A, B] i, q, hi', List.mem_range.1 hq, h3.1, ?_⟩
    have h4 := one _ q hi' h3.1
    have h5 := h3.2
    unfold nk at h5
    split at h5
    · exact .inl (h4.1.1 h5)
    · exact .inr (h4.2.1 h5)
  · rintro ⟨E, q, hEE, hq, hne, hf⟩
    have h4 := one _ q hEE hne
    obtain ⟨i, hi, e⟩ : ∃ i, i < 2 ∧ gp [A, B] i = E := by
      rcases hEE with rfl | rfl
      · exact ⟨0, by omega, rfl⟩
      · exact ⟨1, by omega, rfl⟩
    refine ⟨i, List.mem_range.2 hi, List.any_eq_true.2 ⟨q, List.mem_range.2 hq, List.any_eq_true.2 ?_⟩⟩
    rcases hf with hf | hf
    · refine ⟨0, by simp, ?_⟩
      unfold opq
      rw [e, Bool.and_eq_true, decide_eq_true_eq]
      exact ⟨hne, h4.1.2 hf⟩
    · refine ⟨1, by simp, ?_⟩
      unfold opq
      rw [e, Bool.and_eq_true, decide_eq_true_eq]
      exact ⟨hne, h4.2.2 hf⟩
theorem dot_sub (a b d : Pt) : dot (sub a b) d = dot a d - dot b d := by simp only [dot, sub]; grind
theorem sub_ne {a b : Pt} (h : a ≠ b) : sub a b ≠ ⟨0, 0⟩ := fun e => h (by
  cases a; cases b; simp only [sub, Pt.mk.injEq] at *; omega)
theorem rot_sub (a b : Pt) : rot (sub a b) = nrn a b ∧ neg (rot (sub a b)) = nrm a b ∧ rot (sub a b) = nrm b a ∧ neg (rot (sub a b)) = nrn b a := by
  refine ⟨?_, ?_, ?_, ?_⟩ <;> simp only [rot, sub, nrn, nrm, neg, Pt.mk.injEq] <;> (first | omega | trivial | (constructor <;> first | omega | trivial | rfl))
theorem opp_fac {l v : List Pt} (h : VOk l v) {i j ki kj : Nat} (hi : i < l.length) (hj : j < l.length) (hki : ki < v.length) (hkj : kj < v.length) (ei : gp v ki = gp l i) (ej : gp v kj = gp l j) (hne : gp l i ≠ gp l j) :
    opp v (gp l i) (gp l j) = fac l i j := by
  have hv : ∀ k, SmP (gp v k) := by
    refine all_gp (q := SmP) (fun p hp => ?_) SmP_d
    obtain ⟨k, hk, rfl⟩ := List.getElem_of_mem hp
    obtain ⟨x, _, e⟩ := h.sub k hk
    rw [← gp_eq hk, ← e]; exact h.sm x
  rw [Bool.eq_iff_iff, opp_iff h ⟨ki, hki, ei⟩ ⟨kj, hkj, ej⟩ (h.sm i) (h.sm j) hv, fac_iff h.pos hi hj]
  constructor
  · rintro ⟨E, q, hE, hq, hqne, hf⟩
    obtain ⟨x, hx, ex⟩ := h.sub q hq
    obtain ⟨y, hy, ey⟩ : ∃ y, y < l.length ∧ gp l y = E := by
      rcases hE with rfl | rfl
      · exact ⟨i, hi, rfl⟩
      · exact ⟨j, hj, rfl⟩
    rcases hf with hf | hf
    · exact ⟨y, x, hy, hx, by rw [ey, ex]; exact fun e => hqne e.symm, by rw [ey, ex]; exact hf⟩
    · exact ⟨x, y, hx, hy, by rw [ey, ex]; exact hqne, by rw [ey, ex, nrm_swap]; exact hf⟩
  · rintro ⟨a, b, ha, hb, hab, hu1, hu2⟩
    generalize hd0 : nrm (gp l a) (gp l b) = d0 at hu1 hu2
    have hd : d0 ≠ ⟨0, 0⟩ := by rw [← hd0]; exact nrm_ne hab
    -- what must not fall behind
    let C : List Pt := ((List.range v.length).filter (fun q => decide (gp v q ≠ gp l i))).map (fun q => sub (gp l i) (gp v q)) ++ ((List.range v.length).filter (fun q => decide (gp v q ≠ gp l j))).map (fun q => sub (gp v q) (gp l j))
    have hCm : ∀ c, c ∈ C ↔ (∃ q, q < v.length ∧ gp v q ≠ gp l i ∧ sub (gp l i) (gp v q) = c) ∨ (∃ q, q < v.length ∧ gp v q ≠ gp l j ∧ sub (gp v q) (gp l j) = c) := by
      intro c
      simp only [C, List.mem_append, List.mem_map, List.mem_filter, List.mem_range, decide_eq_true_eq, and_assoc]
    have hne' : C ≠ [] := by
      have : sub (gp l i) (gp v kj) ∈ C := (hCm _).2 (.inl ⟨kj, hkj, by rw [ej]; exact fun e => hne e.symm, rfl⟩)
      exact List.ne_nil_of_mem this
    have hpos : ∀ c ∈ C, 0 ≤ dot c d0 := by
      intro c hc
      rcases (hCm c).1 hc with ⟨q, hq, _, rfl⟩ | ⟨q, hq, _, rfl⟩
      · obtain ⟨x, hx, e⟩ := h.sub q hq
        rw [dot_sub, ← e]; have := hu1 x hx; omega
      · obtain ⟨x, hx, e⟩ := h.sub q hq
        rw [dot_sub, ← e]; have := hu2 x hx; rw [dot_neg, dot_neg] at this; omega
    have hz : ∀ c ∈ C, c ≠ ⟨0, 0⟩ := by
      intro c hc
      rcases (hCm c).1 hc with ⟨q, hq, k, rfl⟩ | ⟨q, hq, k, rfl⟩
      · exact sub_ne (fun e => k e.symm)
      · exact sub_ne k
    obtain ⟨c, hc, hs⟩ := coneX hd hne' hpos hz
    have up : ∀ s, BdP s → s ≠ ⟨0, 0⟩ → (∀ c' ∈ C, 0 ≤ dot c' s) → Fac l (gp l i) (gp l j) s := by
      intro s hsb hs0 hall
      refine ⟨(h.up hs0 hsb).1 fun q hq => ?_, (h.up (neg_ne hs0) (neg_bd hsb)).1 fun q hq => ?_⟩
      · by_cases e : gp v q = gp l i
        · rw [e]; exact Int.le_refl _
        · have := hall _ ((hCm _).2 (.inl ⟨q, hq, e, rfl⟩))
          rw [dot_sub] at this; omega
      · by_cases e : gp v q = gp l j
        · rw [e]; exact Int.le_refl _
        · have := hall _ ((hCm _).2 (.inr ⟨q, hq, e, rfl⟩))
          rw [dot_sub] at this; rw [dot_neg, dot_neg]; omega
    rcases (hCm c).1 hc with ⟨q, hq, k, rfl⟩ | ⟨q, hq, k, rfl⟩
    · obtain ⟨r1, r2, _, _⟩ := rot_sub (gp l i) (gp v q)
      rw [r2, r1] at hs
      refine ⟨gp l i, q, .inl rfl, hq, k, ?_⟩
      rcases hs with hs | hs
      · exact .inr (up _ (nrn_bd (h.sm i) (hv q)) (by rw [nrn_neg]; exact neg_ne (nrm_ne (fun e => k e.symm))) hs)
      · exact .inl (up _ (nrm_bd (h.sm i) (hv q)) (nrm_ne (fun e => k e.symm)) hs)
    · obtain ⟨_, _, r3, r4⟩ := rot_sub (gp v q) (gp l j)
      rw [r4, r3] at hs
      refine ⟨gp l j, q, .inr rfl, hq, k, ?_⟩
      rcases hs with hs | hs
      · exact .inl (up _ (nrm_bd (h.sm j) (hv q)) (nrm_ne (fun e => k e.symm)) hs)
      · exact .inr (up _ (nrn_bd (h.sm j) (hv q)) (by rw [nrn_neg]; exact neg_ne (nrm_ne (fun e => k e.symm))) hs)
end Go.Proofs.Ytacepcnbgacipaa
namespace Go.Proofs.Ytacepcnbgacipaa
open Go Go.Vc
theorem isort_ok : ∀ (B A : List Nat), (A ++ B).Nodup → A.Pairwise (· < ·) → (isortR (fun i k => decide (i < k)) 0 (A.length + B.length) (A ++ B) A.length).Pairwise (· < ·) ∧ ∀ x, x ∈ isortR (fun i k => decide (i < k)) 0 (A.length + B.length) (A ++ B) A.length ↔ x ∈ A ++ B
  | [], A, hn, hp => by rw [isortR_end (by simp)]; exact ⟨by simpa using hp, fun _ => Iff.rfl⟩
  | x :: B, A, hn, hp => by
    rw [isortR_step (by simp)]
    obtain ⟨A1, A2, h1, h2, h3, h4⟩ := sink_ins (fun i k => decide (i < k)) x A.length A B rfl
    rw [h2]
    have hn' : ((A1 ++ x :: A2) ++ B).Nodup := by
      have hperm : ((A1 ++ x :: A2) ++ B).Perm (A ++ x :: B) := by
        rw [h1]
        simp only [List.append_assoc, List.cons_append]
        refine List.Perm.append_left _ ?_
        exact (List.perm_middle (a := x) (l₁ := A2) (l₂ := B)).symm
      exact hperm.nodup_iff.2 hn
    have hp' : (A1 ++ x :: A2).Pairwise (· < ·) := by
      rw [h1] at hp hn
      obtain ⟨p1, p2, p3⟩ := List.pairwise_append.1 hp
      refine List.pairwise_append.2 ⟨p1, List.pairwise_cons.2 ⟨fun b hb => by simpa using h3 b hb, p2⟩, fun a ha b hb => ?_⟩
      rcases List.mem_cons.1 hb with rfl | hb
      · cases hz : A1.getLast? with
        | none => rw [List.getLast?_eq_none_iff] at hz; subst hz; simp at ha
        | some z =>
          have hzm : z ∈ A1 := List.mem_of_getLast? hz
          have h5 : ¬ b < z := by simpa using h4 z hz
          have h6 : z ≠ b := by
            rintro rfl
            have := (List.nodup_append.1 hn).2.2 z (List.mem_append_left _ hzm) z (by simp)
            exact this rfl
          rcases pw_last p1 ha hz with rfl | h7
          · omega
          · have : a < z := h7
            omega
      · exact p3 a ha b hb
    have ih := isort_ok B (A1 ++ x :: A2) hn' hp'
    have e1 : (A1 ++ x :: A2).length = A.length + 1 := by rw [h1]; simp; omega
    have e2 : A1 ++ x :: (A2 ++ B) = (A1 ++ x :: A2) ++ B := by simp
    rw [e1] at ih
    rw [e2, show A.length + (x :: B).length = A.length + 1 + B.length by simp; omega]
    refine ⟨ih.1, fun y => (ih.2 y).trans ?_⟩
    rw [h1]
    simp only [List.mem_append, List.mem_cons]
    grind
theorem srtN_ok {v : List Nat} (h : v.Nodup) : (srtN v).Pairwise (· < ·) ∧ ∀ x, x ∈ srtN v ↔ x ∈ v := by
  unfold srtN
  match v, h with
  | [], _ => rw [isortR_end (by simp)]; simp
  | a :: r, h =>
    have := isort_ok r [a] h (by simp)
    rw [show (a :: r).length = [a].length + r.length by simp; omega]
    exact this
theorem sorted_ext : ∀ {A B : List Nat}, A.Pairwise (· < ·) → B.Pairwise (· < ·) → (∀ x, x ∈ A ↔ x ∈ B) → A = B
  | [], [], _, _, _ => rfl
  | [], b :: B, _, _, h => by have := (h b).2 (by simp); simp at this
  | a :: A, [], _, _, h => by have := (h a).1 (by simp); simp at this
  | a :: A, b :: B, hA, hB, h => by
    obtain ⟨a1, a2⟩ := List.pairwise_cons.1 hA
    obtain ⟨b1, b2⟩ := List.pairwise_cons.1 hB
    have e : a = b := by
      rcases List.mem_cons.1 ((h a).1 (by simp)) with e | e
      · exact e
      · rcases List.mem_cons.1 ((h b).2 (by simp)) with k | k
        · exact k.symm
        · have := a1 b k; have := b1 a e; omega
    subst e
    congr 1
    refine sorted_ext a2 b2 fun x => ?_
    have := h x
    simp only [List.mem_cons] at this
    constructor
    · intro hx
      have h1 := a1 x hx
      rcases this.1 (.inr hx) with k | k
      · omega
      · exact k
    · intro hx
      have h1 := b1 x hx
      rcases this.2 (.inr hx) with k | k
      · omega
      · exact k
/-! Pairs of a list. -/
def one (P : Nat → Nat → Bool) (a b : Nat) : List (Nat × Nat) := if P a b = true then [(a, b)] else []
def prsL (P : Nat → Nat → Bool) : List Nat → List (Nat × Nat)
  | [] => []
  | a :: r => r.flatMap (one P a) ++ prsL P r
theorem flat_gi {α : Type} (f : Nat → List α) : ∀ r : List Nat, (List.range r.length).flatMap (fun k => f (gi r k)) = r.flatMap f
  | [] => rfl
  | a :: r => by
    rw [List.length_cons, List.range_succ_eq_map, List.flatMap_cons, List.flatMap_map, List.flatMap_cons]
    have : (fun k => f (gi (a :: r) (Nat.succ k))) = fun k => f (gi r k) := by funext k; simp [gi]
    rw [this, flat_gi f r]
    simp [gi]
theorem prsL_eq (P : Nat → Nat → Bool) : ∀ L : List Nat, ((List.range L.length).flatMap fun i => (List.range (L.length - (i + 1))).flatMap fun k => one P (gi L i) (gi L (i + 1 + k))) = prsL P L
  | [] => rfl
  | a :: r => by
    rw [List.length_cons, List.range_succ_eq_map, List.flatMap_cons, List.flatMap_map]
    unfold prsL
    rw [← prsL_eq P r, ← flat_gi (one P a) r]
    congr 1
    · simp only [Nat.zero_add, Nat.add_sub_cancel]
      congr 1
      funext k
      rw [show gi (a :: r) 0 = a from rfl, show gi (a :: r) (1 + k) = gi r k by rw [Nat.add_comm]; simp [gi]]
    · congr 1
      funext i
      rw [show r.length + 1 - (Nat.succ i + 1) = r.length - (i + 1) by omega, show gi (a :: r) (Nat.succ i) = gi r i by simp [gi]]
      congr 1
      funext k
      rw [show Nat.succ i + 1 + k = (i + 1 + k) + 1 by omega, show gi (a :: r) (i + 1 + k + 1) = gi r (i + 1 + k) by simp [gi]]
theorem flat_filter (q : Nat → Bool) (P : Nat → Nat → Bool) (a : Nat) : ∀ r : List Nat, r.flatMap (one (fun a b => q a && (q b && P a b)) a) = if q a = true then (r.filter q).flatMap (one P a) else []
  | [] => by simp
  | b :: r => by
    rw [List.flatMap_cons, flat_filter q P a r]
    unfold one
    cases ha : q a <;> cases hb : q b <;> simp [ha, hb]
theorem prsL_filter (q : Nat → Bool) (P : Nat → Nat → Bool) : ∀ L : List Nat, prsL (fun a b => q a && (q b && P a b)) L = prsL P (L.filter q)
  | [] => rfl
  | a :: r => by
    show r.flatMap _ ++ prsL _ r = _
    rw [flat_filter, prsL_filter q P r]
    cases ha : q a
    · simp [List.filter_cons, ha]
    · simp [List.filter_cons, ha, prsL]
theorem flat_congr {α β : Type} {f g : α → List β} : ∀ {r : List α}, (∀ b ∈ r, f b = g b) → r.flatMap f = r.flatMap g
  | [], _ => rfl
  | a :: r, h => by rw [List.flatMap_cons, List.flatMap_cons, h a (by simp), flat_congr (r := r) (fun b hb => h b (List.mem_cons_of_mem _ hb))]
theorem prsL_congr {P P' : Nat → Nat → Bool} : ∀ {L : List Nat}, L.Pairwise (· < ·) → (∀ a ∈ L, ∀ b ∈ L, a < b → P a b = P' a b) → prsL P L = prsL P' L
  | [], _, _ => rfl
  | a :: r, hp, h => by
    obtain ⟨a1, a2⟩ := List.pairwise_cons.1 hp
    unfold prsL
    rw [prsL_congr a2 (fun x hx y hy => h x (List.mem_cons_of_mem _ hx) y (List.mem_cons_of_mem _ hy))]
    congr 1
    refine flat_congr fun b hb => ?_
    unfold one
    rw [h a (by simp) b (List.mem_cons_of_mem _ hb) (a1 b hb)]
theorem ant_eq (l : List Pt) (at' : List Nat) : antTo l at' at'.length = prsL (fun a b => opp (pick l at') (gp l a) (gp l b)) at' := prsL_eq (fun a b => opp (pick l at') (gp l a) (gp l b)) at'
theorem rpr_eq (l : List Pt) : rpr l = prsL (fun a b => prB l a b) (List.range l.length) := by
  rw [← prsL_eq, List.length_range]
  unfold rpr prTo
  refine flat_congr fun i hi => ?_
  unfold prR
  refine flat_congr fun k hk => ?_
  have h1 := List.mem_range.1 hi
  have h2 := List.mem_range.1 hk
  rw [gi_range h1, gi_range (show i + 1 + k < l.length by omega)]
  rfl
theorem ant_rpr {l : List Pt} (hc : chk l = 0) : ant l = rpr l := by
  by_cases h0 : l.length = 0
  · have : l = [] := List.length_eq_zero_iff.1 h0
    subst this
    decide
  have h0' : 0 < l.length := by omega
  have H := hull_ok hc h0'
  have sm := chk_sm hc
  obtain ⟨s1, s2⟩ := srtN_ok H.nd
  have hmem : ∀ x, x ∈ srtN (arr l) ↔ x < l.length ∧ vtx l x = true := fun x => (s2 x).trans (H.memv.trans (vs_mem l x))
  have hat : srtN (arr l) = (List.range l.length).filter (vtx l) := by
    refine sorted_ext s1 (List.Pairwise.filter _ List.pairwise_lt_range) fun x => ?_
    rw [hmem, List.mem_filter, List.mem_range]
  have hV : VOk l (pick l (srtN (arr l))) := by
    refine ⟨fun k hk => ?_, fun d hd hb => ?_, sm, h0'⟩
    · rw [pick_len] at hk
      rw [gp_pick hk]
      exact ⟨_, ((hmem _).1 (by rw [gi_eq hk]; exact List.getElem_mem hk)).1, rfl⟩
    · obtain ⟨x, hx, hv, hm⟩ := vmax hc h0' hd hb
      obtain ⟨k, hk, e⟩ := List.getElem_of_mem ((hmem x).2 ⟨hx, hv⟩)
      refine ⟨k, by rw [pick_len]; exact hk, ?_⟩
      rw [gp_pick hk, gi_eq hk, e]
      exact hm
  unfold ant
  rw [ant_eq, rpr_eq]
  show _ = prsL (fun a b => vtx l a && (vtx l b && fac l a b)) (List.range l.length)
  rw [prsL_filter (vtx l) (fac l), ← hat]
  refine prsL_congr s1 fun a ha b hb hab => ?_
  have ha' := (hmem a).1 ha
  have hb' := (hmem b).1 hb
  obtain ⟨ka, hka, ea⟩ := List.getElem_of_mem ha
  obtain ⟨kb, hkb, eb⟩ := List.getElem_of_mem hb
  refine opp_fac hV ha'.1 hb'.1 (by rw [pick_len]; exact hka) (by rw [pick_len]; exact hkb) (by rw [gp_pick hka, gi_eq hka, ea]) (by rw [gp_pick hkb, gi_eq hkb, eb]) (fun e => ?_)
  exact (vtx_iff.1 hb'.2).1 a hab e
theorem hullFaces_c (l : List Pt) : CtrA Try.prog 4 [pts l] (vb true) := faces_c (fun _ hc _ => ant_rpr hc) l
end Go.Proofs.Ytacepcnbgacipaa
