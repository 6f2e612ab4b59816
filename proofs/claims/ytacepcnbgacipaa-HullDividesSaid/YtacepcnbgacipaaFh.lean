/- A part of the proof that the law returns true at every input and that the input reads behind the call as it read before; this part states nothing of its own that needs a condition of the input. -/
import Derived.Test.YtacepcnbgacipaaFd
import Derived.Test.YtacepcnbgacipaaFe
set_option linter.unusedVariables false
set_option linter.unusedSimpArgs false
namespace Go.Proofs.Ytacepcnbgacipaa
open Go Go.Vc Go.RowKit
set_option maxHeartbeats 4000000
/-! KDQ -/
def cvS (v : List Nat) (k : Nat) : Bool := decide (gi v ((k + 1) % v.length) = (gi v k + 1) % v.length)
def cvx (v : List Nat) (n : Nat) : Bool := decide (v.length = n ∧ 3 ≤ v.length) && (List.range v.length).all (cvS v)
def cvN (l : List Pt) : Bool := decide (chk l = 0) && cvx (arr l) l.length
theorem cvx_no {v : List Nat} {n k : Nat} (hk : k < v.length) (h : cvS v k = false) : cvx v n = false := by
  unfold cvx
  rw [Bool.and_eq_false_iff]; right
  rw [List.all_eq_false]
  exact ⟨k, List.mem_range.2 hk, by rw [h]; simp⟩
theorem cvx_yes {v : List Nat} {n : Nat} (h1 : v.length = n) (h2 : 3 ≤ v.length) (h : ∀ k, k < v.length → cvS v k = true) : cvx v n = true := by
  unfold cvx
  rw [Bool.and_eq_true]
  exact ⟨decide_eq_true ⟨h1, h2⟩, List.all_eq_true.2 fun x hx => h x (List.mem_range.1 hx)⟩
theorem convex_c (l : List Pt) (hs : Sml l) : CtrA Try.prog 40 [pts l] (tupOf [vb (cvN l), vi (chk l)]) := by
  refine ctrA _ Try.func40 rfl rfl Try.ntmps40 rfl fun w Z => ?_
  simp only [initT, List.map_cons, List.map_nil, Nat.zero_add, Nat.reduceAdd]
  refine cq_seq ?_
  refine cq_region ?_
  apply sq_g; exact g_assign (s := .av (.val (.bool _))) rfl; exact rfl
  apply sq_g; exact g_assign (s := .av (.val (.int _ _))) rfl; exact rfl
  refine sq_nil ?_
  refine sq_then ?_
  refine cq_seq ?_
  refine cq_seq ?_
  refine cq_region ?_
  apply sq_g; exact g_move (s := .av _) rfl; exact rfl
  apply sq_g; exact g_call (check_c l) rfl; exact rfl
  apply sq_g; exact g_assign (s := .av (.val (.int _ _))) rfl; exact rfl
  refine sq_nil ?_
  refine sq_then ?_
  refine cq_seq ?_
  refine cq_region ?_
  apply sq_g; exact g_move (s := .av (.val (.int _ _))) rfl; exact rfl
  apply sq_g; exact g_cmp rfl rfl rfl; exact rfl
  refine sq_nil ?_
  refine sq_then ?_
  (refine cq_cond rfl (fun hb => ?_) (fun hb => ?_) <;> (try simp only [decide_eq_true_eq, decide_eq_false_iff_not, beq_iff_eq, beq_eq_false_iff_ne, bne_iff_ne, bne_eq_false_iff_eq, ne_eq, Bool.not_eq_true', Bool.not_eq_false', Bool.and_eq_true, Bool.or_eq_true, Bool.and_eq_false_iff, Bool.or_eq_false_iff] at hb) <;> (try (exfalso; omega)))
  · have e1 : cvN l = false := by simp [cvN, hb]
    refine cq_seq ?_
    refine cq_region ?_
    apply sq_g; exact g_move (s := .av (.val (.int _ _))) rfl; exact rfl
    apply sq_g; exact g_assign (s := .av (.val (.bool _))) rfl; exact rfl
    apply sq_g; exact g_assign (s := .av (.val (.int _ _))) rfl; exact rfl
    refine sq_nil ?_
    refine sq_then ?_
    refine cq_ret ?_
    refine sq_then_ret ?_
    exact sq_resN (rvs := [_, _]) (τs := [_, _]) rfl rfl ⟨.tmp rfl, .tmp rfl, trivial⟩ (by rw [e1])
  · have hc : chk l = 0 := by simpa using hb
    obtain ⟨q1, q2, q3⟩ := hs hc
    have e0 : cvN l = cvx (arr l) l.length := by simp [cvN, hc]
    have ha := (around_c l q1).ro
    generalize arr l = v at *
    focus
      refine cq_skip ?_
      refine sq_then ?_
      refine cq_seq ?_
      refine cq_region ?_
      apply sq_g; exact g_move (s := .av _) rfl; exact rfl
      apply sq_g; exact g_call (ha) rfl; exact rfl
      apply sq_g; exact g_assign (s := .av _) rfl; exact rfl
      refine sq_nil ?_
      refine sq_then ?_
      refine cq_seq ?_
      refine cq_seq ?_
      refine cq_region ?_
      apply sq_g; exact g_move (s := .av _) rfl; exact rfl
      apply sq_g; exact g_len rfl; exact rfl
      apply sq_g; exact g_move (s := .av _) rfl; exact rfl
      apply sq_g; exact g_len rfl; exact rfl
      apply sq_g; exact g_cmp rfl rfl rfl; exact rfl
      apply sq_g; exact g_move (s := .av (.val (.bool _))) rfl; exact rfl
      refine sq_split rfl rfl (fun hb => ?_) (fun hb => ?_) <;> (try simp only [decide_eq_true_eq, decide_eq_false_iff_not, beq_iff_eq, beq_eq_false_iff_ne, bne_iff_ne, bne_eq_false_iff_eq, ne_eq, Bool.not_eq_true', Bool.not_eq_false', Bool.and_eq_true, Bool.or_eq_true, Bool.and_eq_false_iff, Bool.or_eq_false_iff] at hb) <;> (try (exfalso; omega))
      refine sq_off rfl rfl rfl rfl ?_
      refine sq_off rfl rfl rfl rfl ?_
      refine sq_off rfl rfl rfl rfl ?_
      apply sq_g; exact g_pick (s := .av (.val (.bool _))) rfl rfl; exact rfl
      refine sq_nil ?_
      refine sq_then ?_
      refine cq_cond_t rfl ?_
      refine cq_seq ?_
      refine cq_region ?_
      apply sq_g; exact g_assign (s := .av (.val (.bool _))) rfl; exact rfl
      apply sq_g; exact g_assign (s := .av (.val (.int _ _))) rfl; exact rfl
      refine sq_nil ?_
      refine sq_then ?_
      refine cq_ret ?_
      refine sq_then_ret ?_
      rotate_left
      apply sq_on; exact g_move (s := .av _) rfl; exact rfl; exact rfl; exact rfl
      apply sq_on; exact g_len rfl; exact rfl; exact rfl; exact rfl
      apply sq_on; exact g_cmp rfl rfl rfl; exact rfl; exact rfl; exact rfl
      apply sq_g; exact g_pick (s := .av (.val (.bool _))) rfl rfl; exact rfl
      refine sq_nil ?_
      refine sq_then ?_
      rotate_left
    · have e1 : cvN l = false := by rw [e0, cvx, decide_eq_false (by omega), Bool.false_and]
      exact sq_resN (rvs := [_, _]) (τs := [_, _]) rfl rfl ⟨.tmp rfl, .tmp rfl, trivial⟩ (by rw [e1, hc])
    · have hln : v.length = l.length := by omega
      (refine cq_cond rfl (fun hb => ?_) (fun hb => ?_) <;> (try simp only [decide_eq_true_eq, decide_eq_false_iff_not, beq_iff_eq, beq_eq_false_iff_ne, bne_iff_ne, bne_eq_false_iff_eq, ne_eq, Bool.not_eq_true', Bool.not_eq_false', Bool.and_eq_true, Bool.or_eq_true, Bool.and_eq_false_iff, Bool.or_eq_false_iff] at hb) <;> (try (exfalso; omega)))
      · have e1 : cvN l = false := by rw [e0, cvx, decide_eq_false (by omega), Bool.false_and]
        refine cq_seq ?_
        refine cq_region ?_
        apply sq_g; exact g_assign (s := .av (.val (.bool _))) rfl; exact rfl
        apply sq_g; exact g_assign (s := .av (.val (.int _ _))) rfl; exact rfl
        refine sq_nil ?_
        refine sq_then ?_
        refine cq_ret ?_
        refine sq_then_ret ?_
        exact sq_resN (rvs := [_, _]) (τs := [_, _]) rfl rfl ⟨.tmp rfl, .tmp rfl, trivial⟩ (by rw [e1, hc])
      · have h3 : 3 ≤ v.length := by omega
        refine cq_skip ?_
        refine sq_then ?_
        refine cq_seq ?_
        refine cq_seq ?_
        refine cq_region ?_
        apply sq_g; exact g_move (s := .av _) rfl; exact rfl
        apply sq_g; exact g_len rfl; exact rfl
        apply sq_g; exact g_move (s := .av (.val (.int _ _))) rfl; exact rfl
        refine sq_nil ?_
        refine sq_then ?_
        refine cq_block ?_
        refine cq_loop (γ := Nat) (fun k => [(5, .av (idx v)), (25, .av (idx v)), (26, .av (vi v.length)), (27, .av (vi k))]) (fun _ => []) (fun k => k ≤ v.length ∧ ∀ k', k' < k → cvS v k' = true) (fun k => v.length - k) 0 ⟨Nat.zero_le _, by omega⟩ (ent ⟨.refl _, .refl _, .refl _, .refl _, trivial⟩ trivial) ?_
        rintro k ⟨hk, hall⟩
        refine cq_seq ?_
        refine cq_region ?_
        apply sq_g; exact g_cmp rfl rfl rfl; exact rfl
        refine sq_nil ?_
        refine sq_then ?_
        refine cq_seq ?_
        (refine cq_cond rfl (fun hb => ?_) (fun hb => ?_) <;> (try simp only [decide_eq_true_eq, decide_eq_false_iff_not, beq_iff_eq, beq_eq_false_iff_ne, bne_iff_ne, bne_eq_false_iff_eq, ne_eq, Bool.not_eq_true', Bool.not_eq_false', Bool.and_eq_true, Bool.or_eq_true, Bool.and_eq_false_iff, Bool.or_eq_false_iff] at hb) <;> (try (exfalso; omega)))
        · have hkl : k < v.length := by omega
          have hgk := q3 k hkl
          have r1 : 0 ≤ ((k : Int) + 1) % (v.length : Int) ∧ ((k : Int) + 1) % (v.length : Int) < (v.length : Int) := ⟨Int.emod_nonneg _ (by omega), Int.emod_lt_of_pos _ (by omega)⟩
          have m1 : (((k : Int) + 1) % (v.length : Int)).toNat = (k + 1) % v.length := modc k 1 v.length
          have m2 : (((gi v k : Nat) : Int) + 1) % (v.length : Int) = (((gi v k + 1) % v.length : Nat) : Int) := by rw [Int.natCast_emod]; rfl
          refine cq_skip ?_
          refine sq_then ?_
          refine cq_seq ?_
          refine cq_block ?_
          refine cq_seq ?_
          refine cq_region ?_
          apply sq_g; exact g_move (s := .av (.val (.int _ _))) rfl; exact rfl
          apply sq_g; exact g_index rfl rfl rfl (by omega); exact rfl
          apply sq_g; exact g_load (τ := .val (.int _ _)) rfl rfl rfl; exact rfl
          apply sq_g; exact g_assign (s := .av (.val (.int _ _))) rfl; exact rfl
          apply sq_g; exact g_assign (s := .av (.val (.int _ _))) rfl; exact rfl
          refine sq_nil ?_
          refine sq_then ?_
          refine cq_seq ?_
          refine cq_drawn ?_
          apply dq_g; exact g_move (s := .av _) rfl; exact rfl
          apply dq_g; exact g_move (s := .av (.val (.int _ _))) rfl; exact rfl
          apply dq_g; exact g_arith rfl rfl rfl (by omega); exact rfl
          apply dq_g; exact g_move (s := .av _) rfl; exact rfl
          apply dq_g; exact g_len rfl; exact rfl
          apply dq_g; exact g_rem rfl rfl (by omega) (by omega); exact rfl
          apply dq_g; exact g_index rfl rfl (Int.toNat_of_nonneg (by omega)).symm (by omega); exact rfl
          apply dq_g; exact g_load (τ := .val (.int _ _)) rfl rfl rfl; exact rfl
          apply dq_g; exact g_move (s := .av (.val (.int _ _))) rfl; exact rfl
          apply dq_g; exact g_arith rfl rfl rfl (by omega); exact rfl
          apply dq_g; exact g_move (s := .av _) rfl; exact rfl
          apply dq_g; exact g_len rfl; exact rfl
          apply dq_g; exact g_rem rfl rfl (by omega) (by omega); exact rfl
          apply dq_g; exact g_cmp rfl rfl rfl; exact rfl
          refine dq_nil tm (by kernel_rfl) ?_
          refine sq_then ?_
          (refine cq_cond rfl (fun hb => ?_) (fun hb => ?_) <;> (try simp only [decide_eq_true_eq, decide_eq_false_iff_not, beq_iff_eq, beq_eq_false_iff_ne, bne_iff_ne, bne_eq_false_iff_eq, ne_eq, Bool.not_eq_true', Bool.not_eq_false', Bool.and_eq_true, Bool.or_eq_true, Bool.and_eq_false_iff, Bool.or_eq_false_iff] at hb) <;> (try (exfalso; omega)))
          · rw [m1, m2] at hb
            have e1 : cvN l = false := by rw [e0]; exact cvx_no hkl (by unfold cvS; exact decide_eq_false (by omega))
            refine cq_seq ?_
            refine cq_region ?_
            apply sq_g; exact g_assign (s := .av (.val (.bool _))) rfl; exact rfl
            apply sq_g; exact g_assign (s := .av (.val (.int _ _))) rfl; exact rfl
            refine sq_nil ?_
            refine sq_then ?_
            refine cq_ret ?_
            refine sq_inBlock_ret ?_
            refine sq_then_ret ?_
            refine sq_then_ret ?_
            refine sq_inBlock_ret ?_
            refine sq_then_ret ?_
            exact sq_resN (rvs := [_, _]) (τs := [_, _]) rfl rfl ⟨.tmp rfl, .tmp rfl, trivial⟩ (by rw [e1, hc])
          · rw [m1, m2] at hb
            refine cq_skip ?_
            refine sq_then ?_
            refine cq_region ?_
            apply sq_g; exact g_arith rfl rfl rfl (by omega); exact rfl
            apply sq_g; exact g_move (s := .av (.val (.int _ _))) rfl; exact rfl
            refine sq_nil ?_
            exact sq_round (k + 1) ⟨by omega, lt_step hall (by unfold cvS; exact decide_eq_true (by omega))⟩ (by omega) (ent ⟨.refl _, .refl _, .refl _, .int (by omega), trivial⟩ trivial)
        · have hkl : k = v.length := by omega
          subst hkl
          have e1 : cvN l = true := by rw [e0]; exact cvx_yes hln h3 hall
          refine cq_exit ?_
          refine sq_then ?_
          refine cq_seq ?_
          refine cq_region ?_
          apply sq_g; exact g_assign (s := .av (.val (.bool _))) rfl; exact rfl
          apply sq_g; exact g_assign (s := .av (.val (.int _ _))) rfl; exact rfl
          refine sq_nil ?_
          refine sq_then ?_
          refine cq_ret ?_
          exact sq_resN (rvs := [_, _]) (τs := [_, _]) rfl rfl ⟨.tmp rfl, .tmp rfl, trivial⟩ (by rw [e1, hc])
theorem rconvex_c (l : List Pt) (hs : Sml l) : CtrA Try.prog 48 [pts l] (tupOf [vb (cvN l), vi (chk l)]) := by
  refine ctrA _ Try.func48 rfl rfl Try.ntmps48 rfl fun w Z => ?_
  simp only [initT, List.map_cons, List.map_nil, Nat.zero_add, Nat.reduceAdd]
  refine cq_seq ?_
  refine cq_region ?_
  apply sq_g; exact g_assign (s := .av (.val (.bool _))) rfl; exact rfl
  apply sq_g; exact g_assign (s := .av (.val (.int _ _))) rfl; exact rfl
  refine sq_nil ?_
  refine sq_then ?_
  refine cq_seq ?_
  refine cq_seq ?_
  refine cq_region ?_
  apply sq_g; exact g_move (s := .av _) rfl; exact rfl
  apply sq_g; exact g_call (rcheck_c l) rfl; exact rfl
  apply sq_g; exact g_assign (s := .av (.val (.int _ _))) rfl; exact rfl
  refine sq_nil ?_
  refine sq_then ?_
  refine cq_seq ?_
  refine cq_region ?_
  apply sq_g; exact g_move (s := .av (.val (.int _ _))) rfl; exact rfl
  apply sq_g; exact g_cmp rfl rfl rfl; exact rfl
  refine sq_nil ?_
  refine sq_then ?_
  (refine cq_cond rfl (fun hb => ?_) (fun hb => ?_) <;> (try simp only [decide_eq_true_eq, decide_eq_false_iff_not, beq_iff_eq, beq_eq_false_iff_ne, bne_iff_ne, bne_eq_false_iff_eq, ne_eq, Bool.not_eq_true', Bool.not_eq_false', Bool.and_eq_true, Bool.or_eq_true, Bool.and_eq_false_iff, Bool.or_eq_false_iff] at hb) <;> (try (exfalso; omega)))
  · have e1 : cvN l = false := by simp [cvN, hb]
    refine cq_seq ?_
    refine cq_region ?_
    apply sq_g; exact g_move (s := .av (.val (.int _ _))) rfl; exact rfl
    apply sq_g; exact g_assign (s := .av (.val (.bool _))) rfl; exact rfl
    apply sq_g; exact g_assign (s := .av (.val (.int _ _))) rfl; exact rfl
    refine sq_nil ?_
    refine sq_then ?_
    refine cq_ret ?_
    refine sq_then_ret ?_
    exact sq_resN (rvs := [_, _]) (τs := [_, _]) rfl rfl ⟨.tmp rfl, .tmp rfl, trivial⟩ (by rw [e1])
  · have hc : chk l = 0 := by simpa using hb
    obtain ⟨q1, q2, q3⟩ := hs hc
    have e0 : cvN l = cvx (arr l) l.length := by simp [cvN, hc]
    refine cq_skip ?_
    refine sq_then ?_
    refine cq_seq ?_
    refine cq_seq ?_
    refine cq_region ?_
    apply sq_g; exact g_move (s := .av _) rfl; exact rfl
    apply sq_g; exact g_len rfl; exact rfl
    apply sq_g; exact g_cmp rfl rfl rfl; exact rfl
    refine sq_nil ?_
    refine sq_then ?_
    (refine cq_cond rfl (fun hb => ?_) (fun hb => ?_) <;> (try simp only [decide_eq_true_eq, decide_eq_false_iff_not, beq_iff_eq, beq_eq_false_iff_ne, bne_iff_ne, bne_eq_false_iff_eq, ne_eq, Bool.not_eq_true', Bool.not_eq_false', Bool.and_eq_true, Bool.or_eq_true, Bool.and_eq_false_iff, Bool.or_eq_false_iff] at hb) <;> (try (exfalso; omega)))
    · have e1 : cvN l = false := by rw [e0, cvx, decide_eq_false (by omega), Bool.false_and]
      refine cq_seq ?_
      refine cq_region ?_
      apply sq_g; exact g_assign (s := .av (.val (.bool _))) rfl; exact rfl
      apply sq_g; exact g_assign (s := .av (.val (.int _ _))) rfl; exact rfl
      refine sq_nil ?_
      refine sq_then ?_
      refine cq_ret ?_
      refine sq_then_ret ?_
      exact sq_resN (rvs := [_, _]) (τs := [_, _]) rfl rfl ⟨.tmp rfl, .tmp rfl, trivial⟩ (by rw [e1, hc])
    · have ha := raround_c l (arr l) (chk_sm hc) (by omega) (hull_ok hc (by omega))
      generalize arr l = v at *
      focus
        refine cq_skip ?_
        refine sq_then ?_
        refine cq_seq ?_
        refine cq_region ?_
        apply sq_g; exact g_move (s := .av _) rfl; exact rfl
        apply sq_g; exact g_call (ha) rfl; exact rfl
        apply sq_g; exact g_assign (s := .av _) rfl; exact rfl
        refine sq_nil ?_
        refine sq_then ?_
        refine cq_seq ?_
        refine cq_seq ?_
        refine cq_region ?_
        apply sq_g; exact g_move (s := .av _) rfl; exact rfl
        apply sq_g; exact g_len rfl; exact rfl
        apply sq_g; exact g_move (s := .av _) rfl; exact rfl
        apply sq_g; exact g_len rfl; exact rfl
        apply sq_g; exact g_cmp rfl rfl rfl; exact rfl
        apply sq_g; exact g_move (s := .av (.val (.bool _))) rfl; exact rfl
        refine sq_split rfl rfl (fun hb => ?_) (fun hb => ?_) <;> (try simp only [decide_eq_true_eq, decide_eq_false_iff_not, beq_iff_eq, beq_eq_false_iff_ne, bne_iff_ne, bne_eq_false_iff_eq, ne_eq, Bool.not_eq_true', Bool.not_eq_false', Bool.and_eq_true, Bool.or_eq_true, Bool.and_eq_false_iff, Bool.or_eq_false_iff] at hb) <;> (try (exfalso; omega))
        refine sq_off rfl rfl rfl rfl ?_
        refine sq_off rfl rfl rfl rfl ?_
        refine sq_off rfl rfl rfl rfl ?_
        apply sq_g; exact g_pick (s := .av (.val (.bool _))) rfl rfl; exact rfl
        refine sq_nil ?_
        refine sq_then ?_
        refine cq_cond_t rfl ?_
        refine cq_seq ?_
        refine cq_region ?_
        apply sq_g; exact g_assign (s := .av (.val (.bool _))) rfl; exact rfl
        apply sq_g; exact g_assign (s := .av (.val (.int _ _))) rfl; exact rfl
        refine sq_nil ?_
        refine sq_then ?_
        refine cq_ret ?_
        refine sq_then_ret ?_
        rotate_left
        apply sq_on; exact g_move (s := .av _) rfl; exact rfl; exact rfl; exact rfl
        apply sq_on; exact g_len rfl; exact rfl; exact rfl; exact rfl
        apply sq_on; exact g_cmp rfl rfl rfl; exact rfl; exact rfl; exact rfl
        apply sq_g; exact g_pick (s := .av (.val (.bool _))) rfl rfl; exact rfl
        refine sq_nil ?_
        refine sq_then ?_
        rotate_left
      · have e1 : cvN l = false := by rw [e0, cvx, decide_eq_false (by omega), Bool.false_and]
        exact sq_resN (rvs := [_, _]) (τs := [_, _]) rfl rfl ⟨.tmp rfl, .tmp rfl, trivial⟩ (by rw [e1, hc])
      · have hln : v.length = l.length := by omega
        (refine cq_cond rfl (fun hb => ?_) (fun hb => ?_) <;> (try simp only [decide_eq_true_eq, decide_eq_false_iff_not, beq_iff_eq, beq_eq_false_iff_ne, bne_iff_ne, bne_eq_false_iff_eq, ne_eq, Bool.not_eq_true', Bool.not_eq_false', Bool.and_eq_true, Bool.or_eq_true, Bool.and_eq_false_iff, Bool.or_eq_false_iff] at hb) <;> (try (exfalso; omega)))
        · have h3 : 3 ≤ v.length := by omega
          refine cq_skip ?_
          refine sq_then ?_
          refine cq_seq ?_
          refine cq_seq ?_
          refine cq_region ?_
          apply sq_g; exact g_assign (s := .av (.val (.int _ _))) rfl; exact rfl
          refine sq_nil ?_
          refine sq_then ?_
          refine cq_block ?_
          refine cq_loop (γ := Nat) (fun k => [(5, .av (idx v)), (6, .av (vi k))]) (fun _ => []) (fun k => k ≤ v.length ∧ ∀ k', k' < k → cvS v k' = true) (fun k => v.length - k) 0 ⟨Nat.zero_le _, by omega⟩ (ent ⟨.refl _, .refl _, trivial⟩ trivial) ?_
          rintro k ⟨hk, hall⟩
          refine cq_seq ?_
          refine cq_seq ?_
          refine cq_region ?_
          apply sq_g; exact g_move (s := .av (.val (.int _ _))) rfl; exact rfl
          apply sq_g; exact g_move (s := .av _) rfl; exact rfl
          apply sq_g; exact g_len rfl; exact rfl
          apply sq_g; exact g_cmp rfl rfl rfl; exact rfl
          refine sq_nil ?_
          refine sq_then ?_
          (refine cq_cond rfl (fun hb => ?_) (fun hb => ?_) <;> (try simp only [decide_eq_true_eq, decide_eq_false_iff_not, beq_iff_eq, beq_eq_false_iff_ne, bne_iff_ne, bne_eq_false_iff_eq, ne_eq, Bool.not_eq_true', Bool.not_eq_false', Bool.and_eq_true, Bool.or_eq_true, Bool.and_eq_false_iff, Bool.or_eq_false_iff] at hb) <;> (try (exfalso; omega)))
          · have hkl : k < v.length := by omega
            have hgk := q3 k hkl
            have r1 : 0 ≤ ((k : Int) + 1) % (v.length : Int) ∧ ((k : Int) + 1) % (v.length : Int) < (v.length : Int) := ⟨Int.emod_nonneg _ (by omega), Int.emod_lt_of_pos _ (by omega)⟩
            have m1 : (((k : Int) + 1) % (v.length : Int)).toNat = (k + 1) % v.length := modc k 1 v.length
            have m2 : (((gi v k : Nat) : Int) + 1) % (v.length : Int) = (((gi v k + 1) % v.length : Nat) : Int) := by rw [Int.natCast_emod]; rfl
            refine cq_skip ?_
            refine sq_then ?_
            refine cq_seq ?_
            refine cq_block ?_
            refine cq_seq ?_
            refine cq_drawn ?_
            apply dq_g; exact g_move (s := .av _) rfl; exact rfl
            apply dq_g; exact g_move (s := .av (.val (.int _ _))) rfl; exact rfl
            apply dq_g; exact g_arith rfl rfl rfl (by omega); exact rfl
            apply dq_g; exact g_move (s := .av _) rfl; exact rfl
            apply dq_g; exact g_len rfl; exact rfl
            apply dq_g; exact g_rem rfl rfl (by omega) (by omega); exact rfl
            apply dq_g; exact g_index rfl rfl (Int.toNat_of_nonneg (by omega)).symm (by omega); exact rfl
            apply dq_g; exact g_load (τ := .val (.int _ _)) rfl rfl rfl; exact rfl
            apply dq_g; exact g_move (s := .av _) rfl; exact rfl
            apply dq_g; exact g_move (s := .av (.val (.int _ _))) rfl; exact rfl
            apply dq_g; exact g_index rfl rfl rfl (by omega); exact rfl
            apply dq_g; exact g_load (τ := .val (.int _ _)) rfl rfl rfl; exact rfl
            apply dq_g; exact g_arith rfl rfl rfl (by omega); exact rfl
            apply dq_g; exact g_move (s := .av _) rfl; exact rfl
            apply dq_g; exact g_len rfl; exact rfl
            apply dq_g; exact g_rem rfl rfl (by omega) (by omega); exact rfl
            apply dq_g; exact g_cmp rfl rfl rfl; exact rfl
            refine dq_nil tm (by kernel_rfl) ?_
            refine sq_then ?_
            (refine cq_cond rfl (fun hb => ?_) (fun hb => ?_) <;> (try simp only [decide_eq_true_eq, decide_eq_false_iff_not, beq_iff_eq, beq_eq_false_iff_ne, bne_iff_ne, bne_eq_false_iff_eq, ne_eq, Bool.not_eq_true', Bool.not_eq_false', Bool.and_eq_true, Bool.or_eq_true, Bool.and_eq_false_iff, Bool.or_eq_false_iff] at hb) <;> (try (exfalso; omega)))
            · rw [m1, m2] at hb
              have e1 : cvN l = false := by rw [e0]; exact cvx_no hkl (by unfold cvS; exact decide_eq_false (by omega))
              refine cq_seq ?_
              refine cq_region ?_
              apply sq_g; exact g_assign (s := .av (.val (.bool _))) rfl; exact rfl
              apply sq_g; exact g_assign (s := .av (.val (.int _ _))) rfl; exact rfl
              refine sq_nil ?_
              refine sq_then ?_
              refine cq_ret ?_
              refine sq_inBlock_ret ?_
              refine sq_then_ret ?_
              refine sq_then_ret ?_
              refine sq_inBlock_ret ?_
              refine sq_then_ret ?_
              exact sq_resN (rvs := [_, _]) (τs := [_, _]) rfl rfl ⟨.tmp rfl, .tmp rfl, trivial⟩ (by rw [e1, hc])
            · rw [m1, m2] at hb
              refine cq_skip ?_
              refine sq_then ?_
              refine cq_region ?_
              apply sq_g; exact g_move (s := .av (.val (.int _ _))) rfl; exact rfl
              apply sq_g; exact g_arith rfl rfl rfl (by omega); exact rfl
              apply sq_g; exact g_assign (s := .av (.val (.int _ _))) rfl; exact rfl
              refine sq_nil ?_
              exact sq_round (k + 1) ⟨by omega, lt_step hall (by unfold cvS; exact decide_eq_true (by omega))⟩ (by omega) (ent ⟨.refl _, .int (by omega), trivial⟩ trivial)
          · have hkl : k = v.length := by omega
            subst hkl
            have e1 : cvN l = true := by rw [e0]; exact cvx_yes hln h3 hall
            refine cq_exit ?_
            refine sq_then ?_
            refine cq_seq ?_
            refine cq_region ?_
            apply sq_g; exact g_assign (s := .av (.val (.bool _))) rfl; exact rfl
            apply sq_g; exact g_assign (s := .av (.val (.int _ _))) rfl; exact rfl
            refine sq_nil ?_
            refine sq_then ?_
            refine cq_ret ?_
            exact sq_resN (rvs := [_, _]) (τs := [_, _]) rfl rfl ⟨.tmp rfl, .tmp rfl, trivial⟩ (by rw [e1, hc])
end Go.Proofs.Ytacepcnbgacipaa
namespace Go.Proofs.Ytacepcnbgacipaa
open Go Go.Vc Go.RowKit
set_option maxHeartbeats 4000000
/-! KDQ -/
theorem trn_sm {a b : Pt} (h : SmP a) (k : SmP b) : -200000000000 ≤ trn a b ∧ trn a b ≤ 200000000000 := by
  have pr : ∀ x y : Int, (-300000 ≤ x ∧ x ≤ 300000) → (-300000 ≤ y ∧ y ≤ 300000) → -90000000000 ≤ x * y ∧ x * y ≤ 90000000000 := by
    intro x y hx hy
    have h1 : (x * y).natAbs ≤ 300000 * 300000 := by
      rw [Int.natAbs_mul]
      exact Nat.mul_le_mul (by omega) (by omega)
    omega
  have h1 := pr _ _ h.1 k.2
  have h2 := pr _ _ h.2 k.1
  simp only [trn]; omega
def twT (v : List Pt) (k : Nat) : Int := (List.range k).foldl (fun s i => s + trn (gp v i) (gp v ((i + 1) % v.length))) 0
theorem twT_succ (v : List Pt) (k : Nat) : twT v (k + 1) = twT v k + trn (gp v k) (gp v ((k + 1) % v.length)) := by simp [twT, List.range_succ]
theorem twT_bd {v : List Pt} (sm : ∀ i, SmP (gp v i)) : ∀ k : Nat, -(200000000000 * (k : Int)) ≤ twT v k ∧ twT v k ≤ 200000000000 * (k : Int)
  | 0 => by simp [twT]
  | k + 1 => by
    have := twT_bd sm k
    have h := trn_sm (sm k) (sm ((k + 1) % v.length))
    rw [twT_succ]; omega
theorem twice_c (v : List Pt) (sm : ∀ i, SmP (gp v i)) (hn : v.length ≤ 64) : CtrA Try.prog 79 [pts v] (vi (twT v v.length)) := by
  refine ctrA _ Try.func79 rfl rfl Try.ntmps79 rfl fun w Z => ?_
  simp only [initT, List.map_cons, List.map_nil, Nat.zero_add, Nat.reduceAdd]
  refine cq_seq ?_
  refine cq_region ?_
  apply sq_g; exact g_assign (s := .av (.val (.int _ _))) rfl; exact rfl
  refine sq_nil ?_
  refine sq_then ?_
  refine cq_seq ?_
  refine cq_region ?_
  apply sq_g; exact g_assign (s := .av (.val (.int _ _))) rfl; exact rfl
  refine sq_nil ?_
  refine sq_then ?_
  refine cq_seq ?_
  refine cq_seq ?_
  refine cq_region ?_
  apply sq_g; exact g_assign (s := .av (.val (.int _ _))) rfl; exact rfl
  refine sq_nil ?_
  refine sq_then ?_
  refine cq_block ?_
  refine cq_loop (γ := Nat) (fun k => [(0, .av (pts v)), (3, .av (vi (twT v k))), (4, .av (vi k))]) (fun _ => []) (fun k => k ≤ v.length) (fun k => v.length - k) 0 (Nat.zero_le _) (ent ⟨.refl _, .refl _, .refl _, trivial⟩ trivial) ?_
  intro k hk
  refine cq_seq ?_
  refine cq_seq ?_
  refine cq_region ?_
  apply sq_g; exact g_move (s := .av (.val (.int _ _))) rfl; exact rfl
  apply sq_g; exact g_move (s := .av _) rfl; exact rfl
  apply sq_g; exact g_len rfl; exact rfl
  apply sq_g; exact g_cmp rfl rfl rfl; exact rfl
  refine sq_nil ?_
  refine sq_then ?_
  (refine cq_cond rfl (fun hb => ?_) (fun hb => ?_) <;> (try simp only [decide_eq_true_eq, decide_eq_false_iff_not, beq_iff_eq, beq_eq_false_iff_ne, bne_iff_ne, bne_eq_false_iff_eq, ne_eq, Bool.not_eq_true', Bool.not_eq_false', Bool.and_eq_true, Bool.or_eq_true, Bool.and_eq_false_iff, Bool.or_eq_false_iff] at hb) <;> (try (exfalso; omega)))
  · have hkl : k < v.length := by omega
    have r1 : 0 ≤ ((k : Int) + 1) % (v.length : Int) ∧ ((k : Int) + 1) % (v.length : Int) < (v.length : Int) := ⟨Int.emod_nonneg _ (by omega), Int.emod_lt_of_pos _ (by omega)⟩
    have m1 : (((k : Int) + 1) % (v.length : Int)).toNat = (k + 1) % v.length := modc k 1 v.length
    have b1 := twT_bd sm k
    have b2 := trn_sm (sm k) (sm ((k + 1) % v.length))
    have hs := twT_succ v k
    have c1 := turn_c (gp v k) (gp v (((k : Int) + 1) % (v.length : Int)).toNat) (sm _).bd (sm _).bd
    rw [← m1] at b2 hs
    refine cq_skip ?_
    refine sq_then ?_
    refine cq_seq ?_
    refine cq_block ?_
    refine cq_drawn ?_
    apply dq_g; exact g_move (s := .av (.val (.int _ _))) rfl; exact rfl
    apply dq_g; exact g_move (s := .av _) rfl; exact rfl
    apply dq_g; exact g_move (s := .av (.val (.int _ _))) rfl; exact rfl
    apply dq_g; exact g_index rfl rfl rfl (by omega); exact rfl
    apply dq_g; exact g_load_agg (us := [.int _ _, .int _ _]) rfl rfl rfl rfl; exact rfl
    apply dq_g; exact g_move (s := .av _) rfl; exact rfl
    apply dq_g; exact g_move (s := .av (.val (.int _ _))) rfl; exact rfl
    apply dq_g; exact g_arith rfl rfl rfl (by omega); exact rfl
    apply dq_g; exact g_move (s := .av _) rfl; exact rfl
    apply dq_g; exact g_len rfl; exact rfl
    apply dq_g; exact g_rem rfl rfl (by omega) (by omega); exact rfl
    apply dq_g; exact g_index rfl rfl (Int.toNat_of_nonneg (by omega)).symm (by omega); exact rfl
    apply dq_g; exact g_load_agg (us := [.int _ _, .int _ _]) rfl rfl rfl rfl; exact rfl
    apply dq_g; exact g_call (c1) rfl; exact rfl
    apply dq_g; exact g_arith rfl rfl rfl (by omega); exact rfl
    apply dq_g; exact g_assign (s := .av (.val (.int _ _))) rfl; exact rfl
    refine dq_nil tm (by kernel_rfl) ?_
    refine sq_then ?_
    refine cq_region ?_
    apply sq_g; exact g_move (s := .av (.val (.int _ _))) rfl; exact rfl
    apply sq_g; exact g_arith rfl rfl rfl (by omega); exact rfl
    apply sq_g; exact g_assign (s := .av (.val (.int _ _))) rfl; exact rfl
    refine sq_nil ?_
    exact sq_round (k + 1) (by omega) (by omega) (ent ⟨.refl _, .int (by omega), .int (by omega), trivial⟩ trivial)
  · have hkl : k = v.length := by omega
    subst hkl
    refine cq_exit ?_
    refine sq_then ?_
    refine cq_seq ?_
    refine cq_region ?_
    apply sq_g; exact g_move (s := .av (.val (.int _ _))) rfl; exact rfl
    apply sq_g; exact g_assign (s := .av (.val (.int _ _))) rfl; exact rfl
    refine sq_nil ?_
    refine sq_then ?_
    refine cq_ret ?_
    exact sq_res1 rfl (.tmp rfl) rfl
theorem chosen_c (l : List Pt) (v : List Nat) (hv : ∀ k, k < v.length → gi v k < l.length) (hn : v.length ≤ 1000) : CtrR Try.prog 80 [pts l, idx v] 24 2 (pick l v).length (pf (pick l v)) [] := by
  refine ctrR _ Try.func80 rfl rfl Try.ntmps80 rfl fun w Z => ?_
  simp only [initT, List.map_cons, List.map_nil, Nat.zero_add, Nat.reduceAdd]
  refine cq_seq ?_
  refine cq_region ?_
  apply sq_g; exact g_assign (s := .av _) rfl; exact rfl
  refine sq_nil ?_
  refine sq_then ?_
  refine cq_seq ?_
  refine cq_region ?_
  apply sq_g; exact g_assign (s := .av _) rfl; exact rfl
  refine sq_nil ?_
  refine sq_then ?_
  refine cq_seq ?_
  refine cq_seq ?_
  refine cq_region ?_
  apply sq_g; exact g_assign (s := .av (.val (.int _ _))) rfl; exact rfl
  refine sq_nil ?_
  refine sq_then ?_
  refine cq_block ?_
  refine cq_loop (γ := Nat) (fun k => [(0, .av (pts l)), (1, .av (idx v)), (5, .osl 2), (6, .av (vi k))]) (fun k => [(2, .row 24 2 (pick l (v.take k)).length (pf (pick l (v.take k))))]) (fun k => k ≤ v.length) (fun k => v.length - k) 0 (Nat.zero_le _) ((ent_row (dd := 5) 2 24 2 (pf []) rfl rfl).trans (ent ⟨.refl _, .refl _, .refl _, .refl _, trivial⟩ ⟨⟨_, rfl, .refl _⟩, trivial⟩)) ?_
  intro k hk
  have hpl : (pick l (v.take k)).length ≤ 1000 := by rw [pick_len]; simp; omega
  refine cq_seq ?_
  refine cq_seq ?_
  refine cq_region ?_
  apply sq_g; exact g_move (s := .av (.val (.int _ _))) rfl; exact rfl
  apply sq_g; exact g_move (s := .av _) rfl; exact rfl
  apply sq_g; exact g_len rfl; exact rfl
  apply sq_g; exact g_cmp rfl rfl rfl; exact rfl
  refine sq_nil ?_
  refine sq_then ?_
  (refine cq_cond rfl (fun hb => ?_) (fun hb => ?_) <;> (try simp only [decide_eq_true_eq, decide_eq_false_iff_not, beq_iff_eq, beq_eq_false_iff_ne, bne_iff_ne, bne_eq_false_iff_eq, ne_eq, Bool.not_eq_true', Bool.not_eq_false', Bool.and_eq_true, Bool.or_eq_true, Bool.and_eq_false_iff, Bool.or_eq_false_iff] at hb) <;> (try (exfalso; omega)))
  · have hkl : k < v.length := by omega
    have hg := hv k hkl
    refine cq_skip ?_
    refine sq_then ?_
    refine cq_seq ?_
    refine cq_block ?_
    refine cq_region ?_
    apply sq_g; exact g_move (s := .osl _) rfl; exact rfl
    apply sq_g; exact g_move (s := .av _) rfl; exact rfl
    apply sq_g; exact g_move (s := .av _) rfl; exact rfl
    apply sq_g; exact g_move (s := .av (.val (.int _ _))) rfl; exact rfl
    apply sq_g; exact g_index rfl rfl rfl (by omega); exact rfl
    apply sq_g; exact g_load (τ := .val (.int _ _)) rfl rfl rfl; exact rfl
    apply sq_g; exact g_index rfl rfl rfl (by omega); exact rfl
    apply sq_g; exact g_load_agg (us := [.int _ _, .int _ _]) rfl rfl rfl rfl; exact rfl
    apply sq_g; exact g_one_pt (tq22 _ _) rfl; exact rfl
    refine sq_v (v_push_pt rfl rfl rfl (by omega) rfl) rfl ?_
    apply sq_g; exact g_assign (s := .osl _) rfl; exact rfl
    refine sq_nil ?_
    refine sq_then ?_
    refine cq_region ?_
    apply sq_g; exact g_move (s := .av (.val (.int _ _))) rfl; exact rfl
    apply sq_g; exact g_arith rfl rfl rfl (by omega); exact rfl
    apply sq_g; exact g_assign (s := .av (.val (.int _ _))) rfl; exact rfl
    refine sq_nil ?_
    exact sq_round (k + 1) (by omega) (by omega) (ent ⟨.refl _, .refl _, .refl _, .int (by omega), trivial⟩ ⟨⟨_, rfl, by rw [pick_snoc l v hkl]; exact .refl _⟩, trivial⟩)
  · have : k = v.length := by omega
    subst this
    rw [List.take_length]
    refine cq_exit ?_
    refine sq_then ?_
    refine cq_seq ?_
    refine cq_region ?_
    apply sq_g; exact g_move (s := .osl _) rfl; exact rfl
    apply sq_g; exact g_assign (s := .osl _) rfl; exact rfl
    refine sq_nil ?_
    refine sq_then ?_
    refine cq_ret ?_
    exact sq_retR rfl rfl rfl rfl (fun _ _ _ _ => rfl)
theorem pick_sm {l : List Pt} (sm : ∀ i, SmP (gp l i)) (v : List Nat) : ∀ i, SmP (gp (pick l v) i) := by
  refine all_gp (q := SmP) (fun p hp => ?_) SmP_d
  simp only [pick, List.mem_map] at hp
  obtain ⟨i, _, rfl⟩ := hp
  exact sm i
def arN (l : List Pt) : Int := if chk l = 0 then twT (pick l (arr l)) (arr l).length else 0
theorem rarea_c (l : List Pt) (hs : Sml l) : CtrA Try.prog 47 [pts l] (tupOf [vi (arN l), vi (chk l)]) := by
  refine ctrA _ Try.func47 rfl rfl Try.ntmps47 rfl fun w Z => ?_
  simp only [initT, List.map_cons, List.map_nil, Nat.zero_add, Nat.reduceAdd]
  refine cq_seq ?_
  refine cq_region ?_
  apply sq_g; exact g_assign (s := .av (.val (.int _ _))) rfl; exact rfl
  apply sq_g; exact g_assign (s := .av (.val (.int _ _))) rfl; exact rfl
  refine sq_nil ?_
  refine sq_then ?_
  refine cq_seq ?_
  refine cq_seq ?_
  refine cq_region ?_
  apply sq_g; exact g_move (s := .av _) rfl; exact rfl
  apply sq_g; exact g_call (rcheck_c l) rfl; exact rfl
  apply sq_g; exact g_assign (s := .av (.val (.int _ _))) rfl; exact rfl
  refine sq_nil ?_
  refine sq_then ?_
  refine cq_seq ?_
  refine cq_region ?_
  apply sq_g; exact g_move (s := .av (.val (.int _ _))) rfl; exact rfl
  apply sq_g; exact g_cmp rfl rfl rfl; exact rfl
  refine sq_nil ?_
  refine sq_then ?_
  (refine cq_cond rfl (fun hb => ?_) (fun hb => ?_) <;> (try simp only [decide_eq_true_eq, decide_eq_false_iff_not, beq_iff_eq, beq_eq_false_iff_ne, bne_iff_ne, bne_eq_false_iff_eq, ne_eq, Bool.not_eq_true', Bool.not_eq_false', Bool.and_eq_true, Bool.or_eq_true, Bool.and_eq_false_iff, Bool.or_eq_false_iff] at hb) <;> (try (exfalso; omega)))
  · have e1 : arN l = 0 := by simp [arN, hb]
    refine cq_seq ?_
    refine cq_region ?_
    apply sq_g; exact g_move (s := .av (.val (.int _ _))) rfl; exact rfl
    apply sq_g; exact g_assign (s := .av (.val (.int _ _))) rfl; exact rfl
    apply sq_g; exact g_assign (s := .av (.val (.int _ _))) rfl; exact rfl
    refine sq_nil ?_
    refine sq_then ?_
    refine cq_ret ?_
    refine sq_then_ret ?_
    exact sq_resN (rvs := [_, _]) (τs := [_, _]) rfl rfl ⟨.tmp rfl, .tmp rfl, trivial⟩ (by rw [e1])
  · have hc : chk l = 0 := by simpa using hb
    obtain ⟨q1, q2, q3⟩ := hs hc
    refine cq_skip ?_
    refine sq_then ?_
    refine cq_seq ?_
    refine cq_seq ?_
    refine cq_region ?_
    apply sq_g; exact g_move (s := .av _) rfl; exact rfl
    apply sq_g; exact g_len rfl; exact rfl
    apply sq_g; exact g_cmp rfl rfl rfl; exact rfl
    refine sq_nil ?_
    refine sq_then ?_
    (refine cq_cond rfl (fun hb => ?_) (fun hb => ?_) <;> (try simp only [decide_eq_true_eq, decide_eq_false_iff_not, beq_iff_eq, beq_eq_false_iff_ne, bne_iff_ne, bne_eq_false_iff_eq, ne_eq, Bool.not_eq_true', Bool.not_eq_false', Bool.and_eq_true, Bool.or_eq_true, Bool.and_eq_false_iff, Bool.or_eq_false_iff] at hb) <;> (try (exfalso; omega)))
    · have e1 : arN l = 0 := by
        have : l = [] := List.length_eq_zero_iff.1 (by omega)
        subst this; decide
      refine cq_seq ?_
      refine cq_region ?_
      apply sq_g; exact g_assign (s := .av (.val (.int _ _))) rfl; exact rfl
      apply sq_g; exact g_assign (s := .av (.val (.int _ _))) rfl; exact rfl
      refine sq_nil ?_
      refine sq_then ?_
      refine cq_ret ?_
      refine sq_then_ret ?_
      exact sq_resN (rvs := [_, _]) (τs := [_, _]) rfl rfl ⟨.tmp rfl, .tmp rfl, trivial⟩ (by rw [e1, hc])
    · have ha := raround_c l (arr l) (chk_sm hc) (by omega) (hull_ok hc (by omega))
      have e1 : arN l = twT (pick l (arr l)) (pick l (arr l)).length := by simp [arN, hc, pick_len]
      have c1 := (chosen_c l (arr l) q3 (by omega)).ro
      have c2 := twice_c (pick l (arr l)) (pick_sm (chk_sm hc) _) (by rw [pick_len]; omega)
      refine cq_skip ?_
      refine sq_then ?_
      refine cq_seq ?_
      refine cq_region ?_
      apply sq_g; exact g_move (s := .av _) rfl; exact rfl
      apply sq_g; exact g_move (s := .av _) rfl; exact rfl
      apply sq_g; exact g_call (ha) rfl; exact rfl
      apply sq_g; exact g_call (c1) rfl; exact rfl
      apply sq_g; exact g_call (c2) rfl; exact rfl
      apply sq_g; exact g_assign (s := .av (.val (.int _ _))) rfl; exact rfl
      apply sq_g; exact g_assign (s := .av (.val (.int _ _))) rfl; exact rfl
      refine sq_nil ?_
      refine sq_then ?_
      refine cq_ret ?_
      exact sq_resN (rvs := [_, _]) (τs := [_, _]) rfl rfl ⟨.tmp rfl, .tmp rfl, trivial⟩ (by rw [e1, hc])
end Go.Proofs.Ytacepcnbgacipaa
namespace Go.Proofs.Ytacepcnbgacipaa
open Go Go.Vc Go.RowKit
set_option maxHeartbeats 4000000
/-! KDQ -/
theorem to_c (a b : Pt) (h1 : SmP a) (h2 : SmP b) : CtrA Try.prog 113 [pp a, pp b] (pp (sub b a)) := by
  refine ctrA _ Try.func113 rfl rfl Try.ntmps113 rfl fun w Z => ?_
  simp only [initT, List.map_cons, List.map_nil, Nat.zero_add, Nat.reduceAdd]
  refine cq_seq ?_
  refine cq_region ?_
  apply sq_g; exact g_box_agg rfl; exact rfl
  apply sq_g; exact g_box_agg rfl; exact rfl
  refine sq_v (f_alloc 10 rfl) rfl ?_
  refine sq_nil ?_
  refine sq_then ?_
  refine cq_seq ?_
  refine cq_region ?_
  apply sq_g; exact g_field rfl; exact rfl
  apply sq_g; exact g_load (τ := .val (.int _ _)) rfl rfl rfl; exact rfl
  apply sq_g; exact g_field rfl; exact rfl
  apply sq_g; exact g_load (τ := .val (.int _ _)) rfl rfl rfl; exact rfl
  apply sq_g; exact g_arith rfl rfl rfl (by omega); exact rfl
  apply sq_g; exact g_field rfl; exact rfl
  apply sq_g; exact g_load (τ := .val (.int _ _)) rfl rfl rfl; exact rfl
  apply sq_g; exact g_field rfl; exact rfl
  apply sq_g; exact g_load (τ := .val (.int _ _)) rfl rfl rfl; exact rfl
  apply sq_g; exact g_arith rfl rfl rfl (by omega); exact rfl
  apply sq_g; exact  g_build (is := [0, 1]) (xs := [_, _]) (vs := [_, _]) (tb114 _ _) rfl rfl; exact rfl
  refine sq_s (g_store_agg rfl rfl rfl rfl rfl rfl) ?_
  refine sq_nil ?_
  refine sq_then ?_
  refine cq_ret ?_
  exact sq_res1 rfl (.agg (us := [_, _]) rfl rfl rfl rfl) rfl
theorem sm0 : SmP ⟨0, 0⟩ := by constructor <;> decide
theorem toward_c (p : Pt) (h : SmP p) : CtrA Try.prog 100 [pp p] (pp p) := by
  refine ctrA _ Try.func100 rfl rfl Try.ntmps100 rfl fun w Z => ?_
  have h0 : sub p ⟨0, 0⟩ = p := by cases p; simp [sub]
  have c1 := to_c ⟨0, 0⟩ p sm0 h
  rw [h0] at c1
  simp only [initT, List.map_cons, List.map_nil, Nat.zero_add, Nat.reduceAdd]
  refine cq_seq ?_
  refine cq_region ?_
  apply sq_g; exact g_box_agg rfl; exact rfl
  refine sq_v (f_alloc 10 rfl) rfl ?_
  refine sq_nil ?_
  refine sq_then ?_
  refine cq_seq ?_
  refine cq_region ?_
  apply sq_g; exact  g_build (is := []) (xs := []) (vs := []) tb24_0 rfl rfl; exact rfl
  apply sq_g; exact g_load_agg (us := [.int _ _, .int _ _]) rfl rfl rfl rfl; exact rfl
  apply sq_g; exact g_call (c1) rfl; exact rfl
  refine sq_s (g_store_agg rfl rfl rfl rfl rfl rfl) ?_
  refine sq_nil ?_
  refine sq_then ?_
  refine cq_ret ?_
  exact sq_res1 rfl (.agg (us := [_, _]) rfl rfl rfl rfl) rfl
theorem aturn_c (a b : Pt) (h1 : BdP a) (h2 : BdP b) : CtrA Try.prog 101 [pp a, pp b] (vi (trn a b)) := by
  refine ctrA _ Try.func101 rfl rfl Try.ntmps101 rfl fun w Z => ?_
  obtain ⟨p1, p2⟩ := h1
  obtain ⟨p3, p4⟩ := h2
  have q1 := mulB p1 p4
  have q2 := mulB p2 p3
  simp only [initT, List.map_cons, List.map_nil, Nat.zero_add, Nat.reduceAdd]
  refine cq_seq ?_
  refine cq_region ?_
  apply sq_g; exact g_box_agg rfl; exact rfl
  apply sq_g; exact g_box_agg rfl; exact rfl
  apply sq_g; exact g_assign (s := .av (.val (.int _ _))) rfl; exact rfl
  refine sq_nil ?_
  refine sq_then ?_
  refine cq_seq ?_
  refine cq_region ?_
  apply sq_g; exact g_field rfl; exact rfl
  apply sq_g; exact g_load (τ := .val (.int _ _)) rfl rfl rfl; exact rfl
  apply sq_g; exact g_field rfl; exact rfl
  apply sq_g; exact g_load (τ := .val (.int _ _)) rfl rfl rfl; exact rfl
  apply sq_g; exact g_arith rfl rfl rfl (by omega); exact rfl
  apply sq_g; exact g_field rfl; exact rfl
  apply sq_g; exact g_load (τ := .val (.int _ _)) rfl rfl rfl; exact rfl
  apply sq_g; exact g_field rfl; exact rfl
  apply sq_g; exact g_load (τ := .val (.int _ _)) rfl rfl rfl; exact rfl
  apply sq_g; exact g_arith rfl rfl rfl (by omega); exact rfl
  apply sq_g; exact g_arith rfl rfl rfl (by omega); exact rfl
  apply sq_g; exact g_assign (s := .av (.val (.int _ _))) rfl; exact rfl
  refine sq_nil ?_
  refine sq_then ?_
  refine cq_ret ?_
  exact sq_res1 rfl (.tmp rfl) rfl
def encE (a b : Pt) : List Value := [.agg #[.int .i64 a.x, .int .i64 a.y], .agg #[.int .i64 b.x, .int .i64 b.y]]
def nx (v : List Pt) (i : Nat) : Pt := gp v ((i + 1) % v.length)
def edT (v : List Pt) (i : Nat) : List (List Value) := (List.range i).map fun i => encE (gp v i) (nx v i)
theorem edT_succ (v : List Pt) (i : Nat) : edT v i ++ [encE (gp v i) (nx v i)] = edT v (i + 1) := by simp [edT, List.range_succ]
theorem edT_len (v : List Pt) (i : Nat) : (edT v i).length = i := by simp [edT]
theorem edT_take (v : List Pt) {i n : Nat} (h : i ≤ n) : edT v i = (edT v n).take i := by
  unfold edT; rw [← List.map_take, List.take_range, Nat.min_eq_left h]
abbrev Ved (x : List Value) : Prop := ∃ a b : Pt, SmP a ∧ SmP b ∧ x = encE a b
theorem edg_c (v : List Pt) (sm : ∀ i, SmP (gp v i)) (hn : v.length ≤ 64) : CtrI Try.prog 112 [.ptr 1 (fun _ => pts v)] Ved (edT v v.length) true := by
  refine ctrI _ Try.func112 rfl rfl Try.ntmps112 rfl fun l J Jx ZI b0 Y w Z S => ?_
  simp only [initT, List.map_cons, List.map_nil, Nat.zero_add, Nat.reduceAdd]
  refine cq_seq ?_
  refine cq_region ?_
  apply sq_g; exact g_load rfl rfl rfl; exact rfl
  apply sq_g; exact g_len rfl; exact rfl
  apply sq_g; exact g_move (s := .av (.val (.int _ _))) rfl; exact rfl
  refine sq_nil ?_
  refine sq_then ?_
  refine cq_block ?_
  refine cq_loopI Y (γ := Nat) (fun i => [(0, .av (yv l)), (1, .av (lp v)), (5, .av (pts v)), (6, .av (vi v.length)), (7, .av (vi i))]) (fun i => edT v i) (fun i => i ≤ v.length) (fun i => v.length - i) 0 S (Nat.zero_le _) (ent ⟨.refl _, .refl _, .refl _, .refl _, .refl _, trivial⟩ trivial) ?_
  intro i hi w Z S
  refine cq_seq ?_
  refine cq_region ?_
  apply sq_g; exact g_cmp rfl rfl rfl; exact rfl
  refine sq_nil ?_
  refine sq_then ?_
  refine cq_seq ?_
  (refine cq_cond rfl (fun hb => ?_) (fun hb => ?_) <;> (try simp only [decide_eq_true_eq, decide_eq_false_iff_not, beq_iff_eq, beq_eq_false_iff_ne, bne_iff_ne, bne_eq_false_iff_eq, ne_eq, Bool.not_eq_true', Bool.not_eq_false', Bool.and_eq_true, Bool.or_eq_true, Bool.and_eq_false_iff, Bool.or_eq_false_iff] at hb) <;> (try (exfalso; omega)))
  · have hil : i < v.length := by omega
    have r1 : 0 ≤ ((i : Int) + 1) % (v.length : Int) ∧ ((i : Int) + 1) % (v.length : Int) < (v.length : Int) := ⟨Int.emod_nonneg _ (by omega), Int.emod_lt_of_pos _ (by omega)⟩
    have m1 : (((i : Int) + 1) % (v.length : Int)).toNat = (i + 1) % v.length := modc i 1 v.length
    refine cq_skip ?_
    refine sq_then ?_
    refine cq_seq ?_
    refine cq_block ?_
    refine cq_seq ?_
    refine cq_region ?_
    apply sq_g; exact g_move (s := .av (.val (.int _ _))) rfl; exact rfl
    apply sq_g; exact g_index rfl rfl rfl (by omega); exact rfl
    apply sq_g; exact g_load_agg (us := [.int _ _, .int _ _]) rfl rfl rfl rfl; exact rfl
    refine sq_v (f_alloc 10 rfl) rfl ?_
    apply sq_g; exact g_assign (s := .av (.val (.int _ _))) rfl; exact rfl
    refine sq_s (g_store_agg rfl rfl rfl rfl rfl rfl) ?_
    refine sq_nil ?_
    refine sq_then ?_
    refine cq_seq ?_
    refine cq_drawn ?_
    apply dq_g; exact g_move (s := .av _) rfl; exact rfl
    apply dq_g; exact g_load_own_agg (us := [.int _ _, .int _ _]) rfl rfl rfl rfl; exact rfl
    apply dq_g; exact g_load rfl rfl rfl; exact rfl
    apply dq_g; exact g_move (s := .av (.val (.int _ _))) rfl; exact rfl
    apply dq_g; exact g_arith rfl rfl rfl (by omega); exact rfl
    apply dq_g; exact g_load rfl rfl rfl; exact rfl
    apply dq_g; exact g_len rfl; exact rfl
    apply dq_g; exact g_rem rfl rfl (by omega) (by omega); exact rfl
    apply dq_g; exact g_index rfl rfl (Int.toNat_of_nonneg (by omega)).symm (by omega); exact rfl
    apply dq_g; exact g_load_agg (us := [.int _ _, .int _ _]) rfl rfl rfl rfl; exact rfl
    have hx : gp v (((i : Int) + 1) % (v.length : Int)).toNat = nx v i := by rw [m1]; rfl
    refine dq_tail tm rfl ?_
    refine lsq_more ent_drop ?_
    refine sq_yield Y S (encE (gp v i) (nx v i)) ⟨_, _, sm _, sm _, rfl⟩ (by rw [edT_len, edT_len]; exact hil) rfl (by rw [← hx]; rfl) rfl (fun w' Z' S' => ?_) (fun w' hx T' hT' => ?_)
    · rw [edT_succ] at S'
      apply sq_g; exact g_not rfl; exact rfl
      refine sq_nil ?_
      refine sq_then ?_
      refine cq_cond_f rfl ?_
      refine cq_skip ?_
      refine sq_then ?_
      refine cq_region ?_
      apply sq_g; exact g_arith rfl rfl rfl (by omega); exact rfl
      apply sq_g; exact g_move (s := .av (.val (.int _ _))) rfl; exact rfl
      refine sq_nil ?_
      exact sq_roundI Y (g := i) (i + 1) S' (by omega) (by omega) (ent ⟨.refl _, .refl _, .refl _, .refl _, .int (by omega), trivial⟩ trivial)
    · dsimp only [valsT] at hT'
      subst hT'
      rw [edT_succ, edT_take v (show i + 1 ≤ v.length by omega)] at hx
      apply sq_g; exact g_not rfl; exact rfl
      refine sq_nil ?_
      refine sq_then ?_
      refine cq_cond_t rfl ?_
      refine cq_ret ?_
      refine sq_inBlock_ret ?_
      refine sq_then_ret ?_
      refine sq_then_ret ?_
      refine sq_inBlock_ret ?_
      exact sq_retIx Y rfl _ (by rw [edT_len]; exact hil) hx
  · have hil : i = v.length := by omega
    subst hil
    refine cq_exit ?_
    refine sq_then_exit ?_
    refine sq_then_exit ?_
    refine sq_inBlock_exit ?_
    exact sq_retI' Y rfl S
abbrev egl (v : List Pt) : AV := .clo 112 1 (fun i => [lp v].getD i .any)
theorem edges_c (v : List Pt) : CtrA Try.prog 99 [pts v] (egl v) := by
  refine ctrA _ Try.func99 rfl rfl Try.ntmps99 rfl fun w Z => ?_
  simp only [initT, List.map_cons, List.map_nil, Nat.zero_add, Nat.reduceAdd]
  refine cq_seq ?_
  refine cq_region ?_
  apply sq_g; exact g_box rfl rfl; exact rfl
  apply sq_g; exact g_assign (s := .av _) rfl; exact rfl
  refine sq_nil ?_
  refine sq_then ?_
  refine cq_seq ?_
  refine cq_region ?_
  apply sq_g; exact g_makeFunc (τs := [_]) rfl; exact rfl
  apply sq_g; exact g_assign (s := .av _) rfl; exact rfl
  refine sq_nil ?_
  refine sq_then ?_
  refine cq_ret ?_
  exact sq_res1 rfl (.tmp rfl) rfl
end Go.Proofs.Ytacepcnbgacipaa
namespace Go.Proofs.Ytacepcnbgacipaa
open Go Go.Vc Go.RowKit
set_option maxHeartbeats 4000000
/-! KDQ -/
def decA (x : List Value) : Pt := match x with | [.agg cs, _] => ⟨iV (cs.getD 0 undef), iV (cs.getD 1 undef)⟩ | _ => ⟨0, 0⟩
def decB (x : List Value) : Pt := match x with | [_, .agg cs] => ⟨iV (cs.getD 0 undef), iV (cs.getD 1 undef)⟩ | _ => ⟨0, 0⟩
theorem decA_enc (a b : Pt) : decA (encE a b) = a := rfl
theorem decB_enc (a b : Pt) : decB (encE a b) = b := rfl
def smP (pre : List (List Value)) : Int := pre.foldl (fun s x => s + trn (decA x) (decB x)) 0
theorem smP_app (pre : List (List Value)) (a b : Pt) : smP (pre ++ [encE a b]) = smP pre + trn a b := by simp [smP, decA_enc, decB_enc]
theorem smP_ed (v : List Pt) : ∀ n, smP (edT v n) = twT v n
  | 0 => rfl
  | n + 1 => by rw [← edT_succ, smP_app, smP_ed v n, twT_succ]; rfl
theorem varea_c (v : List Pt) (sm : ∀ i, SmP (gp v i)) (hn : v.length ≤ 64) (hc : chk v = 0) : CtrA Try.prog 78 [pts v] (tupOf [vi (twT v v.length), vi 0]) := by
  refine ctrAM _ Try.func78 rfl rfl Try.ntmps78 rfl fun w Z => ?_
  have hck := check_c v
  rw [hc] at hck
  simp only [initT, List.map_cons, List.map_nil, Nat.zero_add, Nat.reduceAdd]
  refine cq_seq ?_
  refine cq_region ?_
  apply sq_g; exact g_assign (s := .av (.val (.int _ _))) rfl; exact rfl
  apply sq_g; exact g_assign (s := .av (.val (.int _ _))) rfl; exact rfl
  refine sq_nil ?_
  refine sq_then ?_
  refine cq_seq ?_
  refine cq_seq ?_
  refine cq_region ?_
  apply sq_g; exact g_move (s := .av _) rfl; exact rfl
  apply sq_g; exact g_call (hck) rfl; exact rfl
  apply sq_g; exact g_assign (s := .av (.val (.int _ _))) rfl; exact rfl
  refine sq_nil ?_
  refine sq_then ?_
  refine cq_seq ?_
  refine cq_region ?_
  apply sq_g; exact g_move (s := .av (.val (.int _ _))) rfl; exact rfl
  apply sq_g; exact g_cmp rfl rfl rfl; exact rfl
  refine sq_nil ?_
  refine sq_then ?_
  refine cq_cond_f rfl ?_
  refine cq_skip ?_
  refine sq_then ?_
  refine cq_seq ?_
  refine cq_region ?_
  refine sq_v (f_alloc 10 rfl) rfl ?_
  refine sq_s (g_store' rfl rfl rfl rfl rfl rfl) ?_
  refine sq_nil ?_
  refine sq_then ?_
  refine cq_seq ?_
  refine cq_seq ?_
  refine cq_region ?_
  apply sq_g; exact g_move (s := .av _) rfl; exact rfl
  apply sq_g; exact g_call (edges_c v) rfl; exact rfl
  refine sq_nil ?_
  refine sq_then ?_
  refine cq_block ?_
  refine cq_range (own := true) (V := Ved) (xs := edT v v.length) rfl (edg_c v sm hn) [6, 7, 15, 16, 17, 18, 19, 20, 21, 22, 23] [(5, .own 10 0), (14, .av (egl v))] (fun pre => [(10, .cells [.av (vi (smP pre))])])
    (fun pre => -(200000000000 * (pre.length : Int)) ≤ smP pre ∧ smP pre ≤ 200000000000 * (pre.length : Int)) (fun pre _ => [(10, .cells [.av (vi (smP pre))])]) (fun _ _ => False)
    (fun x => [(6, .av (bp (decA x))), (7, .av (bp (decB x)))]) (ent ⟨.refl _, .refl _, trivial⟩ ⟨⟨_, rfl, .refl _⟩, trivial⟩) (by simp [smP]) rfl rfl rfl (by simp) (fun x ⟨a, b, _, _, e⟩ => by rw [e]; rfl) (fun x => rfl) (fun x => rfl) (fun _ pre => ⟨rfl, fun r => by cases h : Nat.beq 10 r <;> simp [Go.Vc.look, h]⟩) (fun h => by cases h) ?_ ?_ ?_ ?_
  · rintro l a0 w0 Z0 keep pre x ⟨a, b, ha, hb, rfl⟩ hφ
    simp only [psT, encE, List.cons_append, List.nil_append, Array.toList]
    refine cq_seq ?_
    refine cq_region ?_
    refine sq_v (f_alloc 11 rfl) rfl ?_
    refine sq_s (g_store_agg rfl rfl rfl rfl rfl rfl) ?_
    refine sq_nil ?_
    refine sq_then ?_
    refine cq_region ?_
    refine sq_v (f_alloc 12 rfl) rfl ?_
    refine sq_s (g_store_agg rfl rfl rfl rfl rfl rfl) ?_
    refine sq_nil ?_
    exact sq_ass ((ent_freezec 6 11 (fun k => .val ([Go.Value.int .i64 a.x, .int .i64 a.y].getD k Go.undef)) rfl rfl rfl).trans ((ent_freezec 7 12 (fun k => .val ([Go.Value.int .i64 b.x, .int .i64 b.y].getD k Go.undef)) rfl rfl rfl).trans (ent ⟨.refl _, .refl _, .refl _, .refl _, trivial⟩ ⟨⟨_, rfl, .refl _⟩, trivial⟩)))
  · rintro l a0 w0 Z0 keep pre x ⟨a, b, ha, hb, rfl⟩ hφ hlen
    have b1 := trn_sm ha hb
    have hs := smP_app pre a b
    rw [edT_len] at hlen
    simp only [List.cons_append, List.nil_append, decA_enc, decB_enc]
    refine cq_block ?_
    refine cq_drawn ?_
    apply dq_g; exact g_load_own (s := .av (.val (.int _ _))) rfl rfl rfl; exact rfl
    apply dq_g; exact g_load_agg (us := [.int _ _, .int _ _]) rfl rfl rfl rfl; exact rfl
    apply dq_g; exact g_call (toward_c a ha) rfl; exact rfl
    apply dq_g; exact g_load_agg (us := [.int _ _, .int _ _]) rfl rfl rfl rfl; exact rfl
    apply dq_g; exact g_call (toward_c b hb) rfl; exact rfl
    apply dq_g; exact g_call (aturn_c a b ha.bd hb.bd) rfl; exact rfl
    apply dq_g; exact g_arith rfl rfl rfl (by omega); exact rfl
    refine dq_s (g_store' rfl rfl rfl rfl rfl rfl) ?_
    refine dq_nil tm (by kernel_rfl) ?_
    refine sq_inBlock ?_
    exact sq_rnd (by rw [hs]; simp; omega) (ent ⟨.refl _, .refl _, trivial⟩ ⟨⟨_, rfl, by rw [hs]; exact .refl _⟩, trivial⟩)
  · intro D w2 hA hφ
    refine sq_then ?_
    refine cq_seq ?_
    refine cq_region ?_
    apply sq_g; exact g_load_own (s := .av (.val (.int _ _))) rfl rfl rfl; exact rfl
    apply sq_g; exact g_assign (s := .av (.val (.int _ _))) rfl; exact rfl
    apply sq_g; exact g_assign (s := .av (.val (.int _ _))) rfl; exact rfl
    refine sq_nil ?_
    refine sq_then ?_
    refine cq_ret ?_
    refine sq_after hA (sq_resN (rvs := [_, _]) (τs := [vi (smP (edT v v.length)), vi 0]) rfl rfl ⟨.tmp rfl, .tmp rfl, trivial⟩ (by rw [smP_ed]))
  · rintro D w2 k c hA hk h
    exact h.elim
end Go.Proofs.Ytacepcnbgacipaa
namespace Go.Proofs.Ytacepcnbgacipaa
open Go Go.Vc Go.RowKit
set_option maxHeartbeats 4000000
/-! KDQ -/
theorem chk_pick {l : List Pt} {v : List Nat} (hc : chk l = 0) (hn : v.length ≤ 64) (hv : ∀ k, k < v.length → gi v k < l.length) : chk (pick l v) = 0 := by
  unfold chk at *
  rw [pick_len, if_neg (by omega)]
  have hall : l.all rightB = true := by
    split at hc
    · cases hc
    · split at hc
      · assumption
      · cases hc
  rw [if_pos]
  rw [List.all_eq_true] at hall ⊢
  intro p hp
  simp only [pick, List.mem_map] at hp
  obtain ⟨i, hi, rfl⟩ := hp
  obtain ⟨k, hk, e⟩ := List.getElem_of_mem hi
  have := hv k hk
  rw [gi_eq hk, e] at this
  exact hall _ (gp_mem this)
theorem harea_c (l : List Pt) (hs : Sml l) : CtrA Try.prog 46 [pts l] (tupOf [vi (arN l), vi (chk l)]) := by
  refine ctrA _ Try.func46 rfl rfl Try.ntmps46 rfl fun w Z => ?_
  simp only [initT, List.map_cons, List.map_nil, Nat.zero_add, Nat.reduceAdd]
  refine cq_seq ?_
  refine cq_region ?_
  apply sq_g; exact g_assign (s := .av (.val (.int _ _))) rfl; exact rfl
  apply sq_g; exact g_assign (s := .av (.val (.int _ _))) rfl; exact rfl
  refine sq_nil ?_
  refine sq_then ?_
  refine cq_seq ?_
  refine cq_seq ?_
  refine cq_region ?_
  apply sq_g; exact g_move (s := .av _) rfl; exact rfl
  apply sq_g; exact g_call (check_c l) rfl; exact rfl
  apply sq_g; exact g_assign (s := .av (.val (.int _ _))) rfl; exact rfl
  refine sq_nil ?_
  refine sq_then ?_
  refine cq_seq ?_
  refine cq_region ?_
  apply sq_g; exact g_move (s := .av (.val (.int _ _))) rfl; exact rfl
  apply sq_g; exact g_cmp rfl rfl rfl; exact rfl
  refine sq_nil ?_
  refine sq_then ?_
  (refine cq_cond rfl (fun hb => ?_) (fun hb => ?_) <;> (try simp only [decide_eq_true_eq, decide_eq_false_iff_not, beq_iff_eq, beq_eq_false_iff_ne, bne_iff_ne, bne_eq_false_iff_eq, ne_eq, Bool.not_eq_true', Bool.not_eq_false', Bool.and_eq_true, Bool.or_eq_true, Bool.and_eq_false_iff, Bool.or_eq_false_iff] at hb) <;> (try (exfalso; omega)))
  · have e1 : arN l = 0 := by simp [arN, hb]
    refine cq_seq ?_
    refine cq_region ?_
    apply sq_g; exact g_move (s := .av (.val (.int _ _))) rfl; exact rfl
    apply sq_g; exact g_assign (s := .av (.val (.int _ _))) rfl; exact rfl
    apply sq_g; exact g_assign (s := .av (.val (.int _ _))) rfl; exact rfl
    refine sq_nil ?_
    refine sq_then ?_
    refine cq_ret ?_
    refine sq_then_ret ?_
    exact sq_resN (rvs := [_, _]) (τs := [_, _]) rfl rfl ⟨.tmp rfl, .tmp rfl, trivial⟩ (by rw [e1])
  · have hc : chk l = 0 := by simpa using hb
    obtain ⟨q1, q2, q3⟩ := hs hc
    have e1 : arN l = twT (pick l (arr l)) (pick l (arr l)).length := by simp [arN, hc, pick_len]
    have ha := (around_c l q1).ro
    have c2 := varea_c (pick l (arr l)) (pick_sm (chk_sm hc) _) (by rw [pick_len]; omega) (chk_pick hc (by omega) q3)
    generalize arr l = v at *
    refine cq_skip ?_
    refine sq_then ?_
    refine cq_seq ?_
    refine cq_region ?_
    apply sq_g; exact g_assign (s := .av _) rfl; exact rfl
    refine sq_nil ?_
    refine sq_then ?_
    refine cq_seq ?_
    refine cq_seq ?_
    refine cq_region ?_
    apply sq_g; exact g_move (s := .av _) rfl; exact rfl
    apply sq_g; exact g_call (ha) rfl; exact rfl
    apply sq_g; exact g_len rfl; exact rfl
    apply sq_g; exact g_move (s := .av (.val (.int _ _))) rfl; exact rfl
    refine sq_nil ?_
    refine sq_then ?_
    refine cq_block ?_
    refine cq_loop (γ := Nat) (fun k => [(0, .av (pts l)), (5, .osl 2), (14, .av (idx v)), (15, .av (vi v.length)), (16, .av (vi k))]) (fun k => [(2, .row 24 2 (pick l (v.take k)).length (pf (pick l (v.take k))))]) (fun k => k ≤ v.length) (fun k => v.length - k) 0 (Nat.zero_le _) ((ent_row (dd := 5) 2 24 2 (pf []) rfl rfl).trans (ent ⟨.refl _, .refl _, .refl _, .refl _, .refl _, trivial⟩ ⟨⟨_, rfl, .refl _⟩, trivial⟩)) ?_
    intro k hk
    have hpl : (pick l (v.take k)).length ≤ 1000 := by rw [pick_len]; simp; omega
    refine cq_seq ?_
    refine cq_region ?_
    apply sq_g; exact g_cmp rfl rfl rfl; exact rfl
    refine sq_nil ?_
    refine sq_then ?_
    refine cq_seq ?_
    (refine cq_cond rfl (fun hb => ?_) (fun hb => ?_) <;> (try simp only [decide_eq_true_eq, decide_eq_false_iff_not, beq_iff_eq, beq_eq_false_iff_ne, bne_iff_ne, bne_eq_false_iff_eq, ne_eq, Bool.not_eq_true', Bool.not_eq_false', Bool.and_eq_true, Bool.or_eq_true, Bool.and_eq_false_iff, Bool.or_eq_false_iff] at hb) <;> (try (exfalso; omega)))
    · have hkl : k < v.length := by omega
      have hg := q3 k hkl
      refine cq_skip ?_
      refine sq_then ?_
      refine cq_seq ?_
      refine cq_block ?_
      refine cq_seq ?_
      refine cq_region ?_
      apply sq_g; exact g_index rfl rfl rfl (by omega); exact rfl
      apply sq_g; exact g_load (τ := .val (.int _ _)) rfl rfl rfl; exact rfl
      apply sq_g; exact g_assign (s := .av (.val (.int _ _))) rfl; exact rfl
      refine sq_nil ?_
      refine sq_then ?_
      refine cq_region ?_
      apply sq_g; exact g_move (s := .osl _) rfl; exact rfl
      apply sq_g; exact g_move (s := .av _) rfl; exact rfl
      apply sq_g; exact g_move (s := .av (.val (.int _ _))) rfl; exact rfl
      apply sq_g; exact g_index rfl rfl rfl (by omega); exact rfl
      apply sq_g; exact g_load_agg (us := [.int _ _, .int _ _]) rfl rfl rfl rfl; exact rfl
      apply sq_g; exact g_one_pt (tq22 _ _) rfl; exact rfl
      refine sq_v (v_push_pt rfl rfl rfl (by omega) rfl) rfl ?_
      apply sq_g; exact g_assign (s := .osl _) rfl; exact rfl
      refine sq_nil ?_
      refine sq_then ?_
      refine cq_region ?_
      apply sq_g; exact g_arith rfl rfl rfl (by omega); exact rfl
      apply sq_g; exact g_move (s := .av (.val (.int _ _))) rfl; exact rfl
      refine sq_nil ?_
      exact sq_round (k + 1) (by omega) (by omega) (ent ⟨.refl _, .refl _, .refl _, .refl _, .int (by omega), trivial⟩ ⟨⟨_, rfl, by rw [pick_snoc l v hkl]; exact .refl _⟩, trivial⟩)
    · have : k = v.length := by omega
      subst this
      rw [List.take_length]
      refine cq_exit ?_
      refine sq_then ?_
      refine cq_seq ?_
      refine cq_region ?_
      apply sq_g; exact g_move (s := .osl _) rfl; exact rfl
      refine lsq_more (ent_freeze 2 rfl) ?_
      apply sq_g; exact g_call (c2) rfl; exact rfl
      apply sq_g; exact g_extractT rfl rfl; exact rfl
      apply sq_g; exact g_extractT rfl rfl; exact rfl
      apply sq_g; exact g_assign (s := .av (.val (.int _ _))) rfl; exact rfl
      apply sq_g; exact g_assign (s := .av (.val (.int _ _))) rfl; exact rfl
      refine sq_nil ?_
      refine sq_then ?_
      refine cq_ret ?_
      refine sq_resN (rvs := [_, _]) (τs := [_, _]) rfl rfl ⟨.tmp rfl, .tmp rfl, trivial⟩ (by rw [e1, hc])
theorem rfart_c (l : List Pt) : CtrA Try.prog 45 [pts l] (tupOf [vi (farN l).1, prv (farN l), vi (errF l)]) := by
  refine ctrA _ Try.func45 rfl rfl Try.ntmps45 rfl fun w Z => ?_
  simp only [initT, List.map_cons, List.map_nil, Nat.zero_add, Nat.reduceAdd]
  refine cq_seq ?_
  refine cq_region ?_
  apply sq_g; exact g_assign (s := .av (.val (.int _ _))) rfl; exact rfl
  refine sq_v (f_alloc 10 rfl) rfl ?_
  apply sq_g; exact g_assign (s := .av (.val (.int _ _))) rfl; exact rfl
  refine sq_nil ?_
  refine sq_then ?_
  refine cq_seq ?_
  refine cq_seq ?_
  refine cq_region ?_
  apply sq_g; exact g_move (s := .av _) rfl; exact rfl
  apply sq_g; exact g_call (rcheck_c l) rfl; exact rfl
  apply sq_g; exact g_assign (s := .av (.val (.int _ _))) rfl; exact rfl
  refine sq_nil ?_
  refine sq_then ?_
  refine cq_seq ?_
  refine cq_region ?_
  apply sq_g; exact g_move (s := .av (.val (.int _ _))) rfl; exact rfl
  apply sq_g; exact g_cmp rfl rfl rfl; exact rfl
  refine sq_nil ?_
  refine sq_then ?_
  (refine cq_cond rfl (fun hb => ?_) (fun hb => ?_) <;> (try simp only [decide_eq_true_eq, decide_eq_false_iff_not, beq_iff_eq, beq_eq_false_iff_ne, bne_iff_ne, bne_eq_false_iff_eq, ne_eq, Bool.not_eq_true', Bool.not_eq_false', Bool.and_eq_true, Bool.or_eq_true, Bool.and_eq_false_iff, Bool.or_eq_false_iff] at hb) <;> (try (exfalso; omega)))
  · have e1 : errF l = chk l := by simp [errF, hb]
    have e2 : farN l = (0, 0, 0) := by simp [farN, e1, hb]
    refine cq_seq ?_
    refine cq_region ?_
    apply sq_g; exact  g_build (is := []) (xs := []) (vs := []) tb62_0 rfl rfl; exact rfl
    apply sq_g; exact g_move (s := .av (.val (.int _ _))) rfl; exact rfl
    apply sq_g; exact g_assign (s := .av (.val (.int _ _))) rfl; exact rfl
    refine sq_s (g_store_agg rfl rfl rfl rfl rfl rfl) ?_
    apply sq_g; exact g_assign (s := .av (.val (.int _ _))) rfl; exact rfl
    refine sq_nil ?_
    refine sq_then ?_
    refine cq_ret ?_
    refine sq_then_ret ?_
    exact sq_resN (rvs := [_, _, _]) (τs := [_, _, _]) rfl rfl ⟨.tmp rfl, .agg (us := [_, _]) rfl rfl rfl rfl, .tmp rfl, trivial⟩ (by rw [e1, e2]; rfl)
  · have hb' : chk l = 0 := by simpa using hb
    have sm := chk_sm hb'
    have hn := chk_len hb'
    refine cq_skip ?_
    refine sq_then ?_
    refine cq_seq ?_
    refine cq_seq ?_
    refine cq_region ?_
    apply sq_g; exact g_move (s := .av _) rfl; exact rfl
    apply sq_g; exact g_len rfl; exact rfl
    apply sq_g; exact g_cmp rfl rfl rfl; exact rfl
    refine sq_nil ?_
    refine sq_then ?_
    (refine cq_cond rfl (fun hb => ?_) (fun hb => ?_) <;> (try simp only [decide_eq_true_eq, decide_eq_false_iff_not, beq_iff_eq, beq_eq_false_iff_ne, bne_iff_ne, bne_eq_false_iff_eq, ne_eq, Bool.not_eq_true', Bool.not_eq_false', Bool.and_eq_true, Bool.or_eq_true, Bool.and_eq_false_iff, Bool.or_eq_false_iff] at hb) <;> (try (exfalso; omega)))
    · have e1 : errF l = 13 := by simp [errF, hb', show l.length < 2 by omega]
      have e2 : farN l = (0, 0, 0) := by simp [farN, e1]
      refine cq_seq ?_
      refine cq_region ?_
      apply sq_g; exact  g_build (is := []) (xs := []) (vs := []) tb62_0 rfl rfl; exact rfl
      apply sq_g; exact g_assign (s := .av (.val (.int _ _))) rfl; exact rfl
      refine sq_s (g_store_agg rfl rfl rfl rfl rfl rfl) ?_
      apply sq_g; exact g_assign (s := .av (.val (.int _ _))) rfl; exact rfl
      refine sq_nil ?_
      refine sq_then ?_
      refine cq_ret ?_
      refine sq_then_ret ?_
      exact sq_resN (rvs := [_, _, _]) (τs := [_, _, _]) rfl rfl ⟨.tmp rfl, .agg (us := [_, _]) rfl rfl rfl rfl, .tmp rfl, trivial⟩ (by rw [e1, e2]; rfl)
    · have e1 : errF l = 0 := by simp [errF, hb', show ¬ l.length < 2 by omega]
      have e2 : farN l = farTo l l.length := by simp [farN, e1]
      refine cq_skip ?_
      refine sq_then ?_
      refine cq_seq ?_
      refine cq_region ?_
      apply sq_g; exact  g_build (is := []) (xs := []) (vs := []) tb62_0 rfl rfl; exact rfl
      refine sq_v (f_alloc 11 rfl) rfl ?_
      apply sq_g; exact g_assign (s := .av (.val (.int _ _))) rfl; exact rfl
      refine sq_s (g_store_agg rfl rfl rfl rfl rfl rfl) ?_
      refine sq_nil ?_
      refine sq_then ?_
      refine cq_seq ?_
      refine cq_seq ?_
      refine cq_region ?_
      apply sq_g; exact g_assign (s := .av (.val (.int _ _))) rfl; exact rfl
      refine sq_nil ?_
      refine sq_then ?_
      refine cq_block ?_
      refine cq_loop (γ := Nat) (fun i => [(0, .av (pts l)), (3, .own 10 0), (6, .av (vi (farTo l i).1)), (7, .own 11 0), (8, .av (vi i))]) (fun i => [(10, .cells [.av (vi 0), .av (vi 0)]), (11, cpr (farTo l i))]) (fun i => i ≤ l.length) (fun i => l.length - i) 0 (Nat.zero_le _) (ent ⟨.refl _, .refl _, .refl _, .refl _, .refl _, trivial⟩ ⟨⟨_, rfl, .refl _⟩, ⟨_, rfl, .refl _⟩, trivial⟩) ?_
      intro i hi
      refine cq_seq ?_
      refine cq_seq ?_
      refine cq_region ?_
      apply sq_g; exact g_move (s := .av (.val (.int _ _))) rfl; exact rfl
      apply sq_g; exact g_move (s := .av _) rfl; exact rfl
      apply sq_g; exact g_len rfl; exact rfl
      apply sq_g; exact g_cmp rfl rfl rfl; exact rfl
      refine sq_nil ?_
      refine sq_then ?_
      (refine cq_cond rfl (fun hb => ?_) (fun hb => ?_) <;> (try simp only [decide_eq_true_eq, decide_eq_false_iff_not, beq_iff_eq, beq_eq_false_iff_ne, bne_iff_ne, bne_eq_false_iff_eq, ne_eq, Bool.not_eq_true', Bool.not_eq_false', Bool.and_eq_true, Bool.or_eq_true, Bool.and_eq_false_iff, Bool.or_eq_false_iff] at hb) <;> (try (exfalso; omega)))
      · have hil : i < l.length := by omega
        refine cq_skip ?_
        refine sq_then ?_
        refine cq_seq ?_
        refine cq_block ?_
        refine cq_seq ?_
        refine cq_region ?_
        apply sq_g; exact g_move (s := .av (.val (.int _ _))) rfl; exact rfl
        apply sq_g; exact g_arith rfl rfl rfl (by omega); exact rfl
        apply sq_g; exact g_assign (s := .av (.val (.int _ _))) rfl; exact rfl
        refine sq_nil ?_
        refine sq_then ?_
        refine cq_block ?_
        refine cq_loop (γ := Nat) (fun m => [(0, .av (pts l)), (3, .own 10 0), (6, .av (vi (farR l i (farTo l i) m).1)), (7, .own 11 0), (8, .av (vi i)), (9, .av (vi ((i + 1 + m : Nat) : Int)))]) (fun m => [(10, .cells [.av (vi 0), .av (vi 0)]), (11, cpr (farR l i (farTo l i) m))]) (fun m => m ≤ l.length - (i + 1)) (fun m => l.length - m) 0 (Nat.zero_le _) (ent ⟨.refl _, .refl _, .refl _, .refl _, .refl _, .int (by omega), trivial⟩ ⟨⟨_, rfl, .refl _⟩, ⟨_, rfl, .refl _⟩, trivial⟩) ?_
        intro m hm
        have hs := farR_succ l i (farTo l i) m
        refine cq_seq ?_
        refine cq_seq ?_
        refine cq_region ?_
        apply sq_g; exact g_move (s := .av (.val (.int _ _))) rfl; exact rfl
        apply sq_g; exact g_move (s := .av _) rfl; exact rfl
        apply sq_g; exact g_len rfl; exact rfl
        apply sq_g; exact g_cmp rfl rfl rfl; exact rfl
        refine sq_nil ?_
        refine sq_then ?_
        (refine cq_cond rfl (fun hb => ?_) (fun hb => ?_) <;> (try simp only [decide_eq_true_eq, decide_eq_false_iff_not, beq_iff_eq, beq_eq_false_iff_ne, bne_iff_ne, bne_eq_false_iff_eq, ne_eq, Bool.not_eq_true', Bool.not_eq_false', Bool.and_eq_true, Bool.or_eq_true, Bool.and_eq_false_iff, Bool.or_eq_false_iff] at hb) <;> (try (exfalso; omega)))
        · have hml : i + 1 + m < l.length := by omega
          refine cq_skip ?_
          refine sq_then ?_
          refine cq_seq ?_
          refine cq_block ?_
          refine cq_seq ?_
          refine cq_drawn ?_
          apply dq_g; exact g_move (s := .av _) rfl; exact rfl
          apply dq_g; exact g_move (s := .av (.val (.int _ _))) rfl; exact rfl
          apply dq_g; exact g_index rfl rfl rfl (by omega); exact rfl
          apply dq_g; exact g_load_agg (us := [.int _ _, .int _ _]) rfl rfl rfl rfl; exact rfl
          apply dq_g; exact g_move (s := .av _) rfl; exact rfl
          apply dq_g; exact g_move (s := .av (.val (.int _ _))) rfl; exact rfl
          apply dq_g; exact g_index rfl rfl rfl (by omega); exact rfl
          apply dq_g; exact g_load_agg (us := [.int _ _, .int _ _]) rfl rfl rfl rfl; exact rfl
          apply dq_g; exact g_call (far_c (gp l i) (gp l (i + 1 + m)) (sm _) (sm _)) rfl; exact rfl
          apply dq_g; exact g_assign (s := .av (.val (.int _ _))) rfl; exact rfl
          refine dq_nil tm (by kernel_rfl) ?_
          refine sq_then ?_
          refine cq_seq ?_
          refine cq_region ?_
          apply sq_g; exact g_move (s := .av (.val (.int _ _))) rfl; exact rfl
          apply sq_g; exact g_move (s := .av (.val (.int _ _))) rfl; exact rfl
          apply sq_g; exact g_cmp rfl rfl rfl; exact rfl
          refine sq_nil ?_
          refine sq_then ?_
          (refine cq_cond rfl (fun hb => ?_) (fun hb => ?_) <;> (try simp only [decide_eq_true_eq, decide_eq_false_iff_not, beq_iff_eq, beq_eq_false_iff_ne, bne_iff_ne, bne_eq_false_iff_eq, ne_eq, Bool.not_eq_true', Bool.not_eq_false', Bool.and_eq_true, Bool.or_eq_true, Bool.and_eq_false_iff, Bool.or_eq_false_iff] at hb) <;> (try (exfalso; omega)))
          · have e3 : farR l i (farTo l i) (m + 1) = (far (gp l i) (gp l (i + 1 + m)), i, i + 1 + m) := by rw [hs, farS, if_pos (by omega)]
            refine cq_region ?_
            apply sq_g; exact g_move (s := .av (.val (.int _ _))) rfl; exact rfl
            apply sq_g; exact g_move (s := .av (.val (.int _ _))) rfl; exact rfl
            apply sq_g; exact g_move (s := .av (.val (.int _ _))) rfl; exact rfl
            apply sq_g; exact g_build (is := [0, 1]) (xs := [_, _]) (vs := [_, _]) (tb62 _ _) rfl rfl; exact rfl
            apply sq_g; exact g_assign (s := .av (.val (.int _ _))) rfl; exact rfl
            refine sq_s (g_store_agg rfl rfl rfl rfl rfl rfl) ?_
            refine sq_nil ?_
            refine sq_then ?_
            refine cq_region ?_
            apply sq_g; exact g_move (s := .av (.val (.int _ _))) rfl; exact rfl
            apply sq_g; exact g_arith rfl rfl rfl (by omega); exact rfl
            apply sq_g; exact g_assign (s := .av (.val (.int _ _))) rfl; exact rfl
            refine sq_nil ?_
            exact sq_round (m + 1) (by omega) (by omega) (ent ⟨.refl _, .refl _, .int (by rw [e3]), .refl _, .refl _, .int (by omega), trivial⟩ ⟨⟨_, rfl, .refl _⟩, ⟨_, rfl, by rw [e3]; exact .refl _⟩, trivial⟩)
          · have e3 : farR l i (farTo l i) (m + 1) = farR l i (farTo l i) m := by rw [hs, farS, if_neg (by omega)]
            refine cq_skip ?_
            refine sq_then ?_
            refine cq_region ?_
            apply sq_g; exact g_move (s := .av (.val (.int _ _))) rfl; exact rfl
            apply sq_g; exact g_arith rfl rfl rfl (by omega); exact rfl
            apply sq_g; exact g_assign (s := .av (.val (.int _ _))) rfl; exact rfl
            refine sq_nil ?_
            exact sq_round (m + 1) (by omega) (by omega) (ent ⟨.refl _, .refl _, .int (by rw [e3]), .refl _, .refl _, .int (by omega), trivial⟩ ⟨⟨_, rfl, .refl _⟩, ⟨_, rfl, by rw [e3]; exact .refl _⟩, trivial⟩)
        · have hme : m = l.length - (i + 1) := by omega
          have e3 : farTo l (i + 1) = farR l i (farTo l i) m := by rw [farTo_succ, ← hme]
          refine cq_exit ?_
          refine sq_then ?_
          refine cq_region ?_
          apply sq_g; exact g_move (s := .av (.val (.int _ _))) rfl; exact rfl
          apply sq_g; exact g_arith rfl rfl rfl (by omega); exact rfl
          apply sq_g; exact g_assign (s := .av (.val (.int _ _))) rfl; exact rfl
          refine sq_nil ?_
          exact sq_round (i + 1) (by omega) (by omega) (ent ⟨.refl _, .refl _, .int (by rw [e3]), .refl _, .int (by omega), trivial⟩ ⟨⟨_, rfl, .refl _⟩, ⟨_, rfl, by rw [e3]; exact .refl _⟩, trivial⟩)
      · have hie : i = l.length := by omega
        subst hie
        refine cq_exit ?_
        refine sq_then ?_
        refine cq_seq ?_
        refine cq_drawn ?_
        apply dq_g; exact g_move (s := .av (.val (.int _ _))) rfl; exact rfl
        apply dq_g; exact g_load_own_agg (us := [.int _ _, .int _ _]) rfl rfl rfl rfl; exact rfl
        apply dq_g; exact g_assign (s := .av (.val (.int _ _))) rfl; exact rfl
        refine dq_s (g_store_agg rfl rfl rfl rfl rfl rfl) ?_
        apply dq_g; exact g_assign (s := .av (.val (.int _ _))) rfl; exact rfl
        refine dq_nil tm (by kernel_rfl) ?_
        refine sq_then ?_
        refine cq_ret ?_
        exact sq_resN (rvs := [_, _, _]) (τs := [vi (farTo l l.length).1, prv (farTo l l.length), vi 0]) rfl rfl ⟨.tmp rfl, .agg (us := [_, _]) rfl rfl rfl rfl, .tmp rfl, trivial⟩ (by rw [e1, e2])
theorem measures_c (l : List Pt) : CtrA Try.prog 10 [pts l] (vb true) := by
  refine ctrA _ Try.func10 rfl rfl Try.ntmps10 rfl fun w Z => ?_
  simp only [initT, List.map_cons, List.map_nil, Nat.zero_add, Nat.reduceAdd]
  refine cq_seq ?_
  refine cq_region ?_
  apply sq_g; exact g_assign (s := .av (.val (.bool _))) rfl; exact rfl
  refine sq_nil ?_
  refine sq_then ?_
  refine cq_seq ?_
  refine cq_seq ?_
  refine cq_region ?_
  apply sq_g; exact g_move (s := .av _) rfl; exact rfl
  apply sq_g; exact g_call (few_c l) rfl; exact rfl
  apply sq_g; exact g_not rfl; exact rfl
  refine sq_nil ?_
  refine sq_then ?_
  (refine cq_cond rfl (fun hb => ?_) (fun hb => ?_) <;> (try simp only [decide_eq_true_eq, decide_eq_false_iff_not, beq_iff_eq, beq_eq_false_iff_ne, bne_iff_ne, bne_eq_false_iff_eq, ne_eq, Bool.not_eq_true', Bool.not_eq_false', Bool.and_eq_true, Bool.or_eq_true, Bool.and_eq_false_iff, Bool.or_eq_false_iff] at hb) <;> (try (exfalso; omega)))
  · refine cq_seq ?_
    refine cq_region ?_
    apply sq_g; exact g_call (awake_c) rfl; exact rfl
    apply sq_g; exact g_assign (s := .av (.val (.bool _))) rfl; exact rfl
    refine sq_nil ?_
    refine sq_then ?_
    refine cq_ret ?_
    refine sq_then_ret ?_
    exact sq_res1 rfl (.tmp rfl) rfl
  · have hs : Sml l := sml_of (fun hc => by have := fewB_chk hb hc; omega)
    focus
      refine cq_skip ?_
      refine sq_then ?_
      refine cq_seq ?_
      refine cq_region ?_
      apply sq_g; exact g_move (s := .av _) rfl; exact rfl
      apply sq_g; exact g_call (fart_c l) rfl; exact rfl
      apply sq_g; exact g_move (s := .av _) rfl; exact rfl
      apply sq_g; exact g_extractT rfl rfl; exact rfl
      apply sq_g; exact g_extractT rfl rfl; exact rfl
      apply sq_g; exact g_extractT rfl rfl; exact rfl
      refine sq_v (f_alloc 10 rfl) rfl ?_
      apply sq_g; exact g_assign (s := .av (.val (.int _ _))) rfl; exact rfl
      refine sq_s (g_store_agg rfl rfl rfl rfl rfl rfl) ?_
      apply sq_g; exact g_assign (s := .av (.val (.int _ _))) rfl; exact rfl
      refine sq_nil ?_
      refine sq_then ?_
      refine cq_seq ?_
      refine cq_region ?_
      apply sq_g; exact g_move (s := .av _) rfl; exact rfl
      apply sq_g; exact g_call (rfart_c l) rfl; exact rfl
      apply sq_g; exact g_move (s := .av _) rfl; exact rfl
      apply sq_g; exact g_extractT rfl rfl; exact rfl
      apply sq_g; exact g_extractT rfl rfl; exact rfl
      apply sq_g; exact g_extractT rfl rfl; exact rfl
      refine sq_v (f_alloc 11 rfl) rfl ?_
      apply sq_g; exact g_assign (s := .av (.val (.int _ _))) rfl; exact rfl
      refine sq_s (g_store_agg rfl rfl rfl rfl rfl rfl) ?_
      apply sq_g; exact g_assign (s := .av (.val (.int _ _))) rfl; exact rfl
      refine sq_nil ?_
      refine sq_then ?_
      refine cq_seq ?_
      refine cq_region ?_
      apply sq_g; exact g_move (s := .av _) rfl; exact rfl
      apply sq_g; exact g_call (harea_c l hs) rfl; exact rfl
      apply sq_g; exact g_move (s := .av _) rfl; exact rfl
      apply sq_g; exact g_extractT rfl rfl; exact rfl
      apply sq_g; exact g_extractT rfl rfl; exact rfl
      apply sq_g; exact g_assign (s := .av (.val (.int _ _))) rfl; exact rfl
      apply sq_g; exact g_assign (s := .av (.val (.int _ _))) rfl; exact rfl
      refine sq_nil ?_
      refine sq_then ?_
      refine cq_seq ?_
      refine cq_region ?_
      apply sq_g; exact g_move (s := .av _) rfl; exact rfl
      apply sq_g; exact g_call (rarea_c l hs) rfl; exact rfl
      apply sq_g; exact g_move (s := .av _) rfl; exact rfl
      apply sq_g; exact g_extractT rfl rfl; exact rfl
      apply sq_g; exact g_extractT rfl rfl; exact rfl
      apply sq_g; exact g_assign (s := .av (.val (.int _ _))) rfl; exact rfl
      apply sq_g; exact g_assign (s := .av (.val (.int _ _))) rfl; exact rfl
      refine sq_nil ?_
      refine sq_then ?_
      refine cq_seq ?_
      refine cq_region ?_
      apply sq_g; exact g_move (s := .av _) rfl; exact rfl
      apply sq_g; exact g_call (convex_c l hs) rfl; exact rfl
      apply sq_g; exact g_move (s := .av _) rfl; exact rfl
      apply sq_g; exact g_extractT rfl rfl; exact rfl
      apply sq_g; exact g_extractT rfl rfl; exact rfl
      apply sq_g; exact g_assign (s := .av (.val (.bool _))) rfl; exact rfl
      apply sq_g; exact g_assign (s := .av (.val (.int _ _))) rfl; exact rfl
      refine sq_nil ?_
      refine sq_then ?_
      refine cq_seq ?_
      refine cq_region ?_
      apply sq_g; exact g_move (s := .av _) rfl; exact rfl
      apply sq_g; exact g_call (rconvex_c l hs) rfl; exact rfl
      apply sq_g; exact g_move (s := .av _) rfl; exact rfl
      apply sq_g; exact g_extractT rfl rfl; exact rfl
      apply sq_g; exact g_extractT rfl rfl; exact rfl
      apply sq_g; exact g_assign (s := .av (.val (.bool _))) rfl; exact rfl
      apply sq_g; exact g_assign (s := .av (.val (.int _ _))) rfl; exact rfl
      refine sq_nil ?_
      refine sq_then ?_
      refine cq_seq ?_
      refine cq_region ?_
      apply sq_g; exact g_call (awake_c) rfl; exact rfl
      apply sq_g; exact g_move (s := .av (.val (.bool _))) rfl; exact rfl
      apply sq_on; exact g_move (s := .av (.val (.int _ _))) rfl; exact rfl; exact rfl; exact rfl
      apply sq_on; exact g_move (s := .av (.val (.int _ _))) rfl; exact rfl; exact rfl; exact rfl
      apply sq_on; exact g_cmp rfl rfl rfl; exact rfl; exact rfl; exact rfl
      apply sq_g; exact g_pick (s := .av (.val (.bool _))) rfl rfl; exact rfl
      apply sq_g; exact g_move (s := .av (.val (.bool _))) rfl; exact rfl
      refine sq_split rfl rfl (fun hb => ?_) (fun hb => ?_) <;> (try simp only [decide_eq_true_eq, decide_eq_false_iff_not, beq_iff_eq, beq_eq_false_iff_ne, bne_iff_ne, bne_eq_false_iff_eq, ne_eq, Bool.not_eq_true', Bool.not_eq_false', Bool.and_eq_true, Bool.or_eq_true, Bool.and_eq_false_iff, Bool.or_eq_false_iff] at hb) <;> (try (exfalso; omega))
      apply sq_on; exact g_load_own_agg (us := [.int _ _, .int _ _]) rfl rfl rfl rfl; exact rfl; exact rfl; exact rfl
      apply sq_on; exact g_load_own_agg (us := [.int _ _, .int _ _]) rfl rfl rfl rfl; exact rfl; exact rfl; exact rfl
      apply sq_on; exact g_eql (xs := [_, _]) (ys := [_, _]) rfl rfl rfl rfl; exact rfl; exact rfl; exact rfl
      apply sq_g; exact g_pick (s := .av (.val (.bool _))) rfl rfl; exact rfl
      apply sq_g; exact g_move (s := .av (.val (.bool _))) rfl; exact rfl
      refine sq_split rfl rfl (fun hb => ?_) (fun hb => ?_) <;> (try simp only [decide_eq_true_eq, decide_eq_false_iff_not, beq_iff_eq, beq_eq_false_iff_ne, bne_iff_ne, bne_eq_false_iff_eq, ne_eq, Bool.not_eq_true', Bool.not_eq_false', Bool.and_eq_true, Bool.or_eq_true, Bool.and_eq_false_iff, Bool.or_eq_false_iff] at hb) <;> (try (exfalso; omega))
      apply sq_on; exact g_move (s := .av (.val (.int _ _))) rfl; exact rfl; exact rfl; exact rfl
      apply sq_on; exact g_move (s := .av (.val (.int _ _))) rfl; exact rfl; exact rfl; exact rfl
      apply sq_on; exact g_cmp rfl rfl rfl; exact rfl; exact rfl; exact rfl
      apply sq_g; exact g_pick (s := .av (.val (.bool _))) rfl rfl; exact rfl
      apply sq_g; exact g_move (s := .av (.val (.bool _))) rfl; exact rfl
      refine sq_split rfl rfl (fun hb => ?_) (fun hb => ?_) <;> (try simp only [decide_eq_true_eq, decide_eq_false_iff_not, beq_iff_eq, beq_eq_false_iff_ne, bne_iff_ne, bne_eq_false_iff_eq, ne_eq, Bool.not_eq_true', Bool.not_eq_false', Bool.and_eq_true, Bool.or_eq_true, Bool.and_eq_false_iff, Bool.or_eq_false_iff] at hb) <;> (try (exfalso; omega))
      apply sq_on; exact g_move (s := .av (.val (.int _ _))) rfl; exact rfl; exact rfl; exact rfl
      apply sq_on; exact g_move (s := .av (.val (.int _ _))) rfl; exact rfl; exact rfl; exact rfl
      apply sq_on; exact g_cmp rfl rfl rfl; exact rfl; exact rfl; exact rfl
      apply sq_g; exact g_pick (s := .av (.val (.bool _))) rfl rfl; exact rfl
      apply sq_g; exact g_move (s := .av (.val (.bool _))) rfl; exact rfl
      refine sq_split rfl rfl (fun hb => ?_) (fun hb => ?_) <;> (try simp only [decide_eq_true_eq, decide_eq_false_iff_not, beq_iff_eq, beq_eq_false_iff_ne, bne_iff_ne, bne_eq_false_iff_eq, ne_eq, Bool.not_eq_true', Bool.not_eq_false', Bool.and_eq_true, Bool.or_eq_true, Bool.and_eq_false_iff, Bool.or_eq_false_iff] at hb) <;> (try (exfalso; omega))
      apply sq_on; exact g_move (s := .av (.val (.int _ _))) rfl; exact rfl; exact rfl; exact rfl
      apply sq_on; exact g_move (s := .av (.val (.int _ _))) rfl; exact rfl; exact rfl; exact rfl
      apply sq_on; exact g_cmp rfl rfl rfl; exact rfl; exact rfl; exact rfl
      apply sq_g; exact g_pick (s := .av (.val (.bool _))) rfl rfl; exact rfl
      apply sq_g; exact g_move (s := .av (.val (.bool _))) rfl; exact rfl
      refine sq_split rfl rfl (fun hb => ?_) (fun hb => ?_) <;> (try simp only [decide_eq_true_eq, decide_eq_false_iff_not, beq_iff_eq, beq_eq_false_iff_ne, bne_iff_ne, bne_eq_false_iff_eq, ne_eq, Bool.not_eq_true', Bool.not_eq_false', Bool.and_eq_true, Bool.or_eq_true, Bool.and_eq_false_iff, Bool.or_eq_false_iff] at hb) <;> (try (exfalso; omega))
      apply sq_on; exact g_move (s := .av (.val (.bool _))) rfl; exact rfl; exact rfl; exact rfl
      apply sq_on; exact g_move (s := .av (.val (.bool _))) rfl; exact rfl; exact rfl; exact rfl
      apply sq_on; exact g_eqb rfl rfl; exact rfl; exact rfl; exact rfl
      apply sq_g; exact g_pick (s := .av (.val (.bool _))) rfl rfl; exact rfl
      apply sq_g; exact g_move (s := .av (.val (.bool _))) rfl; exact rfl
      refine sq_split rfl rfl (fun hb => ?_) (fun hb => ?_) <;> (try simp only [decide_eq_true_eq, decide_eq_false_iff_not, beq_iff_eq, beq_eq_false_iff_ne, bne_iff_ne, bne_eq_false_iff_eq, ne_eq, Bool.not_eq_true', Bool.not_eq_false', Bool.and_eq_true, Bool.or_eq_true, Bool.and_eq_false_iff, Bool.or_eq_false_iff] at hb) <;> (try (exfalso; omega))
      apply sq_on; exact g_move (s := .av (.val (.int _ _))) rfl; exact rfl; exact rfl; exact rfl
      apply sq_on; exact g_move (s := .av (.val (.int _ _))) rfl; exact rfl; exact rfl; exact rfl
      apply sq_on; exact g_cmp rfl rfl rfl; exact rfl; exact rfl; exact rfl
      apply sq_g; exact g_pick (s := .av (.val (.bool _))) rfl rfl; exact rfl
      apply sq_g; exact g_assign (s := .av (.val (.bool _))) rfl; exact rfl
      refine sq_nil ?_
      refine sq_then ?_
      refine cq_ret ?_
      rotate_left
      refine sq_off rfl rfl rfl rfl ?_
      refine sq_off rfl rfl rfl rfl ?_
      refine sq_off rfl rfl rfl rfl ?_
      apply sq_g; exact g_pick (s := .av (.val (.bool _))) rfl rfl; exact rfl
      apply sq_g; exact g_assign (s := .av (.val (.bool _))) rfl; exact rfl
      refine sq_nil ?_
      refine sq_then ?_
      refine cq_ret ?_
      rotate_left
      refine sq_off rfl rfl rfl rfl ?_
      refine sq_off rfl rfl rfl rfl ?_
      refine sq_off rfl rfl rfl rfl ?_
      apply sq_g; exact g_pick (s := .av (.val (.bool _))) rfl rfl; exact rfl
      apply sq_g; exact g_move (s := .av (.val (.bool _))) rfl; exact rfl
      refine sq_off rfl rfl rfl rfl ?_
      refine sq_off rfl rfl rfl rfl ?_
      refine sq_off rfl rfl rfl rfl ?_
      apply sq_g; exact g_pick (s := .av (.val (.bool _))) rfl rfl; exact rfl
      apply sq_g; exact g_assign (s := .av (.val (.bool _))) rfl; exact rfl
      refine sq_nil ?_
      refine sq_then ?_
      refine cq_ret ?_
      rotate_left
      refine sq_off rfl rfl rfl rfl ?_
      refine sq_off rfl rfl rfl rfl ?_
      refine sq_off rfl rfl rfl rfl ?_
      apply sq_g; exact g_pick (s := .av (.val (.bool _))) rfl rfl; exact rfl
      apply sq_g; exact g_move (s := .av (.val (.bool _))) rfl; exact rfl
      refine sq_off rfl rfl rfl rfl ?_
      refine sq_off rfl rfl rfl rfl ?_
      refine sq_off rfl rfl rfl rfl ?_
      apply sq_g; exact g_pick (s := .av (.val (.bool _))) rfl rfl; exact rfl
      apply sq_g; exact g_move (s := .av (.val (.bool _))) rfl; exact rfl
      refine sq_off rfl rfl rfl rfl ?_
      refine sq_off rfl rfl rfl rfl ?_
      refine sq_off rfl rfl rfl rfl ?_
      apply sq_g; exact g_pick (s := .av (.val (.bool _))) rfl rfl; exact rfl
      apply sq_g; exact g_assign (s := .av (.val (.bool _))) rfl; exact rfl
      refine sq_nil ?_
      refine sq_then ?_
      refine cq_ret ?_
      rotate_left
      refine sq_off rfl rfl rfl rfl ?_
      refine sq_off rfl rfl rfl rfl ?_
      refine sq_off rfl rfl rfl rfl ?_
      apply sq_g; exact g_pick (s := .av (.val (.bool _))) rfl rfl; exact rfl
      apply sq_g; exact g_move (s := .av (.val (.bool _))) rfl; exact rfl
      refine sq_off rfl rfl rfl rfl ?_
      refine sq_off rfl rfl rfl rfl ?_
      refine sq_off rfl rfl rfl rfl ?_
      apply sq_g; exact g_pick (s := .av (.val (.bool _))) rfl rfl; exact rfl
      apply sq_g; exact g_move (s := .av (.val (.bool _))) rfl; exact rfl
      refine sq_off rfl rfl rfl rfl ?_
      refine sq_off rfl rfl rfl rfl ?_
      refine sq_off rfl rfl rfl rfl ?_
      apply sq_g; exact g_pick (s := .av (.val (.bool _))) rfl rfl; exact rfl
      apply sq_g; exact g_move (s := .av (.val (.bool _))) rfl; exact rfl
      refine sq_off rfl rfl rfl rfl ?_
      refine sq_off rfl rfl rfl rfl ?_
      refine sq_off rfl rfl rfl rfl ?_
      apply sq_g; exact g_pick (s := .av (.val (.bool _))) rfl rfl; exact rfl
      apply sq_g; exact g_assign (s := .av (.val (.bool _))) rfl; exact rfl
      refine sq_nil ?_
      refine sq_then ?_
      refine cq_ret ?_
      rotate_left
      refine sq_off rfl rfl rfl rfl ?_
      refine sq_off rfl rfl rfl rfl ?_
      refine sq_off rfl rfl rfl rfl ?_
      apply sq_g; exact g_pick (s := .av (.val (.bool _))) rfl rfl; exact rfl
      apply sq_g; exact g_move (s := .av (.val (.bool _))) rfl; exact rfl
      refine sq_off rfl rfl rfl rfl ?_
      refine sq_off rfl rfl rfl rfl ?_
      refine sq_off rfl rfl rfl rfl ?_
      apply sq_g; exact g_pick (s := .av (.val (.bool _))) rfl rfl; exact rfl
      apply sq_g; exact g_move (s := .av (.val (.bool _))) rfl; exact rfl
      refine sq_off rfl rfl rfl rfl ?_
      refine sq_off rfl rfl rfl rfl ?_
      refine sq_off rfl rfl rfl rfl ?_
      apply sq_g; exact g_pick (s := .av (.val (.bool _))) rfl rfl; exact rfl
      apply sq_g; exact g_move (s := .av (.val (.bool _))) rfl; exact rfl
      refine sq_off rfl rfl rfl rfl ?_
      refine sq_off rfl rfl rfl rfl ?_
      refine sq_off rfl rfl rfl rfl ?_
      apply sq_g; exact g_pick (s := .av (.val (.bool _))) rfl rfl; exact rfl
      apply sq_g; exact g_move (s := .av (.val (.bool _))) rfl; exact rfl
      refine sq_off rfl rfl rfl rfl ?_
      refine sq_off rfl rfl rfl rfl ?_
      refine sq_off rfl rfl rfl rfl ?_
      apply sq_g; exact g_pick (s := .av (.val (.bool _))) rfl rfl; exact rfl
      apply sq_g; exact g_assign (s := .av (.val (.bool _))) rfl; exact rfl
      refine sq_nil ?_
      refine sq_then ?_
      refine cq_ret ?_
      rotate_left
      refine sq_off rfl rfl rfl rfl ?_
      refine sq_off rfl rfl rfl rfl ?_
      refine sq_off rfl rfl rfl rfl ?_
      apply sq_g; exact g_pick (s := .av (.val (.bool _))) rfl rfl; exact rfl
      apply sq_g; exact g_move (s := .av (.val (.bool _))) rfl; exact rfl
      refine sq_off rfl rfl rfl rfl ?_
      refine sq_off rfl rfl rfl rfl ?_
      refine sq_off rfl rfl rfl rfl ?_
      apply sq_g; exact g_pick (s := .av (.val (.bool _))) rfl rfl; exact rfl
      apply sq_g; exact g_move (s := .av (.val (.bool _))) rfl; exact rfl
      refine sq_off rfl rfl rfl rfl ?_
      refine sq_off rfl rfl rfl rfl ?_
      refine sq_off rfl rfl rfl rfl ?_
      apply sq_g; exact g_pick (s := .av (.val (.bool _))) rfl rfl; exact rfl
      apply sq_g; exact g_move (s := .av (.val (.bool _))) rfl; exact rfl
      refine sq_off rfl rfl rfl rfl ?_
      refine sq_off rfl rfl rfl rfl ?_
      refine sq_off rfl rfl rfl rfl ?_
      apply sq_g; exact g_pick (s := .av (.val (.bool _))) rfl rfl; exact rfl
      apply sq_g; exact g_move (s := .av (.val (.bool _))) rfl; exact rfl
      refine sq_off rfl rfl rfl rfl ?_
      refine sq_off rfl rfl rfl rfl ?_
      refine sq_off rfl rfl rfl rfl ?_
      apply sq_g; exact g_pick (s := .av (.val (.bool _))) rfl rfl; exact rfl
      apply sq_g; exact g_move (s := .av (.val (.bool _))) rfl; exact rfl
      refine sq_off rfl rfl rfl rfl ?_
      refine sq_off rfl rfl rfl rfl ?_
      refine sq_off rfl rfl rfl rfl ?_
      apply sq_g; exact g_pick (s := .av (.val (.bool _))) rfl rfl; exact rfl
      apply sq_g; exact g_assign (s := .av (.val (.bool _))) rfl; exact rfl
      refine sq_nil ?_
      refine sq_then ?_
      refine cq_ret ?_
      rotate_left
    all_goals first | exact absurd trivial hb | exact sq_res1 rfl (.tmp rfl) (congrArg vb (by simp))
end Go.Proofs.Ytacepcnbgacipaa
