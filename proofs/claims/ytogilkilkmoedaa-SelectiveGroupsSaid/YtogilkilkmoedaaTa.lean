/- A part of the proof that the law returns true at every input and that the input reads behind the call as it read before; this part states nothing of its own that needs a condition of the input. -/
import Derived.Test.YtogilkilkmoedaaX
import Derived.Test.YtogilkilkmoedaaSb
set_option linter.unusedVariables false
set_option linter.unusedSimpArgs false
namespace Go.Proofs.Ytogilkilkmoedaa
open Go Go.Vc Go.RowKit
set_option maxHeartbeats 8000000
/-! KDQ -/
theorem sizes_c (l : List Int) (hn : l.length ≤ 1000000) : CtrA Try.prog 51 [zs l] (vi (if bad l = true then 2 else 0)) := by
  refine ctrA _ Try.func51 rfl rfl Try.ntmps51 rfl fun w Z => ?_
  simp only [initT, List.map_cons, List.map_nil, Nat.zero_add, Nat.reduceAdd]
  refine cq_seq ?_
  refine cq_region ?_
  apply sq_g; exact g_assign (s := .av (.val (.int _ _))) rfl; exact rfl
  refine sq_nil ?_
  refine sq_then ?_
  refine cq_seq ?_
  refine cq_seq ?_
  refine cq_region ?_
  apply sq_g; exact g_assign (s := .av (.val (.int _ _))) rfl; exact rfl
  refine sq_nil ?_
  refine sq_then ?_
  refine cq_block ?_
  refine cq_loop (γ := Nat) (fun k => [(0, .av (zs l)), (3, .av (vi k))]) (fun _ => []) (fun k => k ≤ l.length ∧ ∀ j, j < k → badZ (gz l j) = false) (fun k => l.length - k) 0 ⟨Nat.zero_le _, by omega⟩ (ent ⟨.refl _, .refl _, trivial⟩ trivial) ?_
  rintro k ⟨hk, hall⟩
  refine cq_seq ?_
  refine cq_seq ?_
  refine cq_region ?_
  apply sq_g; exact g_move (s := .av (.val (.int _ _))) rfl; exact rfl
  apply sq_g; exact g_move (s := .av _) rfl; exact rfl
  apply sq_g; exact g_len rfl; exact rfl
  apply sq_g; exact g_cmp rfl rfl rfl; exact rfl
  refine sq_nil ?_
  refine sq_then ?_
  (refine cq_cond rfl (fun hb => ?_) (fun hb => ?_) <;> (try simp only [decide_eq_true_eq, decide_eq_false_iff_not, beq_iff_eq, beq_eq_false_iff_ne, bne_iff_ne, bne_eq_false_iff_eq, ne_eq, Bool.not_eq_true', Bool.not_eq_false', Bool.and_eq_true, Bool.or_eq_true, Bool.and_eq_false_iff, Bool.or_eq_false_iff] at hb) <;> (try (exfalso; omega)))
  · have hkl : k < l.length := by omega
    have e1 : badZ (gz l k) = true → (if bad l = true then (2 : Int) else 0) = 2 := fun h => if_pos (any_yes (p := fun k => badZ (gz l k)) hkl h)
    focus
      refine cq_skip ?_
      refine sq_then ?_
      refine cq_seq ?_
      refine cq_block ?_
      refine cq_seq ?_
      refine cq_region ?_
      apply sq_g; exact g_move (s := .av _) rfl; exact rfl
      apply sq_g; exact g_move (s := .av (.val (.int _ _))) rfl; exact rfl
      apply sq_g; exact g_index rfl rfl rfl (by omega); exact rfl
      apply sq_g; exact g_load (τ := .val (.int _ _)) rfl rfl rfl; exact rfl
      apply sq_g; exact g_cmp rfl rfl rfl; exact rfl
      apply sq_g; exact g_move (s := .av (.val (.bool _))) rfl; exact rfl
      refine sq_split rfl rfl (fun hb => ?_) (fun hb => ?_) <;> (try simp only [decide_eq_true_eq, decide_eq_false_iff_not, beq_iff_eq, beq_eq_false_iff_ne, bne_iff_ne, bne_eq_false_iff_eq, ne_eq, Bool.not_eq_true', Bool.not_eq_false', Bool.and_eq_true, Bool.or_eq_true, Bool.and_eq_false_iff, Bool.or_eq_false_iff] at hb) <;> (try (exfalso; omega))
      refine sq_off rfl rfl rfl rfl ?_
      refine sq_off rfl rfl rfl rfl ?_
      refine sq_off rfl rfl rfl rfl ?_
      refine sq_off rfl rfl rfl rfl ?_
      refine sq_off rfl rfl rfl rfl ?_
      apply sq_g; exact g_pick (s := .av (.val (.bool _))) rfl rfl; exact rfl
      refine sq_nil ?_
      refine sq_then ?_
      refine cq_cond_t rfl ?_
      refine cq_seq ?_
      refine cq_region ?_
      apply sq_g; exact g_assign (s := .av (.val (.int _ _))) rfl; exact rfl
      refine sq_nil ?_
      refine sq_then ?_
      refine cq_ret ?_
      refine sq_inBlock_ret ?_
      refine sq_then_ret ?_
      refine sq_then_ret ?_
      refine sq_inBlock_ret ?_
      refine sq_then_ret ?_
      rotate_left
      apply sq_on; exact g_move (s := .av _) rfl; exact rfl; exact rfl; exact rfl
      apply sq_on; exact g_move (s := .av (.val (.int _ _))) rfl; exact rfl; exact rfl; exact rfl
      apply sq_on; exact g_index rfl rfl rfl (by omega); exact rfl; exact rfl; exact rfl
      apply sq_on; exact g_load (τ := .val (.int _ _)) rfl rfl rfl; exact rfl; exact rfl; exact rfl
      apply sq_on; exact g_cmp rfl rfl rfl; exact rfl; exact rfl; exact rfl
      apply sq_g; exact g_pick (s := .av (.val (.bool _))) rfl rfl; exact rfl
      refine sq_nil ?_
      refine sq_then ?_
      rotate_left
    · have e2 := e1 (by unfold badZ; rw [decide_eq_true hb]; rfl)
      exact sq_res1 rfl (.tmp rfl) (by rw [e2])
    · have hb0 := hb
      (refine cq_cond rfl (fun hb => ?_) (fun hb => ?_) <;> (try simp only [decide_eq_true_eq, decide_eq_false_iff_not, beq_iff_eq, beq_eq_false_iff_ne, bne_iff_ne, bne_eq_false_iff_eq, ne_eq, Bool.not_eq_true', Bool.not_eq_false', Bool.and_eq_true, Bool.or_eq_true, Bool.and_eq_false_iff, Bool.or_eq_false_iff] at hb) <;> (try (exfalso; omega)))
      · have e2 := e1 (by unfold badZ; rw [decide_eq_true hb, Bool.or_true])
        refine cq_seq ?_
        refine cq_region ?_
        apply sq_g; exact g_assign (s := .av (.val (.int _ _))) rfl; exact rfl
        refine sq_nil ?_
        refine sq_then ?_
        refine cq_ret ?_
        refine sq_inBlock_ret ?_
        refine sq_then_ret ?_
        refine sq_then_ret ?_
        refine sq_inBlock_ret ?_
        refine sq_then_ret ?_
        exact sq_res1 rfl (.tmp rfl) (by rw [e2])
      · refine cq_skip ?_
        refine sq_then ?_
        refine cq_region ?_
        apply sq_g; exact g_move (s := .av (.val (.int _ _))) rfl; exact rfl
        apply sq_g; exact g_arith rfl rfl rfl (by omega); exact rfl
        apply sq_g; exact g_assign (s := .av (.val (.int _ _))) rfl; exact rfl
        refine sq_nil ?_
        exact sq_round (k + 1) ⟨by omega, lt_step hall (by unfold badZ; rw [decide_eq_false (by omega), decide_eq_false (by omega)]; rfl)⟩ (by omega) (ent ⟨.refl _, .int (by omega), trivial⟩ trivial)
  · have hkl : k = l.length := by omega
    subst hkl
    have e1 : (if bad l = true then (2 : Int) else 0) = 0 := if_neg (by unfold bad; rw [any_no (p := fun k => badZ (gz l k)) hall]; simp)
    refine cq_exit ?_
    refine sq_then ?_
    refine cq_seq ?_
    refine cq_region ?_
    apply sq_g; exact g_assign (s := .av (.val (.int _ _))) rfl; exact rfl
    refine sq_nil ?_
    refine sq_then ?_
    refine cq_ret ?_
    exact sq_res1 rfl (.tmp rfl) (by rw [e1])
theorem inside_c (n : Int) : CtrA Try.prog 52 [vi n] (vb (!outZ n)) := by
  refine ctrA _ Try.func52 rfl rfl Try.ntmps52 rfl fun w Z => ?_
  simp only [initT, List.map_cons, List.map_nil, Nat.zero_add, Nat.reduceAdd]
  focus
    refine cq_seq ?_
    refine cq_region ?_
    apply sq_g; exact g_assign (s := .av (.val (.bool _))) rfl; exact rfl
    refine sq_nil ?_
    refine sq_then ?_
    refine cq_seq ?_
    refine cq_region ?_
    apply sq_g; exact g_move (s := .av (.val (.int _ _))) rfl; exact rfl
    apply sq_g; exact g_cmp rfl rfl rfl; exact rfl
    apply sq_g; exact g_move (s := .av (.val (.bool _))) rfl; exact rfl
    refine sq_split rfl rfl (fun hb => ?_) (fun hb => ?_) <;> (try simp only [decide_eq_true_eq, decide_eq_false_iff_not, beq_iff_eq, beq_eq_false_iff_ne, bne_iff_ne, bne_eq_false_iff_eq, ne_eq, Bool.not_eq_true', Bool.not_eq_false', Bool.and_eq_true, Bool.or_eq_true, Bool.and_eq_false_iff, Bool.or_eq_false_iff] at hb) <;> (try (exfalso; omega))
    apply sq_on; exact g_move (s := .av (.val (.int _ _))) rfl; exact rfl; exact rfl; exact rfl
    apply sq_on; exact g_cmp rfl rfl rfl; exact rfl; exact rfl; exact rfl
    apply sq_g; exact g_pick (s := .av (.val (.bool _))) rfl rfl; exact rfl
    apply sq_g; exact g_assign (s := .av (.val (.bool _))) rfl; exact rfl
    refine sq_nil ?_
    refine sq_then ?_
    refine cq_ret ?_
    rotate_left
    refine sq_off rfl rfl rfl rfl ?_
    refine sq_off rfl rfl rfl rfl ?_
    apply sq_g; exact g_pick (s := .av (.val (.bool _))) rfl rfl; exact rfl
    apply sq_g; exact g_assign (s := .av (.val (.bool _))) rfl; exact rfl
    refine sq_nil ?_
    refine sq_then ?_
    refine cq_ret ?_
    rotate_left
  all_goals (refine sq_res1 rfl (.tmp rfl) (congrArg vb ?_); unfold outZ; rw [Bool.eq_iff_iff]; simp; try omega)
theorem clear_c (h p lo hi : Int) (b1 : Bi h) (b2 : Bi p) : CtrA Try.prog 39 [vi h, vi p, lim lo hi] (vb (fitB lo hi h p)) := by
  refine ctrA _ Try.func39 rfl rfl Try.ntmps39 rfl fun w Z => ?_
  simp only [initT, List.map_cons, List.map_nil, Nat.zero_add, Nat.reduceAdd]
  focus
    refine cq_seq ?_
    refine cq_region ?_
    apply sq_g; exact g_box_agg rfl; exact rfl
    apply sq_g; exact g_assign (s := .av (.val (.bool _))) rfl; exact rfl
    refine sq_nil ?_
    refine sq_then ?_
    refine cq_seq ?_
    refine cq_region ?_
    apply sq_g; exact g_move (s := .av (.val (.int _ _))) rfl; exact rfl
    apply sq_g; exact g_move (s := .av (.val (.int _ _))) rfl; exact rfl
    apply sq_g; exact g_arith rfl rfl rfl (by omega); exact rfl
    apply sq_g; exact g_field rfl; exact rfl
    apply sq_g; exact g_load (τ := .val (.int _ _)) rfl rfl rfl; exact rfl
    apply sq_g; exact g_cmp rfl rfl rfl; exact rfl
    apply sq_g; exact g_move (s := .av (.val (.bool _))) rfl; exact rfl
    refine sq_split rfl rfl (fun hb => ?_) (fun hb => ?_) <;> (try simp only [decide_eq_true_eq, decide_eq_false_iff_not, beq_iff_eq, beq_eq_false_iff_ne, bne_iff_ne, bne_eq_false_iff_eq, ne_eq, Bool.not_eq_true', Bool.not_eq_false', Bool.and_eq_true, Bool.or_eq_true, Bool.and_eq_false_iff, Bool.or_eq_false_iff] at hb) <;> (try (exfalso; omega))
    apply sq_on; exact g_move (s := .av (.val (.int _ _))) rfl; exact rfl; exact rfl; exact rfl
    apply sq_on; exact g_move (s := .av (.val (.int _ _))) rfl; exact rfl; exact rfl; exact rfl
    apply sq_on; exact g_arith rfl rfl rfl (by omega); exact rfl; exact rfl; exact rfl
    apply sq_on; exact g_field rfl; exact rfl; exact rfl; exact rfl
    apply sq_on; exact g_load (τ := .val (.int _ _)) rfl rfl rfl; exact rfl; exact rfl; exact rfl
    apply sq_on; exact g_cmp rfl rfl rfl; exact rfl; exact rfl; exact rfl
    apply sq_g; exact g_pick (s := .av (.val (.bool _))) rfl rfl; exact rfl
    apply sq_g; exact g_assign (s := .av (.val (.bool _))) rfl; exact rfl
    refine sq_nil ?_
    refine sq_then ?_
    refine cq_ret ?_
    rotate_left
    refine sq_off rfl rfl rfl rfl ?_
    refine sq_off rfl rfl rfl rfl ?_
    refine sq_off rfl rfl rfl rfl ?_
    refine sq_off rfl rfl rfl rfl ?_
    refine sq_off rfl rfl rfl rfl ?_
    refine sq_off rfl rfl rfl rfl ?_
    apply sq_g; exact g_pick (s := .av (.val (.bool _))) rfl rfl; exact rfl
    apply sq_g; exact g_assign (s := .av (.val (.bool _))) rfl; exact rfl
    refine sq_nil ?_
    refine sq_then ?_
    refine cq_ret ?_
    rotate_left
  all_goals (refine sq_res1 rfl (.tmp rfl) (congrArg vb ?_); unfold fitB; rw [Bool.eq_iff_iff]; simp; try omega)
theorem has_c (l : List Int) (v : Int) (hn : l.length ≤ 1000000) : CtrA Try.prog 40 [zs l, vi v] (vb (hasZ l v)) := by
  refine ctrA _ Try.func40 rfl rfl Try.ntmps40 rfl fun w Z => ?_
  simp only [initT, List.map_cons, List.map_nil, Nat.zero_add, Nat.reduceAdd]
  refine cq_seq ?_
  refine cq_region ?_
  apply sq_g; exact g_assign (s := .av (.val (.bool _))) rfl; exact rfl
  refine sq_nil ?_
  refine sq_then ?_
  refine cq_seq ?_
  refine cq_seq ?_
  refine cq_region ?_
  apply sq_g; exact g_assign (s := .av (.val (.int _ _))) rfl; exact rfl
  refine sq_nil ?_
  refine sq_then ?_
  refine cq_block ?_
  refine cq_loop (γ := Nat) (fun k => [(0, .av (zs l)), (1, .av (vi v)), (5, .av (vi k))]) (fun _ => []) (fun k => k ≤ l.length ∧ ∀ j, j < k → (gz l j == v) = false) (fun k => l.length - k) 0 ⟨Nat.zero_le _, by omega⟩ (ent ⟨.refl _, .refl _, .refl _, trivial⟩ trivial) ?_
  rintro k ⟨hk, hall⟩
  refine cq_seq ?_
  refine cq_seq ?_
  refine cq_region ?_
  apply sq_g; exact g_move (s := .av (.val (.int _ _))) rfl; exact rfl
  apply sq_g; exact g_move (s := .av _) rfl; exact rfl
  apply sq_g; exact g_len rfl; exact rfl
  apply sq_g; exact g_cmp rfl rfl rfl; exact rfl
  refine sq_nil ?_
  refine sq_then ?_
  (refine cq_cond rfl (fun hb => ?_) (fun hb => ?_) <;> (try simp only [decide_eq_true_eq, decide_eq_false_iff_not, beq_iff_eq, beq_eq_false_iff_ne, bne_iff_ne, bne_eq_false_iff_eq, ne_eq, Bool.not_eq_true', Bool.not_eq_false', Bool.and_eq_true, Bool.or_eq_true, Bool.and_eq_false_iff, Bool.or_eq_false_iff] at hb) <;> (try (exfalso; omega)))
  · have hkl : k < l.length := by omega
    refine cq_skip ?_
    refine sq_then ?_
    refine cq_seq ?_
    refine cq_block ?_
    refine cq_seq ?_
    refine cq_region ?_
    apply sq_g; exact g_move (s := .av _) rfl; exact rfl
    apply sq_g; exact g_move (s := .av (.val (.int _ _))) rfl; exact rfl
    apply sq_g; exact g_index rfl rfl rfl (by omega); exact rfl
    apply sq_g; exact g_load (τ := .val (.int _ _)) rfl rfl rfl; exact rfl
    apply sq_g; exact g_move (s := .av (.val (.int _ _))) rfl; exact rfl
    apply sq_g; exact g_cmp rfl rfl rfl; exact rfl
    refine sq_nil ?_
    refine sq_then ?_
    (refine cq_cond rfl (fun hb => ?_) (fun hb => ?_) <;> (try simp only [decide_eq_true_eq, decide_eq_false_iff_not, beq_iff_eq, beq_eq_false_iff_ne, bne_iff_ne, bne_eq_false_iff_eq, ne_eq, Bool.not_eq_true', Bool.not_eq_false', Bool.and_eq_true, Bool.or_eq_true, Bool.and_eq_false_iff, Bool.or_eq_false_iff] at hb) <;> (try (exfalso; omega)))
    · have e1 : hasZ l v = true := any_yes (p := fun k => gz l k == v) hkl (beq_iff_eq.2 hb)
      refine cq_seq ?_
      refine cq_region ?_
      apply sq_g; exact g_assign (s := .av (.val (.bool _))) rfl; exact rfl
      refine sq_nil ?_
      refine sq_then ?_
      refine cq_ret ?_
      refine sq_inBlock_ret ?_
      refine sq_then_ret ?_
      refine sq_then_ret ?_
      refine sq_inBlock_ret ?_
      refine sq_then_ret ?_
      exact sq_res1 rfl (.tmp rfl) (by rw [e1])
    · refine cq_skip ?_
      refine sq_then ?_
      refine cq_region ?_
      apply sq_g; exact g_move (s := .av (.val (.int _ _))) rfl; exact rfl
      apply sq_g; exact g_arith rfl rfl rfl (by omega); exact rfl
      apply sq_g; exact g_assign (s := .av (.val (.int _ _))) rfl; exact rfl
      refine sq_nil ?_
      exact sq_round (k + 1) ⟨by omega, lt_step hall (beq_eq_false_iff_ne.2 hb)⟩ (by omega) (ent ⟨.refl _, .refl _, .int (by omega), trivial⟩ trivial)
  · have hkl : k = l.length := by omega
    subst hkl
    have e1 : hasZ l v = false := any_no (p := fun k => gz l k == v) hall
    refine cq_exit ?_
    refine sq_then ?_
    refine cq_seq ?_
    refine cq_region ?_
    apply sq_g; exact g_assign (s := .av (.val (.bool _))) rfl; exact rfl
    refine sq_nil ?_
    refine sq_then ?_
    refine cq_ret ?_
    exact sq_res1 rfl (.tmp rfl) (by rw [e1])
theorem indices_c (l : List Int) (n : Nat) (hn : l.length ≤ 1000000) : CtrA Try.prog 38 [zs l, vi n] (vi (idxE l n)) := by
  refine ctrA _ Try.func38 rfl rfl Try.ntmps38 rfl fun w Z => ?_
  simp only [initT, List.map_cons, List.map_nil, Nat.zero_add, Nat.reduceAdd]
  refine cq_seq ?_
  refine cq_region ?_
  apply sq_g; exact g_assign (s := .av (.val (.int _ _))) rfl; exact rfl
  refine sq_nil ?_
  refine sq_then ?_
  refine cq_seq ?_
  refine cq_seq ?_
  refine cq_region ?_
  apply sq_g; exact g_assign (s := .av (.val (.int _ _))) rfl; exact rfl
  refine sq_nil ?_
  refine sq_then ?_
  refine cq_block ?_
  refine cq_loop (γ := Nat) (fun i => [(0, .av (zs l)), (1, .av (vi n)), (5, .av (vi i))]) (fun _ => []) (fun i => i ≤ l.length ∧ ixE l n (l.length - i) i = idxE l n) (fun i => l.length - i) 0 ⟨Nat.zero_le _, by unfold idxE; rw [Nat.sub_zero]⟩ (ent ⟨.refl _, .refl _, .refl _, trivial⟩ trivial) ?_
  rintro i ⟨hi, hg⟩
  refine cq_seq ?_
  refine cq_seq ?_
  refine cq_region ?_
  apply sq_g; exact g_move (s := .av (.val (.int _ _))) rfl; exact rfl
  apply sq_g; exact g_move (s := .av _) rfl; exact rfl
  apply sq_g; exact g_len rfl; exact rfl
  apply sq_g; exact g_cmp rfl rfl rfl; exact rfl
  refine sq_nil ?_
  refine sq_then ?_
  (refine cq_cond rfl (fun hb => ?_) (fun hb => ?_) <;> (try simp only [decide_eq_true_eq, decide_eq_false_iff_not, beq_iff_eq, beq_eq_false_iff_ne, bne_iff_ne, bne_eq_false_iff_eq, ne_eq, Bool.not_eq_true', Bool.not_eq_false', Bool.and_eq_true, Bool.or_eq_true, Bool.and_eq_false_iff, Bool.or_eq_false_iff] at hb) <;> (try (exfalso; omega)))
  · have hil : i < l.length := by omega
    have hn : l.length - i = (l.length - (i + 1)) + 1 := by omega
    rw [hn] at hg
    unfold ixE at hg
    focus
      refine cq_skip ?_
      refine sq_then ?_
      refine cq_seq ?_
      refine cq_block ?_
      refine cq_seq ?_
      refine cq_seq ?_
      refine cq_region ?_
      apply sq_g; exact g_move (s := .av _) rfl; exact rfl
      apply sq_g; exact g_move (s := .av (.val (.int _ _))) rfl; exact rfl
      apply sq_g; exact g_index rfl rfl rfl (by omega); exact rfl
      apply sq_g; exact g_load (τ := .val (.int _ _)) rfl rfl rfl; exact rfl
      apply sq_g; exact g_cmp rfl rfl rfl; exact rfl
      apply sq_g; exact g_move (s := .av (.val (.bool _))) rfl; exact rfl
      refine sq_split rfl rfl (fun hb => ?_) (fun hb => ?_) <;> (try simp only [decide_eq_true_eq, decide_eq_false_iff_not, beq_iff_eq, beq_eq_false_iff_ne, bne_iff_ne, bne_eq_false_iff_eq, ne_eq, Bool.not_eq_true', Bool.not_eq_false', Bool.and_eq_true, Bool.or_eq_true, Bool.and_eq_false_iff, Bool.or_eq_false_iff] at hb) <;> (try (exfalso; omega))
      refine sq_off rfl rfl rfl rfl ?_
      refine sq_off rfl rfl rfl rfl ?_
      refine sq_off rfl rfl rfl rfl ?_
      refine sq_off rfl rfl rfl rfl ?_
      refine sq_off rfl rfl rfl rfl ?_
      refine sq_off rfl rfl rfl rfl ?_
      apply sq_g; exact g_pick (s := .av (.val (.bool _))) rfl rfl; exact rfl
      refine sq_nil ?_
      refine sq_then ?_
      refine cq_cond_t rfl ?_
      refine cq_seq ?_
      refine cq_region ?_
      apply sq_g; exact g_assign (s := .av (.val (.int _ _))) rfl; exact rfl
      refine sq_nil ?_
      refine sq_then ?_
      refine cq_ret ?_
      refine sq_then_ret ?_
      refine sq_inBlock_ret ?_
      refine sq_then_ret ?_
      refine sq_then_ret ?_
      refine sq_inBlock_ret ?_
      refine sq_then_ret ?_
      rotate_left
      apply sq_on; exact g_move (s := .av _) rfl; exact rfl; exact rfl; exact rfl
      apply sq_on; exact g_move (s := .av (.val (.int _ _))) rfl; exact rfl; exact rfl; exact rfl
      apply sq_on; exact g_index rfl rfl rfl (by omega); exact rfl; exact rfl; exact rfl
      apply sq_on; exact g_load (τ := .val (.int _ _)) rfl rfl rfl; exact rfl; exact rfl; exact rfl
      apply sq_on; exact g_move (s := .av (.val (.int _ _))) rfl; exact rfl; exact rfl; exact rfl
      apply sq_on; exact g_cmp rfl rfl rfl; exact rfl; exact rfl; exact rfl
      apply sq_g; exact g_pick (s := .av (.val (.bool _))) rfl rfl; exact rfl
      refine sq_nil ?_
      refine sq_then ?_
      rotate_left
    · rw [if_pos (.inl hb)] at hg
      exact sq_res1 rfl (.tmp rfl) (by rw [← hg])
    · have hb0 := hb
      (refine cq_cond rfl (fun hb => ?_) (fun hb => ?_) <;> (try simp only [decide_eq_true_eq, decide_eq_false_iff_not, beq_iff_eq, beq_eq_false_iff_ne, bne_iff_ne, bne_eq_false_iff_eq, ne_eq, Bool.not_eq_true', Bool.not_eq_false', Bool.and_eq_true, Bool.or_eq_true, Bool.and_eq_false_iff, Bool.or_eq_false_iff] at hb) <;> (try (exfalso; omega)))
      · rw [if_pos (.inr hb)] at hg
        refine cq_seq ?_
        refine cq_region ?_
        apply sq_g; exact g_assign (s := .av (.val (.int _ _))) rfl; exact rfl
        refine sq_nil ?_
        refine sq_then ?_
        refine cq_ret ?_
        refine sq_then_ret ?_
        refine sq_inBlock_ret ?_
        refine sq_then_ret ?_
        refine sq_then_ret ?_
        refine sq_inBlock_ret ?_
        refine sq_then_ret ?_
        exact sq_res1 rfl (.tmp rfl) (by rw [← hg])
      · rw [if_neg (by omega)] at hg
        focus
          refine cq_skip ?_
          refine sq_then ?_
          refine cq_seq ?_
          refine cq_drawn ?_
          apply dq_g; exact g_move (s := .av (.val (.int _ _))) rfl; exact rfl
          apply dq_g; exact g_cmp rfl rfl rfl; exact rfl
          apply dq_g; exact g_move (s := .av (.val (.bool _))) rfl; exact rfl
          refine dq_split rfl rfl (fun hb => ?_) (fun hb => ?_) <;> (try simp only [decide_eq_true_eq, decide_eq_false_iff_not, beq_iff_eq, beq_eq_false_iff_ne, bne_iff_ne, bne_eq_false_iff_eq, ne_eq, Bool.not_eq_true', Bool.not_eq_false', Bool.and_eq_true, Bool.or_eq_true, Bool.and_eq_false_iff, Bool.or_eq_false_iff] at hb) <;> (try (exfalso; omega))
          apply dq_on; exact g_move (s := .av _) rfl; exact rfl; exact rfl; exact rfl
          apply dq_on; exact g_move (s := .av (.val (.int _ _))) rfl; exact rfl; exact rfl; exact rfl
          apply dq_on; exact g_index rfl rfl rfl (by omega); exact rfl; exact rfl; exact rfl
          apply dq_on; exact g_load (τ := .val (.int _ _)) rfl rfl rfl; exact rfl; exact rfl; exact rfl
          apply dq_on; exact g_move (s := .av _) rfl; exact rfl; exact rfl; exact rfl
          apply dq_on; exact g_move (s := .av (.val (.int _ _))) rfl; exact rfl; exact rfl; exact rfl
          apply dq_on; exact g_arith rfl rfl rfl (by omega); exact rfl; exact rfl; exact rfl
          apply dq_on; exact  g_index (k := i - 1) rfl rfl (by omega) (by omega); exact rfl; exact rfl; exact rfl
          apply dq_on; exact g_load (τ := .val (.int _ _)) rfl rfl rfl; exact rfl; exact rfl; exact rfl
          apply dq_on; exact g_cmp rfl rfl rfl; exact rfl; exact rfl; exact rfl
          apply dq_g; exact g_pick (s := .av (.val (.bool _))) rfl rfl; exact rfl
          refine dq_nil tm (by kernel_rfl) ?_
          refine sq_then ?_
          rotate_left
          refine dq_off nofun rfl rfl rfl rfl ?_
          refine dq_off nofun rfl rfl rfl rfl ?_
          refine dq_off nofun rfl rfl rfl rfl ?_
          refine dq_off nofun rfl rfl rfl rfl ?_
          refine dq_off nofun rfl rfl rfl rfl ?_
          refine dq_off nofun rfl rfl rfl rfl ?_
          refine dq_off nofun rfl rfl rfl rfl ?_
          refine dq_off nofun rfl rfl rfl rfl ?_
          refine dq_off nofun rfl rfl rfl rfl ?_
          refine dq_off nofun rfl rfl rfl rfl ?_
          apply dq_g; exact g_pick (s := .av (.val (.bool _))) rfl rfl; exact rfl
          refine dq_nil tm (by kernel_rfl) ?_
          refine sq_then ?_
          refine cq_cond_f rfl ?_
          refine cq_skip ?_
          refine sq_then ?_
          refine cq_region ?_
          apply sq_g; exact g_move (s := .av (.val (.int _ _))) rfl; exact rfl
          apply sq_g; exact g_arith rfl rfl rfl (by omega); exact rfl
          apply sq_g; exact g_assign (s := .av (.val (.int _ _))) rfl; exact rfl
          refine sq_nil ?_
          rotate_left
        · have hb1 := hb
          (refine cq_cond rfl (fun hb => ?_) (fun hb => ?_) <;> (try simp only [decide_eq_true_eq, decide_eq_false_iff_not, beq_iff_eq, beq_eq_false_iff_ne, bne_iff_ne, bne_eq_false_iff_eq, ne_eq, Bool.not_eq_true', Bool.not_eq_false', Bool.and_eq_true, Bool.or_eq_true, Bool.and_eq_false_iff, Bool.or_eq_false_iff] at hb) <;> (try (exfalso; omega)))
          · rw [if_pos ⟨by omega, hb⟩] at hg
            refine cq_seq ?_
            refine cq_region ?_
            apply sq_g; exact g_assign (s := .av (.val (.int _ _))) rfl; exact rfl
            refine sq_nil ?_
            refine sq_then ?_
            refine cq_ret ?_
            refine sq_inBlock_ret ?_
            refine sq_then_ret ?_
            refine sq_then_ret ?_
            refine sq_inBlock_ret ?_
            refine sq_then_ret ?_
            exact sq_res1 rfl (.tmp rfl) (by rw [← hg])
          · rw [if_neg (by omega)] at hg
            refine cq_skip ?_
            refine sq_then ?_
            refine cq_region ?_
            apply sq_g; exact g_move (s := .av (.val (.int _ _))) rfl; exact rfl
            apply sq_g; exact g_arith rfl rfl rfl (by omega); exact rfl
            apply sq_g; exact g_assign (s := .av (.val (.int _ _))) rfl; exact rfl
            refine sq_nil ?_
            exact sq_round (i + 1) ⟨by omega, hg⟩ (by omega) (ent ⟨.refl _, .refl _, .int (by omega), trivial⟩ trivial)
        · rw [if_neg (by omega)] at hg
          exact sq_round (i + 1) ⟨by omega, hg⟩ (by omega) (ent ⟨.refl _, .refl _, .int (by omega), trivial⟩ trivial)
  · have hil : i = l.length := by omega
    rw [hil, Nat.sub_self] at hg
    unfold ixE at hg
    refine cq_exit ?_
    refine sq_then ?_
    refine cq_seq ?_
    refine cq_region ?_
    apply sq_g; exact g_assign (s := .av (.val (.int _ _))) rfl; exact rfl
    refine sq_nil ?_
    refine sq_then ?_
    refine cq_ret ?_
    exact sq_res1 rfl (.tmp rfl) (by rw [← hg])
theorem chkL2 (H P : List Int) : chkL [H, P] = if 256 < H.length ∨ 256 < P.length then 5 else if bad H = true ∨ bad P = true then 2 else 0 := by
  have e1 : (List.range [H, P].length).any (fun k => decide (256 < (gl [H, P] k).length)) = true ↔ 256 < H.length ∨ 256 < P.length := by
    have : List.range [H, P].length = [0, 1] := by rfl
    rw [this]; simp [gl]
  have e2 : (List.range [H, P].length).any (fun k => bad (gl [H, P] k)) = true ↔ bad H = true ∨ bad P = true := by
    have : List.range [H, P].length = [0, 1] := by rfl
    rw [this]; simp [gl]
  unfold chkL
  simp only [e1, e2]
theorem errC5 {H P : List Int} {lo hi : Int} (h : 256 < H.length ∨ 256 < P.length) : errC H P lo hi = 5 := by
  have e : chkL [H, P] = 5 := by rw [chkL2, if_pos h]
  unfold errC; rw [e, if_pos (by decide)]
theorem errC2 {H P : List Int} {lo hi : Int} (h : ¬ (256 < H.length ∨ 256 < P.length)) (h2 : bad H = true ∨ bad P = true ∨ outZ lo = true ∨ outZ hi = true) : errC H P lo hi = 2 := by
  by_cases hbd : bad H = true ∨ bad P = true
  · have e : chkL [H, P] = 2 := by rw [chkL2, if_neg h, if_pos hbd]
    unfold errC; rw [e, if_pos (by decide)]
  · have e : chkL [H, P] = 0 := by rw [chkL2, if_neg h, if_neg hbd]
    have h3 : (outZ lo || outZ hi) = true := by
      rcases h2 with h2 | h2 | h2 | h2
      · exact absurd (.inl h2) hbd
      · exact absurd (.inr h2) hbd
      · rw [h2]; rfl
      · rw [h2, Bool.or_true]
    unfold errC; rw [e, if_neg (by decide), if_pos h3]
theorem errC9 {H P : List Int} {lo hi : Int} (h : ¬ (256 < H.length ∨ 256 < P.length)) (h1 : bad H = false) (h2 : bad P = false) (h3 : outZ lo = false) (h4 : outZ hi = false) : errC H P lo hi = if hi < lo then 9 else 0 := by
  have e : chkL [H, P] = 0 := by rw [chkL2, if_neg h, if_neg (by rw [h1, h2]; simp)]
  unfold errC; rw [e, if_neg (by decide), h3, h4]; rfl
theorem two_if (b : Bool) : ((if b = true then (2 : Int) else 0) ≠ 0) ↔ b = true := by cases b <;> simp
theorem rcheck_c (H P : List Int) (lo hi : Int) (hH : H.length ≤ 1000000) (hP : P.length ≤ 1000000) : CtrA Try.prog 22 [zs H, zs P, lim lo hi] (vi (errC H P lo hi)) := by
  refine ctrA _ Try.func22 rfl rfl Try.ntmps22 rfl fun w Z => ?_
  have sH := sizes_c H hH
  have sP := sizes_c P hP
  have iL := inside_c lo
  have iU := inside_c hi
  obtain ⟨a, ea⟩ : ∃ a : Int, (if bad H = true then (2 : Int) else 0) = a := ⟨_, rfl⟩
  obtain ⟨b, eb⟩ : ∃ b : Int, (if bad P = true then (2 : Int) else 0) = b := ⟨_, rfl⟩
  have ha : a ≠ 0 ↔ bad H = true := by rw [← ea]; exact two_if _
  have hb' : b ≠ 0 ↔ bad P = true := by rw [← eb]; exact two_if _
  rw [ea] at sH
  rw [eb] at sP
  simp only [initT, List.map_cons, List.map_nil, Nat.zero_add, Nat.reduceAdd]
  focus
    refine cq_seq ?_
    refine cq_region ?_
    apply sq_g; exact g_box_agg rfl; exact rfl
    apply sq_g; exact g_assign (s := .av (.val (.int _ _))) rfl; exact rfl
    refine sq_nil ?_
    refine sq_then ?_
    refine cq_seq ?_
    refine cq_seq ?_
    refine cq_region ?_
    apply sq_g; exact g_move (s := .av _) rfl; exact rfl
    apply sq_g; exact g_len rfl; exact rfl
    apply sq_g; exact g_cmp rfl rfl rfl; exact rfl
    apply sq_g; exact g_move (s := .av (.val (.bool _))) rfl; exact rfl
    refine sq_split rfl rfl (fun hb => ?_) (fun hb => ?_) <;> (try simp only [decide_eq_true_eq, decide_eq_false_iff_not, beq_iff_eq, beq_eq_false_iff_ne, bne_iff_ne, bne_eq_false_iff_eq, ne_eq, Bool.not_eq_true', Bool.not_eq_false', Bool.and_eq_true, Bool.or_eq_true, Bool.and_eq_false_iff, Bool.or_eq_false_iff] at hb) <;> (try (exfalso; omega))
    refine sq_off rfl rfl rfl rfl ?_
    refine sq_off rfl rfl rfl rfl ?_
    refine sq_off rfl rfl rfl rfl ?_
    apply sq_g; exact g_pick (s := .av (.val (.bool _))) rfl rfl; exact rfl
    refine sq_nil ?_
    refine sq_then ?_
    refine cq_cond_t rfl ?_
    refine cq_seq ?_
    refine cq_region ?_
    apply sq_g; exact g_assign (s := .av (.val (.int _ _))) rfl; exact rfl
    refine sq_nil ?_
    refine sq_then ?_
    refine cq_ret ?_
    refine sq_then_ret ?_
    rotate_left
    apply sq_on; exact g_move (s := .av _) rfl; exact rfl; exact rfl; exact rfl
    apply sq_on; exact g_len rfl; exact rfl; exact rfl; exact rfl
    apply sq_on; exact g_cmp rfl rfl rfl; exact rfl; exact rfl; exact rfl
    apply sq_g; exact g_pick (s := .av (.val (.bool _))) rfl rfl; exact rfl
    refine sq_nil ?_
    refine sq_then ?_
    rotate_left
  · have e1 := errC5 (H := H) (P := P) (lo := lo) (hi := hi) (.inl (by omega))
    exact sq_res1 rfl (.tmp rfl) (by rw [e1])
  · have hn1 := hb
    (refine cq_cond rfl (fun hb => ?_) (fun hb => ?_) <;> (try simp only [decide_eq_true_eq, decide_eq_false_iff_not, beq_iff_eq, beq_eq_false_iff_ne, bne_iff_ne, bne_eq_false_iff_eq, ne_eq, Bool.not_eq_true', Bool.not_eq_false', Bool.and_eq_true, Bool.or_eq_true, Bool.and_eq_false_iff, Bool.or_eq_false_iff] at hb) <;> (try (exfalso; omega)))
    · have e1 := errC5 (H := H) (P := P) (lo := lo) (hi := hi) (.inr (by omega))
      refine cq_seq ?_
      refine cq_region ?_
      apply sq_g; exact g_assign (s := .av (.val (.int _ _))) rfl; exact rfl
      refine sq_nil ?_
      refine sq_then ?_
      refine cq_ret ?_
      refine sq_then_ret ?_
      exact sq_res1 rfl (.tmp rfl) (by rw [e1])
    · have hn : ¬ (256 < H.length ∨ 256 < P.length) := by omega
      have e2 := errC2 (lo := lo) (hi := hi) hn
      have e9 := errC9 (lo := lo) (hi := hi) hn
      focus
        refine cq_skip ?_
        refine sq_then ?_
        refine cq_seq ?_
        refine cq_seq ?_
        refine cq_region ?_
        apply sq_g; exact g_move (s := .av _) rfl; exact rfl
        apply sq_g; exact g_call (sH) rfl; exact rfl
        apply sq_g; exact g_cmp rfl rfl rfl; exact rfl
        apply sq_g; exact g_move (s := .av (.val (.bool _))) rfl; exact rfl
        refine sq_split rfl rfl (fun hb => ?_) (fun hb => ?_) <;> (try simp only [decide_eq_true_eq, decide_eq_false_iff_not, beq_iff_eq, beq_eq_false_iff_ne, bne_iff_ne, bne_eq_false_iff_eq, ne_eq, Bool.not_eq_true', Bool.not_eq_false', Bool.and_eq_true, Bool.or_eq_true, Bool.and_eq_false_iff, Bool.or_eq_false_iff] at hb) <;> (try (exfalso; omega))
        refine sq_off rfl rfl rfl rfl ?_
        refine sq_off rfl rfl rfl rfl ?_
        refine sq_off rfl rfl rfl rfl ?_
        apply sq_g; exact g_pick (s := .av (.val (.bool _))) rfl rfl; exact rfl
        apply sq_g; exact g_move (s := .av (.val (.bool _))) rfl; exact rfl
        refine sq_off rfl rfl rfl rfl ?_
        refine sq_off rfl rfl rfl rfl ?_
        refine sq_off rfl rfl rfl rfl ?_
        refine sq_off rfl rfl rfl rfl ?_
        apply sq_g; exact g_pick (s := .av (.val (.bool _))) rfl rfl; exact rfl
        apply sq_g; exact g_move (s := .av (.val (.bool _))) rfl; exact rfl
        refine sq_off rfl rfl rfl rfl ?_
        refine sq_off rfl rfl rfl rfl ?_
        refine sq_off rfl rfl rfl rfl ?_
        refine sq_off rfl rfl rfl rfl ?_
        apply sq_g; exact g_pick (s := .av (.val (.bool _))) rfl rfl; exact rfl
        refine sq_nil ?_
        refine sq_then ?_
        refine cq_cond_t rfl ?_
        refine cq_seq ?_
        refine cq_region ?_
        apply sq_g; exact g_assign (s := .av (.val (.int _ _))) rfl; exact rfl
        refine sq_nil ?_
        refine sq_then ?_
        refine cq_ret ?_
        refine sq_then_ret ?_
        rotate_left
        apply sq_on; exact g_move (s := .av _) rfl; exact rfl; exact rfl; exact rfl
        apply sq_on; exact g_call (sP) rfl; exact rfl; exact rfl; exact rfl
        apply sq_on; exact g_cmp rfl rfl rfl; exact rfl; exact rfl; exact rfl
        apply sq_g; exact g_pick (s := .av (.val (.bool _))) rfl rfl; exact rfl
        apply sq_g; exact g_move (s := .av (.val (.bool _))) rfl; exact rfl
        refine sq_split rfl rfl (fun hb => ?_) (fun hb => ?_) <;> (try simp only [decide_eq_true_eq, decide_eq_false_iff_not, beq_iff_eq, beq_eq_false_iff_ne, bne_iff_ne, bne_eq_false_iff_eq, ne_eq, Bool.not_eq_true', Bool.not_eq_false', Bool.and_eq_true, Bool.or_eq_true, Bool.and_eq_false_iff, Bool.or_eq_false_iff] at hb) <;> (try (exfalso; omega))
        refine sq_off rfl rfl rfl rfl ?_
        refine sq_off rfl rfl rfl rfl ?_
        refine sq_off rfl rfl rfl rfl ?_
        refine sq_off rfl rfl rfl rfl ?_
        apply sq_g; exact g_pick (s := .av (.val (.bool _))) rfl rfl; exact rfl
        apply sq_g; exact g_move (s := .av (.val (.bool _))) rfl; exact rfl
        refine sq_off rfl rfl rfl rfl ?_
        refine sq_off rfl rfl rfl rfl ?_
        refine sq_off rfl rfl rfl rfl ?_
        refine sq_off rfl rfl rfl rfl ?_
        apply sq_g; exact g_pick (s := .av (.val (.bool _))) rfl rfl; exact rfl
        refine sq_nil ?_
        refine sq_then ?_
        refine cq_cond_t rfl ?_
        refine cq_seq ?_
        refine cq_region ?_
        apply sq_g; exact g_assign (s := .av (.val (.int _ _))) rfl; exact rfl
        refine sq_nil ?_
        refine sq_then ?_
        refine cq_ret ?_
        refine sq_then_ret ?_
        rotate_left
        apply sq_on; exact g_field rfl; exact rfl; exact rfl; exact rfl
        apply sq_on; exact g_load (τ := .val (.int _ _)) rfl rfl rfl; exact rfl; exact rfl; exact rfl
        apply sq_on; exact g_call (iL) rfl; exact rfl; exact rfl; exact rfl
        apply sq_on; exact g_not rfl; exact rfl; exact rfl; exact rfl
        apply sq_g; exact g_pick (s := .av (.val (.bool _))) rfl rfl; exact rfl
        apply sq_g; exact g_move (s := .av (.val (.bool _))) rfl; exact rfl
        refine sq_split rfl rfl (fun hb => ?_) (fun hb => ?_) <;> (try simp only [decide_eq_true_eq, decide_eq_false_iff_not, beq_iff_eq, beq_eq_false_iff_ne, bne_iff_ne, bne_eq_false_iff_eq, ne_eq, Bool.not_eq_true', Bool.not_eq_false', Bool.and_eq_true, Bool.or_eq_true, Bool.and_eq_false_iff, Bool.or_eq_false_iff] at hb) <;> (try (exfalso; omega))
        refine sq_off rfl rfl rfl rfl ?_
        refine sq_off rfl rfl rfl rfl ?_
        refine sq_off rfl rfl rfl rfl ?_
        refine sq_off rfl rfl rfl rfl ?_
        apply sq_g; exact g_pick (s := .av (.val (.bool _))) rfl rfl; exact rfl
        refine sq_nil ?_
        refine sq_then ?_
        refine cq_cond_t rfl ?_
        refine cq_seq ?_
        refine cq_region ?_
        apply sq_g; exact g_assign (s := .av (.val (.int _ _))) rfl; exact rfl
        refine sq_nil ?_
        refine sq_then ?_
        refine cq_ret ?_
        refine sq_then_ret ?_
        rotate_left
        apply sq_on; exact g_field rfl; exact rfl; exact rfl; exact rfl
        apply sq_on; exact g_load (τ := .val (.int _ _)) rfl rfl rfl; exact rfl; exact rfl; exact rfl
        apply sq_on; exact g_call (iU) rfl; exact rfl; exact rfl; exact rfl
        apply sq_on; exact g_not rfl; exact rfl; exact rfl; exact rfl
        apply sq_g; exact g_pick (s := .av (.val (.bool _))) rfl rfl; exact rfl
        refine sq_nil ?_
        refine sq_then ?_
        rotate_left
      · have e1 := e2 (.inl (ha.1 hb))
        exact sq_res1 rfl (.tmp rfl) (by rw [e1])
      · have e1 := e2 (.inr (.inl (hb'.1 hb)))
        exact sq_res1 rfl (.tmp rfl) (by rw [e1])
      · have e1 := e2 (.inr (.inr (.inl hb)))
        exact sq_res1 rfl (.tmp rfl) (by rw [e1])
      · rename_i a0 b0
        have hlo := hb
        have h1 : bad H = false := Bool.eq_false_iff.2 fun h => ha.2 h a0
        have h2 : bad P = false := Bool.eq_false_iff.2 fun h => hb'.2 h b0
        refine cq_cond rfl (fun hb => ?_) (fun hb => ?_)
        · have e1 := e2 (.inr (.inr (.inr (by simpa using hb))))
          refine cq_seq ?_
          refine cq_region ?_
          apply sq_g; exact g_assign (s := .av (.val (.int _ _))) rfl; exact rfl
          refine sq_nil ?_
          refine sq_then ?_
          refine cq_ret ?_
          refine sq_then_ret ?_
          exact sq_res1 rfl (.tmp rfl) (by rw [e1])
        · have e1 := e9 h1 h2 hlo (by simpa using hb)
          refine cq_skip ?_
          refine sq_then ?_
          refine cq_seq ?_
          refine cq_seq ?_
          refine cq_region ?_
          apply sq_g; exact g_field rfl; exact rfl
          apply sq_g; exact g_load (τ := .val (.int _ _)) rfl rfl rfl; exact rfl
          apply sq_g; exact g_field rfl; exact rfl
          apply sq_g; exact g_load (τ := .val (.int _ _)) rfl rfl rfl; exact rfl
          apply sq_g; exact g_cmp rfl rfl rfl; exact rfl
          refine sq_nil ?_
          refine sq_then ?_
          (refine cq_cond rfl (fun hb => ?_) (fun hb => ?_) <;> (try simp only [decide_eq_true_eq, decide_eq_false_iff_not, beq_iff_eq, beq_eq_false_iff_ne, bne_iff_ne, bne_eq_false_iff_eq, ne_eq, Bool.not_eq_true', Bool.not_eq_false', Bool.and_eq_true, Bool.or_eq_true, Bool.and_eq_false_iff, Bool.or_eq_false_iff] at hb) <;> (try (exfalso; omega)))
          · rw [if_pos hb] at e1
            refine cq_seq ?_
            refine cq_region ?_
            apply sq_g; exact g_assign (s := .av (.val (.int _ _))) rfl; exact rfl
            refine sq_nil ?_
            refine sq_then ?_
            refine cq_ret ?_
            refine sq_then_ret ?_
            exact sq_res1 rfl (.tmp rfl) (by rw [e1])
          · rw [if_neg hb] at e1
            refine cq_skip ?_
            refine sq_then ?_
            refine cq_seq ?_
            refine cq_region ?_
            apply sq_g; exact g_assign (s := .av (.val (.int _ _))) rfl; exact rfl
            refine sq_nil ?_
            refine sq_then ?_
            refine cq_ret ?_
            exact sq_res1 rfl (.tmp rfl) (by rw [e1])
end Go.Proofs.Ytogilkilkmoedaa
namespace Go.Proofs.Ytogilkilkmoedaa
open Go Go.Vc Go.RowKit
set_option maxHeartbeats 8000000
/-! KDQ -/
theorem rprove_c (HH PP : List Int) (lo up : Int) (h p : List Int) (sH : HH.length ≤ 1000000) (sP : PP.length ≤ 1000000) (sh : h.length ≤ 1000000) (sp : p.length ≤ 1000000) : CtrA Try.prog 14 [zs HH, zs PP, lim lo up, zs h, zs p] (vi (proveZ HH PP lo up h p)) := by
  refine ctrA _ Try.func14 rfl rfl Try.ntmps14 rfl fun w Z => ?_
  have hchk := rcheck_c HH PP lo up sH sP
  have i1 := indices_c h HH.length sh
  have i2 := indices_c p PP.length sp
  simp only [initT, List.map_cons, List.map_nil, Nat.zero_add, Nat.reduceAdd]
  refine cq_seq ?_
  refine cq_region ?_
  apply sq_g; exact g_box_agg rfl; exact rfl
  apply sq_g; exact g_assign (s := .av (.val (.int _ _))) rfl; exact rfl
  refine sq_nil ?_
  refine sq_then ?_
  refine cq_seq ?_
  refine cq_seq ?_
  refine cq_region ?_
  apply sq_g; exact g_move (s := .av _) rfl; exact rfl
  apply sq_g; exact g_move (s := .av _) rfl; exact rfl
  apply sq_g; exact g_load_agg (us := [.int _ _, .int _ _]) rfl rfl rfl rfl; exact rfl
  apply sq_g; exact g_call (hchk) rfl; exact rfl
  apply sq_g; exact g_assign (s := .av (.val (.int _ _))) rfl; exact rfl
  refine sq_nil ?_
  refine sq_then ?_
  refine cq_seq ?_
  refine cq_region ?_
  apply sq_g; exact g_move (s := .av (.val (.int _ _))) rfl; exact rfl
  apply sq_g; exact g_cmp rfl rfl rfl; exact rfl
  refine sq_nil ?_
  refine sq_then ?_
  (refine cq_cond rfl (fun hb => ?_) (fun hb => ?_) <;> (try simp only [decide_eq_true_eq, decide_eq_false_iff_not, beq_iff_eq, beq_eq_false_iff_ne, bne_iff_ne, bne_eq_false_iff_eq, ne_eq, Bool.not_eq_true', Bool.not_eq_false', Bool.and_eq_true, Bool.or_eq_true, Bool.and_eq_false_iff, Bool.or_eq_false_iff] at hb) <;> (try (exfalso; omega)))
  · have e1 : proveZ HH PP lo up h p = errC HH PP lo up := by unfold proveZ; rw [if_pos hb]
    refine cq_seq ?_
    refine cq_region ?_
    apply sq_g; exact g_move (s := .av (.val (.int _ _))) rfl; exact rfl
    apply sq_g; exact g_assign (s := .av (.val (.int _ _))) rfl; exact rfl
    refine sq_nil ?_
    refine sq_then ?_
    refine cq_ret ?_
    refine sq_then_ret ?_
    exact sq_res1 rfl (.tmp rfl) (by rw [e1])
  · have he : errC HH PP lo up = 0 := by omega
    obtain ⟨rH, rP⟩ := errC_ok he
    have bH := rH.bi
    have bP := rP.bi
    have e0 : proveZ HH PP lo up h p = if idxE h HH.length ≠ 0 then idxE h HH.length else if idxE p PP.length ≠ 0 then idxE p PP.length else if (List.range HH.length).any (fun i => (List.range PP.length).any (fun k => uncov HH PP lo up h p i k)) then 15 else 0 := by unfold proveZ; rw [if_neg (by omega)]
    refine cq_skip ?_
    refine sq_then ?_
    refine cq_seq ?_
    refine cq_seq ?_
    refine cq_region ?_
    apply sq_g; exact g_move (s := .av _) rfl; exact rfl
    apply sq_g; exact g_move (s := .av _) rfl; exact rfl
    apply sq_g; exact g_len rfl; exact rfl
    apply sq_g; exact g_call (i1) rfl; exact rfl
    apply sq_g; exact g_assign (s := .av (.val (.int _ _))) rfl; exact rfl
    refine sq_nil ?_
    refine sq_then ?_
    refine cq_seq ?_
    refine cq_region ?_
    apply sq_g; exact g_move (s := .av (.val (.int _ _))) rfl; exact rfl
    apply sq_g; exact g_cmp rfl rfl rfl; exact rfl
    refine sq_nil ?_
    refine sq_then ?_
    (refine cq_cond rfl (fun hb => ?_) (fun hb => ?_) <;> (try simp only [decide_eq_true_eq, decide_eq_false_iff_not, beq_iff_eq, beq_eq_false_iff_ne, bne_iff_ne, bne_eq_false_iff_eq, ne_eq, Bool.not_eq_true', Bool.not_eq_false', Bool.and_eq_true, Bool.or_eq_true, Bool.and_eq_false_iff, Bool.or_eq_false_iff] at hb) <;> (try (exfalso; omega)))
    · rw [if_pos hb] at e0
      refine cq_seq ?_
      refine cq_region ?_
      apply sq_g; exact g_move (s := .av (.val (.int _ _))) rfl; exact rfl
      apply sq_g; exact g_assign (s := .av (.val (.int _ _))) rfl; exact rfl
      refine sq_nil ?_
      refine sq_then ?_
      refine cq_ret ?_
      refine sq_then_ret ?_
      exact sq_res1 rfl (.tmp rfl) (by rw [e0])
    · rw [if_neg (by omega)] at e0
      refine cq_skip ?_
      refine sq_then ?_
      refine cq_seq ?_
      refine cq_seq ?_
      refine cq_region ?_
      apply sq_g; exact g_move (s := .av _) rfl; exact rfl
      apply sq_g; exact g_move (s := .av _) rfl; exact rfl
      apply sq_g; exact g_len rfl; exact rfl
      apply sq_g; exact g_call (i2) rfl; exact rfl
      apply sq_g; exact g_assign (s := .av (.val (.int _ _))) rfl; exact rfl
      refine sq_nil ?_
      refine sq_then ?_
      refine cq_seq ?_
      refine cq_region ?_
      apply sq_g; exact g_move (s := .av (.val (.int _ _))) rfl; exact rfl
      apply sq_g; exact g_cmp rfl rfl rfl; exact rfl
      refine sq_nil ?_
      refine sq_then ?_
      (refine cq_cond rfl (fun hb => ?_) (fun hb => ?_) <;> (try simp only [decide_eq_true_eq, decide_eq_false_iff_not, beq_iff_eq, beq_eq_false_iff_ne, bne_iff_ne, bne_eq_false_iff_eq, ne_eq, Bool.not_eq_true', Bool.not_eq_false', Bool.and_eq_true, Bool.or_eq_true, Bool.and_eq_false_iff, Bool.or_eq_false_iff] at hb) <;> (try (exfalso; omega)))
      · rw [if_pos hb] at e0
        refine cq_seq ?_
        refine cq_region ?_
        apply sq_g; exact g_move (s := .av (.val (.int _ _))) rfl; exact rfl
        apply sq_g; exact g_assign (s := .av (.val (.int _ _))) rfl; exact rfl
        refine sq_nil ?_
        refine sq_then ?_
        refine cq_ret ?_
        refine sq_then_ret ?_
        exact sq_res1 rfl (.tmp rfl) (by rw [e0])
      · rw [if_neg (by omega)] at e0
        refine cq_skip ?_
        refine sq_then ?_
        refine cq_seq ?_
        refine cq_seq ?_
        refine cq_region ?_
        apply sq_g; exact g_assign (s := .av (.val (.int _ _))) rfl; exact rfl
        refine sq_nil ?_
        refine sq_then ?_
        refine cq_block ?_
        refine cq_loop (γ := Nat) (fun a => [(0, .av (zs HH)), (1, .av (zs PP)), (3, .av (zs h)), (4, .av (zs p)), (7, .av (blim lo up)), (14, .av (vi a))]) (fun _ => []) (fun a => a ≤ HH.length ∧ ∀ j, j < a → ((List.range PP.length).any (fun k => uncov HH PP lo up h p j k)) = false) (fun a => HH.length - a) 0 ⟨Nat.zero_le _, by omega⟩ (ent ⟨.refl _, .refl _, .refl _, .refl _, .refl _, .refl _, trivial⟩ trivial) ?_
        rintro a ⟨ha, hall⟩
        refine cq_seq ?_
        refine cq_seq ?_
        refine cq_region ?_
        apply sq_g; exact g_move (s := .av (.val (.int _ _))) rfl; exact rfl
        apply sq_g; exact g_move (s := .av _) rfl; exact rfl
        apply sq_g; exact g_len rfl; exact rfl
        apply sq_g; exact g_cmp rfl rfl rfl; exact rfl
        refine sq_nil ?_
        refine sq_then ?_
        (refine cq_cond rfl (fun hb => ?_) (fun hb => ?_) <;> (try simp only [decide_eq_true_eq, decide_eq_false_iff_not, beq_iff_eq, beq_eq_false_iff_ne, bne_iff_ne, bne_eq_false_iff_eq, ne_eq, Bool.not_eq_true', Bool.not_eq_false', Bool.and_eq_true, Bool.or_eq_true, Bool.and_eq_false_iff, Bool.or_eq_false_iff] at hb) <;> (try (exfalso; omega)))
        · have hal : a < HH.length := by omega
          refine cq_skip ?_
          refine sq_then ?_
          refine cq_seq ?_
          refine cq_block ?_
          refine cq_seq ?_
          refine cq_region ?_
          apply sq_g; exact g_assign (s := .av (.val (.int _ _))) rfl; exact rfl
          refine sq_nil ?_
          refine sq_then ?_
          refine cq_block ?_
          refine cq_loop (γ := Nat) (fun b => [(0, .av (zs HH)), (1, .av (zs PP)), (3, .av (zs h)), (4, .av (zs p)), (7, .av (blim lo up)), (14, .av (vi a)), (15, .av (vi b))]) (fun _ => []) (fun b => b ≤ PP.length ∧ ∀ j, j < b → uncov HH PP lo up h p a j = false) (fun b => PP.length - b) 0 ⟨Nat.zero_le _, by omega⟩ (ent ⟨.refl _, .refl _, .refl _, .refl _, .refl _, .refl _, .refl _, trivial⟩ trivial) ?_
          rintro b ⟨hbb, hall2⟩
          refine cq_seq ?_
          refine cq_seq ?_
          refine cq_region ?_
          apply sq_g; exact g_move (s := .av (.val (.int _ _))) rfl; exact rfl
          apply sq_g; exact g_move (s := .av _) rfl; exact rfl
          apply sq_g; exact g_len rfl; exact rfl
          apply sq_g; exact g_cmp rfl rfl rfl; exact rfl
          refine sq_nil ?_
          refine sq_then ?_
          (refine cq_cond rfl (fun hb => ?_) (fun hb => ?_) <;> (try simp only [decide_eq_true_eq, decide_eq_false_iff_not, beq_iff_eq, beq_eq_false_iff_ne, bne_iff_ne, bne_eq_false_iff_eq, ne_eq, Bool.not_eq_true', Bool.not_eq_false', Bool.and_eq_true, Bool.or_eq_true, Bool.and_eq_false_iff, Bool.or_eq_false_iff] at hb) <;> (try (exfalso; omega)))
          · have hbl : b < PP.length := by omega
            have cf : CtrA Try.prog 39 [vi (gz HH a), vi (gz PP b), lim lo up] (vb (fitN HH PP lo up a b)) := clear_c (gz HH a) (gz PP b) lo up (bH a) (bP b)
            have c1 := has_c h a sh
            have c2 := has_c p b sp
            focus
              refine cq_skip ?_
              refine sq_then ?_
              refine cq_seq ?_
              refine cq_block ?_
              refine cq_seq ?_
              refine cq_drawn ?_
              apply dq_g; exact g_move (s := .av _) rfl; exact rfl
              apply dq_g; exact g_move (s := .av (.val (.int _ _))) rfl; exact rfl
              apply dq_g; exact g_index rfl rfl rfl (by omega); exact rfl
              apply dq_g; exact g_load (τ := .val (.int _ _)) rfl rfl rfl; exact rfl
              apply dq_g; exact g_move (s := .av _) rfl; exact rfl
              apply dq_g; exact g_move (s := .av (.val (.int _ _))) rfl; exact rfl
              apply dq_g; exact g_index rfl rfl rfl (by omega); exact rfl
              apply dq_g; exact g_load (τ := .val (.int _ _)) rfl rfl rfl; exact rfl
              apply dq_g; exact g_load_agg (us := [.int _ _, .int _ _]) rfl rfl rfl rfl; exact rfl
              apply dq_g; exact g_call (cf) rfl; exact rfl
              apply dq_g; exact g_move (s := .av (.val (.bool _))) rfl; exact rfl
              refine dq_split rfl rfl (fun hb => ?_) (fun hb => ?_) <;> (try simp only [decide_eq_true_eq, decide_eq_false_iff_not, beq_iff_eq, beq_eq_false_iff_ne, bne_iff_ne, bne_eq_false_iff_eq, ne_eq, Bool.not_eq_true', Bool.not_eq_false', Bool.and_eq_true, Bool.or_eq_true, Bool.and_eq_false_iff, Bool.or_eq_false_iff] at hb) <;> (try (exfalso; omega))
              apply dq_on; exact g_move (s := .av _) rfl; exact rfl; exact rfl; exact rfl
              apply dq_on; exact g_move (s := .av (.val (.int _ _))) rfl; exact rfl; exact rfl; exact rfl
              apply dq_on; exact g_call (c1) rfl; exact rfl; exact rfl; exact rfl
              apply dq_on; exact g_not rfl; exact rfl; exact rfl; exact rfl
              apply dq_g; exact g_pick (s := .av (.val (.bool _))) rfl rfl; exact rfl
              apply dq_g; exact g_move (s := .av (.val (.bool _))) rfl; exact rfl
              refine dq_split rfl rfl (fun hb => ?_) (fun hb => ?_) <;> (try simp only [decide_eq_true_eq, decide_eq_false_iff_not, beq_iff_eq, beq_eq_false_iff_ne, bne_iff_ne, bne_eq_false_iff_eq, ne_eq, Bool.not_eq_true', Bool.not_eq_false', Bool.and_eq_true, Bool.or_eq_true, Bool.and_eq_false_iff, Bool.or_eq_false_iff] at hb) <;> (try (exfalso; omega))
              apply dq_on; exact g_move (s := .av _) rfl; exact rfl; exact rfl; exact rfl
              apply dq_on; exact g_move (s := .av (.val (.int _ _))) rfl; exact rfl; exact rfl; exact rfl
              apply dq_on; exact g_call (c2) rfl; exact rfl; exact rfl; exact rfl
              apply dq_on; exact g_not rfl; exact rfl; exact rfl; exact rfl
              apply dq_g; exact g_pick (s := .av (.val (.bool _))) rfl rfl; exact rfl
              refine dq_nil tm (by kernel_rfl) ?_
              refine sq_then ?_
              rotate_left
              refine dq_off nofun rfl rfl rfl rfl ?_
              refine dq_off nofun rfl rfl rfl rfl ?_
              refine dq_off nofun rfl rfl rfl rfl ?_
              refine dq_off nofun rfl rfl rfl rfl ?_
              apply dq_g; exact g_pick (s := .av (.val (.bool _))) rfl rfl; exact rfl
              refine dq_nil tm (by kernel_rfl) ?_
              refine sq_then ?_
              refine cq_cond_f rfl ?_
              refine cq_skip ?_
              refine sq_then ?_
              refine cq_region ?_
              apply sq_g; exact g_move (s := .av (.val (.int _ _))) rfl; exact rfl
              apply sq_g; exact g_arith rfl rfl rfl (by omega); exact rfl
              apply sq_g; exact g_assign (s := .av (.val (.int _ _))) rfl; exact rfl
              refine sq_nil ?_
              rotate_left
              refine dq_off nofun rfl rfl rfl rfl ?_
              refine dq_off nofun rfl rfl rfl rfl ?_
              refine dq_off nofun rfl rfl rfl rfl ?_
              refine dq_off nofun rfl rfl rfl rfl ?_
              apply dq_g; exact g_pick (s := .av (.val (.bool _))) rfl rfl; exact rfl
              apply dq_g; exact g_move (s := .av (.val (.bool _))) rfl; exact rfl
              refine dq_off nofun rfl rfl rfl rfl ?_
              refine dq_off nofun rfl rfl rfl rfl ?_
              refine dq_off nofun rfl rfl rfl rfl ?_
              refine dq_off nofun rfl rfl rfl rfl ?_
              apply dq_g; exact g_pick (s := .av (.val (.bool _))) rfl rfl; exact rfl
              refine dq_nil tm (by kernel_rfl) ?_
              refine sq_then ?_
              refine cq_cond_f rfl ?_
              refine cq_skip ?_
              refine sq_then ?_
              refine cq_region ?_
              apply sq_g; exact g_move (s := .av (.val (.int _ _))) rfl; exact rfl
              apply sq_g; exact g_arith rfl rfl rfl (by omega); exact rfl
              apply sq_g; exact g_assign (s := .av (.val (.int _ _))) rfl; exact rfl
              refine sq_nil ?_
              rotate_left
            · have hf : fitN HH PP lo up a b = true := by assumption
              have hh : hasZ h a = false := by simpa using hb
              refine cq_cond rfl (fun hb => ?_) (fun hb => ?_)
              · have hp : hasZ p b = false := by simpa using hb
                have hy := any_yes (p := fun i => (List.range PP.length).any (fun k => uncov HH PP lo up h p i k)) hal (any_yes (p := fun k => uncov HH PP lo up h p a k) hbl (by unfold uncov; rw [hf, hh, hp]; rfl))
                rw [if_pos hy] at e0
                refine cq_seq ?_
                refine cq_region ?_
                apply sq_g; exact g_assign (s := .av (.val (.int _ _))) rfl; exact rfl
                refine sq_nil ?_
                refine sq_then ?_
                refine cq_ret ?_
                refine sq_inBlock_ret ?_
                refine sq_then_ret ?_
                refine sq_then_ret ?_
                refine sq_inBlock_ret ?_
                refine sq_inBlock_ret ?_
                refine sq_then_ret ?_
                refine sq_then_ret ?_
                refine sq_inBlock_ret ?_
                refine sq_then_ret ?_
                exact sq_res1 rfl (.tmp rfl) (by rw [e0])
              · have hp : hasZ p b = true := by simpa using hb
                refine cq_skip ?_
                refine sq_then ?_
                refine cq_region ?_
                apply sq_g; exact g_move (s := .av (.val (.int _ _))) rfl; exact rfl
                apply sq_g; exact g_arith rfl rfl rfl (by omega); exact rfl
                apply sq_g; exact g_assign (s := .av (.val (.int _ _))) rfl; exact rfl
                refine sq_nil ?_
                exact sq_round (b + 1) ⟨by omega, lt_step hall2 (by unfold uncov; rw [hp]; simp)⟩ (by omega) (ent ⟨.refl _, .refl _, .refl _, .refl _, .refl _, .refl _, .int (by omega), trivial⟩ trivial)
            · have hh : hasZ h a = true := by simpa using hb
              exact sq_round (b + 1) ⟨by omega, lt_step hall2 (by unfold uncov; rw [hh]; simp)⟩ (by omega) (ent ⟨.refl _, .refl _, .refl _, .refl _, .refl _, .refl _, .int (by omega), trivial⟩ trivial)
            · exact sq_round (b + 1) ⟨by omega, lt_step hall2 (by unfold uncov; rw [hb]; simp)⟩ (by omega) (ent ⟨.refl _, .refl _, .refl _, .refl _, .refl _, .refl _, .int (by omega), trivial⟩ trivial)
          · have hbl : b = PP.length := by omega
            subst hbl
            have hno := any_no hall2
            refine cq_exit ?_
            refine sq_then ?_
            refine cq_region ?_
            apply sq_g; exact g_move (s := .av (.val (.int _ _))) rfl; exact rfl
            apply sq_g; exact g_arith rfl rfl rfl (by omega); exact rfl
            apply sq_g; exact g_assign (s := .av (.val (.int _ _))) rfl; exact rfl
            refine sq_nil ?_
            exact sq_round (a + 1) ⟨by omega, lt_step hall hno⟩ (by omega) (ent ⟨.refl _, .refl _, .refl _, .refl _, .refl _, .int (by omega), trivial⟩ trivial)
        · have hal : a = HH.length := by omega
          subst hal
          have hno := any_no hall
          rw [if_neg (by rw [hno]; simp)] at e0
          refine cq_exit ?_
          refine sq_then ?_
          refine cq_seq ?_
          refine cq_region ?_
          apply sq_g; exact g_assign (s := .av (.val (.int _ _))) rfl; exact rfl
          refine sq_nil ?_
          refine sq_then ?_
          refine cq_ret ?_
          exact sq_res1 rfl (.tmp rfl) (by rw [e0])

theorem tq22_1 (a : Int) (w : World) : (Instr.buildSlice 22 1 #[(0, .int .i64 a)]).run Try.prog w = .ok (.slice (some ⟨w.heap.size, 0, none⟩) 1 1) (w.alloc (.cells #[.int .i64 a] 3)) := by kernel_rfl
theorem zf1a_row (a : Int) : ∀ i, i < 1 → ∀ j, j < 1 → ∃ u, [Value.int .i64 a][i * 1 + j]? = some u ∧ zf [a] i j = .val u := by
  intro i hi j hj
  obtain rfl : i = 0 := by omega
  obtain rfl : j = 0 := by omega
  exact ⟨_, rfl, rfl⟩
def okFit (h p lo hi : Int) : Bool := decide (errC [h] [p] lo hi = 0) && fitB lo hi h p
theorem one_bi {h p lo hi : Int} (he : errC [h] [p] lo hi = 0) : Bi h ∧ Bi p := by
  obtain ⟨rH, rP⟩ := errC_ok he
  exact ⟨rH.bi 0, rP.bi 0⟩
theorem sfits_c (h p lo hi : Int) : CtrA Try.prog 23 [vi h, vi p, lim lo hi] (tupOf [vb (okFit h p lo hi), vi (errC [h] [p] lo hi)]) := by
  refine ctrA _ Try.func23 rfl rfl Try.ntmps23 rfl fun w Z => ?_
  have hchk := check_c [h] [p] lo hi
  simp only [initT, List.map_cons, List.map_nil, Nat.zero_add, Nat.reduceAdd]
  refine cq_seq ?_
  refine cq_region ?_
  apply sq_g; exact g_box_agg rfl; exact rfl
  apply sq_g; exact g_assign (s := .av (.val (.bool _))) rfl; exact rfl
  apply sq_g; exact g_assign (s := .av (.val (.int _ _))) rfl; exact rfl
  refine sq_nil ?_
  refine sq_then ?_
  refine cq_seq ?_
  refine cq_seq ?_
  refine cq_region ?_
  apply sq_g; exact g_move (s := .av (.val (.int _ _))) rfl; exact rfl
  apply sq_g; exact  g_bslice (is := [0]) (xs := [_]) (vs := [_]) (us := [_]) (tq22_1 _) rfl rfl rfl (zf1a_row _); exact rfl
  apply sq_g; exact g_move (s := .av (.val (.int _ _))) rfl; exact rfl
  apply sq_g; exact  g_bslice (is := [0]) (xs := [_]) (vs := [_]) (us := [_]) (tq22_1 _) rfl rfl rfl (zf1a_row _); exact rfl
  apply sq_g; exact g_load_agg (us := [.int _ _, .int _ _]) rfl rfl rfl rfl; exact rfl
  apply sq_g; exact g_call (hchk) rfl; exact rfl
  apply sq_g; exact g_assign (s := .av (.val (.int _ _))) rfl; exact rfl
  refine sq_nil ?_
  refine sq_then ?_
  refine cq_seq ?_
  refine cq_region ?_
  apply sq_g; exact g_move (s := .av (.val (.int _ _))) rfl; exact rfl
  apply sq_g; exact g_cmp rfl rfl rfl; exact rfl
  refine sq_nil ?_
  refine sq_then ?_
  (refine cq_cond rfl (fun hb => ?_) (fun hb => ?_) <;> (try simp only [decide_eq_true_eq, decide_eq_false_iff_not, beq_iff_eq, beq_eq_false_iff_ne, bne_iff_ne, bne_eq_false_iff_eq, ne_eq, Bool.not_eq_true', Bool.not_eq_false', Bool.and_eq_true, Bool.or_eq_true, Bool.and_eq_false_iff, Bool.or_eq_false_iff] at hb) <;> (try (exfalso; omega)))
  · have e1 : okFit h p lo hi = false := by unfold okFit; rw [decide_eq_false hb]; rfl
    rw [e1]
    refine cq_seq ?_
    refine cq_region ?_
    apply sq_g; exact g_move (s := .av (.val (.int _ _))) rfl; exact rfl
    apply sq_g; exact g_assign (s := .av (.val (.bool _))) rfl; exact rfl
    apply sq_g; exact g_assign (s := .av (.val (.int _ _))) rfl; exact rfl
    refine sq_nil ?_
    refine sq_then ?_
    refine cq_ret ?_
    refine sq_then_ret ?_
    exact sq_resN (rvs := [_, _]) (τs := [_, _]) rfl rfl ⟨.tmp rfl, .tmp rfl, trivial⟩ rfl
  · have he : errC [h] [p] lo hi = 0 := by omega
    have e1 : okFit h p lo hi = fitB lo hi h p := by unfold okFit; rw [decide_eq_true he]; rfl
    obtain ⟨b1, b2⟩ := one_bi he
    rw [e1, he]
    refine cq_skip ?_
    refine sq_then ?_
    refine cq_seq ?_
    refine cq_region ?_
    apply sq_g; exact g_move (s := .av (.val (.int _ _))) rfl; exact rfl
    apply sq_g; exact g_move (s := .av (.val (.int _ _))) rfl; exact rfl
    apply sq_g; exact g_load_agg (us := [.int _ _, .int _ _]) rfl rfl rfl rfl; exact rfl
    apply sq_g; exact g_call (fits_c h p lo hi b1 b2) rfl; exact rfl
    apply sq_g; exact g_assign (s := .av (.val (.bool _))) rfl; exact rfl
    apply sq_g; exact g_assign (s := .av (.val (.int _ _))) rfl; exact rfl
    refine sq_nil ?_
    refine sq_then ?_
    refine cq_ret ?_
    exact sq_resN (rvs := [_, _]) (τs := [_, _]) rfl rfl ⟨.tmp rfl, .tmp rfl, trivial⟩ rfl
theorem rfits_c (h p lo hi : Int) : CtrA Try.prog 24 [vi h, vi p, lim lo hi] (tupOf [vb (okFit h p lo hi), vi (errC [h] [p] lo hi)]) := by
  refine ctrA _ Try.func24 rfl rfl Try.ntmps24 rfl fun w Z => ?_
  have hchk := rcheck_c [h] [p] lo hi (by simp) (by simp)
  simp only [initT, List.map_cons, List.map_nil, Nat.zero_add, Nat.reduceAdd]
  refine cq_seq ?_
  refine cq_region ?_
  apply sq_g; exact g_box_agg rfl; exact rfl
  apply sq_g; exact g_assign (s := .av (.val (.bool _))) rfl; exact rfl
  apply sq_g; exact g_assign (s := .av (.val (.int _ _))) rfl; exact rfl
  refine sq_nil ?_
  refine sq_then ?_
  refine cq_seq ?_
  refine cq_seq ?_
  refine cq_region ?_
  apply sq_g; exact g_move (s := .av (.val (.int _ _))) rfl; exact rfl
  apply sq_g; exact  g_bslice (is := [0]) (xs := [_]) (vs := [_]) (us := [_]) (tq22_1 _) rfl rfl rfl (zf1a_row _); exact rfl
  apply sq_g; exact g_move (s := .av (.val (.int _ _))) rfl; exact rfl
  apply sq_g; exact  g_bslice (is := [0]) (xs := [_]) (vs := [_]) (us := [_]) (tq22_1 _) rfl rfl rfl (zf1a_row _); exact rfl
  apply sq_g; exact g_load_agg (us := [.int _ _, .int _ _]) rfl rfl rfl rfl; exact rfl
  apply sq_g; exact g_call (hchk) rfl; exact rfl
  apply sq_g; exact g_assign (s := .av (.val (.int _ _))) rfl; exact rfl
  refine sq_nil ?_
  refine sq_then ?_
  refine cq_seq ?_
  refine cq_region ?_
  apply sq_g; exact g_move (s := .av (.val (.int _ _))) rfl; exact rfl
  apply sq_g; exact g_cmp rfl rfl rfl; exact rfl
  refine sq_nil ?_
  refine sq_then ?_
  (refine cq_cond rfl (fun hb => ?_) (fun hb => ?_) <;> (try simp only [decide_eq_true_eq, decide_eq_false_iff_not, beq_iff_eq, beq_eq_false_iff_ne, bne_iff_ne, bne_eq_false_iff_eq, ne_eq, Bool.not_eq_true', Bool.not_eq_false', Bool.and_eq_true, Bool.or_eq_true, Bool.and_eq_false_iff, Bool.or_eq_false_iff] at hb) <;> (try (exfalso; omega)))
  · have e1 : okFit h p lo hi = false := by unfold okFit; rw [decide_eq_false hb]; rfl
    rw [e1]
    refine cq_seq ?_
    refine cq_region ?_
    apply sq_g; exact g_move (s := .av (.val (.int _ _))) rfl; exact rfl
    apply sq_g; exact g_assign (s := .av (.val (.bool _))) rfl; exact rfl
    apply sq_g; exact g_assign (s := .av (.val (.int _ _))) rfl; exact rfl
    refine sq_nil ?_
    refine sq_then ?_
    refine cq_ret ?_
    refine sq_then_ret ?_
    exact sq_resN (rvs := [_, _]) (τs := [_, _]) rfl rfl ⟨.tmp rfl, .tmp rfl, trivial⟩ rfl
  · have he : errC [h] [p] lo hi = 0 := by omega
    have e1 : okFit h p lo hi = fitB lo hi h p := by unfold okFit; rw [decide_eq_true he]; rfl
    obtain ⟨b1, b2⟩ := one_bi he
    rw [e1, he]
    refine cq_skip ?_
    refine sq_then ?_
    refine cq_seq ?_
    refine cq_region ?_
    apply sq_g; exact g_move (s := .av (.val (.int _ _))) rfl; exact rfl
    apply sq_g; exact g_move (s := .av (.val (.int _ _))) rfl; exact rfl
    apply sq_g; exact g_load_agg (us := [.int _ _, .int _ _]) rfl rfl rfl rfl; exact rfl
    apply sq_g; exact g_call (clear_c h p lo hi b1 b2) rfl; exact rfl
    apply sq_g; exact g_assign (s := .av (.val (.bool _))) rfl; exact rfl
    apply sq_g; exact g_assign (s := .av (.val (.int _ _))) rfl; exact rfl
    refine sq_nil ?_
    refine sq_then ?_
    refine cq_ret ?_
    exact sq_resN (rvs := [_, _]) (τs := [_, _]) rfl rfl ⟨.tmp rfl, .tmp rfl, trivial⟩ rfl
end Go.Proofs.Ytogilkilkmoedaa
namespace Go.Proofs.Ytogilkilkmoedaa
open Go Go.Vc Go.RowKit
set_option maxHeartbeats 8000000
/-! KDQ -/
theorem proves_c (HH PP : List Int) (lo up : Int) (h p : List Int) : CtrA Try.prog 3 [zs HH, zs PP, .agg 4 (blkF lo up h p)] (vb true) := by
  refine ctrA _ Try.func3 rfl rfl Try.ntmps3 rfl fun w Z => ?_
  have aw := awake_c
  simp only [initT, List.map_cons, List.map_nil, Nat.zero_add, Nat.reduceAdd]
  focus
    refine cq_seq ?_
    refine cq_region ?_
    apply sq_g; exact  g_box_aggv rfl; exact rfl
    apply sq_g; exact g_assign (s := .av (.val (.bool _))) rfl; exact rfl
    refine sq_nil ?_
    refine sq_then ?_
    refine cq_seq ?_
    refine cq_seq ?_
    refine cq_region ?_
    apply sq_g; exact g_move (s := .av _) rfl; exact rfl
    apply sq_g; exact g_len rfl; exact rfl
    apply sq_g; exact g_cmp rfl rfl rfl; exact rfl
    apply sq_g; exact g_move (s := .av (.val (.bool _))) rfl; exact rfl
    refine sq_split rfl rfl (fun hb => ?_) (fun hb => ?_) <;> (try simp only [decide_eq_true_eq, decide_eq_false_iff_not, beq_iff_eq, beq_eq_false_iff_ne, bne_iff_ne, bne_eq_false_iff_eq, ne_eq, Bool.not_eq_true', Bool.not_eq_false', Bool.and_eq_true, Bool.or_eq_true, Bool.and_eq_false_iff, Bool.or_eq_false_iff] at hb) <;> (try (exfalso; omega))
    refine sq_off rfl rfl rfl rfl ?_
    refine sq_off rfl rfl rfl rfl ?_
    refine sq_off rfl rfl rfl rfl ?_
    apply sq_g; exact g_pick (s := .av (.val (.bool _))) rfl rfl; exact rfl
    apply sq_g; exact g_move (s := .av (.val (.bool _))) rfl; exact rfl
    refine sq_off rfl rfl rfl rfl ?_
    refine sq_off rfl rfl rfl rfl ?_
    refine sq_off rfl rfl rfl rfl ?_
    refine sq_off rfl rfl rfl rfl ?_
    apply sq_g; exact g_pick (s := .av (.val (.bool _))) rfl rfl; exact rfl
    apply sq_g; exact g_move (s := .av (.val (.bool _))) rfl; exact rfl
    refine sq_off rfl rfl rfl rfl ?_
    refine sq_off rfl rfl rfl rfl ?_
    refine sq_off rfl rfl rfl rfl ?_
    refine sq_off rfl rfl rfl rfl ?_
    apply sq_g; exact g_pick (s := .av (.val (.bool _))) rfl rfl; exact rfl
    refine sq_nil ?_
    refine sq_then ?_
    refine cq_cond_t rfl ?_
    refine cq_seq ?_
    refine cq_region ?_
    rotate_left
    apply sq_on; exact g_move (s := .av _) rfl; exact rfl; exact rfl; exact rfl
    apply sq_on; exact g_len rfl; exact rfl; exact rfl; exact rfl
    apply sq_on; exact g_cmp rfl rfl rfl; exact rfl; exact rfl; exact rfl
    apply sq_g; exact g_pick (s := .av (.val (.bool _))) rfl rfl; exact rfl
    apply sq_g; exact g_move (s := .av (.val (.bool _))) rfl; exact rfl
    refine sq_split rfl rfl (fun hb => ?_) (fun hb => ?_) <;> (try simp only [decide_eq_true_eq, decide_eq_false_iff_not, beq_iff_eq, beq_eq_false_iff_ne, bne_iff_ne, bne_eq_false_iff_eq, ne_eq, Bool.not_eq_true', Bool.not_eq_false', Bool.and_eq_true, Bool.or_eq_true, Bool.and_eq_false_iff, Bool.or_eq_false_iff] at hb) <;> (try (exfalso; omega))
    refine sq_off rfl rfl rfl rfl ?_
    refine sq_off rfl rfl rfl rfl ?_
    refine sq_off rfl rfl rfl rfl ?_
    refine sq_off rfl rfl rfl rfl ?_
    apply sq_g; exact g_pick (s := .av (.val (.bool _))) rfl rfl; exact rfl
    apply sq_g; exact g_move (s := .av (.val (.bool _))) rfl; exact rfl
    refine sq_off rfl rfl rfl rfl ?_
    refine sq_off rfl rfl rfl rfl ?_
    refine sq_off rfl rfl rfl rfl ?_
    refine sq_off rfl rfl rfl rfl ?_
    apply sq_g; exact g_pick (s := .av (.val (.bool _))) rfl rfl; exact rfl
    refine sq_nil ?_
    refine sq_then ?_
    refine cq_cond_t rfl ?_
    refine cq_seq ?_
    refine cq_region ?_
    rotate_left
    apply sq_on; exact g_field rfl; exact rfl; exact rfl; exact rfl
    apply sq_on; exact g_load rfl rfl rfl; exact rfl; exact rfl; exact rfl
    apply sq_on; exact g_len rfl; exact rfl; exact rfl; exact rfl
    apply sq_on; exact g_cmp rfl rfl rfl; exact rfl; exact rfl; exact rfl
    apply sq_g; exact g_pick (s := .av (.val (.bool _))) rfl rfl; exact rfl
    apply sq_g; exact g_move (s := .av (.val (.bool _))) rfl; exact rfl
    refine sq_split rfl rfl (fun hb => ?_) (fun hb => ?_) <;> (try simp only [decide_eq_true_eq, decide_eq_false_iff_not, beq_iff_eq, beq_eq_false_iff_ne, bne_iff_ne, bne_eq_false_iff_eq, ne_eq, Bool.not_eq_true', Bool.not_eq_false', Bool.and_eq_true, Bool.or_eq_true, Bool.and_eq_false_iff, Bool.or_eq_false_iff] at hb) <;> (try (exfalso; omega))
    refine sq_off rfl rfl rfl rfl ?_
    refine sq_off rfl rfl rfl rfl ?_
    refine sq_off rfl rfl rfl rfl ?_
    refine sq_off rfl rfl rfl rfl ?_
    apply sq_g; exact g_pick (s := .av (.val (.bool _))) rfl rfl; exact rfl
    refine sq_nil ?_
    refine sq_then ?_
    refine cq_cond_t rfl ?_
    refine cq_seq ?_
    refine cq_region ?_
    rotate_left
    apply sq_on; exact g_field rfl; exact rfl; exact rfl; exact rfl
    apply sq_on; exact g_load rfl rfl rfl; exact rfl; exact rfl; exact rfl
    apply sq_on; exact g_len rfl; exact rfl; exact rfl; exact rfl
    apply sq_on; exact g_cmp rfl rfl rfl; exact rfl; exact rfl; exact rfl
    apply sq_g; exact g_pick (s := .av (.val (.bool _))) rfl rfl; exact rfl
    refine sq_nil ?_
    refine sq_then ?_
    rotate_left
  · apply sq_g; exact g_call (aw) rfl; exact rfl
    apply sq_g; exact g_assign (s := .av (.val (.bool _))) rfl; exact rfl
    refine sq_nil ?_
    refine sq_then ?_
    refine cq_ret ?_
    refine sq_then_ret ?_
    exact sq_res1 rfl (.tmp rfl) rfl
  · apply sq_g; exact g_call (aw) rfl; exact rfl
    apply sq_g; exact g_assign (s := .av (.val (.bool _))) rfl; exact rfl
    refine sq_nil ?_
    refine sq_then ?_
    refine cq_ret ?_
    refine sq_then_ret ?_
    exact sq_res1 rfl (.tmp rfl) rfl
  · apply sq_g; exact g_call (aw) rfl; exact rfl
    apply sq_g; exact g_assign (s := .av (.val (.bool _))) rfl; exact rfl
    refine sq_nil ?_
    refine sq_then ?_
    refine cq_ret ?_
    refine sq_then_ret ?_
    exact sq_res1 rfl (.tmp rfl) rfl
  · rename_i h1 h2
    have h3 := hb
    (refine cq_cond rfl (fun hb => ?_) (fun hb => ?_) <;> (try simp only [decide_eq_true_eq, decide_eq_false_iff_not, beq_iff_eq, beq_eq_false_iff_ne, bne_iff_ne, bne_eq_false_iff_eq, ne_eq, Bool.not_eq_true', Bool.not_eq_false', Bool.and_eq_true, Bool.or_eq_true, Bool.and_eq_false_iff, Bool.or_eq_false_iff] at hb) <;> (try (exfalso; omega)))
    · refine cq_seq ?_
      refine cq_region ?_
      apply sq_g; exact g_call (aw) rfl; exact rfl
      apply sq_g; exact g_assign (s := .av (.val (.bool _))) rfl; exact rfl
      refine sq_nil ?_
      refine sq_then ?_
      refine cq_ret ?_
      refine sq_then_ret ?_
      exact sq_res1 rfl (.tmp rfl) rfl
    · have sh : h.length ≤ 1000000 := by omega
      have sp : p.length ≤ 1000000 := by omega
      have c1 := prove_c HH PP lo up h p sh sp
      have c2 := rprove_c HH PP lo up h p (by omega) (by omega) sh sp
      focus
        refine cq_skip ?_
        refine sq_then ?_
        refine cq_seq ?_
        refine cq_drawn ?_
        apply dq_g; exact g_move (s := .av _) rfl; exact rfl
        apply dq_g; exact g_move (s := .av _) rfl; exact rfl
        apply dq_g; exact  g_load_aggv (k := 4) rfl rfl; exact rfl
        apply dq_g; exact g_call (c1) rfl; exact rfl
        apply dq_g; exact g_move (s := .av _) rfl; exact rfl
        apply dq_g; exact g_move (s := .av _) rfl; exact rfl
        apply dq_g; exact g_field rfl; exact rfl
        apply dq_g; exact g_load_agg (us := [.int _ _, .int _ _]) rfl rfl rfl rfl; exact rfl
        apply dq_g; exact g_field rfl; exact rfl
        apply dq_g; exact g_load rfl rfl rfl; exact rfl
        apply dq_g; exact g_field rfl; exact rfl
        apply dq_g; exact g_load rfl rfl rfl; exact rfl
        apply dq_g; exact g_call (c2) rfl; exact rfl
        apply dq_g; exact g_cmp rfl rfl rfl; exact rfl
        apply dq_g; exact g_move (s := .av (.val (.bool _))) rfl; exact rfl
        refine dq_split rfl rfl (fun hb => ?_) (fun hb => ?_) <;> (try simp only [decide_eq_true_eq, decide_eq_false_iff_not, beq_iff_eq, beq_eq_false_iff_ne, bne_iff_ne, bne_eq_false_iff_eq, ne_eq, Bool.not_eq_true', Bool.not_eq_false', Bool.and_eq_true, Bool.or_eq_true, Bool.and_eq_false_iff, Bool.or_eq_false_iff] at hb) <;> (try (exfalso; omega))
        apply dq_on; exact g_call (aw) rfl; exact rfl; exact rfl; exact rfl
        apply dq_g; exact g_pick (s := .av (.val (.bool _))) rfl rfl; exact rfl
        apply dq_g; exact g_assign (s := .av (.val (.bool _))) rfl; exact rfl
        refine dq_nil tm (by kernel_rfl) ?_
        refine sq_then ?_
        refine cq_ret ?_
        rotate_left
        refine dq_off nofun rfl rfl rfl rfl ?_
        apply dq_g; exact g_pick (s := .av (.val (.bool _))) rfl rfl; exact rfl
        apply dq_g; exact g_assign (s := .av (.val (.bool _))) rfl; exact rfl
        refine dq_nil tm (by kernel_rfl) ?_
        refine sq_then ?_
        refine cq_ret ?_
        rotate_left
      · exact sq_res1 rfl (.tmp rfl) rfl
      · exact absurd trivial hb
theorem checks_c (HH PP : List Int) (lo up : Int) : CtrA Try.prog 7 [zs HH, zs PP, lim lo up] (vb true) := by
  refine ctrA _ Try.func7 rfl rfl Try.ntmps7 rfl fun w Z => ?_
  have aw := awake_c
  simp only [initT, List.map_cons, List.map_nil, Nat.zero_add, Nat.reduceAdd]
  focus
    refine cq_seq ?_
    refine cq_region ?_
    apply sq_g; exact g_box_agg rfl; exact rfl
    apply sq_g; exact g_assign (s := .av (.val (.bool _))) rfl; exact rfl
    refine sq_nil ?_
    refine sq_then ?_
    refine cq_seq ?_
    refine cq_seq ?_
    refine cq_region ?_
    apply sq_g; exact g_move (s := .av _) rfl; exact rfl
    apply sq_g; exact g_len rfl; exact rfl
    apply sq_g; exact g_cmp rfl rfl rfl; exact rfl
    apply sq_g; exact g_move (s := .av (.val (.bool _))) rfl; exact rfl
    refine sq_split rfl rfl (fun hb => ?_) (fun hb => ?_) <;> (try simp only [decide_eq_true_eq, decide_eq_false_iff_not, beq_iff_eq, beq_eq_false_iff_ne, bne_iff_ne, bne_eq_false_iff_eq, ne_eq, Bool.not_eq_true', Bool.not_eq_false', Bool.and_eq_true, Bool.or_eq_true, Bool.and_eq_false_iff, Bool.or_eq_false_iff] at hb) <;> (try (exfalso; omega))
    refine sq_off rfl rfl rfl rfl ?_
    refine sq_off rfl rfl rfl rfl ?_
    refine sq_off rfl rfl rfl rfl ?_
    apply sq_g; exact g_pick (s := .av (.val (.bool _))) rfl rfl; exact rfl
    refine sq_nil ?_
    refine sq_then ?_
    refine cq_cond_t rfl ?_
    refine cq_seq ?_
    refine cq_region ?_
    rotate_left
    apply sq_on; exact g_move (s := .av _) rfl; exact rfl; exact rfl; exact rfl
    apply sq_on; exact g_len rfl; exact rfl; exact rfl; exact rfl
    apply sq_on; exact g_cmp rfl rfl rfl; exact rfl; exact rfl; exact rfl
    apply sq_g; exact g_pick (s := .av (.val (.bool _))) rfl rfl; exact rfl
    refine sq_nil ?_
    refine sq_then ?_
    rotate_left
  · apply sq_g; exact g_call (aw) rfl; exact rfl
    apply sq_g; exact g_assign (s := .av (.val (.bool _))) rfl; exact rfl
    refine sq_nil ?_
    refine sq_then ?_
    refine cq_ret ?_
    refine sq_then_ret ?_
    exact sq_res1 rfl (.tmp rfl) rfl
  · have h1 := hb
    (refine cq_cond rfl (fun hb => ?_) (fun hb => ?_) <;> (try simp only [decide_eq_true_eq, decide_eq_false_iff_not, beq_iff_eq, beq_eq_false_iff_ne, bne_iff_ne, bne_eq_false_iff_eq, ne_eq, Bool.not_eq_true', Bool.not_eq_false', Bool.and_eq_true, Bool.or_eq_true, Bool.and_eq_false_iff, Bool.or_eq_false_iff] at hb) <;> (try (exfalso; omega)))
    · refine cq_seq ?_
      refine cq_region ?_
      apply sq_g; exact g_call (aw) rfl; exact rfl
      apply sq_g; exact g_assign (s := .av (.val (.bool _))) rfl; exact rfl
      refine sq_nil ?_
      refine sq_then ?_
      refine cq_ret ?_
      refine sq_then_ret ?_
      exact sq_res1 rfl (.tmp rfl) rfl
    · have sH : HH.length ≤ 1000000 := by omega
      have sP : PP.length ≤ 1000000 := by omega
      have c1 := check_c HH PP lo up
      have c2 := rcheck_c HH PP lo up sH sP
      refine cq_skip ?_
      refine sq_then ?_
      refine cq_seq ?_
      refine cq_seq ?_
      refine cq_drawn ?_
      apply dq_g; exact g_move (s := .av _) rfl; exact rfl
      apply dq_g; exact g_move (s := .av _) rfl; exact rfl
      apply dq_g; exact g_load_agg (us := [.int _ _, .int _ _]) rfl rfl rfl rfl; exact rfl
      apply dq_g; exact g_call (c1) rfl; exact rfl
      apply dq_g; exact g_move (s := .av _) rfl; exact rfl
      apply dq_g; exact g_move (s := .av _) rfl; exact rfl
      apply dq_g; exact g_load_agg (us := [.int _ _, .int _ _]) rfl rfl rfl rfl; exact rfl
      apply dq_g; exact g_call (c2) rfl; exact rfl
      apply dq_g; exact g_cmp rfl rfl rfl; exact rfl
      refine dq_nil tm (by kernel_rfl) ?_
      refine sq_then ?_
      (refine cq_cond rfl (fun hb => ?_) (fun hb => ?_) <;> (try simp only [decide_eq_true_eq, decide_eq_false_iff_not, beq_iff_eq, beq_eq_false_iff_ne, bne_iff_ne, bne_eq_false_iff_eq, ne_eq, Bool.not_eq_true', Bool.not_eq_false', Bool.and_eq_true, Bool.or_eq_true, Bool.and_eq_false_iff, Bool.or_eq_false_iff] at hb) <;> (try (exfalso; omega)))
      · exact absurd hb (by simp)
      · have hm : (if (9 : Int) < (if (PP.length : Int) < HH.length then (PP.length : Int) else HH.length) then 9 else (if (PP.length : Int) < HH.length then (PP.length : Int) else HH.length)) = ((min (min HH.length PP.length) 9 : Nat) : Int) := by omega
        have hm1 : min (min HH.length PP.length) 9 ≤ HH.length := by omega
        have hm2 : min (min HH.length PP.length) 9 ≤ PP.length := by omega
        have hm3 : min (min HH.length PP.length) 9 ≤ 9 := by omega
        generalize min (min HH.length PP.length) 9 = m at hm hm1 hm2 hm3
        refine cq_skip ?_
        refine sq_then ?_
        refine cq_seq ?_
        refine cq_seq ?_
        refine cq_region ?_
        apply sq_g; exact g_move (s := .av _) rfl; exact rfl
        apply sq_g; exact g_len rfl; exact rfl
        apply sq_g; exact g_move (s := .av _) rfl; exact rfl
        apply sq_g; exact g_len rfl; exact rfl
        apply sq_g; exact  g_min3 rfl rfl rfl hm; exact rfl
        apply sq_g; exact g_move (s := .av (.val (.int _ _))) rfl; exact rfl
        refine sq_nil ?_
        refine sq_then ?_
        refine cq_block ?_
        refine cq_loop (γ := Nat) (fun k => [(0, .av (zs HH)), (1, .av (zs PP)), (5, .av (blim lo up)), (34, .av (vi m)), (35, .av (vi k))]) (fun _ => []) (fun k => k ≤ m) (fun k => m - k) 0 (Nat.zero_le _) (ent ⟨.refl _, .refl _, .refl _, .refl _, .refl _, trivial⟩ trivial) ?_
        intro k hk
        refine cq_seq ?_
        refine cq_region ?_
        apply sq_g; exact g_cmp rfl rfl rfl; exact rfl
        refine sq_nil ?_
        refine sq_then ?_
        refine cq_seq ?_
        (refine cq_cond rfl (fun hb => ?_) (fun hb => ?_) <;> (try simp only [decide_eq_true_eq, decide_eq_false_iff_not, beq_iff_eq, beq_eq_false_iff_ne, bne_iff_ne, bne_eq_false_iff_eq, ne_eq, Bool.not_eq_true', Bool.not_eq_false', Bool.and_eq_true, Bool.or_eq_true, Bool.and_eq_false_iff, Bool.or_eq_false_iff] at hb) <;> (try (exfalso; omega)))
        · have hkl : k < m := by omega
          have c1 := sfits_c (gz HH k) (gz PP k) lo up
          have c2 := rfits_c (gz HH k) (gz PP k) lo up
          have q1 : (!((okFit (gz HH k) (gz PP k) lo up) == (okFit (gz HH k) (gz PP k) lo up))) = false := by simp
          refine cq_skip ?_
          refine sq_then ?_
          refine cq_seq ?_
          refine cq_block ?_
          refine cq_seq ?_
          refine cq_region ?_
          apply sq_g; exact g_move (s := .av (.val (.int _ _))) rfl; exact rfl
          apply sq_g; exact g_assign (s := .av (.val (.int _ _))) rfl; exact rfl
          refine sq_nil ?_
          refine sq_then ?_
          refine cq_seq ?_
          refine cq_drawn ?_
          apply dq_g; exact g_move (s := .av _) rfl; exact rfl
          apply dq_g; exact g_move (s := .av (.val (.int _ _))) rfl; exact rfl
          apply dq_g; exact g_index rfl rfl rfl (by omega); exact rfl
          apply dq_g; exact g_load (τ := .val (.int _ _)) rfl rfl rfl; exact rfl
          apply dq_g; exact g_move (s := .av _) rfl; exact rfl
          apply dq_g; exact g_move (s := .av (.val (.int _ _))) rfl; exact rfl
          apply dq_g; exact g_index rfl rfl rfl (by omega); exact rfl
          apply dq_g; exact g_load (τ := .val (.int _ _)) rfl rfl rfl; exact rfl
          apply dq_g; exact g_load_agg (us := [.int _ _, .int _ _]) rfl rfl rfl rfl; exact rfl
          apply dq_g; exact g_call (c1) rfl; exact rfl
          apply dq_g; exact g_move (s := .av _) rfl; exact rfl
          apply dq_g; exact g_extractT rfl rfl; exact rfl
          apply dq_g; exact g_extractT rfl rfl; exact rfl
          apply dq_g; exact g_assign (s := .av (.val (.bool _))) rfl; exact rfl
          apply dq_g; exact g_assign (s := .av (.val (.int _ _))) rfl; exact rfl
          refine dq_nil tm (by kernel_rfl) ?_
          refine sq_then ?_
          refine cq_seq ?_
          refine cq_drawn ?_
          apply dq_g; exact g_move (s := .av _) rfl; exact rfl
          apply dq_g; exact g_move (s := .av (.val (.int _ _))) rfl; exact rfl
          apply dq_g; exact g_index rfl rfl rfl (by omega); exact rfl
          apply dq_g; exact g_load (τ := .val (.int _ _)) rfl rfl rfl; exact rfl
          apply dq_g; exact g_move (s := .av _) rfl; exact rfl
          apply dq_g; exact g_move (s := .av (.val (.int _ _))) rfl; exact rfl
          apply dq_g; exact g_index rfl rfl rfl (by omega); exact rfl
          apply dq_g; exact g_load (τ := .val (.int _ _)) rfl rfl rfl; exact rfl
          apply dq_g; exact g_load_agg (us := [.int _ _, .int _ _]) rfl rfl rfl rfl; exact rfl
          apply dq_g; exact g_call (c2) rfl; exact rfl
          apply dq_g; exact g_move (s := .av _) rfl; exact rfl
          apply dq_g; exact g_extractT rfl rfl; exact rfl
          apply dq_g; exact g_extractT rfl rfl; exact rfl
          apply dq_g; exact g_assign (s := .av (.val (.bool _))) rfl; exact rfl
          apply dq_g; exact g_assign (s := .av (.val (.int _ _))) rfl; exact rfl
          refine dq_nil tm (by kernel_rfl) ?_
          refine sq_then ?_
          refine cq_seq ?_
          refine cq_region ?_
          apply sq_g; exact g_move (s := .av (.val (.bool _))) rfl; exact rfl
          apply sq_g; exact g_move (s := .av (.val (.bool _))) rfl; exact rfl
          apply sq_g; exact  g_neqb rfl rfl q1; exact rfl
          apply sq_g; exact g_move (s := .av (.val (.bool _))) rfl; exact rfl
          apply sq_on; exact g_move (s := .av (.val (.int _ _))) rfl; exact rfl; exact rfl; exact rfl
          apply sq_on; exact g_move (s := .av (.val (.int _ _))) rfl; exact rfl; exact rfl; exact rfl
          apply sq_on; exact g_cmp rfl rfl rfl; exact rfl; exact rfl; exact rfl
          apply sq_g; exact g_pick (s := .av (.val (.bool _))) rfl rfl; exact rfl
          refine sq_nil ?_
          refine sq_then ?_
          (refine cq_cond rfl (fun hb => ?_) (fun hb => ?_) <;> (try simp only [decide_eq_true_eq, decide_eq_false_iff_not, beq_iff_eq, beq_eq_false_iff_ne, bne_iff_ne, bne_eq_false_iff_eq, ne_eq, Bool.not_eq_true', Bool.not_eq_false', Bool.and_eq_true, Bool.or_eq_true, Bool.and_eq_false_iff, Bool.or_eq_false_iff] at hb) <;> (try (exfalso; omega)))
          · exact absurd trivial hb
          · refine cq_skip ?_
            refine sq_then ?_
            refine cq_region ?_
            apply sq_g; exact g_arith rfl rfl rfl (by omega); exact rfl
            apply sq_g; exact g_move (s := .av (.val (.int _ _))) rfl; exact rfl
            refine sq_nil ?_
            exact sq_round (k + 1) (by omega) (by omega) (ent ⟨.refl _, .refl _, .refl _, .refl _, .int (by omega), trivial⟩ trivial)
        · refine cq_exit ?_
          refine sq_then ?_
          refine cq_seq ?_
          refine cq_region ?_
          apply sq_g; exact g_call (aw) rfl; exact rfl
          apply sq_g; exact g_assign (s := .av (.val (.bool _))) rfl; exact rfl
          refine sq_nil ?_
          refine sq_then ?_
          refine cq_ret ?_
          exact sq_res1 rfl (.tmp rfl) rfl
end Go.Proofs.Ytogilkilkmoedaa
