/- A part of the proof that the law returns true at every input and that the input reads behind the call as it read before; this part states nothing of its own that needs a condition of the input. -/
import Derived.Test.YtdoppiajbpmmkaaGreatY
import Derived.Test.YtdoppiajbpmmkaaGreatP
set_option linter.unusedVariables false
set_option linter.unusedSimpArgs false
set_option linter.unnecessarySimpa false
namespace Go.Proofs.YtdoppiajbpmmkaaGreat
open Go Go.Vc Go.RowKit
set_option maxHeartbeats 1000000
/-! KDQ -/
theorem win_c (n : Int) : CtrA Tryz.prog 100 [vi n] (vb (inB n)) := by
  refine ctrA _ Tryz.func100 rfl rfl Tryz.ntmps100 rfl fun w Z => ?_
  simp only [initT, List.map_cons, List.map_nil, Nat.zero_add, Nat.reduceAdd]
  focus
    refine cq_seq ?_
    refine cq_region ?_
    apply sq_g; exact g_assign (s := .av (.val (.bool _))) rfl; exact rfl
    refine sq_nil ?_
    refine sq_then ?_
    refine cq_seq ?_
    refine cq_region ?_
    apply sq_g; exact g_move (s := .av (.val (.int _ _))) rfl; exact rfl
    apply sq_g; exact g_cmp rfl rfl rfl; exact rfl
    apply sq_g; exact g_move (s := .av (.val (.bool _))) rfl; exact rfl
    refine sq_split rfl rfl (fun hb => ?_) (fun hb => ?_) <;> (try simp only [decide_eq_true_eq, decide_eq_false_iff_not, beq_iff_eq, beq_eq_false_iff_ne, bne_iff_ne, bne_eq_false_iff_eq, ne_eq, Bool.not_eq_true', Bool.not_eq_false', Bool.and_eq_true, Bool.or_eq_true, Bool.and_eq_false_iff, Bool.or_eq_false_iff] at hb) <;> (try (exfalso; omega))
    apply sq_on; exact g_move (s := .av (.val (.int _ _))) rfl; exact rfl; exact rfl; exact rfl
    apply sq_on; exact g_cmp rfl rfl rfl; exact rfl; exact rfl; exact rfl
    apply sq_g; exact g_pick (s := .av (.val (.bool _))) rfl rfl; exact rfl
    apply sq_g; exact g_assign (s := .av (.val (.bool _))) rfl; exact rfl
    refine sq_nil ?_
    refine sq_then ?_
    refine cq_ret ?_
    rotate_left
    refine sq_off rfl rfl rfl rfl ?_
    refine sq_off rfl rfl rfl rfl ?_
    apply sq_g; exact g_pick (s := .av (.val (.bool _))) rfl rfl; exact rfl
    apply sq_g; exact g_assign (s := .av (.val (.bool _))) rfl; exact rfl
    refine sq_nil ?_
    refine sq_then ?_
    refine cq_ret ?_
    rotate_left
  all_goals (refine sq_res1 rfl (.tmp rfl) (congrArg vb ?_); simp [inB, *])
theorem high_c (p : Tr) : CtrA Tryz.prog 72 [tp p] (vb (rightT p)) := by
  refine ctrA _ Tryz.func72 rfl rfl Tryz.ntmps72 rfl fun w Z => ?_
  simp only [initT, List.map_cons, List.map_nil, Nat.zero_add, Nat.reduceAdd]
  focus
    refine cq_seq ?_
    refine cq_region ?_
    apply sq_g; exact g_box_agg rfl; exact rfl
    apply sq_g; exact g_assign (s := .av (.val (.bool _))) rfl; exact rfl
    refine sq_nil ?_
    refine sq_then ?_
    refine cq_seq ?_
    refine cq_region ?_
    apply sq_g; exact g_field rfl; exact rfl
    apply sq_g; exact g_load (τ := .val (.int _ _)) rfl rfl rfl; exact rfl
    apply sq_g; exact g_call (win_c _) rfl; exact rfl
    apply sq_g; exact g_move (s := .av (.val (.bool _))) rfl; exact rfl
    refine sq_split rfl rfl (fun hb => ?_) (fun hb => ?_) <;> (try simp only [decide_eq_true_eq, decide_eq_false_iff_not, beq_iff_eq, beq_eq_false_iff_ne, bne_iff_ne, bne_eq_false_iff_eq, ne_eq, Bool.not_eq_true', Bool.not_eq_false', Bool.and_eq_true, Bool.or_eq_true, Bool.and_eq_false_iff, Bool.or_eq_false_iff] at hb) <;> (try (exfalso; omega))
    apply sq_on; exact g_field rfl; exact rfl; exact rfl; exact rfl
    apply sq_on; exact g_load (τ := .val (.int _ _)) rfl rfl rfl; exact rfl; exact rfl; exact rfl
    apply sq_on; exact g_call (win_c _) rfl; exact rfl; exact rfl; exact rfl
    apply sq_g; exact g_pick (s := .av (.val (.bool _))) rfl rfl; exact rfl
    apply sq_g; exact g_move (s := .av (.val (.bool _))) rfl; exact rfl
    refine sq_split rfl rfl (fun hb => ?_) (fun hb => ?_) <;> (try simp only [decide_eq_true_eq, decide_eq_false_iff_not, beq_iff_eq, beq_eq_false_iff_ne, bne_iff_ne, bne_eq_false_iff_eq, ne_eq, Bool.not_eq_true', Bool.not_eq_false', Bool.and_eq_true, Bool.or_eq_true, Bool.and_eq_false_iff, Bool.or_eq_false_iff] at hb) <;> (try (exfalso; omega))
    apply sq_on; exact g_field rfl; exact rfl; exact rfl; exact rfl
    apply sq_on; exact g_load (τ := .val (.int _ _)) rfl rfl rfl; exact rfl; exact rfl; exact rfl
    apply sq_on; exact g_call (win_c _) rfl; exact rfl; exact rfl; exact rfl
    apply sq_g; exact g_pick (s := .av (.val (.bool _))) rfl rfl; exact rfl
    apply sq_g; exact g_assign (s := .av (.val (.bool _))) rfl; exact rfl
    refine sq_nil ?_
    refine sq_then ?_
    refine cq_ret ?_
    rotate_left
    refine sq_off rfl rfl rfl rfl ?_
    refine sq_off rfl rfl rfl rfl ?_
    refine sq_off rfl rfl rfl rfl ?_
    apply sq_g; exact g_pick (s := .av (.val (.bool _))) rfl rfl; exact rfl
    apply sq_g; exact g_assign (s := .av (.val (.bool _))) rfl; exact rfl
    refine sq_nil ?_
    refine sq_then ?_
    refine cq_ret ?_
    rotate_left
    refine sq_off rfl rfl rfl rfl ?_
    refine sq_off rfl rfl rfl rfl ?_
    refine sq_off rfl rfl rfl rfl ?_
    apply sq_g; exact g_pick (s := .av (.val (.bool _))) rfl rfl; exact rfl
    apply sq_g; exact g_move (s := .av (.val (.bool _))) rfl; exact rfl
    refine sq_off rfl rfl rfl rfl ?_
    refine sq_off rfl rfl rfl rfl ?_
    refine sq_off rfl rfl rfl rfl ?_
    apply sq_g; exact g_pick (s := .av (.val (.bool _))) rfl rfl; exact rfl
    apply sq_g; exact g_assign (s := .av (.val (.bool _))) rfl; exact rfl
    refine sq_nil ?_
    refine sq_then ?_
    refine cq_ret ?_
    rotate_left
  all_goals (refine sq_res1 rfl (.tmp rfl) (congrArg vb ?_); simp [rightT, *])
theorem all_c (l : List Tr) (hn : l.length ≤ 1000) : CtrA Tryz.prog 99 [.val (.func (.func 72) #[] #[]), ts l] (vi (if l.all rightT then 0 else 2)) := by
  refine ctrA _ Tryz.func99 rfl rfl Tryz.ntmps99 rfl fun w Z => ?_
  simp only [initT, List.map_cons, List.map_nil, Nat.zero_add, Nat.reduceAdd]
  refine cq_seq ?_
  refine cq_region ?_
  apply sq_g; exact g_assign (s := .av (.val (.int _ _))) rfl; exact rfl
  refine sq_nil ?_
  refine sq_then ?_
  refine cq_seq ?_
  refine cq_seq ?_
  refine cq_region ?_
  apply sq_g; exact g_move (s := .av _) rfl; exact rfl
  apply sq_g; exact g_len rfl; exact rfl
  apply sq_g; exact g_move (s := .av (.val (.int _ _))) rfl; exact rfl
  refine sq_nil ?_
  refine sq_then ?_
  refine cq_block ?_
  refine cq_loop (γ := Nat) (fun k => [(0, .av (.val (.func (.func 72) #[] #[]))), (7, .av (ts l)), (8, .av (vi l.length)), (9, .av (vi k))]) (fun _ => []) (fun k => k ≤ l.length ∧ (l.take k).all rightT = true) (fun k => l.length - k) 0 ⟨Nat.zero_le _, by simp⟩ (ent ⟨.refl _, .refl _, .refl _, .refl _, trivial⟩ trivial) ?_
  rintro k ⟨hk, hall⟩
  refine cq_seq ?_
  refine cq_region ?_
  apply sq_g; exact g_cmp rfl rfl rfl; exact rfl
  refine sq_nil ?_
  refine sq_then ?_
  refine cq_seq ?_
  (refine cq_cond rfl (fun hb => ?_) (fun hb => ?_) <;> (try simp only [decide_eq_true_eq, decide_eq_false_iff_not, beq_iff_eq, beq_eq_false_iff_ne, bne_iff_ne, bne_eq_false_iff_eq, ne_eq, Bool.not_eq_true', Bool.not_eq_false', Bool.and_eq_true, Bool.or_eq_true, Bool.and_eq_false_iff, Bool.or_eq_false_iff] at hb) <;> (try (exfalso; omega)))
  · have hkl : k < l.length := by omega
    refine cq_skip ?_
    refine sq_then ?_
    refine cq_seq ?_
    refine cq_block ?_
    refine cq_seq ?_
    refine cq_region ?_
    apply sq_g; exact g_index rfl rfl rfl (by omega); exact rfl
    apply sq_g; exact g_load_agg (us := [.int _ _, .int _ _, .int _ _]) rfl rfl rfl rfl; exact rfl
    refine sq_v (f_alloc 10 rfl) rfl ?_
    refine sq_s (g_store_agg rfl rfl rfl rfl rfl rfl) ?_
    refine sq_nil ?_
    refine sq_then ?_
    refine cq_seq ?_
    refine cq_region ?_
    apply sq_g; exact g_move (s := .av _) rfl; exact rfl
    apply sq_g; exact g_load_own_agg (us := [.int _ _, .int _ _, .int _ _]) rfl rfl rfl rfl; exact rfl
    apply sq_g; exact g_callv (high_c _) rfl rfl; exact rfl
    apply sq_g; exact g_not rfl; exact rfl
    refine sq_nil ?_
    refine sq_then ?_
    (refine cq_cond rfl (fun hb => ?_) (fun hb => ?_) <;> (try simp only [decide_eq_true_eq, decide_eq_false_iff_not, beq_iff_eq, beq_eq_false_iff_ne, bne_iff_ne, bne_eq_false_iff_eq, ne_eq, Bool.not_eq_true', Bool.not_eq_false', Bool.and_eq_true, Bool.or_eq_true, Bool.and_eq_false_iff, Bool.or_eq_false_iff] at hb) <;> (try (exfalso; omega)))
    · refine cq_seq ?_
      refine cq_region ?_
      apply sq_g; exact g_assign (s := .av (.val (.int _ _))) rfl; exact rfl
      refine sq_nil ?_
      refine sq_then ?_
      refine cq_ret ?_
      refine sq_inBlock_ret ?_
      refine sq_then_ret ?_
      refine sq_then_ret ?_
      refine sq_inBlock_ret ?_
      refine sq_then_ret ?_
      refine sq_res1 rfl (.tmp rfl) (congrArg vi ?_)
      have : ¬ l.all rightT = true := fun h => by
        have := List.all_eq_true.1 h (gt l k) (gt_mem hkl)
        simp [this] at hb
      simp [this]
    · refine cq_skip ?_
      refine sq_then ?_
      refine cq_region ?_
      apply sq_g; exact g_arith rfl rfl rfl (by omega); exact rfl
      apply sq_g; exact g_move (s := .av (.val (.int _ _))) rfl; exact rfl
      refine sq_nil ?_
      exact sq_round (k + 1) ⟨by omega, by rw [gt_take hkl]; simp only [List.all_append, hall, List.all_cons, List.all_nil, Bool.and_true, Bool.true_and]; exact hb⟩ (by omega) (ent ⟨.refl _, .refl _, .refl _, .int (by omega), trivial⟩ trivial)
  · refine cq_exit ?_
    refine sq_then ?_
    refine cq_seq ?_
    refine cq_region ?_
    apply sq_g; exact g_assign (s := .av (.val (.int _ _))) rfl; exact rfl
    refine sq_nil ?_
    refine sq_then ?_
    refine cq_ret ?_
    have : k = l.length := by omega
    subst this
    rw [List.take_length] at hall
    exact sq_res1 rfl (.tmp rfl) (congrArg vi (by simp [hall]))
theorem checked_c (l : List Tr) : CtrA Tryz.prog 71 [ts l, .val (.func (.func 72) #[] #[])] (vi (chkT l)) := by
  refine ctrA _ Tryz.func71 rfl rfl Tryz.ntmps71 rfl fun w Z => ?_
  simp only [initT, List.map_cons, List.map_nil, Nat.zero_add, Nat.reduceAdd]
  refine cq_seq ?_
  refine cq_region ?_
  apply sq_g; exact g_assign (s := .av (.val (.int _ _))) rfl; exact rfl
  refine sq_nil ?_
  refine sq_then ?_
  refine cq_seq ?_
  refine cq_seq ?_
  refine cq_region ?_
  apply sq_g; exact g_move (s := .av _) rfl; exact rfl
  apply sq_g; exact g_len rfl; exact rfl
  apply sq_g; exact g_cmp rfl rfl rfl; exact rfl
  refine sq_nil ?_
  refine sq_then ?_
  (refine cq_cond rfl (fun hb => ?_) (fun hb => ?_) <;> (try simp only [decide_eq_true_eq, decide_eq_false_iff_not, beq_iff_eq, beq_eq_false_iff_ne, bne_iff_ne, bne_eq_false_iff_eq, ne_eq, Bool.not_eq_true', Bool.not_eq_false', Bool.and_eq_true, Bool.or_eq_true, Bool.and_eq_false_iff, Bool.or_eq_false_iff] at hb) <;> (try (exfalso; omega)))
  · refine cq_seq ?_
    refine cq_region ?_
    apply sq_g; exact g_assign (s := .av (.val (.int _ _))) rfl; exact rfl
    refine sq_nil ?_
    refine sq_then ?_
    refine cq_ret ?_
    refine sq_then_ret ?_
    exact sq_res1 rfl (.tmp rfl) (by simp [chkT]; omega)
  · refine cq_skip ?_
    refine sq_then ?_
    refine cq_seq ?_
    refine cq_region ?_
    apply sq_g; exact g_move (s := .av _) rfl; exact rfl
    apply sq_g; exact g_move (s := .av _) rfl; exact rfl
    apply sq_g; exact g_call (all_c l (by omega)) rfl; exact rfl
    apply sq_g; exact g_assign (s := .av (.val (.int _ _))) rfl; exact rfl
    refine sq_nil ?_
    refine sq_then ?_
    refine cq_ret ?_
    exact sq_res1 rfl (.tmp rfl) (congrArg vi (by simp [chkT, show ¬ 64 < l.length by omega]))
theorem check_c (l : List Tr) : CtrA Tryz.prog 44 [ts l] (vi (chkT l)) := by
  refine ctrA _ Tryz.func44 rfl rfl Tryz.ntmps44 rfl fun w Z => ?_
  simp only [initT, List.map_cons, List.map_nil, Nat.zero_add, Nat.reduceAdd]
  refine cq_seq ?_
  refine cq_region ?_
  apply sq_g; exact g_assign (s := .av (.val (.int _ _))) rfl; exact rfl
  refine sq_nil ?_
  refine sq_then ?_
  refine cq_seq ?_
  refine cq_region ?_
  apply sq_g; exact g_move (s := .av _) rfl; exact rfl
  apply sq_g; exact g_call (checked_c l) rfl; exact rfl
  apply sq_g; exact g_assign (s := .av (.val (.int _ _))) rfl; exact rfl
  refine sq_nil ?_
  refine sq_then ?_
  refine cq_ret ?_
  exact sq_res1 rfl (.tmp rfl) rfl
theorem of_c (p : Tr) : CtrA Tryz.prog 61 [tp p] (tp p) := by
  refine ctrA _ Tryz.func61 rfl rfl Tryz.ntmps61 rfl fun w Z => ?_
  simp only [initT, List.map_cons, List.map_nil, Nat.zero_add, Nat.reduceAdd]
  refine cq_seq ?_
  refine cq_region ?_
  apply sq_g; exact g_box_agg rfl; exact rfl
  refine sq_v (f_alloc 10 rfl) rfl ?_
  refine sq_nil ?_
  refine sq_then ?_
  refine cq_seq ?_
  refine cq_region ?_
  apply sq_g; exact g_field rfl; exact rfl
  apply sq_g; exact g_load (τ := .val (.int _ _)) rfl rfl rfl; exact rfl
  apply sq_g; exact g_field rfl; exact rfl
  apply sq_g; exact g_load (τ := .val (.int _ _)) rfl rfl rfl; exact rfl
  apply sq_g; exact g_field rfl; exact rfl
  apply sq_g; exact g_load (τ := .val (.int _ _)) rfl rfl rfl; exact rfl
  apply sq_g; exact g_build (is := [0, 1, 2]) (xs := [_, _, _]) (vs := [_, _, _]) (tb80 _ _ _) rfl rfl; exact rfl
  refine sq_s (g_store_agg rfl rfl rfl rfl rfl rfl) ?_
  refine sq_nil ?_
  refine sq_then ?_
  refine cq_ret ?_
  exact sq_res1 rfl (.agg (us := [_, _, _]) rfl rfl rfl rfl) rfl
theorem minus_c (a b : Tr) (h1 : BT 1000000000000 a) (h2 : BT 1000000000000 b) : CtrA Tryz.prog 64 [tp a, tp b] (tp (tsub a b)) := by
  refine ctrA _ Tryz.func64 rfl rfl Tryz.ntmps64 rfl fun w Z => ?_
  obtain ⟨⟨_, _⟩, ⟨_, _⟩, ⟨_, _⟩⟩ := h1
  obtain ⟨⟨_, _⟩, ⟨_, _⟩, ⟨_, _⟩⟩ := h2
  simp only [initT, List.map_cons, List.map_nil, Nat.zero_add, Nat.reduceAdd]
  refine cq_seq ?_
  refine cq_region ?_
  apply sq_g; exact g_box_agg rfl; exact rfl
  apply sq_g; exact g_box_agg rfl; exact rfl
  refine sq_v (f_alloc 10 rfl) rfl ?_
  refine sq_nil ?_
  refine sq_then ?_
  refine cq_seq ?_
  refine cq_region ?_
  apply sq_g; exact g_index_arr rfl rfl rfl (by decide) rfl; exact rfl
  apply sq_g; exact g_load (τ := .val (.int _ _)) rfl rfl rfl; exact rfl
  apply sq_g; exact g_index_arr rfl rfl rfl (by decide) rfl; exact rfl
  apply sq_g; exact g_load (τ := .val (.int _ _)) rfl rfl rfl; exact rfl
  apply sq_g; exact g_arith rfl rfl rfl (by omega); exact rfl
  apply sq_g; exact g_index_arr rfl rfl rfl (by decide) rfl; exact rfl
  apply sq_g; exact g_load (τ := .val (.int _ _)) rfl rfl rfl; exact rfl
  apply sq_g; exact g_index_arr rfl rfl rfl (by decide) rfl; exact rfl
  apply sq_g; exact g_load (τ := .val (.int _ _)) rfl rfl rfl; exact rfl
  apply sq_g; exact g_arith rfl rfl rfl (by omega); exact rfl
  apply sq_g; exact g_index_arr rfl rfl rfl (by decide) rfl; exact rfl
  apply sq_g; exact g_load (τ := .val (.int _ _)) rfl rfl rfl; exact rfl
  apply sq_g; exact g_index_arr rfl rfl rfl (by decide) rfl; exact rfl
  apply sq_g; exact g_load (τ := .val (.int _ _)) rfl rfl rfl; exact rfl
  apply sq_g; exact g_arith rfl rfl rfl (by omega); exact rfl
  apply sq_g; exact g_build (is := [0, 1, 2]) (xs := [_, _, _]) (vs := [_, _, _]) (tb80 _ _ _) rfl rfl; exact rfl
  refine sq_s (g_store_agg rfl rfl rfl rfl rfl rfl) ?_
  refine sq_nil ?_
  refine sq_then ?_
  refine cq_ret ?_
  exact sq_res1 rfl (.agg (us := [_, _, _]) rfl rfl rfl rfl) rfl
theorem dot_c (a b : Tr) {A B : Int} (h1 : BT A a) (h2 : BT B b) (hab : A * B ≤ 1000000000000000000) : CtrA Tryz.prog 47 [tp a, tp b] (vi (tdot a b)) := by
  refine ctrA _ Tryz.func47 rfl rfl Tryz.ntmps47 rfl fun w Z => ?_
  obtain ⟨m1, n1⟩ := bn_mul h1.x h2.x
  obtain ⟨m2, n2⟩ := bn_mul h1.y h2.y
  obtain ⟨m3, n3⟩ := bn_mul h1.z h2.z
  simp only [initT, List.map_cons, List.map_nil, Nat.zero_add, Nat.reduceAdd]
  refine cq_seq ?_
  refine cq_region ?_
  apply sq_g; exact g_box_agg rfl; exact rfl
  apply sq_g; exact g_box_agg rfl; exact rfl
  apply sq_g; exact g_assign (s := .av (.val (.int _ _))) rfl; exact rfl
  refine sq_nil ?_
  refine sq_then ?_
  refine cq_seq ?_
  refine cq_region ?_
  apply sq_g; exact g_index_arr rfl rfl rfl (by decide) rfl; exact rfl
  apply sq_g; exact g_load (τ := .val (.int _ _)) rfl rfl rfl; exact rfl
  apply sq_g; exact g_index_arr rfl rfl rfl (by decide) rfl; exact rfl
  apply sq_g; exact g_load (τ := .val (.int _ _)) rfl rfl rfl; exact rfl
  apply sq_g; exact g_arith rfl rfl rfl (by omega); exact rfl
  apply sq_g; exact g_index_arr rfl rfl rfl (by decide) rfl; exact rfl
  apply sq_g; exact g_load (τ := .val (.int _ _)) rfl rfl rfl; exact rfl
  apply sq_g; exact g_index_arr rfl rfl rfl (by decide) rfl; exact rfl
  apply sq_g; exact g_load (τ := .val (.int _ _)) rfl rfl rfl; exact rfl
  apply sq_g; exact g_arith rfl rfl rfl (by omega); exact rfl
  apply sq_g; exact g_arith rfl rfl rfl (by omega); exact rfl
  apply sq_g; exact g_index_arr rfl rfl rfl (by decide) rfl; exact rfl
  apply sq_g; exact g_load (τ := .val (.int _ _)) rfl rfl rfl; exact rfl
  apply sq_g; exact g_index_arr rfl rfl rfl (by decide) rfl; exact rfl
  apply sq_g; exact g_load (τ := .val (.int _ _)) rfl rfl rfl; exact rfl
  apply sq_g; exact g_arith rfl rfl rfl (by omega); exact rfl
  apply sq_g; exact g_arith rfl rfl rfl (by omega); exact rfl
  apply sq_g; exact g_assign (s := .av (.val (.int _ _))) rfl; exact rfl
  refine sq_nil ?_
  refine sq_then ?_
  refine cq_ret ?_
  exact sq_res1 rfl (.tmp rfl) rfl
theorem cross_c (a b : Tr) {A B : Int} (h1 : BT A a) (h2 : BT B b) (hab : A * B ≤ 1000000000000000000) : CtrA Tryz.prog 63 [tp a, tp b] (tp (tcr a b)) := by
  refine ctrA _ Tryz.func63 rfl rfl Tryz.ntmps63 rfl fun w Z => ?_
  obtain ⟨m1, n1⟩ := bn_mul h1.y h2.z
  obtain ⟨m2, n2⟩ := bn_mul h1.z h2.y
  obtain ⟨m3, n3⟩ := bn_mul h1.z h2.x
  obtain ⟨m4, n4⟩ := bn_mul h1.x h2.z
  obtain ⟨m5, n5⟩ := bn_mul h1.x h2.y
  obtain ⟨m6, n6⟩ := bn_mul h1.y h2.x
  simp only [initT, List.map_cons, List.map_nil, Nat.zero_add, Nat.reduceAdd]
  refine cq_seq ?_
  refine cq_region ?_
  apply sq_g; exact g_box_agg rfl; exact rfl
  apply sq_g; exact g_box_agg rfl; exact rfl
  refine sq_v (f_alloc 10 rfl) rfl ?_
  refine sq_nil ?_
  refine sq_then ?_
  refine cq_seq ?_
  refine cq_region ?_
  apply sq_g; exact g_index_arr rfl rfl rfl (by decide) rfl; exact rfl
  apply sq_g; exact g_load (τ := .val (.int _ _)) rfl rfl rfl; exact rfl
  apply sq_g; exact g_index_arr rfl rfl rfl (by decide) rfl; exact rfl
  apply sq_g; exact g_load (τ := .val (.int _ _)) rfl rfl rfl; exact rfl
  apply sq_g; exact g_arith rfl rfl rfl (by omega); exact rfl
  apply sq_g; exact g_index_arr rfl rfl rfl (by decide) rfl; exact rfl
  apply sq_g; exact g_load (τ := .val (.int _ _)) rfl rfl rfl; exact rfl
  apply sq_g; exact g_index_arr rfl rfl rfl (by decide) rfl; exact rfl
  apply sq_g; exact g_load (τ := .val (.int _ _)) rfl rfl rfl; exact rfl
  apply sq_g; exact g_arith rfl rfl rfl (by omega); exact rfl
  apply sq_g; exact g_arith rfl rfl rfl (by omega); exact rfl
  apply sq_g; exact g_index_arr rfl rfl rfl (by decide) rfl; exact rfl
  apply sq_g; exact g_load (τ := .val (.int _ _)) rfl rfl rfl; exact rfl
  apply sq_g; exact g_index_arr rfl rfl rfl (by decide) rfl; exact rfl
  apply sq_g; exact g_load (τ := .val (.int _ _)) rfl rfl rfl; exact rfl
  apply sq_g; exact g_arith rfl rfl rfl (by omega); exact rfl
  apply sq_g; exact g_index_arr rfl rfl rfl (by decide) rfl; exact rfl
  apply sq_g; exact g_load (τ := .val (.int _ _)) rfl rfl rfl; exact rfl
  apply sq_g; exact g_index_arr rfl rfl rfl (by decide) rfl; exact rfl
  apply sq_g; exact g_load (τ := .val (.int _ _)) rfl rfl rfl; exact rfl
  apply sq_g; exact g_arith rfl rfl rfl (by omega); exact rfl
  apply sq_g; exact g_arith rfl rfl rfl (by omega); exact rfl
  apply sq_g; exact g_index_arr rfl rfl rfl (by decide) rfl; exact rfl
  apply sq_g; exact g_load (τ := .val (.int _ _)) rfl rfl rfl; exact rfl
  apply sq_g; exact g_index_arr rfl rfl rfl (by decide) rfl; exact rfl
  apply sq_g; exact g_load (τ := .val (.int _ _)) rfl rfl rfl; exact rfl
  apply sq_g; exact g_arith rfl rfl rfl (by omega); exact rfl
  apply sq_g; exact g_index_arr rfl rfl rfl (by decide) rfl; exact rfl
  apply sq_g; exact g_load (τ := .val (.int _ _)) rfl rfl rfl; exact rfl
  apply sq_g; exact g_index_arr rfl rfl rfl (by decide) rfl; exact rfl
  apply sq_g; exact g_load (τ := .val (.int _ _)) rfl rfl rfl; exact rfl
  apply sq_g; exact g_arith rfl rfl rfl (by omega); exact rfl
  apply sq_g; exact g_arith rfl rfl rfl (by omega); exact rfl
  apply sq_g; exact g_build (is := [0, 1, 2]) (xs := [_, _, _]) (vs := [_, _, _]) (tb80 _ _ _) rfl rfl; exact rfl
  refine sq_s (g_store_agg rfl rfl rfl rfl rfl rfl) ?_
  refine sq_nil ?_
  refine sq_then ?_
  refine cq_ret ?_
  exact sq_res1 rfl (.agg (us := [_, _, _]) rfl rfl rfl rfl) rfl
end Go.Proofs.YtdoppiajbpmmkaaGreat
namespace Go.Proofs.YtdoppiajbpmmkaaGreat
open Go Go.Vc Go.RowKit
set_option maxHeartbeats 2000000
/-! KDQ -/
abbrev c3 (a : Tr) : Res := .cells [.av (.val (.int .i64 a.x)), .av (.val (.int .i64 a.y)), .av (.val (.int .i64 a.z))]
def co (a : Tr) (k : Nat) : Int := [a.x, a.y, a.z].getD k 0
def tgs (a : Tr) : Nat → Nat
  | 0 => 0
  | k + 1 => Nat.gcd (tgs a k) (co a k).natAbs
theorem tgs3 (a : Tr) : tgs a 3 = tg a := rfl
theorem ix80_0 (a : Tr) (w : World) : (Instr.index 80 (.agg [.int .i64 a.x, .int .i64 a.y, .int .i64 a.z].toArray) (.int .i64 (((0 : Nat)) : Int))).run Tryz.prog w = .ok (.int .i64 (co a 0)) w := by kernel_rfl
theorem ix80_1 (a : Tr) (w : World) : (Instr.index 80 (.agg [.int .i64 a.x, .int .i64 a.y, .int .i64 a.z].toArray) (.int .i64 (((1 : Nat)) : Int))).run Tryz.prog w = .ok (.int .i64 (co a 1)) w := by kernel_rfl
theorem ix80_2 (a : Tr) (w : World) : (Instr.index 80 (.agg [.int .i64 a.x, .int .i64 a.y, .int .i64 a.z].toArray) (.int .i64 (((2 : Nat)) : Int))).run Tryz.prog w = .ok (.int .i64 (co a 2)) w := by kernel_rfl
theorem ix80 (a : Tr) (k : Nat) (h : k < 3) (w : World) : (Instr.index 80 (.agg [.int .i64 a.x, .int .i64 a.y, .int .i64 a.z].toArray) (.int .i64 k)).run Tryz.prog w = .ok (.int .i64 (co a k)) w := by
  rcases (by omega : k = 0 ∨ k = 1 ∨ k = 2) with rfl | rfl | rfl
  · exact ix80_0 a w
  · exact ix80_1 a w
  · exact ix80_2 a w
theorem tgs_le {a : Tr} {B : Int} (h : BT B a) : ∀ k, k ≤ 3 → (tgs a k : Int) ≤ B := by
  have hc : ∀ k, k < 3 → Bn B (co a k) := fun k hk => by
    match k, hk with
    | 0, _ => exact h.x
    | 1, _ => exact h.y
    | 2, _ => exact h.z
  intro k
  induction k with
  | zero => intro _; have := h.x; simp only [Bn] at this; simp only [tgs]; omega
  | succ k ih =>
    intro hk
    have h1 := hc k (by omega)
    have h2 := ih (by omega)
    simp only [tgs]
    by_cases h0 : tgs a k = 0
    · rw [h0, Nat.gcd_zero_left]; simp only [Bn] at h1; omega
    · have := Nat.gcd_le_left (co a k).natAbs (show 0 < tgs a k by omega)
      omega
theorem prim_c (a : Tr) (h : BT 1000000000000 a) : CtrA Tryz.prog 65 [tp a] (tp (tpr a)) := by
  refine ctrA _ Tryz.func65 rfl rfl Tryz.ntmps65 rfl fun w Z => ?_
  have hc : ∀ k, k < 3 → Bn 1000000000000 (co a k) := fun k hk => by
    match k, hk with
    | 0, _ => exact h.x
    | 1, _ => exact h.y
    | 2, _ => exact h.z
  have hle := tgs_le h
  simp only [initT, List.map_cons, List.map_nil, Nat.zero_add, Nat.reduceAdd]
  refine cq_seq ?_
  refine cq_region ?_
  apply sq_g; exact g_box_agg rfl; exact rfl
  refine sq_v (f_alloc 10 rfl) rfl ?_
  refine sq_nil ?_
  refine sq_then ?_
  refine cq_seq ?_
  refine cq_region ?_
  apply sq_g; exact g_assign (s := .av (.val (.int _ _))) rfl; exact rfl
  refine sq_nil ?_
  refine sq_then ?_
  refine cq_seq ?_
  refine cq_seq ?_
  refine cq_region ?_
  apply sq_g; exact g_load_agg (us := [.int _ _, .int _ _, .int _ _]) rfl rfl rfl rfl; exact rfl
  apply sq_g; exact g_move (s := .av (.val (.int _ _))) rfl; exact rfl
  refine sq_nil ?_
  refine sq_then ?_
  refine cq_block ?_
  refine cq_loop (γ := Nat) (fun k => [(1, .av (bt a)), (2, .own 10 0), (3, .av (vi (tgs a k))), (7, .av (tp a)), (8, .av (vi k))]) (fun _ => [(10, .cells [.av (vi 0), .av (vi 0), .av (vi 0)])]) (fun k => k ≤ 3) (fun k => 3 - k) 0 (by omega) (ent ⟨.refl _, .refl _, .refl _, .refl _, .refl _, trivial⟩ ⟨⟨_, rfl, .refl _⟩, trivial⟩) ?_
  intro k hk
  refine cq_seq ?_
  refine cq_region ?_
  apply sq_g; exact g_cmp rfl rfl rfl; exact rfl
  refine sq_nil ?_
  refine sq_then ?_
  refine cq_seq ?_
  (refine cq_cond rfl (fun hb => ?_) (fun hb => ?_) <;> (try simp only [decide_eq_true_eq, decide_eq_false_iff_not, beq_iff_eq, beq_eq_false_iff_ne, bne_iff_ne, bne_eq_false_iff_eq, ne_eq, Bool.not_eq_true', Bool.not_eq_false', Bool.and_eq_true, Bool.or_eq_true, Bool.and_eq_false_iff, Bool.or_eq_false_iff] at hb) <;> (try (exfalso; omega)))
  · have hk3 : k < 3 := by omega
    have hck := hc k hk3
    have hlk := hle k hk
    have hl1 := hle (k + 1) (by omega)
    obtain ⟨hc1, hc2⟩ := hck
    refine cq_skip ?_
    refine sq_then ?_
    refine cq_seq ?_
    refine cq_block ?_
    refine cq_seq ?_
    refine cq_region ?_
    apply sq_g; exact  g_indexv rfl rfl (fun w => ix80 a k hk3 w); exact rfl
    apply sq_g; exact g_assign (s := .av (.val (.int _ _))) rfl; exact rfl
    refine sq_nil ?_
    refine sq_then ?_
    refine cq_seq ?_
    refine cq_region ?_
    apply sq_g; exact g_move (s := .av (.val (.int _ _))) rfl; exact rfl
    apply sq_g; exact g_move (s := .av (.val (.int _ _))) rfl; exact rfl
    apply sq_g; exact g_neg rfl (by omega); exact rfl
    apply sq_g; exact g_max rfl rfl; exact rfl
    apply sq_g; exact g_assign (s := .av (.val (.int _ _))) rfl; exact rfl
    refine sq_nil ?_
    refine sq_then ?_
    refine cq_block ?_
    refine cq_loop (γ := Nat × Nat) (fun g => [(1, .av (bt a)), (2, .own 10 0), (3, .av (vi g.1)), (6, .av (vi g.2)), (7, .av (tp a)), (8, .av (vi k))]) (fun _ => [(10, .cells [.av (vi 0), .av (vi 0), .av (vi 0)])]) (fun g => Nat.gcd g.1 g.2 = tgs a (k + 1) ∧ g.1 ≤ 1000000000000 ∧ g.2 ≤ 1000000000000) (fun g => g.2) (tgs a k, (co a k).natAbs) ⟨rfl, by dsimp only; omega, by dsimp only; omega⟩ (ent ⟨.refl _, .refl _, .refl _, .int (by dsimp only; omega), .refl _, .refl _, trivial⟩ ⟨⟨_, rfl, .refl _⟩, trivial⟩) ?_
    rintro ⟨g, m⟩ ⟨hg, hg1, hm1⟩
    dsimp only at hg hg1 hm1 ⊢
    refine cq_seq ?_
    refine cq_seq ?_
    refine cq_region ?_
    apply sq_g; exact g_move (s := .av (.val (.int _ _))) rfl; exact rfl
    apply sq_g; exact g_cmp rfl rfl rfl; exact rfl
    refine sq_nil ?_
    refine sq_then ?_
    (refine cq_cond rfl (fun hb => ?_) (fun hb => ?_) <;> (try simp only [decide_eq_true_eq, decide_eq_false_iff_not, beq_iff_eq, beq_eq_false_iff_ne, bne_iff_ne, bne_eq_false_iff_eq, ne_eq, Bool.not_eq_true', Bool.not_eq_false', Bool.and_eq_true, Bool.or_eq_true, Bool.and_eq_false_iff, Bool.or_eq_false_iff] at hb) <;> (try (exfalso; omega)))
    · have hlt : g % m < m := Nat.mod_lt _ (by omega)
      refine cq_skip ?_
      refine sq_then ?_
      refine cq_block ?_
      refine cq_drawn ?_
      apply dq_g; exact g_move (s := .av (.val (.int _ _))) rfl; exact rfl
      apply dq_g; exact g_move (s := .av (.val (.int _ _))) rfl; exact rfl
      apply dq_g; exact g_move (s := .av (.val (.int _ _))) rfl; exact rfl
      apply dq_g; exact g_rem rfl rfl (by omega) (by omega); exact rfl
      apply dq_g; exact g_assign (s := .av (.val (.int _ _))) rfl; exact rfl
      apply dq_g; exact g_assign (s := .av (.val (.int _ _))) rfl; exact rfl
      refine dq_nil tm (by kernel_rfl) ?_
      refine sq_inBlock ?_
      exact sq_round (g := (g, m)) (m, g % m) ⟨by dsimp only; rw [← hg, Nat.gcd_comm g m, Nat.gcd_rec m g, Nat.gcd_comm], by dsimp only; omega, by dsimp only; omega⟩ hlt (ent ⟨.refl _, .refl _, .refl _, .int (by dsimp only; omega), .refl _, .refl _, trivial⟩ ⟨⟨_, rfl, .refl _⟩, trivial⟩)
    · have hm : m = 0 := by omega
      subst hm
      rw [Nat.gcd_zero_right] at hg
      refine cq_exit ?_
      refine sq_then ?_
      refine cq_region ?_
      apply sq_g; exact g_arith rfl rfl rfl (by omega); exact rfl
      apply sq_g; exact g_move (s := .av (.val (.int _ _))) rfl; exact rfl
      refine sq_nil ?_
      exact sq_round (k + 1) (by omega) (by omega) (ent ⟨.refl _, .refl _, .int (by rw [hg]), .refl _, .int (by omega), trivial⟩ ⟨⟨_, rfl, .refl _⟩, trivial⟩)
  · have hk3 : k = 3 := by omega
    subst hk3
    have hle3 := hle 3 (by omega)
    rw [tgs3] at hle3 ⊢
    have ht : tpr a = if tg a = 0 then a else ⟨a.x.tdiv (tg a), a.y.tdiv (tg a), a.z.tdiv (tg a)⟩ := rfl
    obtain ⟨⟨_, _⟩, ⟨_, _⟩, ⟨_, _⟩⟩ := h
    refine cq_exit ?_
    refine sq_then ?_
    refine cq_seq ?_
    refine cq_seq ?_
    refine cq_region ?_
    apply sq_g; exact g_move (s := .av (.val (.int _ _))) rfl; exact rfl
    apply sq_g; exact g_cmp rfl rfl rfl; exact rfl
    refine sq_nil ?_
    refine sq_then ?_
    (refine cq_cond rfl (fun hb => ?_) (fun hb => ?_) <;> (try simp only [decide_eq_true_eq, decide_eq_false_iff_not, beq_iff_eq, beq_eq_false_iff_ne, bne_iff_ne, bne_eq_false_iff_eq, ne_eq, Bool.not_eq_true', Bool.not_eq_false', Bool.and_eq_true, Bool.or_eq_true, Bool.and_eq_false_iff, Bool.or_eq_false_iff] at hb) <;> (try (exfalso; omega)))
    · rw [if_pos (by omega)] at ht
      rw [ht]
      refine cq_seq ?_
      refine cq_region ?_
      apply sq_g; exact g_load_agg (us := [.int _ _, .int _ _, .int _ _]) rfl rfl rfl rfl; exact rfl
      refine sq_s (g_store_agg rfl rfl rfl rfl rfl rfl) ?_
      refine sq_nil ?_
      refine sq_then ?_
      refine cq_ret ?_
      refine sq_then_ret ?_
      exact sq_res1 rfl (.agg (us := [_, _, _]) rfl rfl rfl rfl) rfl
    · rw [if_neg (by omega)] at ht
      rw [ht]
      refine cq_skip ?_
      refine sq_then ?_
      refine cq_seq ?_
      refine cq_drawn ?_
      apply dq_g; exact g_index_arr rfl rfl rfl (by decide) rfl; exact rfl
      apply dq_g; exact g_load (τ := .val (.int _ _)) rfl rfl rfl; exact rfl
      apply dq_g; exact g_move (s := .av (.val (.int _ _))) rfl; exact rfl
      apply dq_g; exact g_quoT rfl rfl (by omega) (by omega); exact rfl
      apply dq_g; exact g_index_arr rfl rfl rfl (by decide) rfl; exact rfl
      apply dq_g; exact g_load (τ := .val (.int _ _)) rfl rfl rfl; exact rfl
      apply dq_g; exact g_move (s := .av (.val (.int _ _))) rfl; exact rfl
      apply dq_g; exact g_quoT rfl rfl (by omega) (by omega); exact rfl
      apply dq_g; exact g_index_arr rfl rfl rfl (by decide) rfl; exact rfl
      apply dq_g; exact g_load (τ := .val (.int _ _)) rfl rfl rfl; exact rfl
      apply dq_g; exact g_move (s := .av (.val (.int _ _))) rfl; exact rfl
      apply dq_g; exact g_quoT rfl rfl (by omega) (by omega); exact rfl
      apply dq_g; exact g_build (is := [0, 1, 2]) (xs := [_, _, _]) (vs := [_, _, _]) (tb80 _ _ _) rfl rfl; exact rfl
      refine dq_s (g_store_agg rfl rfl rfl rfl rfl rfl) ?_
      refine dq_nil tm (by kernel_rfl) ?_
      refine sq_then ?_
      refine cq_ret ?_
      exact sq_res1 rfl (.agg (us := [_, _, _]) rfl rfl rfl rfl) rfl
theorem gt_app (l m : List Tr) (i : Nat) : gt (l ++ m) i = if i < l.length then gt l i else gt m (i - l.length) := by
  unfold gt
  by_cases h : i < l.length
  · simp [List.getD, List.getElem?_append_left h, h]
  · simp [List.getD, List.getElem?_append_right (Nat.le_of_not_lt h), h]
theorem tf_row (p : Tr) : ∀ i, i < 1 → ∀ j, j < 3 → ∃ u, [Value.int .i64 p.x, .int .i64 p.y, .int .i64 p.z][i * 3 + j]? = some u ∧ tf [p] i j = .val u := by
  intro i hi j hj
  obtain rfl : i = 0 := by omega
  match j, hj with
  | 0, _ => exact ⟨_, rfl, rfl⟩
  | 1, _ => exact ⟨_, rfl, rfl⟩
  | 2, _ => exact ⟨_, rfl, rfl⟩
theorem tf_one (l : List Tr) : ∀ i j, (tf l i j).one = true := fun i j => by unfold tf; split <;> rfl
theorem tf_app (l : List Tr) (p : Tr) : ∀ i, i < l.length + 1 → ∀ j, j < 3 → rowApp l.length (tf l) (tf [p]) i j = tf (l ++ [p]) i j := by
  intro i hi j hj
  unfold rowApp tf
  rw [gt_app]
  by_cases h : i < l.length
  · rw [if_pos h, if_pos h]
  · rw [if_neg h, if_neg h]
theorem vectors_c (l : List Tr) (hn : l.length ≤ 1000) : CtrR Tryz.prog 46 [ts l] 80 3 l.length (tf l) [] := by
  refine ctrR _ Tryz.func46 rfl rfl Tryz.ntmps46 rfl fun w Z => ?_
  simp only [initT, List.map_cons, List.map_nil, Nat.zero_add, Nat.reduceAdd]
  refine cq_seq ?_
  refine cq_region ?_
  apply sq_g; exact g_assign (s := .av _) rfl; exact rfl
  refine sq_nil ?_
  refine sq_then ?_
  refine cq_seq ?_
  refine cq_region ?_
  apply sq_g; exact g_assign (s := .av _) rfl; exact rfl
  refine sq_nil ?_
  refine sq_then ?_
  refine cq_seq ?_
  refine cq_seq ?_
  refine cq_region ?_
  apply sq_g; exact g_move (s := .av _) rfl; exact rfl
  apply sq_g; exact g_len rfl; exact rfl
  apply sq_g; exact g_move (s := .av (.val (.int _ _))) rfl; exact rfl
  refine sq_nil ?_
  refine sq_then ?_
  refine cq_block ?_
  refine cq_loop (γ := Nat) (fun k => [(3, .osl 70), (6, .av (ts l)), (7, .av (vi l.length)), (8, .av (vi k))]) (fun k => [(70, .row 80 3 (l.take k).length (tf (l.take k)))]) (fun k => k ≤ l.length) (fun k => l.length - k) 0 (Nat.zero_le _) (Ent.trans (ent_row (dd := 3) 70 80 3 (tf []) rfl rfl) (ent ⟨.refl _, .refl _, .refl _, .refl _, trivial⟩ ⟨⟨_, rfl, .refl _⟩, trivial⟩)) ?_
  intro k hk
  refine cq_seq ?_
  refine cq_region ?_
  apply sq_g; exact g_cmp rfl rfl rfl; exact rfl
  refine sq_nil ?_
  refine sq_then ?_
  refine cq_seq ?_
  (refine cq_cond rfl (fun hb => ?_) (fun hb => ?_) <;> (try simp only [decide_eq_true_eq, decide_eq_false_iff_not, beq_iff_eq, beq_eq_false_iff_ne, bne_iff_ne, bne_eq_false_iff_eq, ne_eq, Bool.not_eq_true', Bool.not_eq_false', Bool.and_eq_true, Bool.or_eq_true, Bool.and_eq_false_iff, Bool.or_eq_false_iff] at hb) <;> (try (exfalso; omega)))
  · have hkl : k < l.length := by omega
    have ht := gt_take hkl
    have hl1 : (l.take k).length ≤ k := by rw [List.length_take]; omega
    generalize l.take k = X at ht hl1 ⊢
    have hml : X.length + 1 ≤ maxLen := by simp only [maxLen]; omega
    refine cq_skip ?_
    refine sq_then ?_
    refine cq_seq ?_
    refine cq_block ?_
    refine cq_seq ?_
    refine cq_region ?_
    apply sq_g; exact g_index rfl rfl rfl (by omega); exact rfl
    apply sq_g; exact g_load_agg (us := [.int _ _, .int _ _, .int _ _]) rfl rfl rfl rfl; exact rfl
    refine sq_v (f_alloc 10 rfl) rfl ?_
    refine sq_s (g_store_agg rfl rfl rfl rfl rfl rfl) ?_
    refine sq_nil ?_
    refine sq_then ?_
    refine cq_region ?_
    apply sq_g; exact g_move (s := .osl _) rfl; exact rfl
    apply sq_g; exact g_load_own_agg (us := [.int _ _, .int _ _, .int _ _]) rfl rfl rfl rfl; exact rfl
    apply sq_g; exact g_call (of_c _) rfl; exact rfl
    apply sq_g; exact  g_bslice (is := [0]) (xs := [_]) (vs := [_]) (us := [_, _, _]) (tq81 _ _ _) rfl rfl rfl (tf_row _); exact rfl
    refine sq_v (v_append (h := tf [gt l k]) (m := 1) rfl rfl rfl (fun i _ j _ => tf_one _ i j) (by omega) hml (by omega)) rfl ?_
    apply sq_g; exact g_assign (s := .osl _) rfl; exact rfl
    refine sq_nil ?_
    refine sq_then ?_
    refine cq_region ?_
    apply sq_g; exact g_arith rfl rfl rfl (by omega); exact rfl
    apply sq_g; exact g_move (s := .av (.val (.int _ _))) rfl; exact rfl
    refine sq_nil ?_
    exact sq_round (k + 1) (by omega) (by omega) (ent ⟨.refl _, .refl _, .refl _, .int (by omega), trivial⟩ ⟨⟨_, rfl, .row (by rw [ht]; simp) (fun i hi j hj => by rw [ht]; exact tf_app _ _ i hi j hj)⟩, trivial⟩)
  · have hkl : k = l.length := by omega
    subst hkl
    rw [List.take_length]
    refine cq_exit ?_
    refine sq_then ?_
    refine cq_seq ?_
    refine cq_region ?_
    apply sq_g; exact g_move (s := .osl _) rfl; exact rfl
    apply sq_g; exact g_assign (s := .osl _) rfl; exact rfl
    refine sq_nil ?_
    refine sq_then ?_
    refine cq_ret ?_
    exact sq_retR rfl rfl rfl rfl (fun _ _ _ _ => rfl)
end Go.Proofs.YtdoppiajbpmmkaaGreat
namespace Go.Proofs.YtdoppiajbpmmkaaGreat
open Go Go.Vc Go.RowKit
set_option maxHeartbeats 4000000
/-! KDQ -/
def exLo (l : List Tr) (d : Tr) : Nat → Nat
  | 0 => 0
  | k + 1 => if tdot d (gt l k) < tdot d (gt l (exLo l d k)) then k else exLo l d k
def exHi (l : List Tr) (d : Tr) : Nat → Nat
  | 0 => 0
  | k + 1 => if tdot d (gt l (exHi l d k)) < tdot d (gt l k) then k else exHi l d k
theorem exLo_lt (l : List Tr) (d : Tr) : ∀ k n, k ≤ n → 0 < n → exLo l d k < n
  | 0, n, _, h => h
  | k + 1, n, h, h0 => by
    have := exLo_lt l d k n (by omega) h0
    unfold exLo
    split <;> omega
theorem exHi_lt (l : List Tr) (d : Tr) : ∀ k n, k ≤ n → 0 < n → exHi l d k < n
  | 0, n, _, h => h
  | k + 1, n, h, h0 => by
    have := exHi_lt l d k n (by omega) h0
    unfold exHi
    split <;> omega
theorem extremes_c (l : List Tr) (d : Tr) (hl : RT l) (hd : BT 1000000000000 d) (hn : l.length ≤ 1000) : CtrA Tryz.prog 48 [ts l, tp d] (.val (.agg #[.int .i64 ((exLo l d l.length : Nat) : Int), .int .i64 ((exHi l d l.length : Nat) : Int)])) := by
  refine ctrA _ Tryz.func48 rfl rfl Tryz.ntmps48 rfl fun w Z => ?_
  simp only [initT, List.map_cons, List.map_nil, Nat.zero_add, Nat.reduceAdd]
  refine cq_seq ?_
  refine cq_region ?_
  apply sq_g; exact g_box_agg rfl; exact rfl
  refine sq_v (f_alloc 10 rfl) rfl ?_
  refine sq_nil ?_
  refine sq_then ?_
  refine cq_seq ?_
  refine cq_region ?_
  refine sq_v (f_alloc 11 rfl) rfl ?_
  refine sq_nil ?_
  refine sq_then ?_
  refine cq_seq ?_
  refine cq_seq ?_
  refine cq_region ?_
  apply sq_g; exact g_move (s := .av _) rfl; exact rfl
  apply sq_g; exact g_len rfl; exact rfl
  apply sq_g; exact g_move (s := .av (.val (.int _ _))) rfl; exact rfl
  refine sq_nil ?_
  refine sq_then ?_
  refine cq_block ?_
  refine cq_loop (γ := Nat) (fun k => [(0, .av (ts l)), (3, .av (bt d)), (4, .own 10 0), (5, .own 11 0), (8, .av (ts l)), (9, .av (vi l.length)), (10, .av (vi k))]) (fun k => [(10, .cells [.av (vi 0), .av (vi 0)]), (11, .cells [.av (vi (exLo l d k)), .av (vi (exHi l d k))])]) (fun k => k ≤ l.length) (fun k => l.length - k) 0 (Nat.zero_le _) (ent ⟨.refl _, .refl _, .refl _, .refl _, .refl _, .refl _, .refl _, trivial⟩ ⟨⟨_, rfl, .refl _⟩, ⟨_, rfl, .refl _⟩, trivial⟩) ?_
  intro k hk
  refine cq_seq ?_
  refine cq_region ?_
  apply sq_g; exact g_cmp rfl rfl rfl; exact rfl
  refine sq_nil ?_
  refine sq_then ?_
  refine cq_seq ?_
  (refine cq_cond rfl (fun hb => ?_) (fun hb => ?_) <;> (try simp only [decide_eq_true_eq, decide_eq_false_iff_not, beq_iff_eq, beq_eq_false_iff_ne, bne_iff_ne, bne_eq_false_iff_eq, ne_eq, Bool.not_eq_true', Bool.not_eq_false', Bool.and_eq_true, Bool.or_eq_true, Bool.and_eq_false_iff, Bool.or_eq_false_iff] at hb) <;> (try (exfalso; omega)))
  · have hkl : k < l.length := by omega
    have h1 := exLo_lt l d k l.length hk (by omega)
    have h2 := exHi_lt l d k l.length hk (by omega)
    have e1 : exLo l d (k + 1) = if tdot d (gt l k) < tdot d (gt l (exLo l d k)) then k else exLo l d k := rfl
    have e2 : exHi l d (k + 1) = if tdot d (gt l (exHi l d k)) < tdot d (gt l k) then k else exHi l d k := rfl
    generalize exLo l d k = lo at h1 e1 ⊢
    generalize exHi l d k = hi at h2 e2 ⊢
    refine cq_skip ?_
    refine sq_then ?_
    refine cq_seq ?_
    refine cq_block ?_
    refine cq_seq ?_
    refine cq_region ?_
    apply sq_g; exact g_move (s := .av (.val (.int _ _))) rfl; exact rfl
    apply sq_g; exact g_index rfl rfl rfl (by omega); exact rfl
    apply sq_g; exact g_load_agg (us := [.int _ _, .int _ _, .int _ _]) rfl rfl rfl rfl; exact rfl
    refine sq_v (f_alloc 12 rfl) rfl ?_
    apply sq_g; exact g_assign (s := .av (.val (.int _ _))) rfl; exact rfl
    refine sq_s (g_store_agg rfl rfl rfl rfl rfl rfl) ?_
    refine sq_nil ?_
    refine sq_then ?_
    refine cq_seq ?_
    refine cq_seq ?_
    refine cq_drawn ?_
    apply dq_g; exact g_load_agg (us := [.int _ _, .int _ _, .int _ _]) rfl rfl rfl rfl; exact rfl
    apply dq_g; exact g_load_own_agg (us := [.int _ _, .int _ _, .int _ _]) rfl rfl rfl rfl; exact rfl
    apply dq_g; exact g_call (dot_c _ _ hd (hl _) (by decide)) rfl; exact rfl
    apply dq_g; exact g_load_agg (us := [.int _ _, .int _ _, .int _ _]) rfl rfl rfl rfl; exact rfl
    apply dq_g; exact g_move (s := .av _) rfl; exact rfl
    apply dq_g; exact g_index_own rfl rfl rfl (by decide); exact rfl
    apply dq_g; exact g_load_own (s := .av (.val (.int _ _))) rfl rfl rfl; exact rfl
    apply dq_g; exact g_index rfl rfl rfl (by omega); exact rfl
    apply dq_g; exact g_load_agg (us := [.int _ _, .int _ _, .int _ _]) rfl rfl rfl rfl; exact rfl
    apply dq_g; exact g_call (dot_c _ _ hd (hl _) (by decide)) rfl; exact rfl
    apply dq_g; exact g_cmp rfl rfl rfl; exact rfl
    refine dq_nil tm (by kernel_rfl) ?_
    refine sq_then ?_
    (refine cq_cond rfl (fun hb => ?_) (fun hb => ?_) <;> (try simp only [decide_eq_true_eq, decide_eq_false_iff_not, beq_iff_eq, beq_eq_false_iff_ne, bne_iff_ne, bne_eq_false_iff_eq, ne_eq, Bool.not_eq_true', Bool.not_eq_false', Bool.and_eq_true, Bool.or_eq_true, Bool.and_eq_false_iff, Bool.or_eq_false_iff] at hb) <;> (try (exfalso; omega)))
    · rw [if_pos hb] at e1
      refine cq_region ?_
      apply sq_g; exact g_move (s := .av (.val (.int _ _))) rfl; exact rfl
      apply sq_g; exact g_index_own rfl rfl rfl (by decide); exact rfl
      refine sq_s (g_store' rfl rfl rfl rfl rfl rfl) ?_
      refine sq_nil ?_
      refine sq_then ?_
      refine cq_seq ?_
      refine cq_drawn ?_
      apply dq_g; exact g_load_agg (us := [.int _ _, .int _ _, .int _ _]) rfl rfl rfl rfl; exact rfl
      apply dq_g; exact g_load_own_agg (us := [.int _ _, .int _ _, .int _ _]) rfl rfl rfl rfl; exact rfl
      apply dq_g; exact g_call (dot_c _ _ hd (hl _) (by decide)) rfl; exact rfl
      apply dq_g; exact g_load_agg (us := [.int _ _, .int _ _, .int _ _]) rfl rfl rfl rfl; exact rfl
      apply dq_g; exact g_move (s := .av _) rfl; exact rfl
      apply dq_g; exact g_index_own rfl rfl rfl (by decide); exact rfl
      apply dq_g; exact g_load_own (s := .av (.val (.int _ _))) rfl rfl rfl; exact rfl
      apply dq_g; exact g_index rfl rfl rfl (by omega); exact rfl
      apply dq_g; exact g_load_agg (us := [.int _ _, .int _ _, .int _ _]) rfl rfl rfl rfl; exact rfl
      apply dq_g; exact g_call (dot_c _ _ hd (hl _) (by decide)) rfl; exact rfl
      apply dq_g; exact g_cmp rfl rfl rfl; exact rfl
      refine dq_nil tm (by kernel_rfl) ?_
      refine sq_then ?_
      (refine cq_cond rfl (fun hb => ?_) (fun hb => ?_) <;> (try simp only [decide_eq_true_eq, decide_eq_false_iff_not, beq_iff_eq, beq_eq_false_iff_ne, bne_iff_ne, bne_eq_false_iff_eq, ne_eq, Bool.not_eq_true', Bool.not_eq_false', Bool.and_eq_true, Bool.or_eq_true, Bool.and_eq_false_iff, Bool.or_eq_false_iff] at hb) <;> (try (exfalso; omega)))
      · rw [if_pos hb] at e2
        refine cq_region ?_
        apply sq_g; exact g_move (s := .av (.val (.int _ _))) rfl; exact rfl
        apply sq_g; exact g_index_own rfl rfl rfl (by decide); exact rfl
        refine sq_s (g_store' rfl rfl rfl rfl rfl rfl) ?_
        refine sq_nil ?_
        refine sq_then ?_
        refine cq_region ?_
        apply sq_g; exact g_arith rfl rfl rfl (by omega); exact rfl
        apply sq_g; exact g_move (s := .av (.val (.int _ _))) rfl; exact rfl
        refine sq_nil ?_
        exact sq_round (k + 1) (by omega) (by omega) (ent ⟨.refl _, .refl _, .refl _, .refl _, .refl _, .refl _, .int (by omega), trivial⟩ ⟨⟨_, rfl, .refl _⟩, ⟨_, rfl, by rw [e1, e2]; exact .refl _⟩, trivial⟩)
      · rw [if_neg hb] at e2
        refine cq_skip ?_
        refine sq_then ?_
        refine cq_region ?_
        apply sq_g; exact g_arith rfl rfl rfl (by omega); exact rfl
        apply sq_g; exact g_move (s := .av (.val (.int _ _))) rfl; exact rfl
        refine sq_nil ?_
        exact sq_round (k + 1) (by omega) (by omega) (ent ⟨.refl _, .refl _, .refl _, .refl _, .refl _, .refl _, .int (by omega), trivial⟩ ⟨⟨_, rfl, .refl _⟩, ⟨_, rfl, by rw [e1, e2]; exact .refl _⟩, trivial⟩)
    · rw [if_neg hb] at e1
      refine cq_skip ?_
      refine sq_then ?_
      refine cq_seq ?_
      refine cq_drawn ?_
      apply dq_g; exact g_load_agg (us := [.int _ _, .int _ _, .int _ _]) rfl rfl rfl rfl; exact rfl
      apply dq_g; exact g_load_own_agg (us := [.int _ _, .int _ _, .int _ _]) rfl rfl rfl rfl; exact rfl
      apply dq_g; exact g_call (dot_c _ _ hd (hl _) (by decide)) rfl; exact rfl
      apply dq_g; exact g_load_agg (us := [.int _ _, .int _ _, .int _ _]) rfl rfl rfl rfl; exact rfl
      apply dq_g; exact g_move (s := .av _) rfl; exact rfl
      apply dq_g; exact g_index_own rfl rfl rfl (by decide); exact rfl
      apply dq_g; exact g_load_own (s := .av (.val (.int _ _))) rfl rfl rfl; exact rfl
      apply dq_g; exact g_index rfl rfl rfl (by omega); exact rfl
      apply dq_g; exact g_load_agg (us := [.int _ _, .int _ _, .int _ _]) rfl rfl rfl rfl; exact rfl
      apply dq_g; exact g_call (dot_c _ _ hd (hl _) (by decide)) rfl; exact rfl
      apply dq_g; exact g_cmp rfl rfl rfl; exact rfl
      refine dq_nil tm (by kernel_rfl) ?_
      refine sq_then ?_
      (refine cq_cond rfl (fun hb => ?_) (fun hb => ?_) <;> (try simp only [decide_eq_true_eq, decide_eq_false_iff_not, beq_iff_eq, beq_eq_false_iff_ne, bne_iff_ne, bne_eq_false_iff_eq, ne_eq, Bool.not_eq_true', Bool.not_eq_false', Bool.and_eq_true, Bool.or_eq_true, Bool.and_eq_false_iff, Bool.or_eq_false_iff] at hb) <;> (try (exfalso; omega)))
      · rw [if_pos hb] at e2
        refine cq_region ?_
        apply sq_g; exact g_move (s := .av (.val (.int _ _))) rfl; exact rfl
        apply sq_g; exact g_index_own rfl rfl rfl (by decide); exact rfl
        refine sq_s (g_store' rfl rfl rfl rfl rfl rfl) ?_
        refine sq_nil ?_
        refine sq_then ?_
        refine cq_region ?_
        apply sq_g; exact g_arith rfl rfl rfl (by omega); exact rfl
        apply sq_g; exact g_move (s := .av (.val (.int _ _))) rfl; exact rfl
        refine sq_nil ?_
        exact sq_round (k + 1) (by omega) (by omega) (ent ⟨.refl _, .refl _, .refl _, .refl _, .refl _, .refl _, .int (by omega), trivial⟩ ⟨⟨_, rfl, .refl _⟩, ⟨_, rfl, by rw [e1, e2]; exact .refl _⟩, trivial⟩)
      · rw [if_neg hb] at e2
        refine cq_skip ?_
        refine sq_then ?_
        refine cq_region ?_
        apply sq_g; exact g_arith rfl rfl rfl (by omega); exact rfl
        apply sq_g; exact g_move (s := .av (.val (.int _ _))) rfl; exact rfl
        refine sq_nil ?_
        exact sq_round (k + 1) (by omega) (by omega) (ent ⟨.refl _, .refl _, .refl _, .refl _, .refl _, .refl _, .int (by omega), trivial⟩ ⟨⟨_, rfl, .refl _⟩, ⟨_, rfl, by rw [e1, e2]; exact .refl _⟩, trivial⟩)
  · have hkl : k = l.length := by omega
    subst hkl
    refine cq_exit ?_
    refine sq_then ?_
    refine cq_seq ?_
    refine cq_region ?_
    apply sq_g; exact g_load_own_agg (us := [.int _ _, .int _ _]) rfl rfl rfl rfl; exact rfl
    refine sq_s (g_store_agg rfl rfl rfl rfl rfl rfl) ?_
    refine sq_nil ?_
    refine sq_then ?_
    refine cq_ret ?_
    exact sq_res1 rfl (.agg (us := [_, _]) rfl rfl rfl rfl) rfl
abbrev c7 (s : Spn) : Res := .cells [.av (vi s.dim), .av (vi s.pt.x), .av (vi s.pt.y), .av (vi s.pt.z), .av (vi s.way.x), .av (vi s.way.y), .av (vi s.way.z)]
abbrev spv (s : Spn) : AV := .val (.agg #[.int .i64 s.dim, .int .i64 s.pt.x, .int .i64 s.pt.y, .int .i64 s.pt.z, .int .i64 s.way.x, .int .i64 s.way.y, .int .i64 s.way.z])
theorem tb99_0 : Tryz.prog.built 99 [(0, .int .i64 (-1))] = some #[.int .i64 (-1), .int .i64 0, .int .i64 0, .int .i64 0, .int .i64 0, .int .i64 0, .int .i64 0] := by kernel_rfl
theorem tb80_0 : Tryz.prog.built 80 [] = some #[.int .i64 0, .int .i64 0, .int .i64 0] := by kernel_rfl
theorem tz_eq (a : Tr) : ([a.x, a.y, a.z] == [0, 0, 0]) = decide (a = tz) := by
  cases a; rw [Bool.eq_iff_iff]; simp [tz]
theorem spanned_c (l : List Tr) (hl : RT l) (hn : l.length ≤ 1000) : CtrA Tryz.prog 62 [ts l] (spv (spn l)) := by
  refine ctrA _ Tryz.func62 rfl rfl Tryz.ntmps62 rfl fun w Z => ?_
  have h00 : spTo l 0 = ⟨-1, tz, tz⟩ := rfl
  simp only [initT, List.map_cons, List.map_nil, Nat.zero_add, Nat.reduceAdd]
  refine cq_seq ?_
  refine cq_region ?_
  refine sq_v (f_alloc 10 rfl) rfl ?_
  refine sq_nil ?_
  refine sq_then ?_
  refine cq_seq ?_
  refine cq_region ?_
  apply sq_g; exact  g_build (is := [0]) (xs := [_]) (vs := [_]) tb99_0 rfl rfl; exact rfl
  refine sq_v (f_alloc 11 rfl) rfl ?_
  refine sq_s (g_store_agg rfl rfl rfl rfl rfl rfl) ?_
  refine sq_nil ?_
  refine sq_then ?_
  refine cq_seq ?_
  refine cq_seq ?_
  refine cq_region ?_
  apply sq_g; exact g_move (s := .av _) rfl; exact rfl
  apply sq_g; exact g_len rfl; exact rfl
  apply sq_g; exact g_move (s := .av (.val (.int _ _))) rfl; exact rfl
  refine sq_nil ?_
  refine sq_then ?_
  refine cq_block ?_
  refine cq_loop (γ := Nat) (fun k => [(2, .own 10 0), (3, .own 11 0), (9, .av (ts l)), (10, .av (vi l.length)), (11, .av (vi k))]) (fun k => [(10, c7 ⟨0, tz, tz⟩), (11, c7 (spTo l k))]) (fun k => k ≤ l.length) (fun k => l.length - k) 0 (Nat.zero_le _) (ent ⟨.refl _, .refl _, .refl _, .refl _, .refl _, trivial⟩ ⟨⟨_, rfl, .refl _⟩, ⟨_, rfl, .refl _⟩, trivial⟩) ?_
  intro k hk
  refine cq_seq ?_
  refine cq_region ?_
  apply sq_g; exact g_cmp rfl rfl rfl; exact rfl
  refine sq_nil ?_
  refine sq_then ?_
  refine cq_seq ?_
  (refine cq_cond rfl (fun hb => ?_) (fun hb => ?_) <;> (try simp only [decide_eq_true_eq, decide_eq_false_iff_not, beq_iff_eq, beq_eq_false_iff_ne, bne_iff_ne, bne_eq_false_iff_eq, ne_eq, Bool.not_eq_true', Bool.not_eq_false', Bool.and_eq_true, Bool.or_eq_true, Bool.and_eq_false_iff, Bool.or_eq_false_iff] at hb) <;> (try (exfalso; omega)))
  · have hkl : k < l.length := by omega
    have hs := spTo_succ hkl
    have hok := SpOk.to hl k
    have hp := hl k
    generalize spTo l k = s at hs hok ⊢
    have hsub : BT 200000 (tsub (gt l k) s.pt) := hp.sub hok.pt
    have hq := hok.pt
    have hp' := hp.le (B := 1000000000000) (by decide)
    have hq' := hq.le (B := 1000000000000) (by decide)
    unfold spStep at hs
    refine cq_skip ?_
    refine sq_then ?_
    refine cq_seq ?_
    refine cq_block ?_
    refine cq_seq ?_
    refine cq_region ?_
    apply sq_g; exact g_index rfl rfl rfl (by omega); exact rfl
    apply sq_g; exact g_load_agg (us := [.int _ _, .int _ _, .int _ _]) rfl rfl rfl rfl; exact rfl
    refine sq_v (f_alloc 12 rfl) rfl ?_
    refine sq_s (g_store_agg rfl rfl rfl rfl rfl rfl) ?_
    refine sq_nil ?_
    refine sq_then ?_
    refine cq_seq ?_
    refine cq_region ?_
    apply sq_g; exact g_field_own rfl; exact rfl
    apply sq_g; exact g_load_own (s := .av (.val (.int _ _))) rfl rfl rfl; exact rfl
    refine sq_nil ?_
    refine sq_then ?_
    refine cq_block ?_
    refine cq_seq ?_
    refine cq_region ?_
    apply sq_g; exact g_cmp rfl rfl rfl; exact rfl
    apply sq_g; exact g_assign (s := .av (.val (.bool _))) rfl; exact rfl
    refine sq_nil ?_
    refine sq_then ?_
    (refine cq_cond rfl (fun hb => ?_) (fun hb => ?_) <;> (try simp only [decide_eq_true_eq, decide_eq_false_iff_not, beq_iff_eq, beq_eq_false_iff_ne, bne_iff_ne, bne_eq_false_iff_eq, ne_eq, Bool.not_eq_true', Bool.not_eq_false', Bool.and_eq_true, Bool.or_eq_true, Bool.and_eq_false_iff, Bool.or_eq_false_iff] at hb) <;> (try (exfalso; omega)))
    · rw [if_pos hb] at hs
      refine cq_drawn ?_
      apply dq_g; exact g_load_own_agg (us := [.int _ _, .int _ _, .int _ _]) rfl rfl rfl rfl; exact rfl
      apply dq_g; exact g_field_own rfl; exact rfl
      refine dq_s (g_store' rfl rfl rfl rfl rfl rfl) ?_
      apply dq_g; exact g_field_own rfl; exact rfl
      refine dq_s (g_store_agg rfl rfl rfl rfl rfl rfl) ?_
      refine dq_nil tm (by kernel_rfl) ?_
      refine sq_then ?_
      refine cq_region ?_
      apply sq_g; exact g_arith rfl rfl rfl (by omega); exact rfl
      apply sq_g; exact g_move (s := .av (.val (.int _ _))) rfl; exact rfl
      refine sq_nil ?_
      exact sq_round (k + 1) (by omega) (by omega) (ent ⟨.refl _, .refl _, .refl _, .refl _, .int (by omega), trivial⟩ ⟨⟨_, rfl, .refl _⟩, ⟨_, rfl, by rw [hs]; exact .refl _⟩, trivial⟩)
    rw [if_neg hb] at hs
    have hm1 := hb
    refine cq_seq ?_
    refine cq_region ?_
    apply sq_g; exact g_cmp rfl rfl rfl; exact rfl
    apply sq_g; exact g_assign (s := .av (.val (.bool _))) rfl; exact rfl
    refine sq_nil ?_
    refine sq_then ?_
    (refine cq_cond rfl (fun hb => ?_) (fun hb => ?_) <;> (try simp only [decide_eq_true_eq, decide_eq_false_iff_not, beq_iff_eq, beq_eq_false_iff_ne, bne_iff_ne, bne_eq_false_iff_eq, ne_eq, Bool.not_eq_true', Bool.not_eq_false', Bool.and_eq_true, Bool.or_eq_true, Bool.and_eq_false_iff, Bool.or_eq_false_iff] at hb) <;> (try (exfalso; omega)))
    · rw [if_pos hb] at hs
      refine cq_seq ?_
      refine cq_region ?_
      apply sq_g; exact g_load_own_agg (us := [.int _ _, .int _ _, .int _ _]) rfl rfl rfl rfl; exact rfl
      apply sq_g; exact g_field_own rfl; exact rfl
      apply sq_g; exact g_load_own_agg (us := [.int _ _, .int _ _, .int _ _]) rfl rfl rfl rfl; exact rfl
      apply sq_g; exact g_call (minus_c (gt l k) s.pt hp' hq') rfl; exact rfl
      refine sq_v (f_alloc 13 rfl) rfl ?_
      refine sq_s (g_store_agg rfl rfl rfl rfl rfl rfl) ?_
      refine sq_nil ?_
      refine sq_then ?_
      refine cq_seq ?_
      refine cq_region ?_
      apply sq_g; exact g_load_own_agg (us := [.int _ _, .int _ _, .int _ _]) rfl rfl rfl rfl; exact rfl
      apply sq_g; exact  g_build (is := []) (xs := []) (vs := []) tb80_0 rfl rfl; exact rfl
      apply sq_g; exact g_neq (xs := [_, _, _]) (ys := [_, _, _]) rfl rfl rfl rfl; exact rfl
      refine sq_nil ?_
      refine sq_then ?_
      refine cq_cond rfl (fun hc => ?_) (fun hc => ?_)
      · rw [if_neg (by intro e; rw [e] at hc; simp [tz] at hc)] at hs
        refine cq_drawn ?_
        apply dq_g; exact g_load_own_agg (us := [.int _ _, .int _ _, .int _ _]) rfl rfl rfl rfl; exact rfl
        apply dq_g; exact g_field_own rfl; exact rfl
        refine dq_s (g_store' rfl rfl rfl rfl rfl rfl) ?_
        apply dq_g; exact g_field_own rfl; exact rfl
        refine dq_s (g_store_agg rfl rfl rfl rfl rfl rfl) ?_
        refine dq_nil tm (by kernel_rfl) ?_
        refine sq_then ?_
        refine cq_region ?_
        apply sq_g; exact g_arith rfl rfl rfl (by omega); exact rfl
        apply sq_g; exact g_move (s := .av (.val (.int _ _))) rfl; exact rfl
        refine sq_nil ?_
        exact sq_round (k + 1) (by omega) (by omega) (ent ⟨.refl _, .refl _, .refl _, .refl _, .int (by omega), trivial⟩ ⟨⟨_, rfl, .refl _⟩, ⟨_, rfl, by rw [hs]; exact .refl _⟩, trivial⟩)
      · rw [if_pos (by rw [tz_eq] at hc; simpa using hc)] at hs
        refine cq_skip ?_
        refine sq_then ?_
        refine cq_region ?_
        apply sq_g; exact g_arith rfl rfl rfl (by omega); exact rfl
        apply sq_g; exact g_move (s := .av (.val (.int _ _))) rfl; exact rfl
        refine sq_nil ?_
        exact sq_round (k + 1) (by omega) (by omega) (ent ⟨.refl _, .refl _, .refl _, .refl _, .int (by omega), trivial⟩ ⟨⟨_, rfl, .refl _⟩, ⟨_, rfl, by rw [hs]; exact .refl _⟩, trivial⟩)
    rw [if_neg hb] at hs
    have h00' := hb
    refine cq_seq ?_
    refine cq_region ?_
    apply sq_g; exact g_cmp rfl rfl rfl; exact rfl
    apply sq_g; exact g_assign (s := .av (.val (.bool _))) rfl; exact rfl
    refine sq_nil ?_
    refine sq_then ?_
    (refine cq_cond rfl (fun hb => ?_) (fun hb => ?_) <;> (try simp only [decide_eq_true_eq, decide_eq_false_iff_not, beq_iff_eq, beq_eq_false_iff_ne, bne_iff_ne, bne_eq_false_iff_eq, ne_eq, Bool.not_eq_true', Bool.not_eq_false', Bool.and_eq_true, Bool.or_eq_true, Bool.and_eq_false_iff, Bool.or_eq_false_iff] at hb) <;> (try (exfalso; omega)))
    · rw [if_pos hb] at hs
      have hw : BT 200000 s.way := by
        rcases hok.dim with e | e | e | e | e
        · omega
        · omega
        · exact e.2
        · omega
        · omega
      refine cq_seq ?_
      refine cq_drawn ?_
      apply dq_g; exact g_field_own rfl; exact rfl
      apply dq_g; exact g_load_own_agg (us := [.int _ _, .int _ _, .int _ _]) rfl rfl rfl rfl; exact rfl
      apply dq_g; exact g_load_own_agg (us := [.int _ _, .int _ _, .int _ _]) rfl rfl rfl rfl; exact rfl
      apply dq_g; exact g_field_own rfl; exact rfl
      apply dq_g; exact g_load_own_agg (us := [.int _ _, .int _ _, .int _ _]) rfl rfl rfl rfl; exact rfl
      apply dq_g; exact g_call (minus_c (gt l k) s.pt hp' hq') rfl; exact rfl
      apply dq_g; exact g_call (cross_c s.way (tsub (gt l k) s.pt) hw hsub (by decide)) rfl; exact rfl
      refine dq_v (ga_alloc 13) rfl rfl ?_
      refine dq_s (g_store_agg rfl rfl rfl rfl rfl rfl) ?_
      refine dq_nil tm (by kernel_rfl) ?_
      refine sq_then ?_
      refine cq_seq ?_
      refine cq_region ?_
      apply sq_g; exact g_load_own_agg (us := [.int _ _, .int _ _, .int _ _]) rfl rfl rfl rfl; exact rfl
      apply sq_g; exact  g_build (is := []) (xs := []) (vs := []) tb80_0 rfl rfl; exact rfl
      apply sq_g; exact g_neq (xs := [_, _, _]) (ys := [_, _, _]) rfl rfl rfl rfl; exact rfl
      refine sq_nil ?_
      refine sq_then ?_
      refine cq_cond rfl (fun hc => ?_) (fun hc => ?_)
      · rw [if_neg (by intro e; rw [e] at hc; simp [tz] at hc)] at hs
        refine cq_drawn ?_
        apply dq_g; exact g_load_own_agg (us := [.int _ _, .int _ _, .int _ _]) rfl rfl rfl rfl; exact rfl
        apply dq_g; exact g_field_own rfl; exact rfl
        refine dq_s (g_store' rfl rfl rfl rfl rfl rfl) ?_
        apply dq_g; exact g_field_own rfl; exact rfl
        refine dq_s (g_store_agg rfl rfl rfl rfl rfl rfl) ?_
        refine dq_nil tm (by kernel_rfl) ?_
        refine sq_then ?_
        refine cq_region ?_
        apply sq_g; exact g_arith rfl rfl rfl (by omega); exact rfl
        apply sq_g; exact g_move (s := .av (.val (.int _ _))) rfl; exact rfl
        refine sq_nil ?_
        exact sq_round (k + 1) (by omega) (by omega) (ent ⟨.refl _, .refl _, .refl _, .refl _, .int (by omega), trivial⟩ ⟨⟨_, rfl, .refl _⟩, ⟨_, rfl, by rw [hs]; exact .refl _⟩, trivial⟩)
      · rw [if_pos (by rw [tz_eq] at hc; simpa using hc)] at hs
        refine cq_skip ?_
        refine sq_then ?_
        refine cq_region ?_
        apply sq_g; exact g_arith rfl rfl rfl (by omega); exact rfl
        apply sq_g; exact g_move (s := .av (.val (.int _ _))) rfl; exact rfl
        refine sq_nil ?_
        exact sq_round (k + 1) (by omega) (by omega) (ent ⟨.refl _, .refl _, .refl _, .refl _, .int (by omega), trivial⟩ ⟨⟨_, rfl, .refl _⟩, ⟨_, rfl, by rw [hs]; exact .refl _⟩, trivial⟩)
    rw [if_neg hb] at hs
    have h11 := hb
    refine cq_seq ?_
    refine cq_region ?_
    apply sq_g; exact g_cmp rfl rfl rfl; exact rfl
    apply sq_g; exact g_assign (s := .av (.val (.bool _))) rfl; exact rfl
    refine sq_nil ?_
    refine sq_then ?_
    (refine cq_cond rfl (fun hb => ?_) (fun hb => ?_) <;> (try simp only [decide_eq_true_eq, decide_eq_false_iff_not, beq_iff_eq, beq_eq_false_iff_ne, bne_iff_ne, bne_eq_false_iff_eq, ne_eq, Bool.not_eq_true', Bool.not_eq_false', Bool.and_eq_true, Bool.or_eq_true, Bool.and_eq_false_iff, Bool.or_eq_false_iff] at hb) <;> (try (exfalso; omega)))
    · rw [if_pos hb] at hs
      have hd2 := hb
      have hw : BT 80000000000 s.way := by
        rcases hok.dim with e | e | e | e | e
        · omega
        · omega
        · omega
        · exact e.2
        · omega
      refine cq_seq ?_
      refine cq_region ?_
      apply sq_g; exact g_field_own rfl; exact rfl
      apply sq_g; exact g_load_own_agg (us := [.int _ _, .int _ _, .int _ _]) rfl rfl rfl rfl; exact rfl
      apply sq_g; exact g_call (prim_c s.way (hw.le (by decide))) rfl; exact rfl
      apply sq_g; exact g_field_own rfl; exact rfl
      refine sq_s (g_store_agg rfl rfl rfl rfl rfl rfl) ?_
      refine sq_nil ?_
      refine sq_then ?_
      refine cq_seq ?_
      refine cq_drawn ?_
      apply dq_g; exact g_field_own rfl; exact rfl
      apply dq_g; exact g_load_own_agg (us := [.int _ _, .int _ _, .int _ _]) rfl rfl rfl rfl; exact rfl
      apply dq_g; exact g_load_own_agg (us := [.int _ _, .int _ _, .int _ _]) rfl rfl rfl rfl; exact rfl
      apply dq_g; exact g_field_own rfl; exact rfl
      apply dq_g; exact g_load_own_agg (us := [.int _ _, .int _ _, .int _ _]) rfl rfl rfl rfl; exact rfl
      apply dq_g; exact g_call (minus_c (gt l k) s.pt hp' hq') rfl; exact rfl
      apply dq_g; exact g_call (dot_c (tpr s.way) (tsub (gt l k) s.pt) hw.pr hsub (by decide)) rfl; exact rfl
      apply dq_g; exact g_cmp rfl rfl rfl; exact rfl
      refine dq_nil tm (by kernel_rfl) ?_
      refine sq_then ?_
      (refine cq_cond rfl (fun hb => ?_) (fun hb => ?_) <;> (try simp only [decide_eq_true_eq, decide_eq_false_iff_not, beq_iff_eq, beq_eq_false_iff_ne, bne_iff_ne, bne_eq_false_iff_eq, ne_eq, Bool.not_eq_true', Bool.not_eq_false', Bool.and_eq_true, Bool.or_eq_true, Bool.and_eq_false_iff, Bool.or_eq_false_iff] at hb) <;> (try (exfalso; omega)))
      · rw [if_neg hb] at hs
        refine cq_region ?_
        apply sq_g; exact g_field_own rfl; exact rfl
        refine sq_s (g_store' rfl rfl rfl rfl rfl rfl) ?_
        refine sq_nil ?_
        refine sq_then ?_
        refine cq_region ?_
        apply sq_g; exact g_arith rfl rfl rfl (by omega); exact rfl
        apply sq_g; exact g_move (s := .av (.val (.int _ _))) rfl; exact rfl
        refine sq_nil ?_
        exact sq_round (k + 1) (by omega) (by omega) (ent ⟨.refl _, .refl _, .refl _, .refl _, .int (by omega), trivial⟩ ⟨⟨_, rfl, .refl _⟩, ⟨_, rfl, by rw [hs]; exact .refl _⟩, trivial⟩)
      · rw [if_pos hb] at hs
        refine cq_skip ?_
        refine sq_then ?_
        refine cq_region ?_
        apply sq_g; exact g_arith rfl rfl rfl (by omega); exact rfl
        apply sq_g; exact g_move (s := .av (.val (.int _ _))) rfl; exact rfl
        refine sq_nil ?_
        exact sq_round (k + 1) (by omega) (by omega) (ent ⟨.refl _, .refl _, .refl _, .refl _, .int (by omega), trivial⟩ ⟨⟨_, rfl, .refl _⟩, ⟨_, rfl, by rw [hs, hd2]; exact .refl _⟩, trivial⟩)
    · rw [if_neg hb] at hs
      refine cq_skip ?_
      refine sq_then ?_
      refine cq_region ?_
      apply sq_g; exact g_arith rfl rfl rfl (by omega); exact rfl
      apply sq_g; exact g_move (s := .av (.val (.int _ _))) rfl; exact rfl
      refine sq_nil ?_
      exact sq_round (k + 1) (by omega) (by omega) (ent ⟨.refl _, .refl _, .refl _, .refl _, .int (by omega), trivial⟩ ⟨⟨_, rfl, .refl _⟩, ⟨_, rfl, by rw [hs]; exact .refl _⟩, trivial⟩)
  · have hkl : k = l.length := by omega
    subst hkl
    refine cq_exit ?_
    refine sq_then ?_
    refine cq_seq ?_
    refine cq_region ?_
    apply sq_g; exact  g_load_own_agg (us := [.int _ _, .int _ _, .int _ _, .int _ _, .int _ _, .int _ _, .int _ _]) rfl rfl rfl rfl; exact rfl
    refine sq_s (g_store_agg rfl rfl rfl rfl rfl rfl) ?_
    refine sq_nil ?_
    refine sq_then ?_
    refine cq_ret ?_
    exact sq_res1 rfl (.agg (us := [_, _, _, _, _, _, _]) rfl rfl rfl rfl) rfl
end Go.Proofs.YtdoppiajbpmmkaaGreat
namespace Go.Proofs.YtdoppiajbpmmkaaGreat
open Go Go.Vc Go.RowKit
set_option maxHeartbeats 4000000
/-! KDQ -/
theorem times_c (a : Tr) (k : Int) (h : BT 1000000000000 a) (hk : k = -1) : CtrA Tryz.prog 144 [tp a, vi k] (tp (tmul a k)) := by
  refine ctrA _ Tryz.func144 rfl rfl Tryz.ntmps144 rfl fun w Z => ?_
  obtain ⟨⟨_, _⟩, ⟨_, _⟩, ⟨_, _⟩⟩ := h
  subst hk
  simp only [initT, List.map_cons, List.map_nil, Nat.zero_add, Nat.reduceAdd]
  refine cq_seq ?_
  refine cq_region ?_
  apply sq_g; exact g_box_agg rfl; exact rfl
  refine sq_v (f_alloc 10 rfl) rfl ?_
  refine sq_nil ?_
  refine sq_then ?_
  refine cq_seq ?_
  refine cq_region ?_
  apply sq_g; exact g_move (s := .av (.val (.int _ _))) rfl; exact rfl
  apply sq_g; exact g_index_arr rfl rfl rfl (by decide) rfl; exact rfl
  apply sq_g; exact g_load (τ := .val (.int _ _)) rfl rfl rfl; exact rfl
  apply sq_g; exact g_arith rfl rfl rfl (by omega); exact rfl
  apply sq_g; exact g_move (s := .av (.val (.int _ _))) rfl; exact rfl
  apply sq_g; exact g_index_arr rfl rfl rfl (by decide) rfl; exact rfl
  apply sq_g; exact g_load (τ := .val (.int _ _)) rfl rfl rfl; exact rfl
  apply sq_g; exact g_arith rfl rfl rfl (by omega); exact rfl
  apply sq_g; exact g_move (s := .av (.val (.int _ _))) rfl; exact rfl
  apply sq_g; exact g_index_arr rfl rfl rfl (by decide) rfl; exact rfl
  apply sq_g; exact g_load (τ := .val (.int _ _)) rfl rfl rfl; exact rfl
  apply sq_g; exact g_arith rfl rfl rfl (by omega); exact rfl
  apply sq_g; exact g_build (is := [0, 1, 2]) (xs := [_, _, _]) (vs := [_, _, _]) (tb80 _ _ _) rfl rfl; exact rfl
  refine sq_s (g_store_agg rfl rfl rfl rfl rfl rfl) ?_
  refine sq_nil ?_
  refine sq_then ?_
  refine cq_ret ?_
  exact sq_res1 rfl (.agg (us := [_, _, _]) rfl rfl rfl rfl) rfl
/-- A facet. -/
structure Fc where
  n : Tr
  m : Int
  s : List Nat
  deriving DecidableEq, Inhabited
def fcf (f : Fc) : Nat → AV
  | 0 => vi f.n.x
  | 1 => vi f.n.y
  | 2 => vi f.n.z
  | 3 => vi f.m
  | _+4 => .sl f.s.length 1 (xf f.s)
theorem fcf_one (f : Fc) : ∀ i, i < 5 → (fcf f i).one = true := fun i h => by
  rcases (by omega : i = 0 ∨ i = 1 ∨ i = 2 ∨ i = 3 ∨ i = 4) with rfl | rfl | rfl | rfl | rfl <;> rfl
abbrev fca (f : Fc) : AV := .agg 5 (fcf f)
def onTo (l : List Tr) (n : Tr) (m : Int) (k : Nat) : List Nat := (List.range k).filter fun i => decide (tdot n (gt l i) = m)
def anyLt (l : List Tr) (n : Tr) (m : Int) (k : Nat) : Bool := (List.range k).any fun i => decide (tdot n (gt l i) < m)
def anyGt (l : List Tr) (n : Tr) (m : Int) (k : Nat) : Bool := (List.range k).any fun i => decide (m < tdot n (gt l i))
def facN (l : List Tr) (n : Tr) (m : Int) : Fc := if anyGt l n m l.length = true then ⟨tmul n (-1), -m, onTo l n m l.length⟩ else ⟨n, m, onTo l n m l.length⟩
def facB (l : List Tr) (n : Tr) (m : Int) : Bool := !anyLt l n m l.length || !anyGt l n m l.length
theorem onTo_succ (l : List Tr) (n : Tr) (m : Int) (k : Nat) : onTo l n m (k + 1) = if tdot n (gt l k) = m then onTo l n m k ++ [k] else onTo l n m k := by
  unfold onTo
  rw [List.range_succ, List.filter_append]
  split
  · rename_i h; simp [h]
  · rename_i h; simp [h]
theorem onTo_len (l : List Tr) (n : Tr) (m : Int) (k : Nat) : (onTo l n m k).length ≤ k := by
  have := List.length_filter_le (fun i => decide (tdot n (gt l i) = m)) (List.range k)
  simpa [onTo] using this
theorem anyLt_succ (l : List Tr) (n : Tr) (m : Int) (k : Nat) : anyLt l n m (k + 1) = (anyLt l n m k || decide (tdot n (gt l k) < m)) := by unfold anyLt; rw [List.range_succ, List.any_append]; simp
theorem anyGt_succ (l : List Tr) (n : Tr) (m : Int) (k : Nat) : anyGt l n m (k + 1) = (anyGt l n m k || decide (m < tdot n (gt l k))) := by unfold anyGt; rw [List.range_succ, List.any_append]; simp
theorem tb46_2 (n : Tr) (m : Int) : Tryz.prog.built 46 [(0, .agg #[.int .i64 n.x, .int .i64 n.y, .int .i64 n.z]), (1, .int .i64 m)] = some #[.int .i64 n.x, .int .i64 n.y, .int .i64 n.z, .int .i64 m, .slice none 0 0] := by kernel_rfl
theorem facet_c (l : List Tr) (n : Tr) (m : Int) (hl : RT l) (hln : l.length ≤ 1000) (hn : BT 1000000000000 n) (hm : Bn 1000000000000000000 m) : CtrA Tryz.prog 122 [ts l, tp n, vi m] (tupOf [fca (facN l n m), vb (facB l n m)]) := by
  refine ctrA _ Tryz.func122 rfl rfl Tryz.ntmps122 rfl fun w Z => ?_
  obtain ⟨hm1, hm2⟩ := hm
  simp only [initT, List.map_cons, List.map_nil, Nat.zero_add, Nat.reduceAdd]
  refine cq_seq ?_
  refine cq_region ?_
  apply sq_g; exact g_box_agg rfl; exact rfl
  refine sq_v (f_alloc 10 rfl) rfl ?_
  apply sq_g; exact g_assign (s := .av (.val (.bool _))) rfl; exact rfl
  refine sq_nil ?_
  refine sq_then ?_
  refine cq_seq ?_
  refine cq_region ?_
  apply sq_g; exact g_load_agg (us := [.int _ _, .int _ _, .int _ _]) rfl rfl rfl rfl; exact rfl
  apply sq_g; exact g_move (s := .av (.val (.int _ _))) rfl; exact rfl
  apply sq_g; exact  g_build (is := [0, 1]) (xs := [_, _]) (vs := [_, _]) (tb46_2 n m) rfl rfl; exact rfl
  refine sq_v (f_alloc 11 rfl) rfl ?_
  refine sq_s (g_store_agg rfl rfl rfl rfl rfl rfl) ?_
  refine sq_nil ?_
  refine sq_then ?_
  refine cq_seq ?_
  refine cq_region ?_
  apply sq_g; exact g_assign (s := .av (.val (.bool _))) rfl; exact rfl
  apply sq_g; exact g_assign (s := .av (.val (.bool _))) rfl; exact rfl
  refine sq_nil ?_
  refine sq_then ?_
  refine cq_seq ?_
  refine cq_seq ?_
  refine cq_region ?_
  apply sq_g; exact g_move (s := .av _) rfl; exact rfl
  apply sq_g; exact g_len rfl; exact rfl
  apply sq_g; exact g_move (s := .av (.val (.int _ _))) rfl; exact rfl
  refine sq_nil ?_
  refine sq_then ?_
  refine cq_block ?_
  refine cq_loop (γ := Nat) (fun k => [(2, .av (vi m)), (4, .av (bt n)), (6, .own 10 0), (8, .own 11 0), (9, .av (vb (anyLt l n m k))), (10, .av (vb (anyGt l n m k))), (17, .av (ts l)), (18, .av (vi l.length)), (19, .av (vi k))]) (fun k => [(10, .cells [.av (vi 0), .av (vi 0), .av (vi 0), .av (vi 0), .av (.val (.slice none 0 0))]), (60, .row 3 1 (onTo l n m k).length (xf (onTo l n m k))), (11, .cells [.av (vi n.x), .av (vi n.y), .av (vi n.z), .av (vi m), .osl 60])]) (fun k => k ≤ l.length) (fun k => l.length - k) 0 (Nat.zero_le _) (Ent.trans (ent_rowc (r := 11) (off := 4) 60 3 1 (xf []) rfl rfl rfl) (ent ⟨.refl _, .refl _, .refl _, .refl _, .refl _, .refl _, .refl _, .refl _, .refl _, trivial⟩ ⟨⟨_, rfl, .refl _⟩, ⟨_, rfl, .refl _⟩, ⟨_, rfl, .refl _⟩, trivial⟩)) ?_
  intro k hk
  refine cq_seq ?_
  refine cq_region ?_
  apply sq_g; exact g_cmp rfl rfl rfl; exact rfl
  refine sq_nil ?_
  refine sq_then ?_
  refine cq_seq ?_
  (refine cq_cond rfl (fun hb => ?_) (fun hb => ?_) <;> (try simp only [decide_eq_true_eq, decide_eq_false_iff_not, beq_iff_eq, beq_eq_false_iff_ne, bne_iff_ne, bne_eq_false_iff_eq, ne_eq, Bool.not_eq_true', Bool.not_eq_false', Bool.and_eq_true, Bool.or_eq_true, Bool.and_eq_false_iff, Bool.or_eq_false_iff] at hb) <;> (try (exfalso; omega)))
  · have hkl : k < l.length := by omega
    have e0 := onTo_succ l n m k
    have e1 := anyLt_succ l n m k
    have e2 := anyGt_succ l n m k
    have hol := onTo_len l n m k
    generalize onTo l n m k = X at e0 hol ⊢
    generalize anyLt l n m k = bl at e1 ⊢
    generalize anyGt l n m k = ba at e2 ⊢
    refine cq_skip ?_
    refine sq_then ?_
    refine cq_seq ?_
    refine cq_block ?_
    refine cq_seq ?_
    refine cq_region ?_
    apply sq_g; exact g_move (s := .av (.val (.int _ _))) rfl; exact rfl
    apply sq_g; exact g_index rfl rfl rfl (by omega); exact rfl
    apply sq_g; exact g_load_agg (us := [.int _ _, .int _ _, .int _ _]) rfl rfl rfl rfl; exact rfl
    refine sq_v (f_alloc 12 rfl) rfl ?_
    apply sq_g; exact g_assign (s := .av (.val (.int _ _))) rfl; exact rfl
    refine sq_s (g_store_agg rfl rfl rfl rfl rfl rfl) ?_
    refine sq_nil ?_
    refine sq_then ?_
    refine cq_seq ?_
    refine cq_region ?_
    apply sq_g; exact g_load_agg (us := [.int _ _, .int _ _, .int _ _]) rfl rfl rfl rfl; exact rfl
    apply sq_g; exact g_load_own_agg (us := [.int _ _, .int _ _, .int _ _]) rfl rfl rfl rfl; exact rfl
    apply sq_g; exact g_call (dot_c _ _ hn (hl _) (by decide)) rfl; exact rfl
    apply sq_g; exact g_assign (s := .av (.val (.int _ _))) rfl; exact rfl
    refine sq_nil ?_
    refine sq_then ?_
    refine cq_block ?_
    refine cq_seq ?_
    refine cq_region ?_
    apply sq_g; exact g_move (s := .av (.val (.int _ _))) rfl; exact rfl
    apply sq_g; exact g_move (s := .av (.val (.int _ _))) rfl; exact rfl
    apply sq_g; exact g_cmp rfl rfl rfl; exact rfl
    apply sq_g; exact g_assign (s := .av (.val (.bool _))) rfl; exact rfl
    refine sq_nil ?_
    refine sq_then ?_
    (refine cq_cond rfl (fun hb => ?_) (fun hb => ?_) <;> (try simp only [decide_eq_true_eq, decide_eq_false_iff_not, beq_iff_eq, beq_eq_false_iff_ne, bne_iff_ne, bne_eq_false_iff_eq, ne_eq, Bool.not_eq_true', Bool.not_eq_false', Bool.and_eq_true, Bool.or_eq_true, Bool.and_eq_false_iff, Bool.or_eq_false_iff] at hb) <;> (try (exfalso; omega)))
    · rw [if_neg (by omega)] at e0
      rw [decide_eq_true hb, Bool.or_true] at e1
      rw [decide_eq_false (by omega), Bool.or_false] at e2
      refine cq_region ?_
      apply sq_g; exact g_assign (s := .av (.val (.bool _))) rfl; exact rfl
      refine sq_nil ?_
      refine sq_then ?_
      refine cq_region ?_
      apply sq_g; exact g_arith rfl rfl rfl (by omega); exact rfl
      apply sq_g; exact g_move (s := .av (.val (.int _ _))) rfl; exact rfl
      refine sq_nil ?_
      exact sq_round (k + 1) (by omega) (by omega) (ent ⟨.refl _, .refl _, .refl _, .refl _, (by rw [e1]; exact .refl _), (by rw [e2]; exact .refl _), .refl _, .refl _, .int (by omega), trivial⟩ ⟨⟨_, rfl, .refl _⟩, ⟨_, rfl, .row (by rw [e0]) (fun _ _ _ _ => by rw [e0])⟩, ⟨_, rfl, .refl _⟩, trivial⟩)
    have hb1 := hb
    rw [decide_eq_false hb, Bool.or_false] at e1
    refine cq_seq ?_
    refine cq_region ?_
    apply sq_g; exact g_move (s := .av (.val (.int _ _))) rfl; exact rfl
    apply sq_g; exact g_move (s := .av (.val (.int _ _))) rfl; exact rfl
    apply sq_g; exact g_cmp rfl rfl rfl; exact rfl
    apply sq_g; exact g_assign (s := .av (.val (.bool _))) rfl; exact rfl
    refine sq_nil ?_
    refine sq_then ?_
    (refine cq_cond rfl (fun hb => ?_) (fun hb => ?_) <;> (try simp only [decide_eq_true_eq, decide_eq_false_iff_not, beq_iff_eq, beq_eq_false_iff_ne, bne_iff_ne, bne_eq_false_iff_eq, ne_eq, Bool.not_eq_true', Bool.not_eq_false', Bool.and_eq_true, Bool.or_eq_true, Bool.and_eq_false_iff, Bool.or_eq_false_iff] at hb) <;> (try (exfalso; omega)))
    · rw [if_neg (by omega)] at e0
      rw [decide_eq_true hb, Bool.or_true] at e2
      refine cq_region ?_
      apply sq_g; exact g_assign (s := .av (.val (.bool _))) rfl; exact rfl
      refine sq_nil ?_
      refine sq_then ?_
      refine cq_region ?_
      apply sq_g; exact g_arith rfl rfl rfl (by omega); exact rfl
      apply sq_g; exact g_move (s := .av (.val (.int _ _))) rfl; exact rfl
      refine sq_nil ?_
      exact sq_round (k + 1) (by omega) (by omega) (ent ⟨.refl _, .refl _, .refl _, .refl _, (by rw [e1]; exact .refl _), (by rw [e2]; exact .refl _), .refl _, .refl _, .int (by omega), trivial⟩ ⟨⟨_, rfl, .refl _⟩, ⟨_, rfl, .row (by rw [e0]) (fun _ _ _ _ => by rw [e0])⟩, ⟨_, rfl, .refl _⟩, trivial⟩)
    · rw [if_pos (by omega)] at e0
      rw [decide_eq_false hb, Bool.or_false] at e2
      have hml : X.length + 1 ≤ maxLen := by simp only [maxLen]; omega
      refine cq_region ?_
      apply sq_g; exact g_field_own rfl; exact rfl
      apply sq_g; exact g_load_own rfl rfl rfl; exact rfl
      apply sq_g; exact g_move (s := .av (.val (.int _ _))) rfl; exact rfl
      apply sq_g; exact g_one_ix (tq26 _) rfl rfl; exact rfl
      refine sq_v (v_push_ix rfl rfl rfl (by omega) rfl) rfl ?_
      apply sq_g; exact g_field_own rfl; exact rfl
      refine sq_s (g_store_osl (q := 60) rfl rfl rfl rfl rfl) ?_
      refine sq_nil ?_
      refine sq_then ?_
      refine cq_region ?_
      apply sq_g; exact g_arith rfl rfl rfl (by omega); exact rfl
      apply sq_g; exact g_move (s := .av (.val (.int _ _))) rfl; exact rfl
      refine sq_nil ?_
      exact sq_round (k + 1) (by omega) (by omega) (ent ⟨.refl _, .refl _, .refl _, .refl _, (by rw [e1]; exact .refl _), (by rw [e2]; exact .refl _), .refl _, .refl _, .int (by omega), trivial⟩ ⟨⟨_, rfl, .refl _⟩, ⟨_, rfl, .row (by rw [e0]) (fun _ _ _ _ => by rw [e0])⟩, ⟨_, rfl, .refl _⟩, trivial⟩)
  · have hkl : k = l.length := by omega
    subst hkl
    have f1 : facN l n m = if anyGt l n m l.length = true then ⟨tmul n (-1), -m, onTo l n m l.length⟩ else ⟨n, m, onTo l n m l.length⟩ := rfl
    have f2 : facB l n m = (!anyLt l n m l.length || !anyGt l n m l.length) := rfl
    generalize onTo l n m l.length = X at f1 ⊢
    generalize anyLt l n m l.length = bl at f2 ⊢
    generalize anyGt l n m l.length = ba at f1 f2 ⊢
    refine cq_exit ?_
    refine sq_then ?_
    refine cq_seq ?_
    refine cq_seq ?_
    refine cq_region ?_
    apply sq_g; exact g_move (s := .av (.val (.bool _))) rfl; exact rfl
    refine sq_nil ?_
    refine sq_then ?_
    (refine cq_cond rfl (fun hb => ?_) (fun hb => ?_) <;> (try simp only [decide_eq_true_eq, decide_eq_false_iff_not, beq_iff_eq, beq_eq_false_iff_ne, bne_iff_ne, bne_eq_false_iff_eq, ne_eq, Bool.not_eq_true', Bool.not_eq_false', Bool.and_eq_true, Bool.or_eq_true, Bool.and_eq_false_iff, Bool.or_eq_false_iff] at hb) <;> (try (exfalso; omega)))
    · rw [if_pos hb] at f1
      rw [f1, f2]
      have ht := times_c n (-1) hn rfl
      focus
        refine cq_region ?_
        apply sq_g; exact g_load_agg (us := [.int _ _, .int _ _, .int _ _]) rfl rfl rfl rfl; exact rfl
        apply sq_g; exact g_call (ht) rfl; exact rfl
        apply sq_g; exact g_move (s := .av (.val (.int _ _))) rfl; exact rfl
        apply sq_g; exact g_neg rfl (by omega); exact rfl
        apply sq_g; exact g_field_own rfl; exact rfl
        refine lsq_ent (ent_freeze_in 11 60 4 rfl rfl rfl rfl) ?_
        refine sq_s (g_store_agg rfl rfl rfl rfl rfl rfl) ?_
        apply sq_g; exact g_field_own rfl; exact rfl
        refine sq_s (g_store' rfl rfl rfl rfl rfl rfl) ?_
        refine sq_nil ?_
        refine sq_then ?_
        refine cq_seq ?_
        refine cq_region ?_
        apply sq_g; exact  g_load_own_aggv (f := fcf ⟨tmul n (-1), -m, X⟩) rfl rfl rfl; exact rfl
        apply sq_g; exact g_move (s := .av (.val (.bool _))) rfl; exact rfl
        apply sq_g; exact g_not rfl; exact rfl
        apply sq_g; exact g_move (s := .av (.val (.bool _))) rfl; exact rfl
        refine sq_split rfl rfl (fun hb => ?_) (fun hb => ?_) <;> (try simp only [decide_eq_true_eq, decide_eq_false_iff_not, beq_iff_eq, beq_eq_false_iff_ne, bne_iff_ne, bne_eq_false_iff_eq, ne_eq, Bool.not_eq_true', Bool.not_eq_false', Bool.and_eq_true, Bool.or_eq_true, Bool.and_eq_false_iff, Bool.or_eq_false_iff] at hb) <;> (try (exfalso; omega))
        refine sq_off rfl rfl rfl rfl ?_
        refine sq_off rfl rfl rfl rfl ?_
        apply sq_g; exact g_pick (s := .av (.val (.bool _))) rfl rfl; exact rfl
        refine sq_s (g_store_aggv rfl rfl (fcf_one _) rfl rfl) ?_
        apply sq_g; exact g_assign (s := .av (.val (.bool _))) rfl; exact rfl
        refine sq_nil ?_
        refine sq_then ?_
        refine cq_ret ?_
        rotate_left
        apply sq_on; exact g_move (s := .av (.val (.bool _))) rfl; exact rfl; exact rfl; exact rfl
        apply sq_on; exact g_not rfl; exact rfl; exact rfl; exact rfl
        apply sq_g; exact g_pick (s := .av (.val (.bool _))) rfl rfl; exact rfl
        refine sq_s (g_store_aggv rfl rfl (fcf_one _) rfl rfl) ?_
        apply sq_g; exact g_assign (s := .av (.val (.bool _))) rfl; exact rfl
        refine sq_nil ?_
        refine sq_then ?_
        refine cq_ret ?_
        rotate_left
      all_goals (exact sq_resN (rvs := [_, _]) (τs := [fca _, vb _]) rfl rfl ⟨.aggv (k := 5) rfl rfl rfl, .tmp rfl, trivial⟩ (by rw [hb]; rfl))
    · rw [if_neg (by rw [hb]; simp)] at f1
      rw [f1, f2]
      focus
        refine cq_skip ?_
        refine sq_then ?_
        refine cq_seq ?_
        refine cq_region ?_
        refine lsq_ent (ent_freeze_in 11 60 4 rfl rfl rfl rfl) ?_
        apply sq_g; exact  g_load_own_aggv (f := fcf ⟨n, m, X⟩) rfl rfl rfl; exact rfl
        apply sq_g; exact g_move (s := .av (.val (.bool _))) rfl; exact rfl
        apply sq_g; exact g_not rfl; exact rfl
        apply sq_g; exact g_move (s := .av (.val (.bool _))) rfl; exact rfl
        refine sq_split rfl rfl (fun hb => ?_) (fun hb => ?_) <;> (try simp only [decide_eq_true_eq, decide_eq_false_iff_not, beq_iff_eq, beq_eq_false_iff_ne, bne_iff_ne, bne_eq_false_iff_eq, ne_eq, Bool.not_eq_true', Bool.not_eq_false', Bool.and_eq_true, Bool.or_eq_true, Bool.and_eq_false_iff, Bool.or_eq_false_iff] at hb) <;> (try (exfalso; omega))
        refine sq_off rfl rfl rfl rfl ?_
        refine sq_off rfl rfl rfl rfl ?_
        apply sq_g; exact g_pick (s := .av (.val (.bool _))) rfl rfl; exact rfl
        refine sq_s (g_store_aggv rfl rfl (fcf_one _) rfl rfl) ?_
        apply sq_g; exact g_assign (s := .av (.val (.bool _))) rfl; exact rfl
        refine sq_nil ?_
        refine sq_then ?_
        refine cq_ret ?_
        rotate_left
        apply sq_on; exact g_move (s := .av (.val (.bool _))) rfl; exact rfl; exact rfl; exact rfl
        apply sq_on; exact g_not rfl; exact rfl; exact rfl; exact rfl
        apply sq_g; exact g_pick (s := .av (.val (.bool _))) rfl rfl; exact rfl
        refine sq_s (g_store_aggv rfl rfl (fcf_one _) rfl rfl) ?_
        apply sq_g; exact g_assign (s := .av (.val (.bool _))) rfl; exact rfl
        refine sq_nil ?_
        refine sq_then ?_
        refine cq_ret ?_
        rotate_left
      all_goals (exact sq_resN (rvs := [_, _]) (τs := [fca _, vb _]) rfl rfl ⟨.aggv (k := 5) rfl rfl rfl, .tmp rfl, trivial⟩ (by rw [hb]; rfl))
end Go.Proofs.YtdoppiajbpmmkaaGreat
namespace Go.Proofs.YtdoppiajbpmmkaaGreat
open Go Go.Vc Go.RowKit
set_option maxHeartbeats 4000000
/-! KDQ -/
def plN (l : List Tr) (i j k : Nat) : Tr := tpr (tcr (tsub (gt l i) (gt l k)) (tsub (gt l j) (gt l k)))
def plM (l : List Tr) (i j k : Nat) : Int := tdot (plN l i j k) (gt l k)
def plF (l : List Tr) (i j k : Nat) : Fc := facN l (plN l i j k) (plM l i j k)
def plB (l : List Tr) (i j k : Nat) : Bool := decide (plN l i j k ≠ tz) && facB l (plN l i j k) (plM l i j k)
def pK (l : List Tr) (i j : Nat) : Nat → List Fc
  | 0 => []
  | k + 1 => pK l i j k ++ if plB l i j k = true then [plF l i j k] else []
def pJ (l : List Tr) (i : Nat) : Nat → List Fc
  | 0 => []
  | j + 1 => pJ l i j ++ pK l i j j
def pI (l : List Tr) : Nat → List Fc
  | 0 => []
  | i + 1 => pI l i ++ pJ l i i
def planesL (l : List Tr) : List Fc := pI l l.length
theorem pre_mono {α : Type} {f g : Nat → List α} (h : ∀ k, f (k + 1) = f k ++ g k) {k n : Nat} (hk : k ≤ n) : f k <+: f n := by
  induction n with
  | zero => rw [Nat.le_zero.1 hk]; exact List.prefix_refl _
  | succ n ih =>
    by_cases e : k = n + 1
    · rw [e]; exact List.prefix_refl _
    · rw [h n]; exact (ih (by omega)).trans (List.prefix_append _ _)
theorem planes_pre {l : List Tr} {i j k : Nat} (hi : i < l.length) (hj : j < i) (hk : k < j) : pI l i ++ (pJ l i j ++ pK l i j (k + 1)) <+: planesL l := by
  have h1 : pK l i j (k + 1) <+: pK l i j j := pre_mono (fun _ => rfl) (by omega)
  have h2 : pJ l i (j + 1) <+: pJ l i i := pre_mono (fun _ => rfl) (by omega)
  have h3 : pI l (i + 1) <+: pI l l.length := pre_mono (fun _ => rfl) (by omega)
  have h4 : pJ l i j ++ pK l i j (k + 1) <+: pJ l i (j + 1) := (List.prefix_append_right_inj _).2 h1
  exact ((List.prefix_append_right_inj _).2 (h4.trans h2)).trans h3
theorem pre_at {α : Type} {A L : List α} {x : α} (h : A ++ [x] <+: L) : L[A.length]? = some x := by
  obtain ⟨t, rfl⟩ := h
  simp
/-- What is handed out: five cells. -/
def V5 (x : Value) : Prop := ∃ cs : List Value, x = .agg cs.toArray ∧ cs.length = 5 ∧ ∀ (i : Nat) (v : Value), cs[i]? = some v → v.oneCell' = true
theorem fca_V5 (f : Fc) (Z : Zone) (w : World) (v : Value) (h : AV.ok Z w (fca f) v) : V5 v := by
  obtain ⟨cs, rfl, h1, h2⟩ := h
  refine ⟨cs, rfl, h1, fun i v hv => ?_⟩
  have hi : i < 5 := by have := (List.getElem?_eq_some_iff.1 hv).1; omega
  obtain ⟨u, hu, hk⟩ := h2 i hi
  rw [hu] at hv
  cases hv
  exact AV.one_cells (fcf_one f i hi) hk
abbrev yv (l : Nat) : AV := .val (.func (.yield l) #[] #[])
abbrev lt (l : List Tr) : AV := .ptr 1 (fun _ => ts l)
theorem planesi_c (l : List Tr) (hl : RT l) (hn : l.length ≤ 64) : CtrM Tryz.prog 121 [lt l] V5 ((planesL l).map fca) := by
  refine ctrM _ Tryz.func121 rfl rfl Tryz.ntmps121 rfl fun y J Y w Z S => ?_
  simp only [initT, List.map_cons, List.map_nil, Nat.zero_add, Nat.reduceAdd]
  refine cq_seq ?_
  refine cq_region ?_
  apply sq_g; exact g_load rfl rfl rfl; exact rfl
  apply sq_g; exact g_len rfl; exact rfl
  apply sq_g; exact g_move (s := .av (.val (.int _ _))) rfl; exact rfl
  refine sq_nil ?_
  refine sq_then ?_
  refine cq_block ?_
  refine cq_loopM Y (γ := Nat) (fun i => [(0, .av (yv y)), (1, .av (lt l)), (10, .av (vi l.length)), (11, .av (vi i))]) (fun i => (pI l i).length) (fun i => i ≤ l.length) (fun i => l.length - i) 0 S (Nat.zero_le _) (ent ⟨.refl _, .refl _, .refl _, .refl _, trivial⟩ trivial) ?_
  intro i hi w Z S
  refine cq_seq ?_
  refine cq_region ?_
  apply sq_g; exact g_cmp rfl rfl rfl; exact rfl
  refine sq_nil ?_
  refine sq_then ?_
  refine cq_seq ?_
  (refine cq_cond rfl (fun hb => ?_) (fun hb => ?_) <;> (try simp only [decide_eq_true_eq, decide_eq_false_iff_not, beq_iff_eq, beq_eq_false_iff_ne, bne_iff_ne, bne_eq_false_iff_eq, ne_eq, Bool.not_eq_true', Bool.not_eq_false', Bool.and_eq_true, Bool.or_eq_true, Bool.and_eq_false_iff, Bool.or_eq_false_iff] at hb) <;> (try (exfalso; omega)))
  · have hil : i < l.length := by omega
    refine cq_skip ?_
    refine sq_then ?_
    refine cq_seq ?_
    refine cq_block ?_
    refine cq_seq ?_
    refine cq_region ?_
    apply sq_g; exact g_move (s := .av (.val (.int _ _))) rfl; exact rfl
    apply sq_g; exact g_assign (s := .av (.val (.int _ _))) rfl; exact rfl
    refine sq_nil ?_
    refine sq_then ?_
    refine cq_seq ?_
    refine cq_region ?_
    apply sq_g; exact g_move (s := .av (.val (.int _ _))) rfl; exact rfl
    apply sq_g; exact g_move (s := .av (.val (.int _ _))) rfl; exact rfl
    refine sq_nil ?_
    refine sq_then ?_
    refine cq_block ?_
    refine cq_loopM Y (γ := Nat) (fun j => [(0, .av (yv y)), (1, .av (lt l)), (3, .av (vi i)), (10, .av (vi l.length)), (11, .av (vi i)), (14, .av (vi i)), (15, .av (vi j))]) (fun j => (pI l i ++ pJ l i j).length) (fun j => j ≤ i) (fun j => i - j) 0 (by rw [show pJ l i 0 = [] from rfl, List.append_nil]; exact S) (Nat.zero_le _) (ent ⟨.refl _, .refl _, .refl _, .refl _, .refl _, .refl _, .refl _, trivial⟩ trivial) ?_
    intro j hj w Z S
    refine cq_seq ?_
    refine cq_region ?_
    apply sq_g; exact g_cmp rfl rfl rfl; exact rfl
    refine sq_nil ?_
    refine sq_then ?_
    refine cq_seq ?_
    (refine cq_cond rfl (fun hb => ?_) (fun hb => ?_) <;> (try simp only [decide_eq_true_eq, decide_eq_false_iff_not, beq_iff_eq, beq_eq_false_iff_ne, bne_iff_ne, bne_eq_false_iff_eq, ne_eq, Bool.not_eq_true', Bool.not_eq_false', Bool.and_eq_true, Bool.or_eq_true, Bool.and_eq_false_iff, Bool.or_eq_false_iff] at hb) <;> (try (exfalso; omega)))
    · have hjl : j < i := by omega
      refine cq_skip ?_
      refine sq_then ?_
      refine cq_seq ?_
      refine cq_block ?_
      refine cq_seq ?_
      refine cq_region ?_
      apply sq_g; exact g_move (s := .av (.val (.int _ _))) rfl; exact rfl
      apply sq_g; exact g_assign (s := .av (.val (.int _ _))) rfl; exact rfl
      refine sq_nil ?_
      refine sq_then ?_
      refine cq_seq ?_
      refine cq_region ?_
      apply sq_g; exact g_move (s := .av (.val (.int _ _))) rfl; exact rfl
      apply sq_g; exact g_move (s := .av (.val (.int _ _))) rfl; exact rfl
      refine sq_nil ?_
      refine sq_then ?_
      refine cq_block ?_
      refine cq_loopM Y (γ := Nat) (fun k => [(0, .av (yv y)), (1, .av (lt l)), (3, .av (vi i)), (4, .av (vi j)), (10, .av (vi l.length)), (11, .av (vi i)), (14, .av (vi i)), (15, .av (vi j)), (18, .av (vi j)), (19, .av (vi k))]) (fun k => (pI l i ++ (pJ l i j ++ pK l i j k)).length) (fun k => k ≤ j) (fun k => j - k) 0 (by rw [show pK l i j 0 = [] from rfl, List.append_nil]; exact S) (Nat.zero_le _) (ent ⟨.refl _, .refl _, .refl _, .refl _, .refl _, .refl _, .refl _, .refl _, .refl _, .refl _, trivial⟩ trivial) ?_
      intro k hk w Z S
      refine cq_seq ?_
      refine cq_region ?_
      apply sq_g; exact g_cmp rfl rfl rfl; exact rfl
      refine sq_nil ?_
      refine sq_then ?_
      refine cq_seq ?_
      (refine cq_cond rfl (fun hb => ?_) (fun hb => ?_) <;> (try simp only [decide_eq_true_eq, decide_eq_false_iff_not, beq_iff_eq, beq_eq_false_iff_ne, bne_iff_ne, bne_eq_false_iff_eq, ne_eq, Bool.not_eq_true', Bool.not_eq_false', Bool.and_eq_true, Bool.or_eq_true, Bool.and_eq_false_iff, Bool.or_eq_false_iff] at hb) <;> (try (exfalso; omega)))
      · have hkl : k < j := by omega
        have hp := planes_pre hil hjl hkl
        have e0 : pK l i j (k + 1) = pK l i j k ++ if plB l i j k = true then [plF l i j k] else [] := rfl
        have b1 : BT 1000000000000 (gt l i) := (hl i).le (by decide)
        have b2 : BT 1000000000000 (gt l j) := (hl j).le (by decide)
        have b3 : BT 1000000000000 (gt l k) := (hl k).le (by decide)
        have s1 : BT 200000 (tsub (gt l i) (gt l k)) := (hl i).sub (hl k)
        have s2 : BT 200000 (tsub (gt l j) (gt l k)) := (hl j).sub (hl k)
        have s3 : BT 80000000000 (tcr (tsub (gt l i) (gt l k)) (tsub (gt l j) (gt l k))) := (s1.cr s2).le (by decide)
        have s4 : BT 80000000000 (plN l i j k) := s3.pr
        have s5 : Bn 1000000000000000000 (plM l i j k) := bn_le (bn_dot s4 (hl k)) (by decide)
        have hf := facet_c l (plN l i j k) (plM l i j k) hl (by omega) (s4.le (by decide)) s5
        focus
          refine cq_skip ?_
          refine sq_then ?_
          refine cq_seq ?_
          refine cq_block ?_
          refine cq_seq ?_
          refine cq_region ?_
          apply sq_g; exact g_move (s := .av (.val (.int _ _))) rfl; exact rfl
          apply sq_g; exact g_assign (s := .av (.val (.int _ _))) rfl; exact rfl
          refine sq_nil ?_
          refine sq_then ?_
          refine cq_seq ?_
          refine cq_drawn ?_
          apply dq_g; exact g_load rfl rfl rfl; exact rfl
          apply dq_g; exact g_move (s := .av (.val (.int _ _))) rfl; exact rfl
          apply dq_g; exact g_index rfl rfl rfl (by omega); exact rfl
          apply dq_g; exact g_load_agg (us := [.int _ _, .int _ _, .int _ _]) rfl rfl rfl rfl; exact rfl
          apply dq_g; exact g_load rfl rfl rfl; exact rfl
          apply dq_g; exact g_move (s := .av (.val (.int _ _))) rfl; exact rfl
          apply dq_g; exact g_index rfl rfl rfl (by omega); exact rfl
          apply dq_g; exact g_load_agg (us := [.int _ _, .int _ _, .int _ _]) rfl rfl rfl rfl; exact rfl
          apply dq_g; exact g_call (minus_c _ _ b1 b3) rfl; exact rfl
          apply dq_g; exact g_load rfl rfl rfl; exact rfl
          apply dq_g; exact g_move (s := .av (.val (.int _ _))) rfl; exact rfl
          apply dq_g; exact g_index rfl rfl rfl (by omega); exact rfl
          apply dq_g; exact g_load_agg (us := [.int _ _, .int _ _, .int _ _]) rfl rfl rfl rfl; exact rfl
          apply dq_g; exact g_load rfl rfl rfl; exact rfl
          apply dq_g; exact g_move (s := .av (.val (.int _ _))) rfl; exact rfl
          apply dq_g; exact g_index rfl rfl rfl (by omega); exact rfl
          apply dq_g; exact g_load_agg (us := [.int _ _, .int _ _, .int _ _]) rfl rfl rfl rfl; exact rfl
          apply dq_g; exact g_call (minus_c _ _ b2 b3) rfl; exact rfl
          apply dq_g; exact g_call (cross_c _ _ s1 s2 (by decide)) rfl; exact rfl
          apply dq_g; exact g_call (prim_c _ (s3.le (by decide))) rfl; exact rfl
          refine dq_v (ga_alloc 10) rfl rfl ?_
          refine dq_s (g_store_agg rfl rfl rfl rfl rfl rfl) ?_
          refine dq_nil tm (by kernel_rfl) ?_
          refine sq_then ?_
          refine cq_seq ?_
          refine cq_drawn ?_
          apply dq_g; exact g_load rfl rfl rfl; exact rfl
          apply dq_g; exact g_load_own_agg (us := [.int _ _, .int _ _, .int _ _]) rfl rfl rfl rfl; exact rfl
          apply dq_g; exact g_load_own_agg (us := [.int _ _, .int _ _, .int _ _]) rfl rfl rfl rfl; exact rfl
          apply dq_g; exact g_load rfl rfl rfl; exact rfl
          apply dq_g; exact g_move (s := .av (.val (.int _ _))) rfl; exact rfl
          apply dq_g; exact g_index rfl rfl rfl (by omega); exact rfl
          apply dq_g; exact g_load_agg (us := [.int _ _, .int _ _, .int _ _]) rfl rfl rfl rfl; exact rfl
          apply dq_g; exact g_call (dot_c _ _ s4 (hl k) (by decide)) rfl; exact rfl
          apply dq_g; exact g_call (hf) rfl; exact rfl
          apply dq_g; exact g_move (s := .av _) rfl; exact rfl
          apply dq_g; exact g_extractT rfl rfl; exact rfl
          apply dq_g; exact g_extractT rfl rfl; exact rfl
          refine dq_v (ga_alloc 11) rfl rfl ?_
          refine dq_s (g_store_aggv rfl rfl (fcf_one _) rfl rfl) ?_
          apply dq_g; exact g_assign (s := .av (.val (.bool _))) rfl; exact rfl
          refine dq_nil tm (by kernel_rfl) ?_
          refine sq_then ?_
          refine cq_seq ?_
          refine cq_region ?_
          apply sq_g; exact g_load_own_agg (us := [.int _ _, .int _ _, .int _ _]) rfl rfl rfl rfl; exact rfl
          apply sq_g; exact  g_build (is := []) (xs := []) (vs := []) tb80_0 rfl rfl; exact rfl
          apply sq_g; exact g_neq (xs := [_, _, _]) (ys := [_, _, _]) rfl rfl rfl rfl; exact rfl
          apply sq_g; exact g_move (s := .av (.val (.bool _))) rfl; exact rfl
          refine sq_split rfl rfl (fun hb => ?_) (fun hb => ?_) <;> (try simp only [decide_eq_true_eq, decide_eq_false_iff_not, beq_iff_eq, beq_eq_false_iff_ne, bne_iff_ne, bne_eq_false_iff_eq, ne_eq, Bool.not_eq_true', Bool.not_eq_false', Bool.and_eq_true, Bool.or_eq_true, Bool.and_eq_false_iff, Bool.or_eq_false_iff] at hb) <;> (try (exfalso; omega))
          apply sq_on; exact g_move (s := .av (.val (.bool _))) rfl; exact rfl; exact rfl; exact rfl
          apply sq_g; exact g_pick (s := .av (.val (.bool _))) rfl rfl; exact rfl
          apply sq_g; exact g_move (s := .av (.val (.bool _))) rfl; exact rfl
          refine sq_split rfl rfl (fun hb => ?_) (fun hb => ?_) <;> (try simp only [decide_eq_true_eq, decide_eq_false_iff_not, beq_iff_eq, beq_eq_false_iff_ne, bne_iff_ne, bne_eq_false_iff_eq, ne_eq, Bool.not_eq_true', Bool.not_eq_false', Bool.and_eq_true, Bool.or_eq_true, Bool.and_eq_false_iff, Bool.or_eq_false_iff] at hb) <;> (try (exfalso; omega))
          apply sq_on; exact g_move (s := .av _) rfl; exact rfl; exact rfl; exact rfl
          apply sq_on; exact  g_load_own_aggv (f := fcf (facN l (plN l i j k) (plM l i j k))) rfl rfl rfl; exact rfl; exact rfl; exact rfl
          refine sq_split rfl rfl (fun hb => ?_) (fun hb => ?_) <;> (try simp only [decide_eq_true_eq, decide_eq_false_iff_not, beq_iff_eq, beq_eq_false_iff_ne, bne_iff_ne, bne_eq_false_iff_eq, ne_eq, Bool.not_eq_true', Bool.not_eq_false', Bool.and_eq_true, Bool.or_eq_true, Bool.and_eq_false_iff, Bool.or_eq_false_iff] at hb) <;> (try (exfalso; omega))
          rotate_left
          refine sq_off rfl rfl rfl rfl ?_
          refine sq_off rfl rfl rfl rfl ?_
          apply sq_g; exact g_pick (s := .av (.val (.bool _))) rfl rfl; exact rfl
          refine sq_nil ?_
          refine sq_then ?_
          refine cq_cond_f rfl ?_
          refine cq_skip ?_
          refine sq_then ?_
          refine cq_region ?_
          apply sq_g; exact g_arith rfl rfl rfl (by omega); exact rfl
          apply sq_g; exact g_move (s := .av (.val (.int _ _))) rfl; exact rfl
          refine sq_nil ?_
          rotate_left
          refine sq_off rfl rfl rfl rfl ?_
          refine sq_off rfl rfl rfl rfl ?_
          refine sq_off rfl rfl rfl rfl ?_
          refine sq_off rfl rfl rfl rfl ?_
          apply sq_g; exact g_pick (s := .av (.val (.bool _))) rfl rfl; exact rfl
          refine sq_nil ?_
          refine sq_then ?_
          refine cq_cond_f rfl ?_
          refine cq_skip ?_
          refine sq_then ?_
          refine cq_region ?_
          apply sq_g; exact g_arith rfl rfl rfl (by omega); exact rfl
          apply sq_g; exact g_move (s := .av (.val (.int _ _))) rfl; exact rfl
          refine sq_nil ?_
          rotate_left
          refine sq_off rfl rfl rfl rfl ?_
          apply sq_g; exact g_pick (s := .av (.val (.bool _))) rfl rfl; exact rfl
          apply sq_g; exact g_move (s := .av (.val (.bool _))) rfl; exact rfl
          refine sq_off rfl rfl rfl rfl ?_
          refine sq_off rfl rfl rfl rfl ?_
          refine sq_off rfl rfl rfl rfl ?_
          refine sq_off rfl rfl rfl rfl ?_
          apply sq_g; exact g_pick (s := .av (.val (.bool _))) rfl rfl; exact rfl
          refine sq_nil ?_
          refine sq_then ?_
          refine cq_cond_f rfl ?_
          refine cq_skip ?_
          refine sq_then ?_
          refine cq_region ?_
          apply sq_g; exact g_arith rfl rfl rfl (by omega); exact rfl
          apply sq_g; exact g_move (s := .av (.val (.int _ _))) rfl; exact rfl
          refine sq_nil ?_
          rotate_left
        · rename_i hf1 hf2 hf3
          have hB : plB l i j k = true := by
            unfold plB
            rw [Bool.and_eq_true]
            refine ⟨decide_eq_true (fun e => ?_), by assumption⟩
            have e' : tpr (tcr (tsub (gt l i) (gt l k)) (tsub (gt l j) (gt l k))) = tz := e
            have q := (by assumption : ¬ [(tpr (tcr (tsub (gt l i) (gt l k)) (tsub (gt l j) (gt l k)))).x, (tpr (tcr (tsub (gt l i) (gt l k)) (tsub (gt l j) (gt l k)))).y, (tpr (tcr (tsub (gt l i) (gt l k)) (tsub (gt l j) (gt l k)))).z] = [0, 0, 0])
            rw [e'] at q
            exact q rfl
          rw [if_pos hB] at e0
          rw [e0, ← List.append_assoc, ← List.append_assoc] at hp
          have hm := pre_at hp
          rw [List.append_assoc] at hm
          refine lsq_ent ent_drop ?_
          refine sq_yieldM_on Y S (τ := fca (plF l i j k)) (by rw [List.getElem?_map, hm]; rfl) (fca_V5 _) rfl rfl rfl rfl rfl (fun w' Z' S' => ?_)
          have e9 : (pI l i ++ (pJ l i j ++ pK l i j k)).length + 1 = (pI l i ++ (pJ l i j ++ pK l i j (k + 1))).length := by rw [e0]; simp; omega
          rw [e9] at S'
          apply sq_on; exact g_not rfl; exact rfl; exact rfl; exact rfl
          apply sq_g; exact g_pick (s := .av (.val (.bool _))) rfl rfl; exact rfl
          refine sq_nil ?_
          refine sq_then ?_
          refine cq_cond_f rfl ?_
          refine cq_skip ?_
          refine sq_then ?_
          refine cq_region ?_
          apply sq_g; exact g_arith rfl rfl rfl (by omega); exact rfl
          apply sq_g; exact g_move (s := .av (.val (.int _ _))) rfl; exact rfl
          refine sq_nil ?_
          exact sq_roundM Y (g := k) (k + 1) S' (by omega) (by omega) (ent ⟨.refl _, .refl _, .refl _, .refl _, .refl _, .refl _, .refl _, .refl _, .refl _, .int (by omega), trivial⟩ trivial)
        · exact absurd (by assumption : true = false) (by simp)
        · have hB : plB l i j k = false := by
            unfold plB
            rw [(by assumption : facB l (plN l i j k) (plM l i j k) = false), Bool.and_false]
          rw [if_neg (by rw [hB]; simp), List.append_nil] at e0
          rw [← e0] at S
          exact sq_roundM Y (g := k) (k + 1) S (by omega) (by omega) (ent ⟨.refl _, .refl _, .refl _, .refl _, .refl _, .refl _, .refl _, .refl _, .refl _, .int (by omega), trivial⟩ trivial)
        · have hB : plB l i j k = false := by
            unfold plB
            rw [decide_eq_false, Bool.false_and]
            intro hne
            apply hne
            have q := (by assumption : [(tpr (tcr (tsub (gt l i) (gt l k)) (tsub (gt l j) (gt l k)))).x, (tpr (tcr (tsub (gt l i) (gt l k)) (tsub (gt l j) (gt l k)))).y, (tpr (tcr (tsub (gt l i) (gt l k)) (tsub (gt l j) (gt l k)))).z] = [0, 0, 0])
            have q2 := tz_eq (tpr (tcr (tsub (gt l i) (gt l k)) (tsub (gt l j) (gt l k))))
            rw [beq_iff_eq.2 q] at q2
            exact of_decide_eq_true q2.symm
          rw [if_neg (by rw [hB]; simp), List.append_nil] at e0
          rw [← e0] at S
          exact sq_roundM Y (g := k) (k + 1) S (by omega) (by omega) (ent ⟨.refl _, .refl _, .refl _, .refl _, .refl _, .refl _, .refl _, .refl _, .refl _, .int (by omega), trivial⟩ trivial)
      · have hke : k = j := by omega
        subst hke
        have e1 : pJ l i (k + 1) = pJ l i k ++ pK l i k k := rfl
        rw [← e1] at S
        refine cq_exit ?_
        refine sq_then ?_
        refine cq_region ?_
        apply sq_g; exact g_arith rfl rfl rfl (by omega); exact rfl
        apply sq_g; exact g_move (s := .av (.val (.int _ _))) rfl; exact rfl
        refine sq_nil ?_
        exact sq_roundM Y (g := k) (k + 1) S (by omega) (by omega) (ent ⟨.refl _, .refl _, .refl _, .refl _, .refl _, .refl _, .int (by omega), trivial⟩ trivial)
    · have hje : j = i := by omega
      subst hje
      have e1 : pI l (j + 1) = pI l j ++ pJ l j j := rfl
      rw [← e1] at S
      refine cq_exit ?_
      refine sq_then ?_
      refine cq_region ?_
      apply sq_g; exact g_arith rfl rfl rfl (by omega); exact rfl
      apply sq_g; exact g_move (s := .av (.val (.int _ _))) rfl; exact rfl
      refine sq_nil ?_
      exact sq_roundM Y (g := j) (j + 1) S (by omega) (by omega) (ent ⟨.refl _, .refl _, .refl _, .int (by omega), trivial⟩ trivial)
  · have hie : i = l.length := by omega
    subst hie
    have e1 : (pI l l.length).length = ((planesL l).map fca).length := by rw [List.length_map]; rfl
    rw [e1] at S
    refine cq_exit ?_
    refine sq_then_exit ?_
    refine sq_then_exit ?_
    refine sq_inBlock_exit ?_
    exact sq_retM' Y rfl S
abbrev pcl (l : List Tr) : AV := .clo 121 1 (fun i => [lt l].getD i .any)
theorem planes_c (l : List Tr) : CtrA Tryz.prog 95 [ts l] (pcl l) := by
  refine ctrA _ Tryz.func95 rfl rfl Tryz.ntmps95 rfl fun w Z => ?_
  simp only [initT, List.map_cons, List.map_nil, Nat.zero_add, Nat.reduceAdd]
  refine cq_seq ?_
  refine cq_region ?_
  apply sq_g; exact g_box rfl rfl; exact rfl
  apply sq_g; exact g_assign (s := .av _) rfl; exact rfl
  refine sq_nil ?_
  refine sq_then ?_
  refine cq_seq ?_
  refine cq_region ?_
  apply sq_g; exact g_makeFunc (τs := [_]) rfl; exact rfl
  apply sq_g; exact g_assign (s := .av _) rfl; exact rfl
  refine sq_nil ?_
  refine sq_then ?_
  refine cq_ret ?_
  exact sq_res1 rfl (.tmp rfl) rfl
end Go.Proofs.YtdoppiajbpmmkaaGreat
namespace Go.Proofs.YtdoppiajbpmmkaaGreat
open Go Go.Vc Go.RowKit
set_option maxHeartbeats 4000000
/-! KDQ -/
def gf (L : List Fc) (i : Nat) : Fc := L.getD i default
def ff (L : List Fc) : Nat → Nat → AV := fun i j => fcf (gf L i) j
def cellOf (x : Value) (j : Nat) : Value := match x with | .agg cs => cs.toList.getD j undef | _ => undef
def rawf (xs : List Value) : Nat → Nat → AV := fun i j => .val (cellOf (xs.getD i undef) j)
theorem tq48 (a b c d e : Value) (w : World) : (Instr.buildSlice 48 1 #[(0, .agg #[a, b, c, d, e])]).run Tryz.prog w = .ok (.slice (some ⟨w.heap.size, 0, none⟩) 1 1) (w.alloc (.cells #[a, b, c, d, e] 46)) := by kernel_rfl
theorem rawf_app (xs : List Value) (x : Value) : ∀ i, i < xs.length + 1 → ∀ j, j < 5 → rowApp xs.length (rawf xs) (rawf [x]) i j = rawf (xs ++ [x]) i j := by
  intro i hi j hj
  unfold rowApp rawf
  by_cases h : i < xs.length
  · rw [if_pos h]; simp [List.getD, List.getElem?_append_left h]
  · rw [if_neg h]
    have e : i = xs.length := by omega
    subst e
    simp [List.getD]
theorem raw_up {Z : Zone} {w : World} : ∀ (L : List Fc) (xs : List Value), All2 (fun τ v => AV.ok Z w τ v) (L.map fca) xs → ∀ i, i < xs.length → ∀ j, j < 5 → ∀ u, (rawf xs i j).ok Z w u → (ff L i j).ok Z w u
  | [], [], _, i, hi, _, _, _, _ => absurd hi (Nat.not_lt_zero _)
  | f :: L, x :: xs, h, 0, _, j, hj, u, hu => by
    obtain ⟨⟨cs, rfl, h1, h2⟩, _⟩ := h
    obtain ⟨v, hv, hk⟩ := h2 j hj
    obtain rfl : u = cs.getD j undef := hu
    rw [List.getD, hv]
    exact hk
  | f :: L, x :: xs, h, i + 1, hi, j, hj, u, hu => raw_up L xs h.2 i (by simpa using hi) j hj u hu
theorem planes_len (l : List Tr) (hn : l.length ≤ 6) : (planesL l).length ≤ 1000 := by
  have hK : ∀ i j k, (pK l i j k).length ≤ k := fun i j k => by
    induction k with
    | zero => exact Nat.le_refl _
    | succ k ih => unfold pK; rw [List.length_append]; split <;> simp <;> omega
  have hJ : ∀ i j, j ≤ 6 → (pJ l i j).length ≤ 6 * j := fun i j hj => by
    induction j with
    | zero => exact Nat.le_refl _
    | succ j ih =>
      have := ih (by omega)
      have := hK i j j
      unfold pJ; rw [List.length_append]; omega
  have hI : ∀ i, i ≤ 6 → (pI l i).length ≤ 36 * i := fun i hi => by
    induction i with
    | zero => exact Nat.le_refl _
    | succ i ih =>
      have := ih (by omega)
      have := hJ i i (by omega)
      unfold pI; rw [List.length_append]; omega
  have := hI l.length hn
  unfold planesL
  omega
theorem aseq_c (l : List Tr) (hl : RT l) (hn : l.length ≤ 6) : CtrR Tryz.prog 142 [.val (.slice none 0 0), pcl l] 46 5 (planesL l).length (ff (planesL l)) [] := by
  refine ctrRM _ Tryz.func142 rfl rfl Tryz.ntmps142 rfl fun w Z => ?_
  have hpl := planes_len l hn
  simp only [initT, List.map_cons, List.map_nil, Nat.zero_add, Nat.reduceAdd]
  refine cq_seq ?_
  refine cq_region ?_
  refine sq_v (f_box_own 2 rfl rfl rfl) rfl ?_
  apply sq_g; exact g_assign (s := .av _) rfl; exact rfl
  refine sq_nil ?_
  refine sq_then ?_
  refine cq_seq ?_
  refine cq_seq ?_
  refine cq_region ?_
  apply sq_g; exact g_move (s := .av _) rfl; exact rfl
  refine sq_nil ?_
  refine sq_then ?_
  refine cq_block ?_
  refine cq_more (ent_rowc (r := 2) (off := 0) 5 46 5 (rawf []) rfl rfl rfl) ?_
  refine cq_rangeM rfl rfl (planesi_c l hl (by omega)) [5, 7, 8, 9, 10, 11] [(2, .own 2 0), (6, .av (pcl l))] (fun pre => [(5, .row 46 5 pre.length (rawf pre)), (2, .cells [.osl 5])]) (fun x => [(5, .av (.ptr 5 (fun j => .val (cellOf x j))))]) (ent ⟨.refl _, .refl _, trivial⟩ ⟨⟨_, rfl, .refl _⟩, ⟨_, rfl, .refl _⟩, trivial⟩) rfl rfl rfl rfl (fun _ => rfl) ?_ ?_ ?_
  · rintro lp a0 w0 Z0 keep pre x ⟨cs, rfl, h5, h1⟩
    match cs, h5 with
    | [c0, c1, c2, c3, c4], _ =>
      have hall : [c0, c1, c2, c3, c4].all Value.oneCell' = true := by
        rw [List.all_eq_true]
        intro x hx
        obtain ⟨i, hi, rfl⟩ := List.getElem_of_mem hx
        exact h1 i _ (List.getElem?_eq_getElem hi)
      refine cq_region ?_
      refine sq_v (f_alloc 10 rfl) rfl ?_
      refine sq_s (g_store_agg (us := [c0, c1, c2, c3, c4]) rfl rfl rfl hall rfl rfl) ?_
      refine sq_nil ?_
      exact sq_assM (Ent.trans (ent_freezec 5 10 (fun j => .val (cellOf (.agg #[c0, c1, c2, c3, c4]) j)) rfl rfl rfl) (ent ⟨.refl _, .refl _, .refl _, trivial⟩ ⟨⟨_, rfl, .refl _⟩, ⟨_, rfl, .refl _⟩, trivial⟩))
  · rintro lp a0 w0 Z0 keep pre x ⟨cs, rfl, h5, h1⟩ hlen
    match cs, h5 with
    | [c0, c1, c2, c3, c4], _ =>
      have hpr : pre.length ≤ 1000 := by rw [List.length_map] at hlen; omega
      have hrow : ∀ i, i < 1 → ∀ j, j < 5 → ∃ u, [c0, c1, c2, c3, c4][i * 5 + j]? = some u ∧ rawf [.agg #[c0, c1, c2, c3, c4]] i j = .val u := fun i hi j hj => by
        obtain rfl : i = 0 := by omega
        rcases (by omega : j = 0 ∨ j = 1 ∨ j = 2 ∨ j = 3 ∨ j = 4) with rfl | rfl | rfl | rfl | rfl <;> exact ⟨_, rfl, rfl⟩
      have hone : ∀ i, i < 1 → ∀ j, j < 5 → (rawf [.agg #[c0, c1, c2, c3, c4]] i j).one = true := fun i hi j hj => by
        obtain rfl : i = 0 := by omega
        rcases (by omega : j = 0 ∨ j = 1 ∨ j = 2 ∨ j = 3 ∨ j = 4) with rfl | rfl | rfl | rfl | rfl
        · exact h1 0 c0 rfl
        · exact h1 1 c1 rfl
        · exact h1 2 c2 rfl
        · exact h1 3 c3 rfl
        · exact h1 4 c4 rfl
      have hml : pre.length + 1 ≤ maxLen := by simp only [maxLen]; omega
      refine cq_block ?_
      refine cq_region ?_
      apply sq_g; exact g_load_own rfl rfl rfl; exact rfl
      apply sq_g; exact  g_load_agg (us := [c0, c1, c2, c3, c4]) rfl rfl rfl rfl; exact rfl
      apply sq_g; exact  g_bslice (is := [0]) (xs := [_]) (vs := [_]) (us := [c0, c1, c2, c3, c4]) (tq48 _ _ _ _ _) rfl rfl rfl hrow; exact rfl
      refine sq_v (v_append (h := rawf [.agg #[c0, c1, c2, c3, c4]]) (m := 1) rfl rfl rfl hone (by omega) hml (by omega)) rfl ?_
      refine sq_s (g_store_osl (q := 5) rfl rfl rfl rfl rfl) ?_
      refine sq_nil ?_
      refine sq_inBlock ?_
      exact sq_rndM (ent ⟨.refl _, .refl _, trivial⟩ ⟨⟨_, rfl, .row (by simp) (fun i hi j hj => rawf_app _ _ i (by simpa using hi) j hj)⟩, ⟨_, rfl, .refl _⟩, trivial⟩)
  · intro D w2 xs Z1 ν a hA hR h
    have hxl : xs.length = (planesL l).length := by rw [← hR.len, List.length_map]
    have h2 := h.rerowM (r := 5) (f' := ff (planesL l)) rfl (fun i hi j hj u hu => raw_up _ _ hR i hi j hj u hu)
    refine sq_use ⟨_, _, h2⟩ ?_
    refine sq_then ?_
    refine cq_seq ?_
    refine cq_region ?_
    apply sq_g; exact g_load_own rfl rfl rfl; exact rfl
    apply sq_g; exact g_assign (s := .osl _) rfl; exact rfl
    refine sq_nil ?_
    refine sq_then ?_
    refine cq_ret ?_
    exact sq_afterM hA (sq_retR rfl rfl rfl hxl (fun _ _ _ _ => rfl))
theorem collect_c (l : List Tr) (hl : RT l) (hn : l.length ≤ 6) : CtrR Tryz.prog 119 [pcl l] 46 5 (planesL l).length (ff (planesL l)) [] := by
  refine ctrR _ Tryz.func119 rfl rfl Tryz.ntmps119 rfl fun w Z => ?_
  have ha := aseq_c l hl hn
  simp only [initT, List.map_cons, List.map_nil, Nat.zero_add, Nat.reduceAdd]
  refine cq_seq ?_
  refine cq_region ?_
  apply sq_g; exact g_assign (s := .av _) rfl; exact rfl
  refine sq_nil ?_
  refine sq_then ?_
  refine cq_seq ?_
  refine cq_region ?_
  apply sq_g; exact g_move (s := .av _) rfl; exact rfl
  refine sq_v (f_call_row 40 (ha) rfl rfl) rfl ?_
  apply sq_g; exact g_assign (s := .osl _) rfl; exact rfl
  refine sq_nil ?_
  refine sq_then ?_
  refine cq_ret ?_
  exact sq_retR rfl rfl rfl rfl (fun _ _ _ _ => rfl)
end Go.Proofs.YtdoppiajbpmmkaaGreat
