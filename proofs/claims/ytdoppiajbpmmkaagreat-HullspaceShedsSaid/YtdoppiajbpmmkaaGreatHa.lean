/- A part of the proof that the law returns true at every input and that the input reads behind the call as it read before; this part states nothing of its own that needs a condition of the input. -/
import Derived.Test.YtdoppiajbpmmkaaGreatW
import Derived.Test.YtdoppiajbpmmkaaGreatP
import Derived.Test.YtdoppiajbpmmkaaGreatKa
set_option linter.unusedVariables false
set_option linter.unusedSimpArgs false
set_option linter.unnecessarySimpa false
namespace Go.Proofs.YtdoppiajbpmmkaaGreat
open Go Go.Vc Go.RowKit
set_option maxHeartbeats 400000
/-! vector and hull: the small ones -/
theorem flat_c (p : Pt) : CtrA Tryz.prog 113 [pp p] (vb (rightB p)) := by
  refine ctrA _ Tryz.func113 rfl rfl Tryz.ntmps113 rfl fun w Z => ?_
  simp only [initT, List.map_cons, List.map_nil, Nat.zero_add, Nat.reduceAdd]
  focus
    refine cq_seq ?_
    refine cq_region ?_
    apply sq_g; exact g_box_agg rfl; exact rfl
    apply sq_g; exact g_assign (s := .av (.val (.bool _))) rfl; exact rfl
    refine sq_nil ?_
    refine sq_then ?_
    refine cq_seq ?_
    refine cq_region ?_
    apply sq_g; exact g_field rfl; exact rfl
    apply sq_g; exact g_load (τ := .val (.int _ _)) rfl rfl rfl; exact rfl
    apply sq_g; exact g_call (win_c _) rfl; exact rfl
    apply sq_g; exact g_move (s := .av (.val (.bool _))) rfl; exact rfl
    refine sq_split rfl rfl (fun hb => ?_) (fun hb => ?_) <;> (try simp only [decide_eq_true_eq, decide_eq_false_iff_not, beq_iff_eq, beq_eq_false_iff_ne, bne_iff_ne, bne_eq_false_iff_eq, ne_eq, Bool.not_eq_true', Bool.not_eq_false', Bool.and_eq_true, Bool.or_eq_true, Bool.and_eq_false_iff, Bool.or_eq_false_iff] at hb) <;> (try (exfalso; omega))
    apply sq_on; exact g_field rfl; exact rfl; exact rfl; exact rfl
    apply sq_on; exact g_load (τ := .val (.int _ _)) rfl rfl rfl; exact rfl; exact rfl; exact rfl
    apply sq_on; exact g_call (win_c _) rfl; exact rfl; exact rfl; exact rfl
    apply sq_g; exact g_pick (s := .av (.val (.bool _))) rfl rfl; exact rfl
    apply sq_g; exact g_assign (s := .av (.val (.bool _))) rfl; exact rfl
    refine sq_nil ?_
    refine sq_then ?_
    refine cq_ret ?_
    rotate_left
    refine sq_off rfl rfl rfl rfl ?_
    refine sq_off rfl rfl rfl rfl ?_
    refine sq_off rfl rfl rfl rfl ?_
    apply sq_g; exact g_pick (s := .av (.val (.bool _))) rfl rfl; exact rfl
    apply sq_g; exact g_assign (s := .av (.val (.bool _))) rfl; exact rfl
    refine sq_nil ?_
    refine sq_then ?_
    refine cq_ret ?_
    rotate_left
  all_goals (refine sq_res1 rfl (.tmp rfl) (congrArg vb ?_); simp [rightB, *])
theorem pall_c (l : List Pt) (hn : l.length ≤ 1000) : CtrA Tryz.prog 137 [.val (.func (.func 113) #[] #[]), pts l] (vi (if l.all rightB then 0 else 2)) := by
  refine ctrA _ Tryz.func137 rfl rfl Tryz.ntmps137 rfl fun w Z => ?_
  simp only [initT, List.map_cons, List.map_nil, Nat.zero_add, Nat.reduceAdd]
  refine cq_seq ?_
  refine cq_region ?_
  apply sq_g; exact g_assign (s := .av (.val (.int _ _))) rfl; exact rfl
  refine sq_nil ?_
  refine sq_then ?_
  refine cq_seq ?_
  refine cq_seq ?_
  refine cq_region ?_
  apply sq_g; exact g_move (s := .av _) rfl; exact rfl
  apply sq_g; exact g_len rfl; exact rfl
  apply sq_g; exact g_move (s := .av (.val (.int _ _))) rfl; exact rfl
  refine sq_nil ?_
  refine sq_then ?_
  refine cq_block ?_
  refine cq_loop (γ := Nat) (fun k => [(0, .av (.val (.func (.func 113) #[] #[]))), (7, .av (pts l)), (8, .av (vi l.length)), (9, .av (vi k))]) (fun _ => []) (fun k => k ≤ l.length ∧ (l.take k).all rightB = true) (fun k => l.length - k) 0 ⟨Nat.zero_le _, by simp⟩ (ent ⟨.refl _, .refl _, .refl _, .refl _, trivial⟩ trivial) ?_
  rintro k ⟨hk, hall⟩
  refine cq_seq ?_
  refine cq_region ?_
  apply sq_g; exact g_cmp rfl rfl rfl; exact rfl
  refine sq_nil ?_
  refine sq_then ?_
  refine cq_seq ?_
  (refine cq_cond rfl (fun hb => ?_) (fun hb => ?_) <;> (try simp only [decide_eq_true_eq, decide_eq_false_iff_not, beq_iff_eq, beq_eq_false_iff_ne, bne_iff_ne, bne_eq_false_iff_eq, ne_eq, Bool.not_eq_true', Bool.not_eq_false', Bool.and_eq_true, Bool.or_eq_true, Bool.and_eq_false_iff, Bool.or_eq_false_iff] at hb) <;> (try (exfalso; omega)))
  · have hkl : k < l.length := by omega
    refine cq_skip ?_
    refine sq_then ?_
    refine cq_seq ?_
    refine cq_block ?_
    refine cq_seq ?_
    refine cq_region ?_
    apply sq_g; exact g_index rfl rfl rfl (by omega); exact rfl
    apply sq_g; exact g_load_agg (us := [.int _ _, .int _ _]) rfl rfl rfl rfl; exact rfl
    refine sq_v (f_alloc 10 rfl) rfl ?_
    refine sq_s (g_store_agg rfl rfl rfl rfl rfl rfl) ?_
    refine sq_nil ?_
    refine sq_then ?_
    refine cq_seq ?_
    refine cq_region ?_
    apply sq_g; exact g_move (s := .av _) rfl; exact rfl
    apply sq_g; exact g_load_own_agg (us := [.int _ _, .int _ _]) rfl rfl rfl rfl; exact rfl
    apply sq_g; exact g_callv (flat_c _) rfl rfl; exact rfl
    apply sq_g; exact g_not rfl; exact rfl
    refine sq_nil ?_
    refine sq_then ?_
    (refine cq_cond rfl (fun hb => ?_) (fun hb => ?_) <;> (try simp only [decide_eq_true_eq, decide_eq_false_iff_not, beq_iff_eq, beq_eq_false_iff_ne, bne_iff_ne, bne_eq_false_iff_eq, ne_eq, Bool.not_eq_true', Bool.not_eq_false', Bool.and_eq_true, Bool.or_eq_true, Bool.and_eq_false_iff, Bool.or_eq_false_iff] at hb) <;> (try (exfalso; omega)))
    · refine cq_seq ?_
      refine cq_region ?_
      apply sq_g; exact g_assign (s := .av (.val (.int _ _))) rfl; exact rfl
      refine sq_nil ?_
      refine sq_then ?_
      refine cq_ret ?_
      refine sq_inBlock_ret ?_
      refine sq_then_ret ?_
      refine sq_then_ret ?_
      refine sq_inBlock_ret ?_
      refine sq_then_ret ?_
      refine sq_res1 rfl (.tmp rfl) (congrArg vi ?_)
      have : ¬ l.all rightB = true := fun h => by
        have := List.all_eq_true.1 h (gp l k) (gp_mem hkl)
        simp [this] at hb
      simp [this]
    · refine cq_skip ?_
      refine sq_then ?_
      refine cq_region ?_
      apply sq_g; exact g_arith rfl rfl rfl (by omega); exact rfl
      apply sq_g; exact g_move (s := .av (.val (.int _ _))) rfl; exact rfl
      refine sq_nil ?_
      exact sq_round (k + 1) ⟨by omega, by rw [take_gp hkl]; simp only [List.all_append, hall, List.all_cons, List.all_nil, Bool.and_true, Bool.true_and]; exact hb⟩ (by omega) (ent ⟨.refl _, .refl _, .refl _, .int (by omega), trivial⟩ trivial)
  · refine cq_exit ?_
    refine sq_then ?_
    refine cq_seq ?_
    refine cq_region ?_
    apply sq_g; exact g_assign (s := .av (.val (.int _ _))) rfl; exact rfl
    refine sq_nil ?_
    refine sq_then ?_
    refine cq_ret ?_
    have : k = l.length := by omega
    subst this
    rw [List.take_length] at hall
    exact sq_res1 rfl (.tmp rfl) (congrArg vi (by simp [hall]))
theorem pchecked_c (l : List Pt) : CtrA Tryz.prog 112 [pts l, .val (.func (.func 113) #[] #[])] (vi (chk l)) := by
  refine ctrA _ Tryz.func112 rfl rfl Tryz.ntmps112 rfl fun w Z => ?_
  simp only [initT, List.map_cons, List.map_nil, Nat.zero_add, Nat.reduceAdd]
  refine cq_seq ?_
  refine cq_region ?_
  apply sq_g; exact g_assign (s := .av (.val (.int _ _))) rfl; exact rfl
  refine sq_nil ?_
  refine sq_then ?_
  refine cq_seq ?_
  refine cq_seq ?_
  refine cq_region ?_
  apply sq_g; exact g_move (s := .av _) rfl; exact rfl
  apply sq_g; exact g_len rfl; exact rfl
  apply sq_g; exact g_cmp rfl rfl rfl; exact rfl
  refine sq_nil ?_
  refine sq_then ?_
  (refine cq_cond rfl (fun hb => ?_) (fun hb => ?_) <;> (try simp only [decide_eq_true_eq, decide_eq_false_iff_not, beq_iff_eq, beq_eq_false_iff_ne, bne_iff_ne, bne_eq_false_iff_eq, ne_eq, Bool.not_eq_true', Bool.not_eq_false', Bool.and_eq_true, Bool.or_eq_true, Bool.and_eq_false_iff, Bool.or_eq_false_iff] at hb) <;> (try (exfalso; omega)))
  · refine cq_seq ?_
    refine cq_region ?_
    apply sq_g; exact g_assign (s := .av (.val (.int _ _))) rfl; exact rfl
    refine sq_nil ?_
    refine sq_then ?_
    refine cq_ret ?_
    refine sq_then_ret ?_
    exact sq_res1 rfl (.tmp rfl) (by simp [chk]; omega)
  · refine cq_skip ?_
    refine sq_then ?_
    refine cq_seq ?_
    refine cq_region ?_
    apply sq_g; exact g_move (s := .av _) rfl; exact rfl
    apply sq_g; exact g_move (s := .av _) rfl; exact rfl
    apply sq_g; exact g_call (pall_c l (by omega)) rfl; exact rfl
    apply sq_g; exact g_assign (s := .av (.val (.int _ _))) rfl; exact rfl
    refine sq_nil ?_
    refine sq_then ?_
    refine cq_ret ?_
    exact sq_res1 rfl (.tmp rfl) (congrArg vi (by simp [chk, show ¬ 64 < l.length by omega]))
theorem pcheck_c (l : List Pt) : CtrA Tryz.prog 84 [pts l] (vi (chk l)) := by
  refine ctrA _ Tryz.func84 rfl rfl Tryz.ntmps84 rfl fun w Z => ?_
  simp only [initT, List.map_cons, List.map_nil, Nat.zero_add, Nat.reduceAdd]
  refine cq_seq ?_
  refine cq_region ?_
  apply sq_g; exact g_assign (s := .av (.val (.int _ _))) rfl; exact rfl
  refine sq_nil ?_
  refine sq_then ?_
  refine cq_seq ?_
  refine cq_region ?_
  apply sq_g; exact g_move (s := .av _) rfl; exact rfl
  apply sq_g; exact g_call (pchecked_c l) rfl; exact rfl
  apply sq_g; exact g_assign (s := .av (.val (.int _ _))) rfl; exact rfl
  refine sq_nil ?_
  refine sq_then ?_
  refine cq_ret ?_
  exact sq_res1 rfl (.tmp rfl) rfl
theorem hless_c (a b : Pt) (h1 : SmP a) (h2 : SmP b) : CtrA Tryz.prog 89 [pp a, pp b] (pp (sub a b)) := by
  refine ctrA _ Tryz.func89 rfl rfl Tryz.ntmps89 rfl fun w Z => ?_
  simp only [initT, List.map_cons, List.map_nil, Nat.zero_add, Nat.reduceAdd]
  refine cq_seq ?_
  refine cq_region ?_
  apply sq_g; exact g_box_agg rfl; exact rfl
  apply sq_g; exact g_box_agg rfl; exact rfl
  refine sq_v (f_alloc 10 rfl) rfl ?_
  refine sq_nil ?_
  refine sq_then ?_
  refine cq_seq ?_
  refine cq_region ?_
  apply sq_g; exact g_field rfl; exact rfl
  apply sq_g; exact g_load (τ := .val (.int _ _)) rfl rfl rfl; exact rfl
  apply sq_g; exact g_field rfl; exact rfl
  apply sq_g; exact g_load (τ := .val (.int _ _)) rfl rfl rfl; exact rfl
  apply sq_g; exact g_arith rfl rfl rfl (by omega); exact rfl
  apply sq_g; exact g_field rfl; exact rfl
  apply sq_g; exact g_load (τ := .val (.int _ _)) rfl rfl rfl; exact rfl
  apply sq_g; exact g_field rfl; exact rfl
  apply sq_g; exact g_load (τ := .val (.int _ _)) rfl rfl rfl; exact rfl
  apply sq_g; exact g_arith rfl rfl rfl (by omega); exact rfl
  apply sq_g; exact g_build (is := [0, 1]) (xs := [_, _]) (vs := [_, _]) (tb107 _ _) rfl rfl; exact rfl
  refine sq_s (g_store_agg rfl rfl rfl rfl rfl rfl) ?_
  refine sq_nil ?_
  refine sq_then ?_
  refine cq_ret ?_
  exact sq_res1 rfl (.agg (us := [_, _]) rfl rfl rfl rfl) rfl
theorem hleft_c (a b c : Pt) (h1 : SmP a) (h2 : SmP b) (h3 : SmP c) : CtrA Tryz.prog 87 [pp a, pp b, pp c] (vi (crs a b c)) := by
  refine ctrA _ Tryz.func87 rfl rfl Tryz.ntmps87 rfl fun w Z => ?_
  have k1 := sub_bd h2 h1
  have k2 := sub_bd h3 h1
  simp only [initT, List.map_cons, List.map_nil, Nat.zero_add, Nat.reduceAdd]
  refine cq_seq ?_
  refine cq_region ?_
  apply sq_g; exact g_box_agg rfl; exact rfl
  apply sq_g; exact g_box_agg rfl; exact rfl
  apply sq_g; exact g_box_agg rfl; exact rfl
  apply sq_g; exact g_assign (s := .av (.val (.int _ _))) rfl; exact rfl
  refine sq_nil ?_
  refine sq_then ?_
  refine cq_seq ?_
  refine cq_drawn ?_
  apply dq_g; exact g_load_agg (us := [.int _ _, .int _ _]) rfl rfl rfl rfl; exact rfl
  apply dq_g; exact g_load_agg (us := [.int _ _, .int _ _]) rfl rfl rfl rfl; exact rfl
  apply dq_g; exact g_call (hless_c _ _ h2 h1) rfl; exact rfl
  apply dq_g; exact g_load_agg (us := [.int _ _, .int _ _]) rfl rfl rfl rfl; exact rfl
  apply dq_g; exact g_load_agg (us := [.int _ _, .int _ _]) rfl rfl rfl rfl; exact rfl
  apply dq_g; exact g_call (hless_c _ _ h3 h1) rfl; exact rfl
  refine dq_v (ga_alloc 10) rfl rfl ?_
  refine dq_v (ga_alloc 11) rfl rfl ?_
  refine dq_s (g_store_agg rfl rfl rfl rfl rfl rfl) ?_
  refine dq_s (g_store_agg rfl rfl rfl rfl rfl rfl) ?_
  refine dq_nil tm rfl ?_
  refine sq_then ?_
  refine cq_seq ?_
  refine cq_region ?_
  apply sq_g; exact g_field_own rfl; exact rfl
  apply sq_g; exact g_load_own (s := .av (.val (.int _ _))) rfl rfl rfl; exact rfl
  apply sq_g; exact g_field_own rfl; exact rfl
  apply sq_g; exact g_load_own (s := .av (.val (.int _ _))) rfl rfl rfl; exact rfl
  apply sq_g; exact g_mulB rfl rfl (by omega) (by omega); exact rfl
  apply sq_g; exact g_field_own rfl; exact rfl
  apply sq_g; exact g_load_own (s := .av (.val (.int _ _))) rfl rfl rfl; exact rfl
  apply sq_g; exact g_field_own rfl; exact rfl
  apply sq_g; exact g_load_own (s := .av (.val (.int _ _))) rfl rfl rfl; exact rfl
  apply sq_g; exact g_mulB rfl rfl (by omega) (by omega); exact rfl
  apply sq_g; exact g_subP rfl rfl (by omega) (by omega) (by omega) (by omega); exact rfl
  apply sq_g; exact g_assign (s := .av (.val (.int _ _))) rfl; exact rfl
  refine sq_nil ?_
  refine sq_then ?_
  refine cq_ret ?_
  exact sq_res1 rfl (.tmp rfl) rfl
end Go.Proofs.YtdoppiajbpmmkaaGreat
namespace Go.Proofs.YtdoppiajbpmmkaaGreat
open Go Go.Vc Go.RowKit
set_option maxHeartbeats 400000
/-! sorting -/
theorem nan_c (n : Int) : CtrA Tryz.prog 150 [vi n] (vb false) := by
  refine ctrA _ Tryz.func150 rfl rfl Tryz.ntmps150 rfl fun w Z => ?_
  simp only [initT, List.map_cons, List.map_nil, Nat.zero_add, Nat.reduceAdd]
  refine cq_seq ?_
  refine cq_region ?_
  apply sq_g; exact g_assign (s := .av (.val (.bool _))) rfl; exact rfl
  refine sq_nil ?_
  refine sq_then ?_
  refine cq_seq ?_
  refine cq_region ?_
  apply sq_g; exact g_move (s := .av (.val (.int _ _))) rfl; exact rfl
  apply sq_g; exact g_move (s := .av (.val (.int _ _))) rfl; exact rfl
  apply sq_g; exact g_cmp rfl rfl rfl; exact rfl
  apply sq_g; exact g_assign (s := .av (.val (.bool _))) rfl; exact rfl
  refine sq_nil ?_
  refine sq_then ?_
  refine cq_ret ?_
  exact sq_res1 rfl (.tmp rfl) (congrArg vb (by simp))
theorem compare_c (a b : Int) : CtrA Tryz.prog 141 [vi a, vi b] (vi (cmpI a b)) := by
  refine ctrA _ Tryz.func141 rfl rfl Tryz.ntmps141 rfl fun w Z => ?_
  simp only [initT, List.map_cons, List.map_nil, Nat.zero_add, Nat.reduceAdd]
  refine cq_seq ?_
  refine cq_region ?_
  apply sq_g; exact g_assign (s := .av (.val (.int _ _))) rfl; exact rfl
  refine sq_nil ?_
  refine sq_then ?_
  refine cq_seq ?_
  refine cq_region ?_
  apply sq_g; exact g_move (s := .av (.val (.int _ _))) rfl; exact rfl
  apply sq_g; exact g_call (nan_c _) rfl; exact rfl
  apply sq_g; exact g_assign (s := .av (.val (.bool _))) rfl; exact rfl
  refine sq_nil ?_
  refine sq_then ?_
  refine cq_seq ?_
  refine cq_region ?_
  apply sq_g; exact g_move (s := .av (.val (.int _ _))) rfl; exact rfl
  apply sq_g; exact g_call (nan_c _) rfl; exact rfl
  apply sq_g; exact g_assign (s := .av (.val (.bool _))) rfl; exact rfl
  refine sq_nil ?_
  refine sq_then ?_
  refine cq_seq ?_
  refine cq_seq ?_
  refine cq_region ?_
  apply sq_g; exact g_move (s := .av (.val (.bool _))) rfl; exact rfl
  refine sq_nil ?_
  refine sq_then ?_
  refine cq_cond_f rfl ?_
  refine cq_skip ?_
  refine sq_then ?_
  refine cq_seq ?_
  refine cq_seq ?_
  refine cq_region ?_
  apply sq_g; exact g_move (s := .av (.val (.bool _))) rfl; exact rfl
  refine sq_nil ?_
  refine sq_then ?_
  refine cq_cond_f rfl ?_
  refine cq_skip ?_
  refine sq_then ?_
  refine cq_seq ?_
  refine cq_seq ?_
  refine cq_region ?_
  apply sq_g; exact g_move (s := .av (.val (.int _ _))) rfl; exact rfl
  apply sq_g; exact g_move (s := .av (.val (.int _ _))) rfl; exact rfl
  apply sq_g; exact g_cmp rfl rfl rfl; exact rfl
  refine sq_nil ?_
  refine sq_then ?_
  (refine cq_cond rfl (fun hb => ?_) (fun hb => ?_) <;> (try simp only [decide_eq_true_eq, decide_eq_false_iff_not, beq_iff_eq, beq_eq_false_iff_ne, bne_iff_ne, bne_eq_false_iff_eq, ne_eq, Bool.not_eq_true', Bool.not_eq_false', Bool.and_eq_true, Bool.or_eq_true, Bool.and_eq_false_iff, Bool.or_eq_false_iff] at hb) <;> (try (exfalso; omega)))
  · refine cq_seq ?_
    refine cq_region ?_
    apply sq_g; exact g_assign (s := .av (.val (.int _ _))) rfl; exact rfl
    refine sq_nil ?_
    refine sq_then ?_
    refine cq_ret ?_
    refine sq_then_ret ?_
    exact sq_res1 rfl (.tmp rfl) (congrArg vi (by simp [cmpI, hb]))
  · refine cq_skip ?_
    refine sq_then ?_
    refine cq_seq ?_
    refine cq_seq ?_
    refine cq_region ?_
    apply sq_g; exact g_move (s := .av (.val (.int _ _))) rfl; exact rfl
    apply sq_g; exact g_move (s := .av (.val (.int _ _))) rfl; exact rfl
    apply sq_g; exact g_cmp rfl rfl rfl; exact rfl
    refine sq_nil ?_
    refine sq_then ?_
    (refine cq_cond rfl (fun hb => ?_) (fun hb => ?_) <;> (try simp only [decide_eq_true_eq, decide_eq_false_iff_not, beq_iff_eq, beq_eq_false_iff_ne, bne_iff_ne, bne_eq_false_iff_eq, ne_eq, Bool.not_eq_true', Bool.not_eq_false', Bool.and_eq_true, Bool.or_eq_true, Bool.and_eq_false_iff, Bool.or_eq_false_iff] at hb) <;> (try (exfalso; omega)))
    · refine cq_seq ?_
      refine cq_region ?_
      apply sq_g; exact g_assign (s := .av (.val (.int _ _))) rfl; exact rfl
      refine sq_nil ?_
      refine sq_then ?_
      refine cq_ret ?_
      refine sq_then_ret ?_
      exact sq_res1 rfl (.tmp rfl) (congrArg vi (by simp [cmpI, hb]; omega))
    · refine cq_skip ?_
      refine sq_then ?_
      refine cq_seq ?_
      refine cq_region ?_
      apply sq_g; exact g_assign (s := .av (.val (.int _ _))) rfl; exact rfl
      refine sq_nil ?_
      refine sq_then ?_
      refine cq_ret ?_
      exact sq_res1 rfl (.tmp rfl) (congrArg vi (by simp [cmpI]; omega))
def ils (a b : Int) : AV := .sl 2 1 (fun i _ => match i with | 0 => vi a | _ => vi b)
theorem tq27_2 (x0 x1 : Int) (w : World) : (Instr.buildSlice 26 2 #[(0, .int .i64 x0), (1, .int .i64 x1)]).run Tryz.prog w = .ok (.slice (some ⟨w.heap.size, 0, none⟩) 2 2) (w.alloc (.cells #[.int .i64 x0, .int .i64 x1] 3)) := by kernel_rfl
theorem ils_row (a b : Int) : ∀ (i : Nat), i < 2 → ∀ (j : Nat), j < 1 → ∃ u, ([Value.int .i64 a, .int .i64 b])[i * 1 + j]? = some u ∧ (match i with | 0 => vi a | _ => vi b) = AV.val u := by
  intro i hi j hj
  obtain rfl : j = 0 := by omega
  match i, hi with
  | 0, _ => exact ⟨_, rfl, rfl⟩
  | 1, _ => exact ⟨_, rfl, rfl⟩
theorem or_c (a b : Int) : CtrA Tryz.prog 140 [ils a b] (vi (if a = 0 then b else a)) := by
  refine ctrA _ Tryz.func140 rfl rfl Tryz.ntmps140 rfl fun w Z => ?_
  simp only [initT, List.map_cons, List.map_nil, Nat.zero_add, Nat.reduceAdd]
  refine cq_seq ?_
  refine cq_region ?_
  apply sq_g; exact g_assign (s := .av (.val (.int _ _))) rfl; exact rfl
  refine sq_nil ?_
  refine sq_then ?_
  refine cq_seq ?_
  refine cq_region ?_
  apply sq_g; exact g_assign (s := .av (.val (.int _ _))) rfl; exact rfl
  refine sq_nil ?_
  refine sq_then ?_
  refine cq_seq ?_
  refine cq_seq ?_
  refine cq_region ?_
  apply sq_g; exact g_move (s := .av _) rfl; exact rfl
  apply sq_g; exact g_len rfl; exact rfl
  apply sq_g; exact g_move (s := .av (.val (.int _ _))) rfl; exact rfl
  refine sq_nil ?_
  refine sq_then ?_
  refine cq_block ?_
  refine cq_loop (γ := Nat) (fun k => [(3, .av (vi 0)), (6, .av (ils a b)), (7, .av (vi 2)), (8, .av (vi k))]) (fun _ => []) (fun k => k ≤ 2 ∧ (0 < k → a = 0) ∧ (1 < k → b = 0)) (fun k => 2 - k) 0 ⟨by omega, by omega, by omega⟩ (ent ⟨.refl _, .refl _, .refl _, .refl _, trivial⟩ trivial) ?_
  rintro k ⟨hk, h1, h2⟩
  refine cq_seq ?_
  refine cq_region ?_
  apply sq_g; exact g_cmp rfl rfl rfl; exact rfl
  refine sq_nil ?_
  refine sq_then ?_
  refine cq_seq ?_
  (refine cq_cond rfl (fun hb => ?_) (fun hb => ?_) <;> (try simp only [decide_eq_true_eq, decide_eq_false_iff_not, beq_iff_eq, beq_eq_false_iff_ne, bne_iff_ne, bne_eq_false_iff_eq, ne_eq, Bool.not_eq_true', Bool.not_eq_false', Bool.and_eq_true, Bool.or_eq_true, Bool.and_eq_false_iff, Bool.or_eq_false_iff] at hb) <;> (try (exfalso; omega)))
  · match k, hk, h1, h2, hb with
    | 0, hk, h1, h2, hb =>
      refine cq_skip ?_
      refine sq_then ?_
      refine cq_seq ?_
      refine cq_block ?_
      refine cq_seq ?_
      refine cq_region ?_
      apply sq_g; exact g_index rfl rfl rfl (by omega); exact rfl
      apply sq_g; exact g_load (τ := .val (.int _ _)) rfl rfl rfl; exact rfl
      apply sq_g; exact g_assign (s := .av (.val (.int _ _))) rfl; exact rfl
      refine sq_nil ?_
      refine sq_then ?_
      refine cq_seq ?_
      refine cq_region ?_
      apply sq_g; exact g_move (s := .av (.val (.int _ _))) rfl; exact rfl
      apply sq_g; exact g_move (s := .av (.val (.int _ _))) rfl; exact rfl
      apply sq_g; exact g_cmp rfl rfl rfl; exact rfl
      refine sq_nil ?_
      refine sq_then ?_
      (refine cq_cond rfl (fun hb => ?_) (fun hb => ?_) <;> (try simp only [decide_eq_true_eq, decide_eq_false_iff_not, beq_iff_eq, beq_eq_false_iff_ne, bne_iff_ne, bne_eq_false_iff_eq, ne_eq, Bool.not_eq_true', Bool.not_eq_false', Bool.and_eq_true, Bool.or_eq_true, Bool.and_eq_false_iff, Bool.or_eq_false_iff] at hb) <;> (try (exfalso; omega)))
      · refine cq_seq ?_
        refine cq_region ?_
        apply sq_g; exact g_move (s := .av (.val (.int _ _))) rfl; exact rfl
        apply sq_g; exact g_assign (s := .av (.val (.int _ _))) rfl; exact rfl
        refine sq_nil ?_
        refine sq_then ?_
        refine cq_ret ?_
        refine sq_inBlock_ret ?_
        refine sq_then_ret ?_
        refine sq_then_ret ?_
        refine sq_inBlock_ret ?_
        refine sq_then_ret ?_
        exact sq_res1 rfl (.tmp rfl) (congrArg vi (by rw [if_neg hb]))
      · refine cq_skip ?_
        refine sq_then ?_
        refine cq_region ?_
        apply sq_g; exact g_arith rfl rfl rfl (by omega); exact rfl
        apply sq_g; exact g_move (s := .av (.val (.int _ _))) rfl; exact rfl
        refine sq_nil ?_
        exact sq_round 1 ⟨by omega, by omega, by omega⟩ (by omega) (ent ⟨.refl _, .refl _, .refl _, .int (by omega), trivial⟩ trivial)
    | 1, hk, h1, h2, hb =>
      refine cq_skip ?_
      refine sq_then ?_
      refine cq_seq ?_
      refine cq_block ?_
      refine cq_seq ?_
      refine cq_region ?_
      apply sq_g; exact g_index rfl rfl rfl (by omega); exact rfl
      apply sq_g; exact g_load (τ := .val (.int _ _)) rfl rfl rfl; exact rfl
      apply sq_g; exact g_assign (s := .av (.val (.int _ _))) rfl; exact rfl
      refine sq_nil ?_
      refine sq_then ?_
      refine cq_seq ?_
      refine cq_region ?_
      apply sq_g; exact g_move (s := .av (.val (.int _ _))) rfl; exact rfl
      apply sq_g; exact g_move (s := .av (.val (.int _ _))) rfl; exact rfl
      apply sq_g; exact g_cmp rfl rfl rfl; exact rfl
      refine sq_nil ?_
      refine sq_then ?_
      (refine cq_cond rfl (fun hb => ?_) (fun hb => ?_) <;> (try simp only [decide_eq_true_eq, decide_eq_false_iff_not, beq_iff_eq, beq_eq_false_iff_ne, bne_iff_ne, bne_eq_false_iff_eq, ne_eq, Bool.not_eq_true', Bool.not_eq_false', Bool.and_eq_true, Bool.or_eq_true, Bool.and_eq_false_iff, Bool.or_eq_false_iff] at hb) <;> (try (exfalso; omega)))
      · refine cq_seq ?_
        refine cq_region ?_
        apply sq_g; exact g_move (s := .av (.val (.int _ _))) rfl; exact rfl
        apply sq_g; exact g_assign (s := .av (.val (.int _ _))) rfl; exact rfl
        refine sq_nil ?_
        refine sq_then ?_
        refine cq_ret ?_
        refine sq_inBlock_ret ?_
        refine sq_then_ret ?_
        refine sq_then_ret ?_
        refine sq_inBlock_ret ?_
        refine sq_then_ret ?_
        exact sq_res1 rfl (.tmp rfl) (congrArg vi (by rw [if_pos (h1 (by omega))]))
      · refine cq_skip ?_
        refine sq_then ?_
        refine cq_region ?_
        apply sq_g; exact g_arith rfl rfl rfl (by omega); exact rfl
        apply sq_g; exact g_move (s := .av (.val (.int _ _))) rfl; exact rfl
        refine sq_nil ?_
        exact sq_round 2 ⟨by omega, by omega, by omega⟩ (by omega) (ent ⟨.refl _, .refl _, .refl _, .int (by omega), trivial⟩ trivial)
    | k + 2, hk, h1, h2, hb => exfalso; omega
  · refine cq_exit ?_
    refine sq_then ?_
    refine cq_seq ?_
    refine cq_region ?_
    apply sq_g; exact g_move (s := .av (.val (.int _ _))) rfl; exact rfl
    apply sq_g; exact g_assign (s := .av (.val (.int _ _))) rfl; exact rfl
    refine sq_nil ?_
    refine sq_then ?_
    refine cq_ret ?_
    exact sq_res1 rfl (.tmp rfl) (congrArg vi (by rw [if_pos (h1 (by omega)), h2 (by omega)]))
abbrev lp (l : List Pt) : AV := .ptr 1 (fun _ => pts l)
theorem ordc_c (l : List Pt) (i k : Nat) (hi : i < l.length) (hk : k < l.length) : CtrA Tryz.prog 139 [vi i, vi k, lp l] (vi (ordC l i k)) := by
  refine ctrA _ Tryz.func139 rfl rfl Tryz.ntmps139 rfl fun w Z => ?_
  simp only [initT, List.map_cons, List.map_nil, Nat.zero_add, Nat.reduceAdd]
  refine cq_seq ?_
  refine cq_region ?_
  apply sq_g; exact g_assign (s := .av (.val (.int _ _))) rfl; exact rfl
  refine sq_nil ?_
  refine sq_then ?_
  refine cq_seq ?_
  refine cq_drawn ?_
  apply dq_g; exact g_load rfl rfl rfl; exact rfl
  apply dq_g; exact g_move (s := .av (.val (.int _ _))) rfl; exact rfl
  apply dq_g; exact g_index rfl rfl rfl (by omega); exact rfl
  apply dq_g; exact g_field rfl; exact rfl
  apply dq_g; exact g_load (τ := .val (.int _ _)) rfl rfl rfl; exact rfl
  apply dq_g; exact g_load rfl rfl rfl; exact rfl
  apply dq_g; exact g_move (s := .av (.val (.int _ _))) rfl; exact rfl
  apply dq_g; exact g_index rfl rfl rfl (by omega); exact rfl
  apply dq_g; exact g_field rfl; exact rfl
  apply dq_g; exact g_load (τ := .val (.int _ _)) rfl rfl rfl; exact rfl
  apply dq_g; exact g_call (compare_c _ _) rfl; exact rfl
  apply dq_g; exact g_load rfl rfl rfl; exact rfl
  apply dq_g; exact g_move (s := .av (.val (.int _ _))) rfl; exact rfl
  apply dq_g; exact g_index rfl rfl rfl (by omega); exact rfl
  apply dq_g; exact g_field rfl; exact rfl
  apply dq_g; exact g_load (τ := .val (.int _ _)) rfl rfl rfl; exact rfl
  apply dq_g; exact g_load rfl rfl rfl; exact rfl
  apply dq_g; exact g_move (s := .av (.val (.int _ _))) rfl; exact rfl
  apply dq_g; exact g_index rfl rfl rfl (by omega); exact rfl
  apply dq_g; exact g_field rfl; exact rfl
  apply dq_g; exact g_load (τ := .val (.int _ _)) rfl rfl rfl; exact rfl
  apply dq_g; exact g_call (compare_c _ _) rfl; exact rfl
  apply dq_g; exact  g_bslice (is := [0, 1]) (xs := [_, _]) (vs := [_, _]) (us := [_, _]) (tq27_2 _ _) rfl rfl rfl (ils_row _ _); exact rfl
  apply dq_g; exact g_call (or_c _ _) rfl; exact rfl
  apply dq_g; exact g_assign (s := .av (.val (.int _ _))) rfl; exact rfl
  refine dq_nil tm rfl ?_
  refine sq_then ?_
  refine cq_ret ?_
  exact sq_res1 rfl (.tmp rfl) rfl
theorem xf_swp {v : List Nat} {a b : Nat} (ha : a < v.length) (hb : b < v.length) (hab : a ≠ b) : ∀ i, i < v.length → ∀ j, j < 1 → rowSet (rowSet (xf v) a 0 [vi (gi v b)]) b 0 [vi (gi v a)] i j = xf (swp v a b) i j := by
  intro i hi j hj
  obtain rfl : j = 0 := by omega
  unfold rowSet xf
  rw [gi_swp ha hb]
  by_cases h1 : i = b
  · simp [h1]
  · by_cases h2 : i = a
    · simp [h2, hab]
    · simp [h1, h2]
abbrev ocl (l : List Pt) : AV := .clo 139 1 (fun i => [lp l].getD i .any)
theorem isort_c (l : List Pt) (v : List Nat) (a b : Nat) (hv : ∀ k, k < v.length → gi v k < l.length) (hab : a ≤ b) (hb' : b ≤ v.length) (hn : v.length ≤ 1000) :
    CtrW Tryz.prog 162 [vi a, vi b, ocl l] 3 1 v.length (xf v) v.length (xf (isortR (fun i k => decide (ordC l i k < 0)) a b v (a + 1))) false := by
  refine ctrW _ Tryz.func162 rfl rfl Tryz.ntmps162 rfl fun w Z v0 => ?_
  simp only [initT, List.map_cons, List.map_nil, Nat.zero_add, Nat.reduceAdd]
  refine cq_seq ?_
  refine cq_region ?_
  apply sq_g; exact g_move (s := .av (.val (.int _ _))) rfl; exact rfl
  apply sq_g; exact g_arith rfl rfl rfl (by omega); exact rfl
  apply sq_g; exact g_assign (s := .av (.val (.int _ _))) rfl; exact rfl
  refine sq_nil ?_
  refine sq_then ?_
  refine cq_block ?_
  refine cq_loop (γ := List Nat × Nat) (fun g => [(0, .osl 0), (1, .av (vi a)), (2, .av (vi b)), (3, .av (ocl l)), (8, .av (vi g.2))]) (fun g => [(0, .row 3 1 g.1.length (xf g.1))])
    (fun g => g.1.length = v.length ∧ (∀ k, k < g.1.length → gi g.1 k < l.length) ∧ isortR (fun i k => decide (ordC l i k < 0)) a b g.1 g.2 = isortR (fun i k => decide (ordC l i k < 0)) a b v (a + 1) ∧ a < g.2 ∧ g.2 ≤ b + 1) (fun g => b + 1 - g.2) (v, a + 1) ⟨rfl, hv, rfl, by simp, by simp; omega⟩ (ent ⟨.refl _, .refl _, .refl _, .refl _, .int (by simp), trivial⟩ ⟨⟨_, rfl, .refl _⟩, trivial⟩) ?_
  rintro ⟨u, i⟩ ⟨hl, hu, hS, hai, hib⟩
  simp only at hl hu hS hai hib
  refine cq_seq ?_
  refine cq_seq ?_
  refine cq_region ?_
  apply sq_g; exact g_move (s := .av (.val (.int _ _))) rfl; exact rfl
  apply sq_g; exact g_move (s := .av (.val (.int _ _))) rfl; exact rfl
  apply sq_g; exact g_cmp rfl rfl rfl; exact rfl
  refine sq_nil ?_
  refine sq_then ?_
  (refine cq_cond rfl (fun hb => ?_) (fun hb => ?_) <;> (try simp only [decide_eq_true_eq, decide_eq_false_iff_not, beq_iff_eq, beq_eq_false_iff_ne, bne_iff_ne, bne_eq_false_iff_eq, ne_eq, Bool.not_eq_true', Bool.not_eq_false', Bool.and_eq_true, Bool.or_eq_true, Bool.and_eq_false_iff, Bool.or_eq_false_iff] at hb) <;> (try (exfalso; omega)))
  · refine cq_skip ?_
    refine sq_then ?_
    refine cq_seq ?_
    refine cq_block ?_
    refine cq_seq ?_
    refine cq_region ?_
    apply sq_g; exact g_move (s := .av (.val (.int _ _))) rfl; exact rfl
    apply sq_g; exact g_assign (s := .av (.val (.int _ _))) rfl; exact rfl
    refine sq_nil ?_
    refine sq_then ?_
    refine cq_block ?_
    refine cq_loop (γ := List Nat × Nat) (fun g => [(0, .osl 0), (1, .av (vi a)), (2, .av (vi b)), (3, .av (ocl l)), (8, .av (vi i)), (9, .av (vi g.2))]) (fun g => [(0, .row 3 1 g.1.length (xf g.1))])
      (fun g => g.1.length = v.length ∧ (∀ k, k < g.1.length → gi g.1 k < l.length) ∧ sink (fun i k => decide (ordC l i k < 0)) a g.1 g.2 = sink (fun i k => decide (ordC l i k < 0)) a u i ∧ a ≤ g.2 ∧ g.2 < v.length) (fun g => g.2) (u, i) ⟨hl, hu, rfl, by simp; omega, by simp; omega⟩ (ent ⟨.refl _, .refl _, .refl _, .refl _, .refl _, .refl _, trivial⟩ ⟨⟨_, rfl, .refl _⟩, trivial⟩) ?_
    rintro ⟨t, j⟩ ⟨htl, htu, htS, haj, hjn⟩
    simp only at htl htu htS haj hjn
    dsimp only
    match j, htS, haj, hjn with
    | 0, htS, haj, hjn =>
      refine cq_seq ?_
      refine cq_seq ?_
      refine cq_drawn ?_
      apply dq_g; exact g_move (s := .av (.val (.int _ _))) rfl; exact rfl
      apply dq_g; exact g_move (s := .av (.val (.int _ _))) rfl; exact rfl
      apply dq_g; exact g_cmp rfl rfl rfl; exact rfl
      apply dq_g; exact g_move (s := .av (.val (.bool _))) rfl; exact rfl
      refine dq_off nofun rfl rfl rfl rfl ?_
      refine dq_off nofun rfl rfl rfl rfl ?_
      refine dq_off nofun rfl rfl rfl rfl ?_
      refine dq_off nofun rfl rfl rfl rfl ?_
      refine dq_off nofun rfl rfl rfl rfl ?_
      refine dq_off nofun rfl rfl rfl rfl ?_
      refine dq_off nofun rfl rfl rfl rfl ?_
      refine dq_off nofun rfl rfl rfl rfl ?_
      refine dq_off nofun rfl rfl rfl rfl ?_
      refine dq_off nofun rfl rfl rfl rfl ?_
      refine dq_off nofun rfl rfl rfl rfl ?_
      refine dq_off nofun rfl rfl rfl rfl ?_
      apply dq_g; exact g_pick (s := .av (.val (.bool _))) rfl rfl; exact rfl
      refine dq_nil tm rfl ?_
      refine sq_then ?_
      refine cq_cond_f rfl ?_
      refine cq_exit ?_
      refine sq_then ?_
      refine cq_region ?_
      apply sq_g; exact g_move (s := .av (.val (.int _ _))) rfl; exact rfl
      apply sq_g; exact g_arith rfl rfl rfl (by omega); exact rfl
      apply sq_g; exact g_assign (s := .av (.val (.int _ _))) rfl; exact rfl
      refine sq_nil ?_
      exact sq_round (g := (u, i)) (t, i + 1) ⟨htl, htu, (by rw [← hS, isortR_step (v := u) (i := i) (by omega), ← htS]; rfl : isortR (fun i k => decide (ordC l i k < 0)) a b t (i + 1) = _), by simp; omega, by simp; omega⟩ (by simp; omega) (ent ⟨.refl _, .refl _, .refl _, .refl _, .int (by simp), trivial⟩ ⟨⟨_, rfl, .refl _⟩, trivial⟩)
    | j + 1, htS, haj, hjn =>
      focus
        refine cq_seq ?_
        refine cq_seq ?_
        refine cq_drawn ?_
        apply dq_g; exact g_move (s := .av (.val (.int _ _))) rfl; exact rfl
        apply dq_g; exact g_move (s := .av (.val (.int _ _))) rfl; exact rfl
        apply dq_g; exact g_cmp rfl rfl rfl; exact rfl
        apply dq_g; exact g_move (s := .av (.val (.bool _))) rfl; exact rfl
        refine dq_split rfl rfl (fun hb => ?_) (fun hb => ?_) <;> (try simp only [decide_eq_true_eq, decide_eq_false_iff_not, beq_iff_eq, beq_eq_false_iff_ne, bne_iff_ne, bne_eq_false_iff_eq, ne_eq, Bool.not_eq_true', Bool.not_eq_false', Bool.and_eq_true, Bool.or_eq_true, Bool.and_eq_false_iff, Bool.or_eq_false_iff] at hb) <;> (try (exfalso; omega))
        apply dq_on; exact g_move (s := .av _) rfl; exact rfl; exact rfl; exact rfl
        apply dq_on; exact g_move (s := .osl _) rfl; exact rfl; exact rfl; exact rfl
        apply dq_on; exact g_move (s := .av (.val (.int _ _))) rfl; exact rfl; exact rfl; exact rfl
        apply dq_on; exact g_index_row rfl rfl rfl rfl (by omega); exact rfl; exact rfl; exact rfl
        apply dq_on; exact g_load_oel (τ := .val (.int _ _)) rfl rfl (by omega) rfl rfl; exact rfl; exact rfl; exact rfl
        apply dq_on; exact g_move (s := .osl _) rfl; exact rfl; exact rfl; exact rfl
        apply dq_on; exact g_move (s := .av (.val (.int _ _))) rfl; exact rfl; exact rfl; exact rfl
        apply dq_on; exact g_arith rfl rfl rfl (by omega); exact rfl; exact rfl; exact rfl
        apply dq_on; exact  g_index_row (k := j) rfl rfl rfl (by omega) (by omega); exact rfl; exact rfl; exact rfl
        apply dq_on; exact g_load_oel (τ := .val (.int _ _)) rfl rfl (by omega) rfl rfl; exact rfl; exact rfl; exact rfl
        apply dq_on; exact  g_callc (τs := [_, _]) (n := 1) (cf := fun i => [lp l].getD i .any) (ordc_c l _ _ (htu _ (by omega)) (htu _ (by omega))) rfl rfl; exact rfl; exact rfl; exact rfl
        apply dq_on; exact g_cmp rfl rfl rfl; exact rfl; exact rfl; exact rfl
        apply dq_g; exact g_pick (s := .av (.val (.bool _))) rfl rfl; exact rfl
        refine dq_nil tm rfl ?_
        refine sq_then ?_
        rotate_left
        refine dq_off nofun rfl rfl rfl rfl ?_
        refine dq_off nofun rfl rfl rfl rfl ?_
        refine dq_off nofun rfl rfl rfl rfl ?_
        refine dq_off nofun rfl rfl rfl rfl ?_
        refine dq_off nofun rfl rfl rfl rfl ?_
        refine dq_off nofun rfl rfl rfl rfl ?_
        refine dq_off nofun rfl rfl rfl rfl ?_
        refine dq_off nofun rfl rfl rfl rfl ?_
        refine dq_off nofun rfl rfl rfl rfl ?_
        refine dq_off nofun rfl rfl rfl rfl ?_
        refine dq_off nofun rfl rfl rfl rfl ?_
        refine dq_off nofun rfl rfl rfl rfl ?_
        apply dq_g; exact g_pick (s := .av (.val (.bool _))) rfl rfl; exact rfl
        refine dq_nil tm rfl ?_
        refine sq_then ?_
        refine cq_cond_f rfl ?_
        refine cq_exit ?_
        refine sq_then ?_
        refine cq_region ?_
        apply sq_g; exact g_move (s := .av (.val (.int _ _))) rfl; exact rfl
        apply sq_g; exact g_arith rfl rfl rfl (by omega); exact rfl
        apply sq_g; exact g_assign (s := .av (.val (.int _ _))) rfl; exact rfl
        refine sq_nil ?_
        rotate_left
      · have haj' := hb
        (refine cq_cond rfl (fun hb => ?_) (fun hb => ?_) <;> (try simp only [decide_eq_true_eq, decide_eq_false_iff_not, beq_iff_eq, beq_eq_false_iff_ne, bne_iff_ne, bne_eq_false_iff_eq, ne_eq, Bool.not_eq_true', Bool.not_eq_false', Bool.and_eq_true, Bool.or_eq_true, Bool.and_eq_false_iff, Bool.or_eq_false_iff] at hb) <;> (try (exfalso; omega)))
        · refine cq_skip ?_
          refine sq_then ?_
          refine cq_seq ?_
          refine cq_block ?_
          refine cq_drawn ?_
          apply dq_g; exact g_move (s := .osl _) rfl; exact rfl
          apply dq_g; exact g_move (s := .av (.val (.int _ _))) rfl; exact rfl
          apply dq_g; exact g_move (s := .osl _) rfl; exact rfl
          apply dq_g; exact g_move (s := .av (.val (.int _ _))) rfl; exact rfl
          apply dq_g; exact g_arith rfl rfl rfl (by omega); exact rfl
          apply dq_g; exact g_move (s := .osl _) rfl; exact rfl
          apply dq_g; exact g_move (s := .av (.val (.int _ _))) rfl; exact rfl
          apply dq_g; exact g_arith rfl rfl rfl (by omega); exact rfl
          apply dq_g; exact  g_index_row (k := j) rfl rfl rfl (by omega) (by omega); exact rfl
          apply dq_g; exact g_load_oel (τ := .val (.int _ _)) rfl rfl (by omega) rfl rfl; exact rfl
          apply dq_g; exact g_move (s := .osl _) rfl; exact rfl
          apply dq_g; exact g_move (s := .av (.val (.int _ _))) rfl; exact rfl
          apply dq_g; exact g_index_row rfl rfl rfl rfl (by omega); exact rfl
          apply dq_g; exact g_load_oel (τ := .val (.int _ _)) rfl rfl (by omega) rfl rfl; exact rfl
          apply dq_g; exact g_index_row rfl rfl rfl rfl (by omega); exact rfl
          refine dq_s (g_store_oel rfl rfl rfl rfl (by omega) rfl) ?_
          apply dq_g; exact  g_index_row (k := j) rfl rfl rfl (by omega) (by omega); exact rfl
          refine dq_s (g_store_oel rfl rfl rfl rfl (by omega) rfl) ?_
          refine dq_nil tm rfl ?_
          refine sq_then ?_
          refine cq_region ?_
          apply sq_g; exact g_move (s := .av (.val (.int _ _))) rfl; exact rfl
          apply sq_g; exact g_arith rfl rfl rfl (by omega); exact rfl
          apply sq_g; exact g_assign (s := .av (.val (.int _ _))) rfl; exact rfl
          refine sq_nil ?_
          have e : sink (fun i k => decide (ordC l i k < 0)) a t (j + 1) = sink (fun i k => decide (ordC l i k < 0)) a (swp t (j + 1) j) j := by
            rw [sink, if_pos (by simp [hb]; omega)]
          exact sq_round (g := (t, j + 1)) (swp t (j + 1) j, j) ⟨by rw [swp_len]; exact htl, swp_all (v := t) (i := j + 1) (j := j) (p := fun x => x < l.length) (by omega) (by omega) htu, (e.symm.trans htS), by simp; omega, by simp; omega⟩ (by simp) (ent ⟨.refl _, .refl _, .refl _, .refl _, .refl _, .int (by simp), trivial⟩ ⟨⟨_, rfl, .row (swp_len _ _ _).symm (xf_swp (by omega) (by omega) (by omega))⟩, trivial⟩)
        · refine cq_exit ?_
          refine sq_then ?_
          refine cq_region ?_
          apply sq_g; exact g_move (s := .av (.val (.int _ _))) rfl; exact rfl
          apply sq_g; exact g_arith rfl rfl rfl (by omega); exact rfl
          apply sq_g; exact g_assign (s := .av (.val (.int _ _))) rfl; exact rfl
          refine sq_nil ?_
          have e : sink (fun i k => decide (ordC l i k < 0)) a t (j + 1) = t := by
            rw [sink, if_neg (by simp [hb])]
          exact sq_round (g := (u, i)) (t, i + 1) ⟨htl, htu, (by rw [← hS, isortR_step (v := u) (i := i) (by omega), ← htS, e] : isortR (fun i k => decide (ordC l i k < 0)) a b t (i + 1) = _), by simp; omega, by simp; omega⟩ (by simp; omega) (ent ⟨.refl _, .refl _, .refl _, .refl _, .int (by simp), trivial⟩ ⟨⟨_, rfl, .refl _⟩, trivial⟩)
      · have e : sink (fun i k => decide (ordC l i k < 0)) a t (j + 1) = t := by
          rw [sink, if_neg (by simp; omega)]
        exact sq_round (g := (u, i)) (t, i + 1) ⟨htl, htu, (by rw [← hS, isortR_step (v := u) (i := i) (by omega), ← htS, e] : isortR (fun i k => decide (ordC l i k < 0)) a b t (i + 1) = _), by simp; omega, by simp; omega⟩ (by simp; omega) (ent ⟨.refl _, .refl _, .refl _, .refl _, .int (by simp), trivial⟩ ⟨⟨_, rfl, .refl _⟩, trivial⟩)
  · refine cq_exit ?_
    refine sq_then_exit ?_
    refine sq_then_exit ?_
    refine sq_inBlock_exit ?_
    exact sq_retW rfl rfl rfl hl (fun _ _ _ _ => by rw [← hS, isortR_end (by omega)])
end Go.Proofs.YtdoppiajbpmmkaaGreat
namespace Go.Proofs.YtdoppiajbpmmkaaGreat
open Go Go.Vc Go.RowKit
set_option maxHeartbeats 1000000
theorem stable_c (l : List Pt) (v : List Nat) (hv : ∀ k, k < v.length → gi v k < l.length) (hn : v.length ≤ 19) :
    CtrW Tryz.prog 152 [vi v.length, ocl l] 3 1 v.length (xf v) v.length (xf (isortR (fun i k => decide (ordC l i k < 0)) 0 v.length v 1)) false := by
  refine ctrW _ Tryz.func152 rfl rfl Tryz.ntmps152 rfl fun w Z v0 => ?_
  simp only [initT, List.map_cons, List.map_nil, Nat.zero_add, Nat.reduceAdd]
  refine cq_seq ?_
  refine cq_region ?_
  apply sq_g; exact g_assign (s := .av (.val (.int _ _))) rfl; exact rfl
  refine sq_nil ?_
  refine sq_then ?_
  refine cq_seq ?_
  refine cq_region ?_
  apply sq_g; exact g_move (s := .av (.val (.int _ _))) rfl; exact rfl
  apply sq_g; exact g_assign (s := .av (.val (.int _ _))) rfl; exact rfl
  apply sq_g; exact g_assign (s := .av (.val (.int _ _))) rfl; exact rfl
  refine sq_nil ?_
  refine sq_then ?_
  refine cq_seq ?_
  refine cq_block ?_
  refine cq_loop (γ := Unit) (fun _ => [(0, .osl 0), (1, .av (vi v.length)), (2, .av (ocl l)), (6, .av (vi 20)), (7, .av (vi 0)), (8, .av (vi 20))]) (fun _ => [(0, .row 3 1 v.length (xf v))]) (fun _ => True) (fun _ => 0) () trivial (ent ⟨.refl _, .refl _, .refl _, .refl _, .refl _, .refl _, trivial⟩ ⟨⟨_, rfl, .refl _⟩, trivial⟩) ?_
  intro _ _
  refine cq_seq ?_
  refine cq_seq ?_
  refine cq_region ?_
  apply sq_g; exact g_move (s := .av (.val (.int _ _))) rfl; exact rfl
  apply sq_g; exact g_move (s := .av (.val (.int _ _))) rfl; exact rfl
  apply sq_g; exact g_cmp rfl rfl rfl; exact rfl
  refine sq_nil ?_
  refine sq_then ?_
  (refine cq_cond rfl (fun hb => ?_) (fun hb => ?_) <;> (try simp only [decide_eq_true_eq, decide_eq_false_iff_not, beq_iff_eq, beq_eq_false_iff_ne, bne_iff_ne, bne_eq_false_iff_eq, ne_eq, Bool.not_eq_true', Bool.not_eq_false', Bool.and_eq_true, Bool.or_eq_true, Bool.and_eq_false_iff, Bool.or_eq_false_iff] at hb) <;> (try (exfalso; omega)))
  refine cq_exit ?_
  refine sq_then ?_
  refine cq_seq ?_
  refine cq_region ?_
  apply sq_g; exact g_move (s := .osl _) rfl; exact rfl
  apply sq_g; exact g_move (s := .av (.val (.int _ _))) rfl; exact rfl
  apply sq_g; exact g_move (s := .av (.val (.int _ _))) rfl; exact rfl
  apply sq_g; exact g_move (s := .av _) rfl; exact rfl
  refine sq_v (v_call_w (isort_c l v 0 v.length hv (by omega) (by omega) (by omega)) rfl rfl rfl) rfl ?_
  refine sq_nil ?_
  refine sq_then ?_
  refine cq_block ?_
  refine cq_loop (γ := Unit) (fun _ => [(0, .osl 0), (1, .av (vi v.length)), (6, .av (vi 20))]) (fun _ => [(0, .row 3 1 v.length (xf (isortR (fun i k => decide (ordC l i k < 0)) 0 v.length v 1)))]) (fun _ => True) (fun _ => 0) () trivial (ent ⟨.refl _, .refl _, .refl _, trivial⟩ ⟨⟨_, rfl, .refl _⟩, trivial⟩) ?_
  intro _ _
  refine cq_seq ?_
  refine cq_seq ?_
  refine cq_region ?_
  apply sq_g; exact g_move (s := .av (.val (.int _ _))) rfl; exact rfl
  apply sq_g; exact g_move (s := .av (.val (.int _ _))) rfl; exact rfl
  apply sq_g; exact g_cmp rfl rfl rfl; exact rfl
  refine sq_nil ?_
  refine sq_then ?_
  (refine cq_cond rfl (fun hb => ?_) (fun hb => ?_) <;> (try simp only [decide_eq_true_eq, decide_eq_false_iff_not, beq_iff_eq, beq_eq_false_iff_ne, bne_iff_ne, bne_eq_false_iff_eq, ne_eq, Bool.not_eq_true', Bool.not_eq_false', Bool.and_eq_true, Bool.or_eq_true, Bool.and_eq_false_iff, Bool.or_eq_false_iff] at hb) <;> (try (exfalso; omega)))
  refine cq_exit ?_
  refine sq_then_exit ?_
  refine sq_then_exit ?_
  refine sq_inBlock_exit ?_
  exact sq_retW rfl rfl rfl rfl (fun _ _ _ _ => rfl)
theorem sortStable_c (l : List Pt) (v : List Nat) (hv : ∀ k, k < v.length → gi v k < l.length) (hn : v.length ≤ 19) :
    CtrW Tryz.prog 138 [ocl l] 3 1 v.length (xf v) v.length (xf (isortR (fun i k => decide (ordC l i k < 0)) 0 v.length v 1)) false := by
  refine ctrW _ Tryz.func138 rfl rfl Tryz.ntmps138 rfl fun w Z v0 => ?_
  simp only [initT, List.map_cons, List.map_nil, Nat.zero_add, Nat.reduceAdd]
  refine cq_region ?_
  apply sq_g; exact g_move (s := .osl _) rfl; exact rfl
  apply sq_g; exact g_move (s := .osl _) rfl; exact rfl
  apply sq_g; exact g_len_own rfl rfl; exact rfl
  apply sq_g; exact g_move (s := .av _) rfl; exact rfl
  refine sq_v (v_call_w (stable_c l v hv hn) rfl rfl rfl) rfl ?_
  refine sq_nil ?_
  exact sq_retW rfl rfl rfl rfl (fun _ _ _ _ => rfl)
theorem upTo_zero {n i j : Nat} (hi : i < n) (hj : j < 1) : AV.val ([Value.int .i64 0].getD j undef) = xf (upTo n 0) i j := by
  obtain rfl : j = 0 := by omega
  simp [xf, gi_upTo hi]
theorem zi3 : ∃ inf z, Tryz.prog.info? 3 = some inf ∧ inf.zero = some z ∧ inf.size = 1 ∧ inf.bytes = 8 ∧ z.cells = [Value.int .i64 0].toArray ∧ 0 < 1 :=
  ⟨(Tryz.prog.info? 3).getD default, ((Tryz.prog.info? 3).getD default).zero.getD undef, by kernel_rfl, by kernel_rfl, by kernel_rfl, by kernel_rfl, by kernel_rfl, by decide⟩
theorem order_c (l : List Pt) (hn : l.length ≤ 19) : CtrR Tryz.prog 114 [pts l] 3 1 (ordN l).length (xf (ordN l)) [vi (chk l)] := by
  refine ctrR _ Tryz.func114 rfl rfl Tryz.ntmps114 rfl fun w Z => ?_
  simp only [initT, List.map_cons, List.map_nil, Nat.zero_add, Nat.reduceAdd]
  refine cq_seq ?_
  refine cq_region ?_
  apply sq_g; exact g_box rfl rfl; exact rfl
  apply sq_g; exact g_assign (s := .av _) rfl; exact rfl
  apply sq_g; exact g_assign (s := .av (.val (.int _ _))) rfl; exact rfl
  refine sq_nil ?_
  refine sq_then ?_
  refine cq_seq ?_
  refine cq_seq ?_
  refine cq_region ?_
  apply sq_g; exact g_load rfl rfl rfl; exact rfl
  apply sq_g; exact g_call (pcheck_c l) rfl; exact rfl
  apply sq_g; exact g_assign (s := .av (.val (.int _ _))) rfl; exact rfl
  refine sq_nil ?_
  refine sq_then ?_
  refine cq_seq ?_
  refine cq_region ?_
  apply sq_g; exact g_move (s := .av (.val (.int _ _))) rfl; exact rfl
  apply sq_g; exact g_cmp rfl rfl rfl; exact rfl
  refine sq_nil ?_
  refine sq_then ?_
  (refine cq_cond rfl (fun hb => ?_) (fun hb => ?_) <;> (try simp only [decide_eq_true_eq, decide_eq_false_iff_not, beq_iff_eq, beq_eq_false_iff_ne, bne_iff_ne, bne_eq_false_iff_eq, ne_eq, Bool.not_eq_true', Bool.not_eq_false', Bool.and_eq_true, Bool.or_eq_true, Bool.and_eq_false_iff, Bool.or_eq_false_iff] at hb) <;> (try (exfalso; omega)))
  · refine cq_seq ?_
    refine cq_region ?_
    apply sq_g; exact g_move (s := .av (.val (.int _ _))) rfl; exact rfl
    apply sq_g; exact g_assign (s := .av _) rfl; exact rfl
    apply sq_g; exact g_assign (s := .av (.val (.int _ _))) rfl; exact rfl
    refine sq_nil ?_
    refine sq_then ?_
    refine cq_ret ?_
    refine sq_then_ret ?_
    exact sq_retRN_nil rfl rfl (by simp [ordN, hb]) (τs := [vi (chk l)]) ⟨.tmp rfl, trivial⟩ rfl
  · have hb' : chk l = 0 := hb
    refine cq_skip ?_
    refine sq_then ?_
    refine cq_seq ?_
    refine cq_region ?_
    apply sq_g; exact g_load rfl rfl rfl; exact rfl
    apply sq_g; exact g_len rfl; exact rfl
    refine sq_v (v_make 0 (n := l.length) (q := .i64) (q' := .i64) (zs := [.int .i64 0]) rfl zi3 rfl rfl rfl rfl (by simp only [maxLen]; omega) (by omega)) rfl ?_
    apply sq_g; exact g_assign (s := .osl _) rfl; exact rfl
    refine sq_nil ?_
    refine sq_then ?_
    refine cq_seq ?_
    refine cq_seq ?_
    refine cq_region ?_
    apply sq_g; exact g_move (s := .osl _) rfl; exact rfl
    apply sq_g; exact g_len_own rfl rfl; exact rfl
    apply sq_g; exact g_move (s := .av (.val (.int _ _))) rfl; exact rfl
    refine sq_nil ?_
    refine sq_then ?_
    refine cq_block ?_
    refine cq_loop (γ := Nat) (fun k => [(1, .av (lp l)), (5, .osl 0), (16, .av (vi l.length)), (17, .av (vi k))]) (fun k => [(0, .row 3 1 l.length (xf (upTo l.length k)))]) (fun k => k ≤ l.length) (fun k => l.length - k) 0 (by omega) (ent ⟨.refl _, .refl _, .refl _, .refl _, trivial⟩ ⟨⟨_, rfl, .row rfl (fun i hi j hj => upTo_zero hi hj)⟩, trivial⟩) ?_
    intro k hk
    refine cq_seq ?_
    refine cq_region ?_
    apply sq_g; exact g_cmp rfl rfl rfl; exact rfl
    refine sq_nil ?_
    refine sq_then ?_
    refine cq_seq ?_
    (refine cq_cond rfl (fun hb => ?_) (fun hb => ?_) <;> (try simp only [decide_eq_true_eq, decide_eq_false_iff_not, beq_iff_eq, beq_eq_false_iff_ne, bne_iff_ne, bne_eq_false_iff_eq, ne_eq, Bool.not_eq_true', Bool.not_eq_false', Bool.and_eq_true, Bool.or_eq_true, Bool.and_eq_false_iff, Bool.or_eq_false_iff] at hb) <;> (try (exfalso; omega)))
    · refine cq_skip ?_
      refine sq_then ?_
      refine cq_seq ?_
      refine cq_block ?_
      refine cq_seq ?_
      refine cq_region ?_
      apply sq_g; exact g_move (s := .av (.val (.int _ _))) rfl; exact rfl
      apply sq_g; exact g_assign (s := .av (.val (.int _ _))) rfl; exact rfl
      refine sq_nil ?_
      refine sq_then ?_
      refine cq_region ?_
      apply sq_g; exact g_move (s := .osl _) rfl; exact rfl
      apply sq_g; exact g_move (s := .av (.val (.int _ _))) rfl; exact rfl
      apply sq_g; exact g_move (s := .av (.val (.int _ _))) rfl; exact rfl
      apply sq_g; exact g_index_row rfl rfl rfl rfl (by omega); exact rfl
      refine sq_s (g_store_oel rfl rfl rfl rfl (by omega) rfl) ?_
      refine sq_nil ?_
      refine sq_then ?_
      refine cq_region ?_
      apply sq_g; exact g_arith rfl rfl rfl (by omega); exact rfl
      apply sq_g; exact g_move (s := .av (.val (.int _ _))) rfl; exact rfl
      refine sq_nil ?_
      exact sq_round (k + 1) (by omega) (by omega) (ent ⟨.refl _, .refl _, .refl _, .int (by omega), trivial⟩ ⟨⟨_, rfl, .row rfl (fun i hi j hj => by
        obtain rfl : j = 0 := by omega
        simp only [rowSet, xf, gi_upTo hi]
        by_cases h1 : i = k
        · simp [h1]
        · simp [h1, show (i < k + 1) = (i < k) from by apply propext; omega])⟩, trivial⟩)
    · have hkl : k = l.length := by omega
      subst hkl
      have hs := sortStable_c l (upTo l.length l.length) (fun k hk => by rw [upTo_len] at hk; rw [gi_upTo hk]; split <;> omega) (by rw [upTo_len]; exact hn)
      rw [upTo_len] at hs
      refine cq_exit ?_
      refine sq_then ?_
      refine cq_seq ?_
      refine cq_region ?_
      apply sq_g; exact g_move (s := .osl _) rfl; exact rfl
      apply sq_g; exact g_makeFunc (τs := [_]) rfl; exact rfl
      refine sq_v (v_call_w (hs) rfl rfl rfl) rfl ?_
      refine sq_nil ?_
      refine sq_then ?_
      refine cq_seq ?_
      refine cq_region ?_
      apply sq_g; exact g_move (s := .osl _) rfl; exact rfl
      apply sq_g; exact g_assign (s := .osl _) rfl; exact rfl
      apply sq_g; exact g_assign (s := .av (.val (.int _ _))) rfl; exact rfl
      refine sq_nil ?_
      refine sq_then ?_
      refine cq_ret ?_
      exact sq_retRN rfl rfl rfl (by simp [ordN, show chk l = 0 from hb', ordI, isortR_len]) (fun _ _ _ _ => by simp [ordN, show chk l = 0 from hb', ordI, upTo_full]) (τs := [vi (chk l)]) ⟨by rw [hb']; exact .tmp rfl, trivial⟩ rfl
end Go.Proofs.YtdoppiajbpmmkaaGreat
namespace Go.Proofs.YtdoppiajbpmmkaaGreat
open Go Go.Vc Go.RowKit
set_option maxHeartbeats 1000000
theorem eqc_c (l : List Pt) (i k : Nat) (hi : i < l.length) (hk : k < l.length) : CtrA Tryz.prog 116 [vi i, vi k, lp l] (vb (decide (gp l i = gp l k))) := by
  refine ctrA _ Tryz.func116 rfl rfl Tryz.ntmps116 rfl fun w Z => ?_
  simp only [initT, List.map_cons, List.map_nil, Nat.zero_add, Nat.reduceAdd]
  refine cq_seq ?_
  refine cq_region ?_
  apply sq_g; exact g_assign (s := .av (.val (.bool _))) rfl; exact rfl
  refine sq_nil ?_
  refine sq_then ?_
  refine cq_seq ?_
  refine cq_drawn ?_
  apply dq_g; exact g_load rfl rfl rfl; exact rfl
  apply dq_g; exact g_move (s := .av (.val (.int _ _))) rfl; exact rfl
  apply dq_g; exact g_index rfl rfl rfl (by omega); exact rfl
  apply dq_g; exact g_load_agg (us := [.int _ _, .int _ _]) rfl rfl rfl rfl; exact rfl
  apply dq_g; exact g_load rfl rfl rfl; exact rfl
  apply dq_g; exact g_move (s := .av (.val (.int _ _))) rfl; exact rfl
  apply dq_g; exact g_index rfl rfl rfl (by omega); exact rfl
  apply dq_g; exact g_load_agg (us := [.int _ _, .int _ _]) rfl rfl rfl rfl; exact rfl
  apply dq_g; exact g_eql (xs := [_, _]) (ys := [_, _]) rfl rfl rfl rfl; exact rfl
  apply dq_g; exact g_assign (s := .av (.val (.bool _))) rfl; exact rfl
  refine dq_nil tm rfl ?_
  refine sq_then ?_
  refine cq_ret ?_
  exact sq_res1 rfl (.tmp rfl) (congrArg vb (pt_beq _ _))
theorem hleft_l (l : List Pt) (i j k : Nat) (hl : ∀ i, SmP (gp l i)) : CtrA Tryz.prog 87 [pp (gp l i), pp (gp l j), pp (gp l k)] (vi (crs (gp l i) (gp l j) (gp l k))) := hleft_c _ _ _ (hl _) (hl _) (hl _)
theorem chain_c (l : List Pt) (v : List Nat) (hl : ∀ i, SmP (gp l i)) (hv : ∀ k, k < v.length → gi v k < l.length) (h0 : 0 < v.length) (hn : v.length ≤ 1000) : CtrR Tryz.prog 117 [idx v, lp l] 3 1 (chain l v).length (xf (chain l v)) [] := by
  refine ctrR _ Tryz.func117 rfl rfl Tryz.ntmps117 rfl fun w Z => ?_
  simp only [initT, List.map_cons, List.map_nil, Nat.zero_add, Nat.reduceAdd]
  refine cq_seq ?_
  refine cq_region ?_
  apply sq_g; exact g_assign (s := .av _) rfl; exact rfl
  refine sq_nil ?_
  refine sq_then ?_
  refine cq_seq ?_
  refine cq_region ?_
  apply sq_g; exact g_assign (s := .av _) rfl; exact rfl
  refine sq_nil ?_
  refine sq_then ?_
  refine cq_seq ?_
  refine cq_seq ?_
  refine cq_region ?_
  apply sq_g; exact g_move (s := .av _) rfl; exact rfl
  apply sq_g; exact g_len rfl; exact rfl
  apply sq_g; exact g_move (s := .av (.val (.int _ _))) rfl; exact rfl
  refine sq_nil ?_
  refine sq_then ?_
  refine cq_block ?_
  refine cq_loop (γ := List Nat × Nat) (fun g => [(1, .av (lp l)), (4, .osl 0), (7, .av (idx v)), (8, .av (vi v.length)), (9, .av (vi g.2))]) (fun g => [(0, .row 3 1 g.1.reverse.length (xf g.1.reverse))])
    (fun g => g.2 ≤ v.length ∧ g.1 = stk l (v.take g.2) ∧ g.1.length ≤ g.2 ∧ (0 < g.2 → 0 < g.1.length) ∧ ∀ x ∈ g.1, x < l.length) (fun g => v.length - g.2) ([], 0) ⟨Nat.zero_le _, rfl, Nat.zero_le _, by simp, by simp⟩ ((ent_row (dd := 4) 0 3 1 (xf []) rfl rfl).trans (ent ⟨.refl _, .refl _, .refl _, .refl _, .refl _, trivial⟩ ⟨⟨_, rfl, .refl _⟩, trivial⟩)) ?_
  rintro ⟨st, k⟩ ⟨hk, hst, hlen, hpos, hin⟩
  simp only at hk hst hlen hpos hin
  refine cq_seq ?_
  refine cq_region ?_
  apply sq_g; exact g_cmp rfl rfl rfl; exact rfl
  refine sq_nil ?_
  refine sq_then ?_
  refine cq_seq ?_
  (refine cq_cond rfl (fun hb => ?_) (fun hb => ?_) <;> (try simp only [decide_eq_true_eq, decide_eq_false_iff_not, beq_iff_eq, beq_eq_false_iff_ne, bne_iff_ne, bne_eq_false_iff_eq, ne_eq, Bool.not_eq_true', Bool.not_eq_false', Bool.and_eq_true, Bool.or_eq_true, Bool.and_eq_false_iff, Bool.or_eq_false_iff] at hb) <;> (try (exfalso; omega)))
  · have hkv : k < v.length := by omega
    have hx := hv k hkv
    refine cq_skip ?_
    refine sq_then ?_
    refine cq_seq ?_
    refine cq_block ?_
    refine cq_seq ?_
    refine cq_region ?_
    apply sq_g; exact g_index rfl rfl rfl (by omega); exact rfl
    apply sq_g; exact g_load (τ := .val (.int _ _)) rfl rfl rfl; exact rfl
    apply sq_g; exact g_assign (s := .av (.val (.int _ _))) rfl; exact rfl
    refine sq_nil ?_
    refine sq_then ?_
    refine cq_seq ?_
    refine cq_block ?_
    refine cq_loop (γ := List Nat) (fun s => [(1, .av (lp l)), (4, .osl 0), (6, .av (vi (gi v k))), (7, .av (idx v)), (8, .av (vi v.length)), (9, .av (vi k))]) (fun s => [(0, .row 3 1 s.reverse.length (xf s.reverse))])
      (fun s => pop l (gi v k) s = pop l (gi v k) st ∧ s.length ≤ k ∧ ∀ x ∈ s, x < l.length) (fun s => s.length) st ⟨rfl, hlen, hin⟩ (ent ⟨.refl _, .refl _, .refl _, .refl _, .refl _, .refl _, trivial⟩ ⟨⟨_, rfl, .refl _⟩, trivial⟩) ?_
    rintro s ⟨hs, hsl, hsin⟩
    have key : ∀ s : List Nat, pop l (gi v k) st = s → s.length ≤ k → (∀ x ∈ s, x < l.length) → (gi v k :: s) = stk l (v.take (k + 1)) ∧ (gi v k :: s).length ≤ k + 1 ∧ (0 < k + 1 → 0 < (gi v k :: s).length) ∧ ∀ x ∈ gi v k :: s, x < l.length := by
      intro s h1 h2 h3
      refine ⟨?_, by simp; omega, by simp, fun x hx' => by simp at hx'; rcases hx' with rfl | hx'; exact hx; exact h3 x hx'⟩
      rw [List.take_succ_eq_append_getElem hkv, stk, List.foldl_append, List.foldl_cons, List.foldl_nil, ← stk, ← hst, ← gi_eq hkv, h1]
    match s, hs, hsl, hsin with
    | [], hs, hsl, hsin =>
      have hL0 : ([] : List Nat).reverse.length = 0 := rfl
      refine cq_seq ?_
      refine cq_seq ?_
      refine cq_drawn ?_
      apply dq_g; exact g_move (s := .osl _) rfl; exact rfl
      apply dq_g; exact g_len_own rfl rfl; exact rfl
      apply dq_g; exact g_cmp rfl rfl rfl; exact rfl
      apply dq_g; exact g_move (s := .av (.val (.bool _))) rfl; exact rfl
      refine dq_off nofun rfl rfl rfl rfl ?_
      refine dq_off nofun rfl rfl rfl rfl ?_
      refine dq_off nofun rfl rfl rfl rfl ?_
      refine dq_off nofun rfl rfl rfl rfl ?_
      refine dq_off nofun rfl rfl rfl rfl ?_
      refine dq_off nofun rfl rfl rfl rfl ?_
      refine dq_off nofun rfl rfl rfl rfl ?_
      refine dq_off nofun rfl rfl rfl rfl ?_
      refine dq_off nofun rfl rfl rfl rfl ?_
      refine dq_off nofun rfl rfl rfl rfl ?_
      refine dq_off nofun rfl rfl rfl rfl ?_
      refine dq_off nofun rfl rfl rfl rfl ?_
      refine dq_off nofun rfl rfl rfl rfl ?_
      refine dq_off nofun rfl rfl rfl rfl ?_
      refine dq_off nofun rfl rfl rfl rfl ?_
      refine dq_off nofun rfl rfl rfl rfl ?_
      refine dq_off nofun rfl rfl rfl rfl ?_
      refine dq_off nofun rfl rfl rfl rfl ?_
      refine dq_off nofun rfl rfl rfl rfl ?_
      refine dq_off nofun rfl rfl rfl rfl ?_
      refine dq_off nofun rfl rfl rfl rfl ?_
      refine dq_off nofun rfl rfl rfl rfl ?_
      refine dq_off nofun rfl rfl rfl rfl ?_
      refine dq_off nofun rfl rfl rfl rfl ?_
      apply dq_g; exact g_pick (s := .av (.val (.bool _))) rfl rfl; exact rfl
      refine dq_nil tm rfl ?_
      refine sq_then ?_
      refine cq_cond_f rfl ?_
      refine cq_exit ?_
      refine sq_then ?_
      refine cq_region ?_
      apply sq_g; exact g_move (s := .osl _) rfl; exact rfl
      apply sq_g; exact g_move (s := .av (.val (.int _ _))) rfl; exact rfl
      apply sq_g; exact g_one_ix (tq26 _) rfl rfl; exact rfl
      refine sq_v (v_push_ix rfl rfl rfl (by omega) rfl) rfl ?_
      apply sq_g; exact g_assign (s := .osl _) rfl; exact rfl
      refine sq_nil ?_
      refine sq_then ?_
      refine cq_region ?_
      apply sq_g; exact g_arith rfl rfl rfl (by omega); exact rfl
      apply sq_g; exact g_move (s := .av (.val (.int _ _))) rfl; exact rfl
      refine sq_nil ?_
      exact sq_round (g := (st, k)) (gi v k :: [], k + 1) ⟨by simp; omega, key [] hs.symm hsl hsin⟩ (by simp; omega) (ent ⟨.refl _, .refl _, .refl _, .refl _, .int (by simp), trivial⟩ ⟨⟨_, rfl, .refl _⟩, trivial⟩)
    | [x], hs, hsl, hsin =>
      have hL0 : [x].reverse.length = 1 := rfl
      refine cq_seq ?_
      refine cq_seq ?_
      refine cq_drawn ?_
      apply dq_g; exact g_move (s := .osl _) rfl; exact rfl
      apply dq_g; exact g_len_own rfl rfl; exact rfl
      apply dq_g; exact g_cmp rfl rfl rfl; exact rfl
      apply dq_g; exact g_move (s := .av (.val (.bool _))) rfl; exact rfl
      refine dq_off nofun rfl rfl rfl rfl ?_
      refine dq_off nofun rfl rfl rfl rfl ?_
      refine dq_off nofun rfl rfl rfl rfl ?_
      refine dq_off nofun rfl rfl rfl rfl ?_
      refine dq_off nofun rfl rfl rfl rfl ?_
      refine dq_off nofun rfl rfl rfl rfl ?_
      refine dq_off nofun rfl rfl rfl rfl ?_
      refine dq_off nofun rfl rfl rfl rfl ?_
      refine dq_off nofun rfl rfl rfl rfl ?_
      refine dq_off nofun rfl rfl rfl rfl ?_
      refine dq_off nofun rfl rfl rfl rfl ?_
      refine dq_off nofun rfl rfl rfl rfl ?_
      refine dq_off nofun rfl rfl rfl rfl ?_
      refine dq_off nofun rfl rfl rfl rfl ?_
      refine dq_off nofun rfl rfl rfl rfl ?_
      refine dq_off nofun rfl rfl rfl rfl ?_
      refine dq_off nofun rfl rfl rfl rfl ?_
      refine dq_off nofun rfl rfl rfl rfl ?_
      refine dq_off nofun rfl rfl rfl rfl ?_
      refine dq_off nofun rfl rfl rfl rfl ?_
      refine dq_off nofun rfl rfl rfl rfl ?_
      refine dq_off nofun rfl rfl rfl rfl ?_
      refine dq_off nofun rfl rfl rfl rfl ?_
      refine dq_off nofun rfl rfl rfl rfl ?_
      apply dq_g; exact g_pick (s := .av (.val (.bool _))) rfl rfl; exact rfl
      refine dq_nil tm rfl ?_
      refine sq_then ?_
      refine cq_cond_f rfl ?_
      refine cq_exit ?_
      refine sq_then ?_
      refine cq_region ?_
      apply sq_g; exact g_move (s := .osl _) rfl; exact rfl
      apply sq_g; exact g_move (s := .av (.val (.int _ _))) rfl; exact rfl
      apply sq_g; exact g_one_ix (tq26 _) rfl rfl; exact rfl
      refine sq_v (v_push_ix rfl rfl rfl (by omega) rfl) rfl ?_
      apply sq_g; exact g_assign (s := .osl _) rfl; exact rfl
      refine sq_nil ?_
      refine sq_then ?_
      refine cq_region ?_
      apply sq_g; exact g_arith rfl rfl rfl (by omega); exact rfl
      apply sq_g; exact g_move (s := .av (.val (.int _ _))) rfl; exact rfl
      refine sq_nil ?_
      exact sq_round (g := (st, k)) (gi v k :: [x], k + 1) ⟨by simp; omega, key [x] hs.symm hsl hsin⟩ (by simp; omega) (ent ⟨.refl _, .refl _, .refl _, .refl _, .int (by simp), trivial⟩ ⟨⟨_, rfl, .refl _⟩, trivial⟩)
    | b :: a :: r, hs, hsl, hsin =>
      have ha := hsin a (by simp)
      have hb2 := hsin b (by simp)
      have hL : (b :: a :: r).length = r.length + 2 := rfl
      have hrl : (b :: a :: r).reverse.length = r.length + 2 := by simp
      have xa : xf (b :: a :: r).reverse r.length 0 = vi a := by
        simp only [xf]; rw [gi_rev_cons b (a :: r) (by simp), gi_rev_top]
      have xb : xf (b :: a :: r).reverse (r.length + 1) 0 = vi b := by
        simp only [xf]; rw [show r.length + 1 = (a :: r).length from rfl, gi_rev_top]
      refine cq_seq ?_
      refine cq_seq ?_
      refine cq_drawn ?_
      apply dq_g; exact g_move (s := .osl _) rfl; exact rfl
      apply dq_g; exact g_len_own rfl rfl; exact rfl
      apply dq_g; exact g_cmp rfl rfl rfl; exact rfl
      apply dq_g; exact g_move (s := .av (.val (.bool _))) rfl; exact rfl
      refine dq_split rfl rfl (fun hb => ?_) (fun hb => ?_) <;> (try simp only [decide_eq_true_eq, decide_eq_false_iff_not, beq_iff_eq, beq_eq_false_iff_ne, bne_iff_ne, bne_eq_false_iff_eq, ne_eq, Bool.not_eq_true', Bool.not_eq_false', Bool.and_eq_true, Bool.or_eq_true, Bool.and_eq_false_iff, Bool.or_eq_false_iff] at hb) <;> (try (exfalso; omega))
      apply dq_on; exact g_load rfl rfl rfl; exact rfl; exact rfl; exact rfl
      apply dq_on; exact g_move (s := .osl _) rfl; exact rfl; exact rfl; exact rfl
      apply dq_on; exact g_move (s := .osl _) rfl; exact rfl; exact rfl; exact rfl
      apply dq_on; exact g_len_own rfl rfl; exact rfl; exact rfl; exact rfl
      apply dq_on; exact g_arith rfl rfl rfl (by omega); exact rfl; exact rfl; exact rfl
      apply dq_on; exact  g_index_row (k := r.length) rfl rfl rfl (by omega) (by omega); exact rfl; exact rfl; exact rfl
      apply dq_on; exact  g_load_oel (i := r.length) (τ := vi a) rfl rfl (by omega) rfl xa; exact rfl; exact rfl; exact rfl
      apply dq_on; exact g_index rfl rfl rfl (by omega); exact rfl; exact rfl; exact rfl
      apply dq_on; exact g_load_agg (us := [.int _ _, .int _ _]) rfl rfl rfl rfl; exact rfl; exact rfl; exact rfl
      apply dq_on; exact g_load rfl rfl rfl; exact rfl; exact rfl; exact rfl
      apply dq_on; exact g_move (s := .osl _) rfl; exact rfl; exact rfl; exact rfl
      apply dq_on; exact g_move (s := .osl _) rfl; exact rfl; exact rfl; exact rfl
      apply dq_on; exact g_len_own rfl rfl; exact rfl; exact rfl; exact rfl
      apply dq_on; exact g_arith rfl rfl rfl (by omega); exact rfl; exact rfl; exact rfl
      apply dq_on; exact  g_index_row (k := r.length + 1) rfl rfl rfl (by omega) (by omega); exact rfl; exact rfl; exact rfl
      apply dq_on; exact  g_load_oel (i := r.length + 1) (τ := vi b) rfl rfl (by omega) rfl xb; exact rfl; exact rfl; exact rfl
      apply dq_on; exact g_index rfl rfl rfl (by omega); exact rfl; exact rfl; exact rfl
      apply dq_on; exact g_load_agg (us := [.int _ _, .int _ _]) rfl rfl rfl rfl; exact rfl; exact rfl; exact rfl
      apply dq_on; exact g_load rfl rfl rfl; exact rfl; exact rfl; exact rfl
      apply dq_on; exact g_move (s := .av (.val (.int _ _))) rfl; exact rfl; exact rfl; exact rfl
      apply dq_on; exact g_index rfl rfl rfl (by omega); exact rfl; exact rfl; exact rfl
      apply dq_on; exact g_load_agg (us := [.int _ _, .int _ _]) rfl rfl rfl rfl; exact rfl; exact rfl; exact rfl
      apply dq_on; exact g_call (hleft_l l _ _ _ hl) rfl; exact rfl; exact rfl; exact rfl
      apply dq_on; exact g_cmp rfl rfl rfl; exact rfl; exact rfl; exact rfl
      apply dq_g; exact g_pick (s := .av (.val (.bool _))) rfl rfl; exact rfl
      refine dq_nil tm rfl ?_
      refine sq_then ?_
      (refine cq_cond rfl (fun hb => ?_) (fun hb => ?_) <;> (try simp only [decide_eq_true_eq, decide_eq_false_iff_not, beq_iff_eq, beq_eq_false_iff_ne, bne_iff_ne, bne_eq_false_iff_eq, ne_eq, Bool.not_eq_true', Bool.not_eq_false', Bool.and_eq_true, Bool.or_eq_true, Bool.and_eq_false_iff, Bool.or_eq_false_iff] at hb) <;> (try (exfalso; omega)))
      · refine cq_skip ?_
        refine sq_then ?_
        refine cq_block ?_
        refine cq_region ?_
        apply sq_g; exact g_move (s := .osl _) rfl; exact rfl
        apply sq_g; exact g_move (s := .osl _) rfl; exact rfl
        apply sq_g; exact g_len_own rfl rfl; exact rfl
        apply sq_g; exact g_arith rfl rfl rfl (by omega); exact rfl
        refine sq_v (v_cut rfl rfl rfl (Int.toNat_of_nonneg (by omega)).symm (by omega)) rfl ?_
        apply sq_g; exact g_assign (s := .osl _) rfl; exact rfl
        refine sq_nil ?_
        refine sq_inBlock ?_
        refine sq_round (a :: r) ⟨?_, by simp at hsl ⊢; omega, fun x hx' => hsin x (by simp at hx' ⊢; exact .inr hx')⟩ (by simp) (ent ⟨.refl _, .refl _, .refl _, .refl _, .refl _, .refl _, trivial⟩ ⟨⟨_, rfl, .row (by simp only [List.length_reverse, List.length_cons]; omega) (fun i hi j hj => by simp only [xf]; rw [gi_rev_cons b (a :: r) (by simp only [List.length_cons]; omega)])⟩, trivial⟩)
        rw [← hs, pop, if_pos hb]
      · refine cq_exit ?_
        refine sq_then ?_
        refine cq_region ?_
        apply sq_g; exact g_move (s := .osl _) rfl; exact rfl
        apply sq_g; exact g_move (s := .av (.val (.int _ _))) rfl; exact rfl
        apply sq_g; exact g_one_ix (tq26 _) rfl rfl; exact rfl
        refine sq_v (v_push_ix rfl rfl rfl (by omega) rfl) rfl ?_
        apply sq_g; exact g_assign (s := .osl _) rfl; exact rfl
        refine sq_nil ?_
        refine sq_then ?_
        refine cq_region ?_
        apply sq_g; exact g_arith rfl rfl rfl (by omega); exact rfl
        apply sq_g; exact g_move (s := .av (.val (.int _ _))) rfl; exact rfl
        refine sq_nil ?_
        refine sq_round (g := (st, k)) (gi v k :: b :: a :: r, k + 1) ⟨by simp; omega, key (b :: a :: r) (by rw [← hs, pop, if_neg hb]) hsl hsin⟩ (by simp; omega) (ent ⟨.refl _, .refl _, .refl _, .refl _, .int (by simp), trivial⟩ ⟨⟨_, rfl, .row (by simp) (fun i hi j hj => by simp)⟩, trivial⟩)
  · have hkv : k = v.length := by omega
    subst hkv
    rw [List.take_length] at hst
    match st, hst, hpos h0 with
    | x :: r, hst, _ =>
      have hL : (x :: r).reverse.length = r.length + 1 := by simp
      have hL2 : (x :: r).length = r.length + 1 := rfl
      dsimp only
      refine cq_exit ?_
      refine sq_then ?_
      refine cq_seq ?_
      refine cq_region ?_
      apply sq_g; exact g_move (s := .osl _) rfl; exact rfl
      apply sq_g; exact g_move (s := .osl _) rfl; exact rfl
      apply sq_g; exact g_len_own rfl rfl; exact rfl
      apply sq_g; exact g_arith rfl rfl rfl (by omega); exact rfl
      refine sq_v (v_cut rfl rfl rfl (Int.toNat_of_nonneg (by omega)).symm (by omega)) rfl ?_
      apply sq_g; exact g_assign (s := .osl _) rfl; exact rfl
      refine sq_nil ?_
      refine sq_then ?_
      refine cq_ret ?_
      refine sq_retR rfl rfl rfl ?_ (fun i hi j hj => ?_)
      · show _ = (stk l v).tail.reverse.length
        rw [← hst]; simp only [List.tail_cons, List.length_reverse] at hL ⊢; omega
      · show xf _ _ _ = xf (stk l v).tail.reverse _ _
        rw [← hst]; simp only [xf, List.tail_cons]
        rw [gi_rev_cons x r (by omega)]
end Go.Proofs.YtdoppiajbpmmkaaGreat
namespace Go.Proofs.YtdoppiajbpmmkaaGreat
open Go Go.Vc Go.RowKit
set_option maxHeartbeats 1000000
theorem zv3 (w : World) : (zeroValue 3).run Tryz.prog w = .ok (.int .i64 0) w := by kernel_rfl
abbrev ecl (l : List Pt) : AV := .clo 116 1 (fun i => [lp l].getD i .any)
theorem xf_set {u : List Nat} {k y : Nat} (hk : k < u.length) : ∀ i, i < u.length → ∀ j, j < 1 → rowSet (xf u) k 0 [vi y] i j = xf (u.set k y) i j := by
  intro i hi j hj
  obtain rfl : j = 0 := by omega
  unfold rowSet xf
  rw [gi_set]
  by_cases h : i = k
  · subst h; simp [hk]
  · have h' : ¬ k = i := fun e => h e.symm
    simp [h, h']
theorem compact_c (l : List Pt) (v : List Nat) (hv : ∀ k, k < v.length → gi v k < l.length) (hn : v.length ≤ 1000) :
    CtrW Tryz.prog 115 [ecl l] 3 1 v.length (xf v) (cpt l v).length (xf (cpt l v)) true := by
  refine ctrW _ Tryz.func115 rfl rfl Tryz.ntmps115 rfl fun w Z v0 => ?_
  simp only [initT, List.map_cons, List.map_nil, Nat.zero_add, Nat.reduceAdd]
  refine cq_seq ?_
  refine cq_region ?_
  apply sq_g; exact g_assign (s := .av _) rfl; exact rfl
  refine sq_nil ?_
  refine sq_then ?_
  refine cq_seq ?_
  refine cq_seq ?_
  refine cq_region ?_
  apply sq_g; exact g_move (s := .osl _) rfl; exact rfl
  apply sq_g; exact g_len_own rfl rfl; exact rfl
  apply sq_g; exact g_cmp rfl rfl rfl; exact rfl
  refine sq_nil ?_
  refine sq_then ?_
  (refine cq_cond rfl (fun hb => ?_) (fun hb => ?_) <;> (try simp only [decide_eq_true_eq, decide_eq_false_iff_not, beq_iff_eq, beq_eq_false_iff_ne, bne_iff_ne, bne_eq_false_iff_eq, ne_eq, Bool.not_eq_true', Bool.not_eq_false', Bool.and_eq_true, Bool.or_eq_true, Bool.and_eq_false_iff, Bool.or_eq_false_iff] at hb) <;> (try (exfalso; omega)))
  · refine cq_seq ?_
    refine cq_region ?_
    apply sq_g; exact g_move (s := .osl _) rfl; exact rfl
    apply sq_g; exact g_assign (s := .osl _) rfl; exact rfl
    refine sq_nil ?_
    refine sq_then ?_
    refine cq_ret ?_
    refine sq_then_ret ?_
    exact sq_retWb rfl rfl rfl (by rw [cpt_short (by omega)]) (fun _ _ _ _ => by rw [cpt_short (by omega)])
  · refine cq_skip ?_
    refine sq_then ?_
    refine cq_seq ?_
    refine cq_seq ?_
    refine cq_region ?_
    apply sq_g; exact g_assign (s := .av (.val (.int _ _))) rfl; exact rfl
    refine sq_nil ?_
    refine sq_then ?_
    refine cq_block ?_
    refine cq_loop (γ := Nat) (fun k => [(0, .osl 0), (1, .av (ecl l)), (5, .av (vi k))]) (fun _ => [(0, .row 3 1 v.length (xf v))]) (fun k => 1 ≤ k ∧ k ≤ v.length ∧ ∀ i, i < k → cptP l v i = true) (fun k => v.length - k) 1 ⟨by omega, by omega, fun i hi => by simp [cptP, show i = 0 by omega]⟩ (ent ⟨.refl _, .refl _, .int rfl, trivial⟩ ⟨⟨_, rfl, .refl _⟩, trivial⟩) ?_
    rintro k ⟨hk1, hkn, hall⟩
    obtain ⟨k', rfl⟩ : ∃ k', k = k' + 1 := ⟨k - 1, by omega⟩
    refine cq_seq ?_
    refine cq_seq ?_
    refine cq_region ?_
    apply sq_g; exact g_move (s := .av (.val (.int _ _))) rfl; exact rfl
    apply sq_g; exact g_move (s := .osl _) rfl; exact rfl
    apply sq_g; exact g_len_own rfl rfl; exact rfl
    apply sq_g; exact g_cmp rfl rfl rfl; exact rfl
    refine sq_nil ?_
    refine sq_then ?_
    (refine cq_cond rfl (fun hb => ?_) (fun hb => ?_) <;> (try simp only [decide_eq_true_eq, decide_eq_false_iff_not, beq_iff_eq, beq_eq_false_iff_ne, bne_iff_ne, bne_eq_false_iff_eq, ne_eq, Bool.not_eq_true', Bool.not_eq_false', Bool.and_eq_true, Bool.or_eq_true, Bool.and_eq_false_iff, Bool.or_eq_false_iff] at hb) <;> (try (exfalso; omega)))
    · refine cq_skip ?_
      refine sq_then ?_
      refine cq_seq ?_
      refine cq_block ?_
      refine cq_seq ?_
      refine cq_drawn ?_
      apply dq_g; exact g_move (s := .av _) rfl; exact rfl
      apply dq_g; exact g_move (s := .osl _) rfl; exact rfl
      apply dq_g; exact g_move (s := .av (.val (.int _ _))) rfl; exact rfl
      apply dq_g; exact  g_index_row (k := k' + 1) rfl rfl rfl rfl (by omega); exact rfl
      apply dq_g; exact g_load_oel (τ := .val (.int _ _)) rfl rfl (by omega) rfl rfl; exact rfl
      apply dq_g; exact g_move (s := .osl _) rfl; exact rfl
      apply dq_g; exact g_move (s := .av (.val (.int _ _))) rfl; exact rfl
      apply dq_g; exact g_arith rfl rfl rfl (by omega); exact rfl
      apply dq_g; exact  g_index_row (k := k') rfl rfl rfl (by omega) (by omega); exact rfl
      apply dq_g; exact g_load_oel (τ := .val (.int _ _)) rfl rfl (by omega) rfl rfl; exact rfl
      apply dq_g; exact  g_callc (τs := [_, _]) (n := 1) (cf := fun i => [lp l].getD i .any) (eqc_c l (gi v (k' + 1)) (gi v k') (hv _ (by omega)) (hv _ (by omega))) rfl rfl; exact rfl
      refine dq_nil tm rfl ?_
      refine sq_then ?_
      (refine cq_cond rfl (fun hb => ?_) (fun hb => ?_) <;> (try simp only [decide_eq_true_eq, decide_eq_false_iff_not, beq_iff_eq, beq_eq_false_iff_ne, bne_iff_ne, bne_eq_false_iff_eq, ne_eq, Bool.not_eq_true', Bool.not_eq_false', Bool.and_eq_true, Bool.or_eq_true, Bool.and_eq_false_iff, Bool.or_eq_false_iff] at hb) <;> (try (exfalso; omega)))
      · have hK : cptP l v (k' + 1) = false := by simp [cptP, hb]
        have h1 : cptTo l v (k' + 1 + 1) = v.take (k' + 1) := by
          rw [cptTo_succ, hK, if_neg (by simp), cptTo_all l v _ (by omega) hall]
        refine cq_seq ?_
        refine cq_region ?_
        apply sq_g; exact g_move (s := .osl _) rfl; exact rfl
        apply sq_g; exact g_move (s := .av (.val (.int _ _))) rfl; exact rfl
        apply sq_g; exact g_from rfl rfl rfl rfl (by omega) (by omega); exact rfl
        apply sq_g; exact g_assign (s := .osx _ _ _ _) rfl; exact rfl
        refine sq_nil ?_
        refine sq_then ?_
        refine cq_seq ?_
        refine cq_seq ?_
        refine cq_region ?_
        apply sq_g; exact g_assign (s := .av (.val (.int _ _))) rfl; exact rfl
        refine sq_nil ?_
        refine sq_then ?_
        refine cq_block ?_
        refine cq_loop (γ := List Nat × Nat) (fun g => [(0, .osl 0), (1, .av (ecl l)), (5, .av (vi (cptTo l v (k' + 1 + g.2)).length)), (6, .osx 0 1 (k' + 1) (v.length - (k' + 1))), (7, .av (vi g.2))]) (fun g => [(0, .row 3 1 v.length (xf g.1))])
          (fun g => 1 ≤ g.2 ∧ g.2 ≤ v.length - (k' + 1) ∧ g.1.length = v.length ∧ (cptTo l v (k' + 1 + g.2)).length ≤ k' + g.2 ∧ (∀ i, i < (cptTo l v (k' + 1 + g.2)).length → gi g.1 i = gi (cptTo l v (k' + 1 + g.2)) i) ∧ ∀ i, k' + g.2 ≤ i → gi g.1 i = gi v i) (fun g => v.length - g.2) (v, 1)
          ⟨by simp, by simp; omega, rfl, by simp only [h1]; simp; omega, fun i hi => by simp only [h1] at hi ⊢; rw [gi_take]; simp at hi; rw [if_pos (by omega)], fun i hi => rfl⟩ (ent ⟨.refl _, .refl _, .int (by simp only [h1]; simp; omega), .refl _, .refl _, trivial⟩ ⟨⟨_, rfl, .refl _⟩, trivial⟩) ?_
        rintro ⟨u, m⟩ ⟨hm1, hmn, hul, hcl, hu1, hu2⟩
        simp only at hm1 hmn hul hcl hu1 hu2
        obtain ⟨m', rfl⟩ : ∃ m', m = m' + 1 := ⟨m - 1, by omega⟩
        dsimp only
        refine cq_seq ?_
        refine cq_seq ?_
        refine cq_region ?_
        apply sq_g; exact g_move (s := .av (.val (.int _ _))) rfl; exact rfl
        apply sq_g; exact g_move (s := .osx _ _ _ _) rfl; exact rfl
        apply sq_g; exact g_len_osx rfl; exact rfl
        apply sq_g; exact g_cmp rfl rfl rfl; exact rfl
        refine sq_nil ?_
        refine sq_then ?_
        (refine cq_cond rfl (fun hb => ?_) (fun hb => ?_) <;> (try simp only [decide_eq_true_eq, decide_eq_false_iff_not, beq_iff_eq, beq_eq_false_iff_ne, bne_iff_ne, bne_eq_false_iff_eq, ne_eq, Bool.not_eq_true', Bool.not_eq_false', Bool.and_eq_true, Bool.or_eq_true, Bool.and_eq_false_iff, Bool.or_eq_false_iff] at hb) <;> (try (exfalso; omega)))
        · have e1 : gi u (k' + 1 + (m' + 1)) = gi v (k' + 1 + (m' + 1)) := hu2 _ (by omega)
          have e2 : gi u (k' + 1 + m') = gi v (k' + 1 + m') := hu2 _ (by omega)
          have e3 : k' + 1 + (m' + 1) - 1 = k' + 1 + m' := by omega
          have b1 : gi u (k' + 1 + (m' + 1)) < l.length := by rw [e1]; exact hv _ (by omega)
          have b2 : gi u (k' + 1 + m') < l.length := by rw [e2]; exact hv _ (by omega)
          have hS := cptTo_succ l v (k' + 1 + (m' + 1))
          refine cq_skip ?_
          refine sq_then ?_
          refine cq_seq ?_
          refine cq_block ?_
          refine cq_seq ?_
          refine cq_drawn ?_
          apply dq_g; exact g_move (s := .av _) rfl; exact rfl
          apply dq_g; exact g_move (s := .osx _ _ _ _) rfl; exact rfl
          apply dq_g; exact g_move (s := .av (.val (.int _ _))) rfl; exact rfl
          apply dq_g; exact  g_index_osx (k := m' + 1) rfl rfl rfl (by omega); exact rfl
          apply dq_g; exact g_load_oel (τ := .val (.int _ _)) rfl rfl (by omega) rfl rfl; exact rfl
          apply dq_g; exact g_move (s := .osx _ _ _ _) rfl; exact rfl
          apply dq_g; exact g_move (s := .av (.val (.int _ _))) rfl; exact rfl
          apply dq_g; exact g_arith rfl rfl rfl (by omega); exact rfl
          apply dq_g; exact  g_index_osx (k := m') rfl rfl (by omega) (by omega); exact rfl
          apply dq_g; exact g_load_oel (τ := .val (.int _ _)) rfl rfl (by omega) rfl rfl; exact rfl
          apply dq_g; exact  g_callc (τs := [_, _]) (n := 1) (cf := fun i => [lp l].getD i .any) (eqc_c l (gi u (k' + 1 + (m' + 1))) (gi u (k' + 1 + m')) b1 b2) rfl rfl; exact rfl
          apply dq_g; exact g_not rfl; exact rfl
          refine dq_nil tm rfl ?_
          refine sq_then ?_
          (refine cq_cond rfl (fun hb => ?_) (fun hb => ?_) <;> (try simp only [decide_eq_true_eq, decide_eq_false_iff_not, beq_iff_eq, beq_eq_false_iff_ne, bne_iff_ne, bne_eq_false_iff_eq, ne_eq, Bool.not_eq_true', Bool.not_eq_false', Bool.and_eq_true, Bool.or_eq_true, Bool.and_eq_false_iff, Bool.or_eq_false_iff] at hb) <;> (try (exfalso; omega)))
          · have hP : cptP l v (k' + 1 + (m' + 1)) = true := by
              simp only [cptP, e3]; rw [← e1, ← e2]; simp [hb]
            rw [hP, if_pos rfl] at hS
            refine cq_seq ?_
            refine cq_region ?_
            apply sq_g; exact g_move (s := .osl _) rfl; exact rfl
            apply sq_g; exact g_move (s := .av (.val (.int _ _))) rfl; exact rfl
            apply sq_g; exact g_move (s := .osx _ _ _ _) rfl; exact rfl
            apply sq_g; exact g_move (s := .av (.val (.int _ _))) rfl; exact rfl
            apply sq_g; exact  g_index_osx (k := m' + 1) rfl rfl rfl (by omega); exact rfl
            apply sq_g; exact g_load_oel (τ := .val (.int _ _)) rfl rfl (by omega) rfl rfl; exact rfl
            apply sq_g; exact g_index_row rfl rfl rfl rfl (by omega); exact rfl
            refine sq_s (g_store_oel rfl rfl rfl rfl (by omega) rfl) ?_
            refine sq_nil ?_
            refine sq_then ?_
            refine cq_region ?_
            apply sq_g; exact g_move (s := .av (.val (.int _ _))) rfl; exact rfl
            apply sq_g; exact g_arith rfl rfl rfl (by omega); exact rfl
            apply sq_g; exact g_assign (s := .av (.val (.int _ _))) rfl; exact rfl
            refine sq_nil ?_
            refine sq_then ?_
            refine cq_region ?_
            apply sq_g; exact g_move (s := .av (.val (.int _ _))) rfl; exact rfl
            apply sq_g; exact g_arith rfl rfl rfl (by omega); exact rfl
            apply sq_g; exact g_assign (s := .av (.val (.int _ _))) rfl; exact rfl
            refine sq_nil ?_
            refine sq_round (g := (u, m' + 1)) (u.set (cptTo l v (k' + 1 + (m' + 1))).length (gi u (k' + 1 + (m' + 1))), m' + 1 + 1) ⟨by simp, by simp; omega, by simp [hul], ?_, ?_, ?_⟩ (by simp; omega) (ent ⟨.refl _, .refl _, .int (by simp only; rw [show k' + 1 + (m' + 1 + 1) = k' + 1 + (m' + 1) + 1 from by omega, hS]; simp), .refl _, .int (by simp), trivial⟩ ⟨⟨_, rfl, .row rfl (fun i hi j hj => xf_set (by omega) i (by omega) j hj)⟩, trivial⟩)
            · simp only; rw [show k' + 1 + (m' + 1 + 1) = k' + 1 + (m' + 1) + 1 from by omega, hS]; simp; omega
            · simp only; rw [show k' + 1 + (m' + 1 + 1) = k' + 1 + (m' + 1) + 1 from by omega, hS]
              intro i hi
              rw [gi_set, gi_app]
              simp only [List.length_append, List.length_singleton] at hi
              by_cases h : i = (cptTo l v (k' + 1 + (m' + 1))).length
              · rw [if_pos ⟨h.symm, by omega⟩, if_neg (by omega), if_pos h, e1]
              · rw [if_neg (fun e => h e.1.symm), if_pos (by omega)]; exact hu1 i (by omega)
            · simp only
              intro i hi
              rw [gi_set, if_neg (fun e => by omega)]
              exact hu2 i (by omega)
          · have hP : cptP l v (k' + 1 + (m' + 1)) = false := by
              simp only [cptP, e3]; rw [← e1, ← e2]; simp [hb]
            rw [hP, if_neg (by simp)] at hS
            refine cq_skip ?_
            refine sq_then ?_
            refine cq_region ?_
            apply sq_g; exact g_move (s := .av (.val (.int _ _))) rfl; exact rfl
            apply sq_g; exact g_arith rfl rfl rfl (by omega); exact rfl
            apply sq_g; exact g_assign (s := .av (.val (.int _ _))) rfl; exact rfl
            refine sq_nil ?_
            refine sq_round (g := (u, m' + 1)) (u, m' + 1 + 1) ⟨by simp, by simp; omega, hul, ?_, ?_, ?_⟩ (by simp; omega) (ent ⟨.refl _, .refl _, .int (by simp only; rw [show k' + 1 + (m' + 1 + 1) = k' + 1 + (m' + 1) + 1 from by omega, hS]), .refl _, .int (by simp), trivial⟩ ⟨⟨_, rfl, .refl _⟩, trivial⟩)
            · simp only; rw [show k' + 1 + (m' + 1 + 1) = k' + 1 + (m' + 1) + 1 from by omega, hS]; omega
            · simp only; rw [show k' + 1 + (m' + 1 + 1) = k' + 1 + (m' + 1) + 1 from by omega, hS]; exact hu1
            · simp only; exact fun i hi => hu2 i (by omega)
        · have hE : k' + 1 + (m' + 1) = v.length := by omega
          have hcE : cptTo l v (k' + 1 + (m' + 1)) = cpt l v := by rw [hE]; rfl
          refine cq_exit ?_
          refine sq_then ?_
          refine cq_seq ?_
          refine cq_region ?_
          apply sq_g; exact g_move (s := .osl _) rfl; exact rfl
          apply sq_g; exact g_move (s := .av (.val (.int _ _))) rfl; exact rfl
          apply sq_g; exact g_from rfl rfl rfl rfl (by omega) (by omega); exact rfl
          refine sq_s (g_clear (lo := (cptTo l v (k' + 1 + (m' + 1))).length) zv3 rfl rfl rfl rfl) ?_
          refine sq_nil ?_
          refine sq_then ?_
          refine cq_seq ?_
          refine cq_region ?_
          apply sq_g; exact g_move (s := .osl _) rfl; exact rfl
          apply sq_g; exact g_move (s := .av (.val (.int _ _))) rfl; exact rfl
          refine sq_v (v_cut rfl rfl rfl rfl (by omega)) rfl ?_
          apply sq_g; exact g_assign (s := .osl _) rfl; exact rfl
          refine sq_nil ?_
          refine sq_then ?_
          refine cq_ret ?_
          refine sq_inBlock_ret ?_
          refine sq_then_ret ?_
          refine sq_then_ret ?_
          refine sq_inBlock_ret ?_
          refine sq_then_ret ?_
          refine sq_retWb rfl rfl rfl (by rw [hcE]) (fun i hi j hj => ?_)
          obtain rfl : j = 0 := by omega
          simp only [rowClr]
          rw [if_neg (by omega)]
          simp only [xf]
          rw [hu1 i (by omega), hcE]
      · refine cq_skip ?_
        refine sq_then ?_
        refine cq_region ?_
        apply sq_g; exact g_move (s := .av (.val (.int _ _))) rfl; exact rfl
        apply sq_g; exact g_arith rfl rfl rfl (by omega); exact rfl
        apply sq_g; exact g_assign (s := .av (.val (.int _ _))) rfl; exact rfl
        refine sq_nil ?_
        exact sq_round (k' + 1 + 1) ⟨by omega, by omega, plt_step hall (by simp [cptP, hb])⟩ (by omega) (ent ⟨.refl _, .refl _, .int (by simp), trivial⟩ ⟨⟨_, rfl, .refl _⟩, trivial⟩)
    · refine cq_exit ?_
      refine sq_then ?_
      refine cq_seq ?_
      refine cq_region ?_
      apply sq_g; exact g_move (s := .osl _) rfl; exact rfl
      apply sq_g; exact g_assign (s := .osl _) rfl; exact rfl
      refine sq_nil ?_
      refine sq_then ?_
      refine cq_ret ?_
      have e : cpt l v = v := by rw [cpt, cptTo_all l v _ (Nat.le_refl _) (fun i hi => hall i (by omega)), List.take_length]
      exact sq_retWb rfl rfl rfl (by rw [e]) (fun _ _ _ _ => by rw [e])
end Go.Proofs.YtdoppiajbpmmkaaGreat
namespace Go.Proofs.YtdoppiajbpmmkaaGreat
open Go Go.Vc Go.RowKit
set_option maxHeartbeats 1000000
theorem gi_rev {v : List Nat} {k : Nat} (h : k < v.length) : gi v.reverse k = gi v (v.length - 1 - k) := by
  have h2 : v.length - 1 - k < v.length := by omega
  simp [gi, List.getD, h, h2]
theorem reverse_c (v : List Nat) (hn : v.length ≤ 1000) (h0 : 0 < v.length) : CtrW Tryz.prog 118 [] 3 1 v.length (xf v) v.length (xf v.reverse) false := by
  refine ctrW _ Tryz.func118 rfl rfl Tryz.ntmps118 rfl fun w Z v0 => ?_
  simp only [initT, List.map_cons, List.map_nil, Nat.zero_add, Nat.reduceAdd]
  refine cq_seq ?_
  refine cq_region ?_
  apply sq_g; exact g_move (s := .osl _) rfl; exact rfl
  apply sq_g; exact g_len_own rfl rfl; exact rfl
  apply sq_g; exact g_arith rfl rfl rfl (by omega); exact rfl
  apply sq_g; exact g_assign (s := .av (.val (.int _ _))) rfl; exact rfl
  apply sq_g; exact g_assign (s := .av (.val (.int _ _))) rfl; exact rfl
  refine sq_nil ?_
  refine sq_then ?_
  refine cq_block ?_
  refine cq_loop (γ := List Nat × Nat) (fun g => [(0, .osl 0), (2, .av (vi g.2)), (3, .av (vi ((v.length : Int) - 1 - g.2)))]) (fun g => [(0, .row 3 1 v.length (xf g.1))])
    (fun g => g.1.length = v.length ∧ 2 * g.2 ≤ v.length ∧ ∀ k, k < v.length → gi g.1 k = if k < g.2 ∨ v.length - 1 - g.2 < k then gi v (v.length - 1 - k) else gi v k) (fun g => v.length - g.2) (v, 0)
    ⟨rfl, by simp, fun k hk => by simp only; rw [if_neg (by omega)]⟩ (ent ⟨.refl _, .refl _, .int (by simp), trivial⟩ ⟨⟨_, rfl, .refl _⟩, trivial⟩) ?_
  rintro ⟨u, i⟩ ⟨hul, hi2, hu⟩
  simp only at hul hi2 hu
  dsimp only
  refine cq_seq ?_
  refine cq_seq ?_
  refine cq_region ?_
  apply sq_g; exact g_move (s := .av (.val (.int _ _))) rfl; exact rfl
  apply sq_g; exact g_move (s := .av (.val (.int _ _))) rfl; exact rfl
  apply sq_g; exact g_cmp rfl rfl rfl; exact rfl
  refine sq_nil ?_
  refine sq_then ?_
  (refine cq_cond rfl (fun hb => ?_) (fun hb => ?_) <;> (try simp only [decide_eq_true_eq, decide_eq_false_iff_not, beq_iff_eq, beq_eq_false_iff_ne, bne_iff_ne, bne_eq_false_iff_eq, ne_eq, Bool.not_eq_true', Bool.not_eq_false', Bool.and_eq_true, Bool.or_eq_true, Bool.and_eq_false_iff, Bool.or_eq_false_iff] at hb) <;> (try (exfalso; omega)))
  · refine cq_skip ?_
    refine sq_then ?_
    refine cq_seq ?_
    refine cq_block ?_
    refine cq_drawn ?_
    apply dq_g; exact g_move (s := .osl _) rfl; exact rfl
    apply dq_g; exact g_move (s := .av (.val (.int _ _))) rfl; exact rfl
    apply dq_g; exact g_move (s := .osl _) rfl; exact rfl
    apply dq_g; exact g_move (s := .av (.val (.int _ _))) rfl; exact rfl
    apply dq_g; exact g_move (s := .osl _) rfl; exact rfl
    apply dq_g; exact g_move (s := .av (.val (.int _ _))) rfl; exact rfl
    apply dq_g; exact  g_index_row (k := v.length - 1 - i) rfl rfl rfl (by omega) (by omega); exact rfl
    apply dq_g; exact g_load_oel (τ := .val (.int _ _)) rfl rfl (by omega) rfl rfl; exact rfl
    apply dq_g; exact g_move (s := .osl _) rfl; exact rfl
    apply dq_g; exact g_move (s := .av (.val (.int _ _))) rfl; exact rfl
    apply dq_g; exact  g_index_row (k := i) rfl rfl rfl (by omega) (by omega); exact rfl
    apply dq_g; exact g_load_oel (τ := .val (.int _ _)) rfl rfl (by omega) rfl rfl; exact rfl
    apply dq_g; exact  g_index_row (k := i) rfl rfl rfl (by omega) (by omega); exact rfl
    refine dq_s (g_store_oel rfl rfl rfl rfl (by omega) rfl) ?_
    apply dq_g; exact  g_index_row (k := v.length - 1 - i) rfl rfl rfl (by omega) (by omega); exact rfl
    refine dq_s (g_store_oel rfl rfl rfl rfl (by omega) rfl) ?_
    refine dq_nil tm rfl ?_
    refine sq_then ?_
    refine cq_region ?_
    apply sq_g; exact g_move (s := .av (.val (.int _ _))) rfl; exact rfl
    apply sq_g; exact g_arith rfl rfl rfl (by omega); exact rfl
    apply sq_g; exact g_move (s := .av (.val (.int _ _))) rfl; exact rfl
    apply sq_g; exact g_arith rfl rfl rfl (by omega); exact rfl
    apply sq_g; exact g_assign (s := .av (.val (.int _ _))) rfl; exact rfl
    apply sq_g; exact g_assign (s := .av (.val (.int _ _))) rfl; exact rfl
    refine sq_nil ?_
    refine sq_round (g := (u, i)) (swp u i (v.length - 1 - i), i + 1) ⟨by simp [swp_len, hul], by simp; omega, fun k hk => ?_⟩ (by simp; omega) (ent ⟨.refl _, .int (by simp), .int (by simp; omega), trivial⟩ ⟨⟨_, rfl, .row rfl (fun a ha b hb => xf_swp (v := u) (by omega) (by omega) (by omega) a (by omega) b hb)⟩, trivial⟩)
    simp only
    rw [gi_swp (by omega) (by omega)]
    by_cases h1 : k = v.length - 1 - i
    · rw [if_pos h1, if_pos (by omega), hu i (by omega), if_neg (by omega), h1, show v.length - 1 - (v.length - 1 - i) = i from by omega]
    · by_cases h2 : k = i
      · rw [if_neg h1, if_pos h2, if_pos (by omega), hu _ (by omega), if_neg (by omega), h2]
      · rw [if_neg h1, if_neg h2, hu k hk]
        by_cases h3 : k < i ∨ v.length - 1 - i < k
        · rw [if_pos h3, if_pos (by omega)]
        · rw [if_neg h3, if_neg (by omega)]
  · refine cq_exit ?_
    refine sq_then_exit ?_
    refine sq_then_exit ?_
    refine sq_inBlock_exit ?_
    refine sq_retW rfl rfl rfl rfl (fun a ha b hb => ?_)
    obtain rfl : b = 0 := by omega
    simp only [xf]
    rw [hu a ha, gi_rev ha]
    split
    · rfl
    · rw [show v.length - 1 - a = a from by omega]
end Go.Proofs.YtdoppiajbpmmkaaGreat
namespace Go.Proofs.YtdoppiajbpmmkaaGreat
open Go Go.Vc Go.RowKit
set_option maxHeartbeats 1000000
theorem around_c (l : List Pt) (hn : l.length ≤ 19) : CtrR Tryz.prog 86 [pts l] 3 1 (arr l).length (xf (arr l)) [] := by
  refine ctrR _ Tryz.func86 rfl rfl Tryz.ntmps86 rfl fun w Z => ?_
  simp only [initT, List.map_cons, List.map_nil, Nat.zero_add, Nat.reduceAdd]
  refine cq_seq ?_
  refine cq_region ?_
  apply sq_g; exact g_box rfl rfl; exact rfl
  apply sq_g; exact g_assign (s := .av _) rfl; exact rfl
  refine sq_nil ?_
  refine sq_then ?_
  refine cq_seq ?_
  refine cq_region ?_
  apply sq_g; exact g_load rfl rfl rfl; exact rfl
  refine sq_v (f_call_rowN 0 (order_c l hn) rfl rfl) rfl ?_
  apply sq_g; exact g_move (s := .tupR _ _) rfl; exact rfl
  apply sq_g; exact g_extractR0 rfl; exact rfl
  apply sq_g; exact g_extractR rfl rfl; exact rfl
  apply sq_g; exact g_assign (s := .osl _) rfl; exact rfl
  apply sq_g; exact g_assign (s := .av (.val (.int _ _))) rfl; exact rfl
  refine sq_nil ?_
  refine sq_then ?_
  refine cq_seq ?_
  refine cq_seq ?_
  refine cq_region ?_
  apply sq_g; exact g_move (s := .av (.val (.int _ _))) rfl; exact rfl
  apply sq_g; exact g_cmp rfl rfl rfl; exact rfl
  refine sq_nil ?_
  refine sq_then ?_
  (refine cq_cond rfl (fun hb => ?_) (fun hb => ?_) <;> (try simp only [decide_eq_true_eq, decide_eq_false_iff_not, beq_iff_eq, beq_eq_false_iff_ne, bne_iff_ne, bne_eq_false_iff_eq, ne_eq, Bool.not_eq_true', Bool.not_eq_false', Bool.and_eq_true, Bool.or_eq_true, Bool.and_eq_false_iff, Bool.or_eq_false_iff] at hb) <;> (try (exfalso; omega)))
  · refine cq_seq ?_
    refine cq_region ?_
    apply sq_g; exact g_assign (s := .av _) rfl; exact rfl
    refine sq_nil ?_
    refine sq_then ?_
    refine cq_ret ?_
    refine sq_then_ret ?_
    have e : ordN l = [] := by simp [ordN, hb]
    exact sq_retR_nil rfl rfl (by simp [arr, e, cpt, cptTo])
  · have hcl : (cpt l (ordN l)).length ≤ (ordN l).length := cptTo_len _ _ _
    have h1 : (cpt l (ordN l)).length ≤ 1000 := by have := ordN_len l; omega
    have b1 : ∀ k, k < (cpt l (ordN l)).length → gi (cpt l (ordN l)) k < l.length := cpt_p (p := fun x => x < l.length) (ordN_lt l) _ (Nat.le_refl _)
    have b2 : ∀ k, k < (cpt l (ordN l)).reverse.length → gi (cpt l (ordN l)).reverse k < l.length := rev_p (p := fun x => x < l.length) b1
    have sm := chk_sm hb
    have h9 : (ordN l).length ≤ 1000 := by have := ordN_len l; omega
    have c2 : 0 < (cpt l (ordN l)).length → CtrR Tryz.prog 117 [.sl (cpt l (ordN l)).length 1 (xf (cpt l (ordN l)).reverse), lp l] 3 1 (chain l (cpt l (ordN l)).reverse).length (xf (chain l (cpt l (ordN l)).reverse)) [] := fun h => by
      have := chain_c l (cpt l (ordN l)).reverse sm b2 (by simpa using h) (by simpa using h1)
      rw [idx_eq, List.length_reverse] at this
      exact this
    refine cq_skip ?_
    refine sq_then ?_
    refine cq_seq ?_
    refine cq_region ?_
    apply sq_g; exact g_move (s := .osl _) rfl; exact rfl
    apply sq_g; exact g_makeFunc (τs := [_]) rfl; exact rfl
    refine sq_v (v_call_wb (compact_c l (ordN l) (ordN_lt l) h9) rfl rfl rfl) rfl ?_
    apply sq_g; exact g_assign (s := .osl _) rfl; exact rfl
    refine sq_nil ?_
    refine sq_then ?_
    refine cq_seq ?_
    refine cq_seq ?_
    refine cq_region ?_
    apply sq_g; exact g_move (s := .osl _) rfl; exact rfl
    apply sq_g; exact g_len_own rfl rfl; exact rfl
    apply sq_g; exact g_cmp rfl rfl rfl; exact rfl
    refine sq_nil ?_
    refine sq_then ?_
    (refine cq_cond rfl (fun hb => ?_) (fun hb => ?_) <;> (try simp only [decide_eq_true_eq, decide_eq_false_iff_not, beq_iff_eq, beq_eq_false_iff_ne, bne_iff_ne, bne_eq_false_iff_eq, ne_eq, Bool.not_eq_true', Bool.not_eq_false', Bool.and_eq_true, Bool.or_eq_true, Bool.and_eq_false_iff, Bool.or_eq_false_iff] at hb) <;> (try (exfalso; omega)))
    · refine cq_seq ?_
      refine cq_region ?_
      apply sq_g; exact g_move (s := .osl _) rfl; exact rfl
      apply sq_g; exact g_assign (s := .osl _) rfl; exact rfl
      refine sq_nil ?_
      refine sq_then ?_
      refine cq_ret ?_
      refine sq_then_ret ?_
      exact sq_retR rfl rfl rfl (by rw [arr, if_pos (by omega)]) (fun _ _ _ _ => by rw [arr, if_pos (by omega)])
    · refine cq_skip ?_
      refine sq_then ?_
      refine cq_seq ?_
      refine cq_region ?_
      apply sq_g; exact g_makeFunc (τs := [_]) rfl; exact rfl
      apply sq_g; exact g_assign (s := .av _) rfl; exact rfl
      refine sq_nil ?_
      refine sq_then ?_
      refine cq_seq ?_
      refine cq_region ?_
      apply sq_g; exact g_move (s := .av _) rfl; exact rfl
      apply sq_g; exact g_move (s := .osl _) rfl; exact rfl
      refine sq_v (v_callc_row 1 (τs := [_]) (n := 1) (cf := fun i => [lp l].getD i .any) (chain_c l (cpt l (ordN l)) sm b1 (by omega) h1) rfl rfl (fun _ _ _ _ => ⟨_, rfl⟩)) rfl ?_
      apply sq_g; exact g_assign (s := .osl _) rfl; exact rfl
      refine sq_nil ?_
      refine sq_then ?_
      refine cq_seq ?_
      refine cq_region ?_
      apply sq_g; exact g_move (s := .osl _) rfl; exact rfl
      refine sq_v (v_call_w (reverse_c (cpt l (ordN l)) h1 (by omega)) rfl rfl rfl) rfl ?_
      refine sq_nil ?_
      refine sq_then ?_
      refine cq_seq ?_
      refine cq_region ?_
      apply sq_g; exact g_move (s := .osl _) rfl; exact rfl
      apply sq_g; exact g_move (s := .av _) rfl; exact rfl
      apply sq_g; exact g_move (s := .osl _) rfl; exact rfl
      refine sq_v (v_callc_row 2 (τs := [_]) (n := 1) (cf := fun i => [lp l].getD i .any) (c2 (by omega)) rfl rfl (fun _ _ _ _ => ⟨_, rfl⟩)) rfl ?_
      have q1 := chain_le l (cpt l (ordN l))
      have q2 := chain_le l (cpt l (ordN l)).reverse
      rw [List.length_reverse] at q2
      have p2 : 0 < (chain l (cpt l (ordN l)).reverse).length := chain_pos _ _ (by simp; omega)
      refine lsq_more (ent_freeze 2 rfl) ?_
      refine sq_v (v_append (h := xf (chain l (cpt l (ordN l)).reverse)) (m := (chain l (cpt l (ordN l)).reverse).length) rfl rfl rfl (fun _ _ _ _ => rfl) p2 (by simp only [maxLen]; omega) (by omega)) rfl ?_
      apply sq_g; exact g_assign (s := .osl _) rfl; exact rfl
      refine sq_nil ?_
      refine sq_then ?_
      refine cq_ret ?_
      have e : arr l = chain l (cpt l (ordN l)) ++ chain l (cpt l (ordN l)).reverse := by rw [arr, if_neg (by omega)]
      rw [e]
      refine sq_retR rfl rfl rfl (by rw [List.length_append]) (fun i hi j hj => ?_)
      simp only [rowApp, xf]
      split
      · rename_i h; simp [gi, List.getD, List.getElem?_append_left h]
      · rename_i h; simp [gi, List.getD, List.getElem?_append_right (Nat.le_of_not_lt h)]
end Go.Proofs.YtdoppiajbpmmkaaGreat
namespace Go.Proofs.YtdoppiajbpmmkaaGreat
open Go Go.Vc Go.RowKit
set_option maxHeartbeats 1000000
abbrev Sml (l : List Pt) : Prop := chk l = 0 → l.length ≤ 19
def errH (l : List Pt) : Int := if chk l ≠ 0 then chk l else if l.length = 0 then 13 else 0
def hullN (l : List Pt) : List Nat := if errH l = 0 then arr l else []
theorem hullR_c (l : List Pt) (hs : Sml l) : CtrR Tryz.prog 101 [pts l] 3 1 (hullN l).length (xf (hullN l)) [vi (errH l)] := by
  refine ctrR _ Tryz.func101 rfl rfl Tryz.ntmps101 rfl fun w Z => ?_
  simp only [initT, List.map_cons, List.map_nil, Nat.zero_add, Nat.reduceAdd]
  refine cq_seq ?_
  refine cq_region ?_
  apply sq_g; exact g_assign (s := .av _) rfl; exact rfl
  apply sq_g; exact g_assign (s := .av (.val (.int _ _))) rfl; exact rfl
  refine sq_nil ?_
  refine sq_then ?_
  refine cq_seq ?_
  refine cq_seq ?_
  refine cq_region ?_
  apply sq_g; exact g_move (s := .av _) rfl; exact rfl
  apply sq_g; exact g_call (pcheck_c l) rfl; exact rfl
  apply sq_g; exact g_assign (s := .av (.val (.int _ _))) rfl; exact rfl
  refine sq_nil ?_
  refine sq_then ?_
  refine cq_seq ?_
  refine cq_region ?_
  apply sq_g; exact g_move (s := .av (.val (.int _ _))) rfl; exact rfl
  apply sq_g; exact g_cmp rfl rfl rfl; exact rfl
  refine sq_nil ?_
  refine sq_then ?_
  (refine cq_cond rfl (fun hb => ?_) (fun hb => ?_) <;> (try simp only [decide_eq_true_eq, decide_eq_false_iff_not, beq_iff_eq, beq_eq_false_iff_ne, bne_iff_ne, bne_eq_false_iff_eq, ne_eq, Bool.not_eq_true', Bool.not_eq_false', Bool.and_eq_true, Bool.or_eq_true, Bool.and_eq_false_iff, Bool.or_eq_false_iff] at hb) <;> (try (exfalso; omega)))
  · have e1 : errH l = chk l := by simp [errH, hb]
    have e2 : hullN l = [] := by simp [hullN, e1, hb]
    rw [e1, e2]
    refine cq_seq ?_
    refine cq_region ?_
    apply sq_g; exact g_move (s := .av (.val (.int _ _))) rfl; exact rfl
    apply sq_g; exact g_assign (s := .av _) rfl; exact rfl
    apply sq_g; exact g_assign (s := .av (.val (.int _ _))) rfl; exact rfl
    refine sq_nil ?_
    refine sq_then ?_
    refine cq_ret ?_
    refine sq_then_ret ?_
    exact sq_retRN_nil rfl rfl rfl (τs := [vi (chk l)]) ⟨.tmp rfl, trivial⟩ rfl
  · have hn1 := hs hb
    have hb' := hb
    refine cq_skip ?_
    refine sq_then ?_
    refine cq_seq ?_
    refine cq_seq ?_
    refine cq_region ?_
    apply sq_g; exact g_move (s := .av _) rfl; exact rfl
    apply sq_g; exact g_len rfl; exact rfl
    apply sq_g; exact g_cmp rfl rfl rfl; exact rfl
    refine sq_nil ?_
    refine sq_then ?_
    (refine cq_cond rfl (fun hb => ?_) (fun hb => ?_) <;> (try simp only [decide_eq_true_eq, decide_eq_false_iff_not, beq_iff_eq, beq_eq_false_iff_ne, bne_iff_ne, bne_eq_false_iff_eq, ne_eq, Bool.not_eq_true', Bool.not_eq_false', Bool.and_eq_true, Bool.or_eq_true, Bool.and_eq_false_iff, Bool.or_eq_false_iff] at hb) <;> (try (exfalso; omega)))
    · have e1 : errH l = 13 := by simp [errH, hb', show l.length = 0 by omega]
      have e2 : hullN l = [] := by simp [hullN, e1]
      rw [e1, e2]
      refine cq_seq ?_
      refine cq_region ?_
      apply sq_g; exact g_assign (s := .av _) rfl; exact rfl
      apply sq_g; exact g_assign (s := .av (.val (.int _ _))) rfl; exact rfl
      refine sq_nil ?_
      refine sq_then ?_
      refine cq_ret ?_
      refine sq_then_ret ?_
      exact sq_retRN_nil rfl rfl rfl (τs := [vi 13]) ⟨.tmp rfl, trivial⟩ rfl
    · have e1 : errH l = 0 := by simp [errH, hb', show l.length ≠ 0 by omega]
      have e2 : hullN l = arr l := by simp [hullN, e1]
      have ha := around_c l hn1
      rw [e1, e2]
      refine cq_skip ?_
      refine sq_then ?_
      refine cq_seq ?_
      refine cq_region ?_
      apply sq_g; exact g_move (s := .av _) rfl; exact rfl
      refine sq_v (f_call_row 40 (ha) rfl rfl) rfl ?_
      apply sq_g; exact g_assign (s := .osl _) rfl; exact rfl
      apply sq_g; exact g_assign (s := .av (.val (.int _ _))) rfl; exact rfl
      refine sq_nil ?_
      refine sq_then ?_
      refine cq_ret ?_
      exact sq_retRN rfl rfl rfl rfl (fun _ _ _ _ => rfl) (τs := [vi 0]) ⟨.tmp rfl, trivial⟩ rfl
end Go.Proofs.YtdoppiajbpmmkaaGreat
