/- A part of the proof that the law returns true at every input and that the input reads behind the call as it read before; this part states nothing of its own that needs a condition of the input. -/
import Derived.Test.YtdoppiajbpmmkaaGreatKh
set_option linter.unusedVariables false
set_option linter.unusedSimpArgs false
set_option linter.unnecessarySimpa false
namespace Go.Proofs.YtdoppiajbpmmkaaGreat
open Go Go.Vc Go.RowKit
set_option maxHeartbeats 8000000
/-! KDQ -/
theorem rsgn_c (n : Int) : CtrA Tryz.prog 151 [vi n] (vi (sgn n)) := by
  refine ctrA _ Tryz.func151 rfl rfl Tryz.ntmps151 rfl fun w Z => ?_
  simp only [initT, List.map_cons, List.map_nil, Nat.zero_add, Nat.reduceAdd]
  refine cq_seq ?_
  refine cq_region ?_
  apply sq_g; exact g_assign (s := .av (.val (.int _ _))) rfl; exact rfl
  refine sq_nil ?_
  refine sq_then ?_
  refine cq_seq ?_
  refine cq_seq ?_
  refine cq_region ?_
  apply sq_g; exact g_move (s := .av (.val (.int _ _))) rfl; exact rfl
  apply sq_g; exact g_cmp rfl rfl rfl; exact rfl
  refine sq_nil ?_
  refine sq_then ?_
  unfold sgn
  (refine cq_cond rfl (fun hb => ?_) (fun hb => ?_) <;> (try simp only [decide_eq_true_eq, decide_eq_false_iff_not, beq_iff_eq, beq_eq_false_iff_ne, bne_iff_ne, bne_eq_false_iff_eq, ne_eq, Bool.not_eq_true', Bool.not_eq_false', Bool.and_eq_true, Bool.or_eq_true, Bool.and_eq_false_iff, Bool.or_eq_false_iff] at hb) <;> (try (exfalso; omega)))
  · refine cq_seq ?_
    refine cq_region ?_
    apply sq_g; exact g_assign (s := .av (.val (.int _ _))) rfl; exact rfl
    refine sq_nil ?_
    refine sq_then ?_
    refine cq_ret ?_
    refine sq_then_ret ?_
    exact sq_res1 rfl (.tmp rfl) (by rw [if_pos hb])
  · have hn := hb
    refine cq_skip ?_
    refine sq_then ?_
    refine cq_seq ?_
    refine cq_seq ?_
    refine cq_region ?_
    apply sq_g; exact g_move (s := .av (.val (.int _ _))) rfl; exact rfl
    apply sq_g; exact g_cmp rfl rfl rfl; exact rfl
    refine sq_nil ?_
    refine sq_then ?_
    (refine cq_cond rfl (fun hb => ?_) (fun hb => ?_) <;> (try simp only [decide_eq_true_eq, decide_eq_false_iff_not, beq_iff_eq, beq_eq_false_iff_ne, bne_iff_ne, bne_eq_false_iff_eq, ne_eq, Bool.not_eq_true', Bool.not_eq_false', Bool.and_eq_true, Bool.or_eq_true, Bool.and_eq_false_iff, Bool.or_eq_false_iff] at hb) <;> (try (exfalso; omega)))
    · refine cq_seq ?_
      refine cq_region ?_
      apply sq_g; exact g_assign (s := .av (.val (.int _ _))) rfl; exact rfl
      refine sq_nil ?_
      refine sq_then ?_
      refine cq_ret ?_
      refine sq_then_ret ?_
      exact sq_res1 rfl (.tmp rfl) (by rw [if_neg (by omega), if_pos hb])
    · refine cq_skip ?_
      refine sq_then ?_
      refine cq_seq ?_
      refine cq_region ?_
      apply sq_g; exact g_assign (s := .av (.val (.int _ _))) rfl; exact rfl
      refine sq_nil ?_
      refine sq_then ?_
      refine cq_ret ?_
      exact sq_res1 rfl (.tmp rfl) (by rw [if_neg (by omega), if_neg (by omega)])
def agreeB (a b : Int) : Bool := decide (0 ≤ sgn a * sgn b)
theorem sgn_bd (n : Int) : -1 ≤ sgn n ∧ sgn n ≤ 1 := by unfold sgn; split <;> (try split) <;> omega
theorem ragree_c (a b : Int) : CtrA Tryz.prog 136 [vi a, vi b] (vb (agreeB a b)) := by
  have h1 := rsgn_c a
  have h2 := rsgn_c b
  have b1 := sgn_bd a
  have b2 := sgn_bd b
  unfold agreeB
  generalize sgn a = s at h1 b1 ⊢
  generalize sgn b = t at h2 b2 ⊢
  obtain ⟨m1, n1⟩ := bn_mul (A := 1) (B := 1) b1 b2
  refine ctrA _ Tryz.func136 rfl rfl Tryz.ntmps136 rfl fun w Z => ?_
  simp only [initT, List.map_cons, List.map_nil, Nat.zero_add, Nat.reduceAdd]
  refine cq_seq ?_
  refine cq_region ?_
  apply sq_g; exact g_assign (s := .av (.val (.bool _))) rfl; exact rfl
  refine sq_nil ?_
  refine sq_then ?_
  refine cq_seq ?_
  refine cq_region ?_
  apply sq_g; exact g_move (s := .av (.val (.int _ _))) rfl; exact rfl
  apply sq_g; exact g_call (h1) rfl; exact rfl
  apply sq_g; exact g_move (s := .av (.val (.int _ _))) rfl; exact rfl
  apply sq_g; exact g_call (h2) rfl; exact rfl
  apply sq_g; exact g_arith rfl rfl rfl (by omega); exact rfl
  apply sq_g; exact g_cmp rfl rfl rfl; exact rfl
  apply sq_g; exact g_assign (s := .av (.val (.bool _))) rfl; exact rfl
  refine sq_nil ?_
  refine sq_then ?_
  refine cq_ret ?_
  exact sq_res1 rfl (.tmp rfl) rfl
def alongB (a b : Tr) : Bool := (decide (0 ≤ a.x) || decide (b.x ≤ 0)) && (decide (a.x ≤ 0) || decide (0 ≤ b.x)) && (decide (0 ≤ a.y) || decide (b.y ≤ 0)) && (decide (a.y ≤ 0) || decide (0 ≤ b.y)) && (decide (0 ≤ a.z) || decide (b.z ≤ 0)) && (decide (a.z ≤ 0) || decide (0 ≤ b.z))
theorem lebool {b c : Bool} (h : b = c) : SLe (.av (.val (.bool b))) (.av (vb c)) := .of_eq (by rw [h])
theorem lsq_join {P : Program} {E : Env} {ops : Array Oper} {Q : Exit → Act → World → Prop} {l : List Oper} {T : Tab} {O : Go.Vc.Own} (n : Nat) {T' : Tab} {O' : Go.Vc.Own} (k : LSQ P E ops Q (l.drop n) T' O' → LSQ P E ops Q l T O) (h : LSQ P E ops Q (l.drop n) T' O') : LSQ P E ops Q l T O := k h
theorem ralong_c (a b : Tr) : CtrA Tryz.prog 135 [tp a, tp b] (vb (alongB a b)) := by
  refine ctrA _ Tryz.func135 rfl rfl Tryz.ntmps135 rfl fun w Z => ?_
  unfold alongB
  simp only [initT, List.map_cons, List.map_nil, Nat.zero_add, Nat.reduceAdd]
  refine cq_seq ?_
  refine cq_region ?_
  refine lsq_join 3 (T' := [(2, .av (bt a)), (3, .av (bt b))]) (O' := []) (fun hj => ?_) ?_
  · apply sq_g; exact g_box_agg rfl; exact rfl
    apply sq_g; exact g_box_agg rfl; exact rfl
    apply sq_g; exact g_assign (s := .av (.val (.bool _))) rfl; exact rfl
    refine lsq_ent ?_ hj
    exact ent ⟨.refl _, .refl _, trivial⟩ trivial
  refine sq_nil ?_
  refine sq_then ?_
  refine cq_seq ?_
  refine cq_region ?_
  refine lsq_join 8 (T' := [(2, .av (bt a)), (3, .av (bt b)), (12, .av (vb ((decide (0 ≤ a.x) || decide (b.x ≤ 0)))))]) (O' := []) (fun hj => ?_) ?_
  · focus
      apply sq_g; exact g_field rfl; exact rfl
      apply sq_g; exact g_load (τ := .val (.int _ _)) rfl rfl rfl; exact rfl
      apply sq_g; exact g_cmp rfl rfl rfl; exact rfl
      apply sq_g; exact g_move (s := .av (.val (.bool _))) rfl; exact rfl
      refine sq_split rfl rfl (fun hb => ?_) (fun hb => ?_) <;> (try simp only [decide_eq_true_eq, decide_eq_false_iff_not, beq_iff_eq, beq_eq_false_iff_ne, bne_iff_ne, bne_eq_false_iff_eq, ne_eq, Bool.not_eq_true', Bool.not_eq_false', Bool.and_eq_true, Bool.or_eq_true, Bool.and_eq_false_iff, Bool.or_eq_false_iff] at hb) <;> (try (exfalso; omega))
      refine sq_off rfl rfl rfl rfl ?_
      refine sq_off rfl rfl rfl rfl ?_
      refine sq_off rfl rfl rfl rfl ?_
      apply sq_g; exact g_pick (s := .av (.val (.bool _))) rfl rfl; exact rfl
      rotate_left
      apply sq_on; exact g_field rfl; exact rfl; exact rfl; exact rfl
      apply sq_on; exact g_load (τ := .val (.int _ _)) rfl rfl rfl; exact rfl; exact rfl; exact rfl
      apply sq_on; exact g_cmp rfl rfl rfl; exact rfl; exact rfl; exact rfl
      apply sq_g; exact g_pick (s := .av (.val (.bool _))) rfl rfl; exact rfl
      rotate_left
    all_goals (refine lsq_ent ?_ hj; exact ent ⟨.refl _, .refl _, lebool (by clear hj; first | (simp [*]; done) | (simp [*]; omega)), trivial⟩ trivial)
  refine lsq_join 10 (T' := [(2, .av (bt a)), (3, .av (bt b)), (22, .av (vb ((decide (0 ≤ a.x) || decide (b.x ≤ 0)) && (decide (a.x ≤ 0) || decide (0 ≤ b.x)))))]) (O' := []) (fun hj => ?_) ?_
  · focus
      apply sq_g; exact g_move (s := .av (.val (.bool _))) rfl; exact rfl
      refine sq_split rfl rfl (fun hb => ?_) (fun hb => ?_) <;> (try simp only [decide_eq_true_eq, decide_eq_false_iff_not, beq_iff_eq, beq_eq_false_iff_ne, bne_iff_ne, bne_eq_false_iff_eq, ne_eq, Bool.not_eq_true', Bool.not_eq_false', Bool.and_eq_true, Bool.or_eq_true, Bool.and_eq_false_iff, Bool.or_eq_false_iff] at hb) <;> (try (exfalso; omega))
      apply sq_on; exact g_field rfl; exact rfl; exact rfl; exact rfl
      apply sq_on; exact g_load (τ := .val (.int _ _)) rfl rfl rfl; exact rfl; exact rfl; exact rfl
      apply sq_on; exact g_cmp rfl rfl rfl; exact rfl; exact rfl; exact rfl
      apply sq_on; exact g_move (s := .av (.val (.bool _))) rfl; exact rfl; exact rfl; exact rfl
      refine sq_split rfl rfl (fun hb => ?_) (fun hb => ?_) <;> (try simp only [decide_eq_true_eq, decide_eq_false_iff_not, beq_iff_eq, beq_eq_false_iff_ne, bne_iff_ne, bne_eq_false_iff_eq, ne_eq, Bool.not_eq_true', Bool.not_eq_false', Bool.and_eq_true, Bool.or_eq_true, Bool.and_eq_false_iff, Bool.or_eq_false_iff] at hb) <;> (try (exfalso; omega))
      refine sq_off rfl rfl rfl rfl ?_
      refine sq_off rfl rfl rfl rfl ?_
      refine sq_off rfl rfl rfl rfl ?_
      apply sq_on; exact g_pick (s := .av (.val (.bool _))) rfl rfl; exact rfl; exact rfl; exact rfl
      apply sq_g; exact g_pick (s := .av (.val (.bool _))) rfl rfl; exact rfl
      rotate_left
      apply sq_on; exact g_field rfl; exact rfl; exact rfl; exact rfl
      apply sq_on; exact g_load (τ := .val (.int _ _)) rfl rfl rfl; exact rfl; exact rfl; exact rfl
      apply sq_on; exact g_cmp rfl rfl rfl; exact rfl; exact rfl; exact rfl
      apply sq_on; exact g_pick (s := .av (.val (.bool _))) rfl rfl; exact rfl; exact rfl; exact rfl
      apply sq_g; exact g_pick (s := .av (.val (.bool _))) rfl rfl; exact rfl
      rotate_left
      refine sq_off rfl rfl rfl rfl ?_
      refine sq_off rfl rfl rfl rfl ?_
      refine sq_off rfl rfl rfl rfl ?_
      refine sq_off rfl rfl rfl rfl ?_
      refine sq_offu rfl rfl rfl ?_
      refine sq_offu rfl rfl rfl ?_
      refine sq_offu rfl rfl rfl ?_
      refine sq_off rfl rfl rfl rfl ?_
      apply sq_g; exact g_pick (s := .av (.val (.bool _))) rfl rfl; exact rfl
      rotate_left
    all_goals (refine lsq_ent ?_ hj; exact ent ⟨.refl _, .refl _, lebool (by clear hj; first | (simp [*]; done) | (simp [*]; omega)), trivial⟩ trivial)
  refine lsq_join 10 (T' := [(2, .av (bt a)), (3, .av (bt b)), (32, .av (vb ((decide (0 ≤ a.x) || decide (b.x ≤ 0)) && (decide (a.x ≤ 0) || decide (0 ≤ b.x)) && (decide (0 ≤ a.y) || decide (b.y ≤ 0)))))]) (O' := []) (fun hj => ?_) ?_
  · focus
      apply sq_g; exact g_move (s := .av (.val (.bool _))) rfl; exact rfl
      refine sq_split rfl rfl (fun hb => ?_) (fun hb => ?_) <;> (try simp only [decide_eq_true_eq, decide_eq_false_iff_not, beq_iff_eq, beq_eq_false_iff_ne, bne_iff_ne, bne_eq_false_iff_eq, ne_eq, Bool.not_eq_true', Bool.not_eq_false', Bool.and_eq_true, Bool.or_eq_true, Bool.and_eq_false_iff, Bool.or_eq_false_iff] at hb) <;> (try (exfalso; omega))
      apply sq_on; exact g_field rfl; exact rfl; exact rfl; exact rfl
      apply sq_on; exact g_load (τ := .val (.int _ _)) rfl rfl rfl; exact rfl; exact rfl; exact rfl
      apply sq_on; exact g_cmp rfl rfl rfl; exact rfl; exact rfl; exact rfl
      apply sq_on; exact g_move (s := .av (.val (.bool _))) rfl; exact rfl; exact rfl; exact rfl
      refine sq_split rfl rfl (fun hb => ?_) (fun hb => ?_) <;> (try simp only [decide_eq_true_eq, decide_eq_false_iff_not, beq_iff_eq, beq_eq_false_iff_ne, bne_iff_ne, bne_eq_false_iff_eq, ne_eq, Bool.not_eq_true', Bool.not_eq_false', Bool.and_eq_true, Bool.or_eq_true, Bool.and_eq_false_iff, Bool.or_eq_false_iff] at hb) <;> (try (exfalso; omega))
      refine sq_off rfl rfl rfl rfl ?_
      refine sq_off rfl rfl rfl rfl ?_
      refine sq_off rfl rfl rfl rfl ?_
      apply sq_on; exact g_pick (s := .av (.val (.bool _))) rfl rfl; exact rfl; exact rfl; exact rfl
      apply sq_g; exact g_pick (s := .av (.val (.bool _))) rfl rfl; exact rfl
      rotate_left
      apply sq_on; exact g_field rfl; exact rfl; exact rfl; exact rfl
      apply sq_on; exact g_load (τ := .val (.int _ _)) rfl rfl rfl; exact rfl; exact rfl; exact rfl
      apply sq_on; exact g_cmp rfl rfl rfl; exact rfl; exact rfl; exact rfl
      apply sq_on; exact g_pick (s := .av (.val (.bool _))) rfl rfl; exact rfl; exact rfl; exact rfl
      apply sq_g; exact g_pick (s := .av (.val (.bool _))) rfl rfl; exact rfl
      rotate_left
      refine sq_off rfl rfl rfl rfl ?_
      refine sq_off rfl rfl rfl rfl ?_
      refine sq_off rfl rfl rfl rfl ?_
      refine sq_off rfl rfl rfl rfl ?_
      refine sq_offu rfl rfl rfl ?_
      refine sq_offu rfl rfl rfl ?_
      refine sq_offu rfl rfl rfl ?_
      refine sq_off rfl rfl rfl rfl ?_
      apply sq_g; exact g_pick (s := .av (.val (.bool _))) rfl rfl; exact rfl
      rotate_left
    all_goals (refine lsq_ent ?_ hj; exact ent ⟨.refl _, .refl _, lebool (by clear hj; first | (simp [*]; done) | (simp [*]; omega)), trivial⟩ trivial)
  refine lsq_join 10 (T' := [(2, .av (bt a)), (3, .av (bt b)), (42, .av (vb ((decide (0 ≤ a.x) || decide (b.x ≤ 0)) && (decide (a.x ≤ 0) || decide (0 ≤ b.x)) && (decide (0 ≤ a.y) || decide (b.y ≤ 0)) && (decide (a.y ≤ 0) || decide (0 ≤ b.y)))))]) (O' := []) (fun hj => ?_) ?_
  · focus
      apply sq_g; exact g_move (s := .av (.val (.bool _))) rfl; exact rfl
      refine sq_split rfl rfl (fun hb => ?_) (fun hb => ?_) <;> (try simp only [decide_eq_true_eq, decide_eq_false_iff_not, beq_iff_eq, beq_eq_false_iff_ne, bne_iff_ne, bne_eq_false_iff_eq, ne_eq, Bool.not_eq_true', Bool.not_eq_false', Bool.and_eq_true, Bool.or_eq_true, Bool.and_eq_false_iff, Bool.or_eq_false_iff] at hb) <;> (try (exfalso; omega))
      apply sq_on; exact g_field rfl; exact rfl; exact rfl; exact rfl
      apply sq_on; exact g_load (τ := .val (.int _ _)) rfl rfl rfl; exact rfl; exact rfl; exact rfl
      apply sq_on; exact g_cmp rfl rfl rfl; exact rfl; exact rfl; exact rfl
      apply sq_on; exact g_move (s := .av (.val (.bool _))) rfl; exact rfl; exact rfl; exact rfl
      refine sq_split rfl rfl (fun hb => ?_) (fun hb => ?_) <;> (try simp only [decide_eq_true_eq, decide_eq_false_iff_not, beq_iff_eq, beq_eq_false_iff_ne, bne_iff_ne, bne_eq_false_iff_eq, ne_eq, Bool.not_eq_true', Bool.not_eq_false', Bool.and_eq_true, Bool.or_eq_true, Bool.and_eq_false_iff, Bool.or_eq_false_iff] at hb) <;> (try (exfalso; omega))
      refine sq_off rfl rfl rfl rfl ?_
      refine sq_off rfl rfl rfl rfl ?_
      refine sq_off rfl rfl rfl rfl ?_
      apply sq_on; exact g_pick (s := .av (.val (.bool _))) rfl rfl; exact rfl; exact rfl; exact rfl
      apply sq_g; exact g_pick (s := .av (.val (.bool _))) rfl rfl; exact rfl
      rotate_left
      apply sq_on; exact g_field rfl; exact rfl; exact rfl; exact rfl
      apply sq_on; exact g_load (τ := .val (.int _ _)) rfl rfl rfl; exact rfl; exact rfl; exact rfl
      apply sq_on; exact g_cmp rfl rfl rfl; exact rfl; exact rfl; exact rfl
      apply sq_on; exact g_pick (s := .av (.val (.bool _))) rfl rfl; exact rfl; exact rfl; exact rfl
      apply sq_g; exact g_pick (s := .av (.val (.bool _))) rfl rfl; exact rfl
      rotate_left
      refine sq_off rfl rfl rfl rfl ?_
      refine sq_off rfl rfl rfl rfl ?_
      refine sq_off rfl rfl rfl rfl ?_
      refine sq_off rfl rfl rfl rfl ?_
      refine sq_offu rfl rfl rfl ?_
      refine sq_offu rfl rfl rfl ?_
      refine sq_offu rfl rfl rfl ?_
      refine sq_off rfl rfl rfl rfl ?_
      apply sq_g; exact g_pick (s := .av (.val (.bool _))) rfl rfl; exact rfl
      rotate_left
    all_goals (refine lsq_ent ?_ hj; exact ent ⟨.refl _, .refl _, lebool (by clear hj; first | (simp [*]; done) | (simp [*]; omega)), trivial⟩ trivial)
  refine lsq_join 10 (T' := [(2, .av (bt a)), (3, .av (bt b)), (52, .av (vb ((decide (0 ≤ a.x) || decide (b.x ≤ 0)) && (decide (a.x ≤ 0) || decide (0 ≤ b.x)) && (decide (0 ≤ a.y) || decide (b.y ≤ 0)) && (decide (a.y ≤ 0) || decide (0 ≤ b.y)) && (decide (0 ≤ a.z) || decide (b.z ≤ 0)))))]) (O' := []) (fun hj => ?_) ?_
  · focus
      apply sq_g; exact g_move (s := .av (.val (.bool _))) rfl; exact rfl
      refine sq_split rfl rfl (fun hb => ?_) (fun hb => ?_) <;> (try simp only [decide_eq_true_eq, decide_eq_false_iff_not, beq_iff_eq, beq_eq_false_iff_ne, bne_iff_ne, bne_eq_false_iff_eq, ne_eq, Bool.not_eq_true', Bool.not_eq_false', Bool.and_eq_true, Bool.or_eq_true, Bool.and_eq_false_iff, Bool.or_eq_false_iff] at hb) <;> (try (exfalso; omega))
      apply sq_on; exact g_field rfl; exact rfl; exact rfl; exact rfl
      apply sq_on; exact g_load (τ := .val (.int _ _)) rfl rfl rfl; exact rfl; exact rfl; exact rfl
      apply sq_on; exact g_cmp rfl rfl rfl; exact rfl; exact rfl; exact rfl
      apply sq_on; exact g_move (s := .av (.val (.bool _))) rfl; exact rfl; exact rfl; exact rfl
      refine sq_split rfl rfl (fun hb => ?_) (fun hb => ?_) <;> (try simp only [decide_eq_true_eq, decide_eq_false_iff_not, beq_iff_eq, beq_eq_false_iff_ne, bne_iff_ne, bne_eq_false_iff_eq, ne_eq, Bool.not_eq_true', Bool.not_eq_false', Bool.and_eq_true, Bool.or_eq_true, Bool.and_eq_false_iff, Bool.or_eq_false_iff] at hb) <;> (try (exfalso; omega))
      refine sq_off rfl rfl rfl rfl ?_
      refine sq_off rfl rfl rfl rfl ?_
      refine sq_off rfl rfl rfl rfl ?_
      apply sq_on; exact g_pick (s := .av (.val (.bool _))) rfl rfl; exact rfl; exact rfl; exact rfl
      apply sq_g; exact g_pick (s := .av (.val (.bool _))) rfl rfl; exact rfl
      rotate_left
      apply sq_on; exact g_field rfl; exact rfl; exact rfl; exact rfl
      apply sq_on; exact g_load (τ := .val (.int _ _)) rfl rfl rfl; exact rfl; exact rfl; exact rfl
      apply sq_on; exact g_cmp rfl rfl rfl; exact rfl; exact rfl; exact rfl
      apply sq_on; exact g_pick (s := .av (.val (.bool _))) rfl rfl; exact rfl; exact rfl; exact rfl
      apply sq_g; exact g_pick (s := .av (.val (.bool _))) rfl rfl; exact rfl
      rotate_left
      refine sq_off rfl rfl rfl rfl ?_
      refine sq_off rfl rfl rfl rfl ?_
      refine sq_off rfl rfl rfl rfl ?_
      refine sq_off rfl rfl rfl rfl ?_
      refine sq_offu rfl rfl rfl ?_
      refine sq_offu rfl rfl rfl ?_
      refine sq_offu rfl rfl rfl ?_
      refine sq_off rfl rfl rfl rfl ?_
      apply sq_g; exact g_pick (s := .av (.val (.bool _))) rfl rfl; exact rfl
      rotate_left
    all_goals (refine lsq_ent ?_ hj; exact ent ⟨.refl _, .refl _, lebool (by clear hj; first | (simp [*]; done) | (simp [*]; omega)), trivial⟩ trivial)
  refine lsq_join 10 (T' := [(2, .av (bt a)), (3, .av (bt b)), (62, .av (vb ((decide (0 ≤ a.x) || decide (b.x ≤ 0)) && (decide (a.x ≤ 0) || decide (0 ≤ b.x)) && (decide (0 ≤ a.y) || decide (b.y ≤ 0)) && (decide (a.y ≤ 0) || decide (0 ≤ b.y)) && (decide (0 ≤ a.z) || decide (b.z ≤ 0)) && (decide (a.z ≤ 0) || decide (0 ≤ b.z)))))]) (O' := []) (fun hj => ?_) ?_
  · focus
      apply sq_g; exact g_move (s := .av (.val (.bool _))) rfl; exact rfl
      refine sq_split rfl rfl (fun hb => ?_) (fun hb => ?_) <;> (try simp only [decide_eq_true_eq, decide_eq_false_iff_not, beq_iff_eq, beq_eq_false_iff_ne, bne_iff_ne, bne_eq_false_iff_eq, ne_eq, Bool.not_eq_true', Bool.not_eq_false', Bool.and_eq_true, Bool.or_eq_true, Bool.and_eq_false_iff, Bool.or_eq_false_iff] at hb) <;> (try (exfalso; omega))
      apply sq_on; exact g_field rfl; exact rfl; exact rfl; exact rfl
      apply sq_on; exact g_load (τ := .val (.int _ _)) rfl rfl rfl; exact rfl; exact rfl; exact rfl
      apply sq_on; exact g_cmp rfl rfl rfl; exact rfl; exact rfl; exact rfl
      apply sq_on; exact g_move (s := .av (.val (.bool _))) rfl; exact rfl; exact rfl; exact rfl
      refine sq_split rfl rfl (fun hb => ?_) (fun hb => ?_) <;> (try simp only [decide_eq_true_eq, decide_eq_false_iff_not, beq_iff_eq, beq_eq_false_iff_ne, bne_iff_ne, bne_eq_false_iff_eq, ne_eq, Bool.not_eq_true', Bool.not_eq_false', Bool.and_eq_true, Bool.or_eq_true, Bool.and_eq_false_iff, Bool.or_eq_false_iff] at hb) <;> (try (exfalso; omega))
      refine sq_off rfl rfl rfl rfl ?_
      refine sq_off rfl rfl rfl rfl ?_
      refine sq_off rfl rfl rfl rfl ?_
      apply sq_on; exact g_pick (s := .av (.val (.bool _))) rfl rfl; exact rfl; exact rfl; exact rfl
      apply sq_g; exact g_pick (s := .av (.val (.bool _))) rfl rfl; exact rfl
      rotate_left
      apply sq_on; exact g_field rfl; exact rfl; exact rfl; exact rfl
      apply sq_on; exact g_load (τ := .val (.int _ _)) rfl rfl rfl; exact rfl; exact rfl; exact rfl
      apply sq_on; exact g_cmp rfl rfl rfl; exact rfl; exact rfl; exact rfl
      apply sq_on; exact g_pick (s := .av (.val (.bool _))) rfl rfl; exact rfl; exact rfl; exact rfl
      apply sq_g; exact g_pick (s := .av (.val (.bool _))) rfl rfl; exact rfl
      rotate_left
      refine sq_off rfl rfl rfl rfl ?_
      refine sq_off rfl rfl rfl rfl ?_
      refine sq_off rfl rfl rfl rfl ?_
      refine sq_off rfl rfl rfl rfl ?_
      refine sq_offu rfl rfl rfl ?_
      refine sq_offu rfl rfl rfl ?_
      refine sq_offu rfl rfl rfl ?_
      refine sq_off rfl rfl rfl rfl ?_
      apply sq_g; exact g_pick (s := .av (.val (.bool _))) rfl rfl; exact rfl
      rotate_left
    all_goals (refine lsq_ent ?_ hj; exact ent ⟨.refl _, .refl _, lebool (by clear hj; first | (simp [*]; done) | (simp [*]; omega)), trivial⟩ trivial)
  apply sq_g; exact g_assign (s := .av (.val (.bool _))) rfl; exact rfl
  refine sq_nil ?_
  refine sq_then ?_
  refine cq_ret ?_
  exact sq_res1 rfl (.tmp rfl) rfl
end Go.Proofs.YtdoppiajbpmmkaaGreat
namespace Go.Proofs.YtdoppiajbpmmkaaGreat
open Go Go.Vc Go.RowKit
set_option maxHeartbeats 8000000
/-! KDQ -/
def onSegB (a b p : Tr) : Bool := decide (tac a b p = tz) && decide (tdot (tsub a p) (tsub b p) ≤ 0)
def inTriB (a b c p : Tr) : Bool := decide (tac a b c ≠ tz) && decide (six a b c p = 0) && alongB (tac a b p) (tac a b c) && alongB (tac b c p) (tac a b c) && alongB (tac c a p) (tac a b c)
def inSolB (a b c d p : Tr) : Bool := decide (six a b c d ≠ 0) && agreeB (six a b c p) (six a b c d) && agreeB (six a b p d) (six a b c d) && agreeB (six a p c d) (six a b c d) && agreeB (six p b c d) (six a b c d)
theorem ronseg_c (a b p : Tr) (ha : BT 100000 a) (hb : BT 100000 b) (hp : BT 100000 p) : CtrA Tryz.prog 104 [tp a, tp b, tp p] (vb (onSegB a b p)) := by
  have h1 := racross_c a b p ha hb hp
  have h2 := rzero_c (tac a b p)
  have h3 := rless_c a p (ha.le (by decide)) (hp.le (by decide))
  have h4 := rless_c b p (hb.le (by decide)) (hp.le (by decide))
  have h5 := rtspace_c (tsub a p) (tsub b p) (ha.sub hp) (hb.sub hp) (by decide)
  unfold onSegB
  clear ha hb hp
  generalize tac a b p = n at h1 h2 ⊢
  generalize tsub a p = u at h3 h5 ⊢
  generalize tsub b p = v at h4 h5 ⊢
  generalize tdot u v = q at h5 ⊢
  by_cases hn : n = tz
  · rw [decide_eq_true hn] at h2 ⊢
    refine ctrA _ Tryz.func104 rfl rfl Tryz.ntmps104 rfl fun w Z => ?_
    simp only [initT, List.map_cons, List.map_nil, Nat.zero_add, Nat.reduceAdd]
    refine cq_seq ?_
    refine cq_region ?_
    apply sq_g; exact g_box_agg rfl; exact rfl
    apply sq_g; exact g_box_agg rfl; exact rfl
    apply sq_g; exact g_box_agg rfl; exact rfl
    apply sq_g; exact g_assign (s := .av (.val (.bool _))) rfl; exact rfl
    refine sq_nil ?_
    refine sq_then ?_
    refine cq_seq ?_
    refine cq_drawn ?_
    apply dq_g; exact g_load_agg (us := [.int _ _, .int _ _, .int _ _]) rfl rfl rfl rfl; exact rfl
    apply dq_g; exact g_load_agg (us := [.int _ _, .int _ _, .int _ _]) rfl rfl rfl rfl; exact rfl
    apply dq_g; exact g_load_agg (us := [.int _ _, .int _ _, .int _ _]) rfl rfl rfl rfl; exact rfl
    apply dq_g; exact g_call (h1) rfl; exact rfl
    apply dq_g; exact g_call (h2) rfl; exact rfl
    apply dq_g; exact g_move (s := .av (.val (.bool _))) rfl; exact rfl
    apply dq_on; exact g_load_agg (us := [.int _ _, .int _ _, .int _ _]) rfl rfl rfl rfl; exact rfl; exact rfl; exact rfl
    apply dq_on; exact g_load_agg (us := [.int _ _, .int _ _, .int _ _]) rfl rfl rfl rfl; exact rfl; exact rfl; exact rfl
    apply dq_on; exact g_call (h3) rfl; exact rfl; exact rfl; exact rfl
    apply dq_on; exact g_load_agg (us := [.int _ _, .int _ _, .int _ _]) rfl rfl rfl rfl; exact rfl; exact rfl; exact rfl
    apply dq_on; exact g_load_agg (us := [.int _ _, .int _ _, .int _ _]) rfl rfl rfl rfl; exact rfl; exact rfl; exact rfl
    apply dq_on; exact g_call (h4) rfl; exact rfl; exact rfl; exact rfl
    apply dq_on; exact g_call (h5) rfl; exact rfl; exact rfl; exact rfl
    apply dq_on; exact g_cmp rfl rfl rfl; exact rfl; exact rfl; exact rfl
    apply dq_g; exact g_pick (s := .av (.val (.bool _))) rfl rfl; exact rfl
    apply dq_g; exact g_assign (s := .av (.val (.bool _))) rfl; exact rfl
    refine dq_nil tm (by kernel_rfl) ?_
    refine sq_then ?_
    refine cq_ret ?_
    exact sq_res1 rfl (.tmp rfl) rfl
  · rw [decide_eq_false hn] at h2 ⊢
    refine ctrA _ Tryz.func104 rfl rfl Tryz.ntmps104 rfl fun w Z => ?_
    simp only [initT, List.map_cons, List.map_nil, Nat.zero_add, Nat.reduceAdd]
    refine cq_seq ?_
    refine cq_region ?_
    apply sq_g; exact g_box_agg rfl; exact rfl
    apply sq_g; exact g_box_agg rfl; exact rfl
    apply sq_g; exact g_box_agg rfl; exact rfl
    apply sq_g; exact g_assign (s := .av (.val (.bool _))) rfl; exact rfl
    refine sq_nil ?_
    refine sq_then ?_
    refine cq_seq ?_
    refine cq_drawn ?_
    apply dq_g; exact g_load_agg (us := [.int _ _, .int _ _, .int _ _]) rfl rfl rfl rfl; exact rfl
    apply dq_g; exact g_load_agg (us := [.int _ _, .int _ _, .int _ _]) rfl rfl rfl rfl; exact rfl
    apply dq_g; exact g_load_agg (us := [.int _ _, .int _ _, .int _ _]) rfl rfl rfl rfl; exact rfl
    apply dq_g; exact g_call (h1) rfl; exact rfl
    apply dq_g; exact g_call (h2) rfl; exact rfl
    apply dq_g; exact g_move (s := .av (.val (.bool _))) rfl; exact rfl
    refine dq_off nofun rfl rfl rfl rfl ?_
    refine dq_off nofun rfl rfl rfl rfl ?_
    refine dq_off nofun rfl rfl rfl rfl ?_
    refine dq_off nofun rfl rfl rfl rfl ?_
    refine dq_off nofun rfl rfl rfl rfl ?_
    refine dq_off nofun rfl rfl rfl rfl ?_
    refine dq_off nofun rfl rfl rfl rfl ?_
    refine dq_off nofun rfl rfl rfl rfl ?_
    apply dq_g; exact g_pick (s := .av (.val (.bool _))) rfl rfl; exact rfl
    apply dq_g; exact g_assign (s := .av (.val (.bool _))) rfl; exact rfl
    refine dq_nil tm (by kernel_rfl) ?_
    refine sq_then ?_
    refine cq_ret ?_
    exact sq_res1 rfl (.tmp rfl) rfl
theorem rintri_c (a b c p : Tr) (ha : BT 100000 a) (hb : BT 100000 b) (hc : BT 100000 c) (hp : BT 100000 p) : CtrA Tryz.prog 105 [tp a, tp b, tp c, tp p] (vb (inTriB a b c p)) := by
  have h1 := racross_c a b c ha hb hc
  have h2 := rzero_c (tac a b c)
  have h3 := rsix_c a b c p ha hb hc hp
  have h4 := racross_c a b p ha hb hp
  have h5 := racross_c b c p hb hc hp
  have h6 := racross_c c a p hc ha hp
  have h7 := ralong_c (tac a b p) (tac a b c)
  have h8 := ralong_c (tac b c p) (tac a b c)
  have h9 := ralong_c (tac c a p) (tac a b c)
  unfold inTriB
  clear ha hb hc hp
  generalize six a b c p = s at h3 ⊢
  generalize tac a b p = u at h4 h7 ⊢
  generalize tac b c p = v at h5 h8 ⊢
  generalize tac c a p = x at h6 h9 ⊢
  generalize tac a b c = n at h1 h2 h7 h8 h9 ⊢
  generalize alongB u n = q1 at h7 ⊢
  generalize alongB v n = q2 at h8 ⊢
  generalize alongB x n = q3 at h9 ⊢
  by_cases hn : n = tz
  · rw [decide_eq_true hn] at h2
    rw [decide_eq_false (fun h => h hn)]
    clear hn
    refine ctrA _ Tryz.func105 rfl rfl Tryz.ntmps105 rfl fun w Z => ?_
    simp only [initT, List.map_cons, List.map_nil, Nat.zero_add, Nat.reduceAdd]
    refine cq_seq ?_
    refine cq_region ?_
    apply sq_g; exact g_box_agg rfl; exact rfl
    apply sq_g; exact g_box_agg rfl; exact rfl
    apply sq_g; exact g_box_agg rfl; exact rfl
    apply sq_g; exact g_box_agg rfl; exact rfl
    apply sq_g; exact g_assign (s := .av (.val (.bool _))) rfl; exact rfl
    refine sq_nil ?_
    refine sq_then ?_
    refine cq_seq ?_
    refine cq_region ?_
    apply sq_g; exact g_load_agg (us := [.int _ _, .int _ _, .int _ _]) rfl rfl rfl rfl; exact rfl
    apply sq_g; exact g_load_agg (us := [.int _ _, .int _ _, .int _ _]) rfl rfl rfl rfl; exact rfl
    apply sq_g; exact g_load_agg (us := [.int _ _, .int _ _, .int _ _]) rfl rfl rfl rfl; exact rfl
    apply sq_g; exact g_call (h1) rfl; exact rfl
    refine sq_v (f_alloc 10 rfl) rfl ?_
    refine sq_s (g_store_agg rfl rfl rfl rfl rfl rfl) ?_
    refine sq_nil ?_
    refine sq_then ?_
    refine cq_seq ?_
    refine cq_seq ?_
    refine cq_region ?_
    apply sq_g; exact g_load_own_agg (us := [.int _ _, .int _ _, .int _ _]) rfl rfl rfl rfl; exact rfl
    apply sq_g; exact g_call (h2) rfl; exact rfl
    apply sq_g; exact g_move (s := .av (.val (.bool _))) rfl; exact rfl
    refine sq_off rfl rfl rfl rfl ?_
    refine sq_off rfl rfl rfl rfl ?_
    refine sq_off rfl rfl rfl rfl ?_
    refine sq_off rfl rfl rfl rfl ?_
    refine sq_off rfl rfl rfl rfl ?_
    refine sq_off rfl rfl rfl rfl ?_
    apply sq_g; exact g_pick (s := .av (.val (.bool _))) rfl rfl; exact rfl
    refine sq_nil ?_
    refine sq_then ?_
    refine cq_cond_t rfl ?_
    refine cq_seq ?_
    refine cq_region ?_
    apply sq_g; exact g_assign (s := .av (.val (.bool _))) rfl; exact rfl
    refine sq_nil ?_
    refine sq_then ?_
    refine cq_ret ?_
    refine sq_then_ret ?_
    exact sq_res1 rfl (.tmp rfl) rfl
  rw [decide_eq_false hn] at h2
  rw [decide_eq_true (show n ≠ tz from hn)]
  clear hn
  by_cases hs : s = 0
  · subst hs
    rw [decide_eq_true rfl, Bool.true_and, Bool.true_and]
    refine ctrA _ Tryz.func105 rfl rfl Tryz.ntmps105 rfl fun w Z => ?_
    simp only [initT, List.map_cons, List.map_nil, Nat.zero_add, Nat.reduceAdd]
    refine cq_seq ?_
    refine cq_region ?_
    apply sq_g; exact g_box_agg rfl; exact rfl
    apply sq_g; exact g_box_agg rfl; exact rfl
    apply sq_g; exact g_box_agg rfl; exact rfl
    apply sq_g; exact g_box_agg rfl; exact rfl
    apply sq_g; exact g_assign (s := .av (.val (.bool _))) rfl; exact rfl
    refine sq_nil ?_
    refine sq_then ?_
    refine cq_seq ?_
    refine cq_region ?_
    apply sq_g; exact g_load_agg (us := [.int _ _, .int _ _, .int _ _]) rfl rfl rfl rfl; exact rfl
    apply sq_g; exact g_load_agg (us := [.int _ _, .int _ _, .int _ _]) rfl rfl rfl rfl; exact rfl
    apply sq_g; exact g_load_agg (us := [.int _ _, .int _ _, .int _ _]) rfl rfl rfl rfl; exact rfl
    apply sq_g; exact g_call (h1) rfl; exact rfl
    refine sq_v (f_alloc 10 rfl) rfl ?_
    refine sq_s (g_store_agg rfl rfl rfl rfl rfl rfl) ?_
    refine sq_nil ?_
    refine sq_then ?_
    refine cq_seq ?_
    refine cq_seq ?_
    refine cq_region ?_
    apply sq_g; exact g_load_own_agg (us := [.int _ _, .int _ _, .int _ _]) rfl rfl rfl rfl; exact rfl
    apply sq_g; exact g_call (h2) rfl; exact rfl
    apply sq_g; exact g_move (s := .av (.val (.bool _))) rfl; exact rfl
    apply sq_on; exact g_load_agg (us := [.int _ _, .int _ _, .int _ _]) rfl rfl rfl rfl; exact rfl; exact rfl; exact rfl
    apply sq_on; exact g_load_agg (us := [.int _ _, .int _ _, .int _ _]) rfl rfl rfl rfl; exact rfl; exact rfl; exact rfl
    apply sq_on; exact g_load_agg (us := [.int _ _, .int _ _, .int _ _]) rfl rfl rfl rfl; exact rfl; exact rfl; exact rfl
    apply sq_on; exact g_load_agg (us := [.int _ _, .int _ _, .int _ _]) rfl rfl rfl rfl; exact rfl; exact rfl; exact rfl
    apply sq_on; exact g_call (h3) rfl; exact rfl; exact rfl; exact rfl
    apply sq_on; exact g_cmp rfl rfl rfl; exact rfl; exact rfl; exact rfl
    apply sq_g; exact g_pick (s := .av (.val (.bool _))) rfl rfl; exact rfl
    refine sq_nil ?_
    refine sq_then ?_
    refine cq_cond_f rfl ?_
    refine cq_skip ?_
    refine sq_then ?_
    refine cq_seq ?_
    refine cq_drawn ?_
    apply dq_g; exact g_load_agg (us := [.int _ _, .int _ _, .int _ _]) rfl rfl rfl rfl; exact rfl
    apply dq_g; exact g_load_agg (us := [.int _ _, .int _ _, .int _ _]) rfl rfl rfl rfl; exact rfl
    apply dq_g; exact g_load_agg (us := [.int _ _, .int _ _, .int _ _]) rfl rfl rfl rfl; exact rfl
    cases q1 with
    | false =>
      apply dq_g; exact g_call (h4) rfl; exact rfl
      apply dq_g; exact g_load_own_agg (us := [.int _ _, .int _ _, .int _ _]) rfl rfl rfl rfl; exact rfl
      apply dq_g; exact g_call (h7) rfl; exact rfl
      apply dq_g; exact g_move (s := .av (.val (.bool _))) rfl; exact rfl
      refine dq_off nofun rfl rfl rfl rfl ?_
      refine dq_off nofun rfl rfl rfl rfl ?_
      refine dq_off nofun rfl rfl rfl rfl ?_
      refine dq_off nofun rfl rfl rfl rfl ?_
      refine dq_off nofun rfl rfl rfl rfl ?_
      refine dq_off nofun rfl rfl rfl rfl ?_
      apply dq_g; exact g_pick (s := .av (.val (.bool _))) rfl rfl; exact rfl
      apply dq_g; exact g_move (s := .av (.val (.bool _))) rfl; exact rfl
      refine dq_off nofun rfl rfl rfl rfl ?_
      refine dq_off nofun rfl rfl rfl rfl ?_
      refine dq_off nofun rfl rfl rfl rfl ?_
      refine dq_off nofun rfl rfl rfl rfl ?_
      refine dq_off nofun rfl rfl rfl rfl ?_
      refine dq_off nofun rfl rfl rfl rfl ?_
      apply dq_g; exact g_pick (s := .av (.val (.bool _))) rfl rfl; exact rfl
      apply dq_g; exact g_assign (s := .av (.val (.bool _))) rfl; exact rfl
      refine dq_nil tm (by kernel_rfl) ?_
      refine sq_then ?_
      refine cq_ret ?_
      exact sq_res1 rfl (.tmp rfl) rfl
    | true =>
      cases q2 with
      | false =>
        apply dq_g; exact g_call (h4) rfl; exact rfl
        apply dq_g; exact g_load_own_agg (us := [.int _ _, .int _ _, .int _ _]) rfl rfl rfl rfl; exact rfl
        apply dq_g; exact g_call (h7) rfl; exact rfl
        apply dq_g; exact g_move (s := .av (.val (.bool _))) rfl; exact rfl
        apply dq_on; exact g_load_agg (us := [.int _ _, .int _ _, .int _ _]) rfl rfl rfl rfl; exact rfl; exact rfl; exact rfl
        apply dq_on; exact g_load_agg (us := [.int _ _, .int _ _, .int _ _]) rfl rfl rfl rfl; exact rfl; exact rfl; exact rfl
        apply dq_on; exact g_load_agg (us := [.int _ _, .int _ _, .int _ _]) rfl rfl rfl rfl; exact rfl; exact rfl; exact rfl
        apply dq_on; exact g_call (h5) rfl; exact rfl; exact rfl; exact rfl
        apply dq_on; exact g_load_own_agg (us := [.int _ _, .int _ _, .int _ _]) rfl rfl rfl rfl; exact rfl; exact rfl; exact rfl
        apply dq_on; exact g_call (h8) rfl; exact rfl; exact rfl; exact rfl
        apply dq_g; exact g_pick (s := .av (.val (.bool _))) rfl rfl; exact rfl
        apply dq_g; exact g_move (s := .av (.val (.bool _))) rfl; exact rfl
        refine dq_off nofun rfl rfl rfl rfl ?_
        refine dq_off nofun rfl rfl rfl rfl ?_
        refine dq_off nofun rfl rfl rfl rfl ?_
        refine dq_off nofun rfl rfl rfl rfl ?_
        refine dq_off nofun rfl rfl rfl rfl ?_
        refine dq_off nofun rfl rfl rfl rfl ?_
        apply dq_g; exact g_pick (s := .av (.val (.bool _))) rfl rfl; exact rfl
        apply dq_g; exact g_assign (s := .av (.val (.bool _))) rfl; exact rfl
        refine dq_nil tm (by kernel_rfl) ?_
        refine sq_then ?_
        refine cq_ret ?_
        exact sq_res1 rfl (.tmp rfl) rfl
      | true =>
        apply dq_g; exact g_call (h4) rfl; exact rfl
        apply dq_g; exact g_load_own_agg (us := [.int _ _, .int _ _, .int _ _]) rfl rfl rfl rfl; exact rfl
        apply dq_g; exact g_call (h7) rfl; exact rfl
        apply dq_g; exact g_move (s := .av (.val (.bool _))) rfl; exact rfl
        apply dq_on; exact g_load_agg (us := [.int _ _, .int _ _, .int _ _]) rfl rfl rfl rfl; exact rfl; exact rfl; exact rfl
        apply dq_on; exact g_load_agg (us := [.int _ _, .int _ _, .int _ _]) rfl rfl rfl rfl; exact rfl; exact rfl; exact rfl
        apply dq_on; exact g_load_agg (us := [.int _ _, .int _ _, .int _ _]) rfl rfl rfl rfl; exact rfl; exact rfl; exact rfl
        apply dq_on; exact g_call (h5) rfl; exact rfl; exact rfl; exact rfl
        apply dq_on; exact g_load_own_agg (us := [.int _ _, .int _ _, .int _ _]) rfl rfl rfl rfl; exact rfl; exact rfl; exact rfl
        apply dq_on; exact g_call (h8) rfl; exact rfl; exact rfl; exact rfl
        apply dq_g; exact g_pick (s := .av (.val (.bool _))) rfl rfl; exact rfl
        apply dq_g; exact g_move (s := .av (.val (.bool _))) rfl; exact rfl
        apply dq_on; exact g_load_agg (us := [.int _ _, .int _ _, .int _ _]) rfl rfl rfl rfl; exact rfl; exact rfl; exact rfl
        apply dq_on; exact g_load_agg (us := [.int _ _, .int _ _, .int _ _]) rfl rfl rfl rfl; exact rfl; exact rfl; exact rfl
        apply dq_on; exact g_load_agg (us := [.int _ _, .int _ _, .int _ _]) rfl rfl rfl rfl; exact rfl; exact rfl; exact rfl
        apply dq_on; exact g_call (h6) rfl; exact rfl; exact rfl; exact rfl
        apply dq_on; exact g_load_own_agg (us := [.int _ _, .int _ _, .int _ _]) rfl rfl rfl rfl; exact rfl; exact rfl; exact rfl
        apply dq_on; exact g_call (h9) rfl; exact rfl; exact rfl; exact rfl
        apply dq_g; exact g_pick (s := .av (.val (.bool _))) rfl rfl; exact rfl
        apply dq_g; exact g_assign (s := .av (.val (.bool _))) rfl; exact rfl
        refine dq_nil tm (by kernel_rfl) ?_
        refine sq_then ?_
        refine cq_ret ?_
        exact sq_res1 rfl (.tmp rfl) rfl
  · rw [decide_eq_false hs]
    refine ctrA _ Tryz.func105 rfl rfl Tryz.ntmps105 rfl fun w Z => ?_
    simp only [initT, List.map_cons, List.map_nil, Nat.zero_add, Nat.reduceAdd]
    refine cq_seq ?_
    refine cq_region ?_
    apply sq_g; exact g_box_agg rfl; exact rfl
    apply sq_g; exact g_box_agg rfl; exact rfl
    apply sq_g; exact g_box_agg rfl; exact rfl
    apply sq_g; exact g_box_agg rfl; exact rfl
    apply sq_g; exact g_assign (s := .av (.val (.bool _))) rfl; exact rfl
    refine sq_nil ?_
    refine sq_then ?_
    refine cq_seq ?_
    refine cq_region ?_
    apply sq_g; exact g_load_agg (us := [.int _ _, .int _ _, .int _ _]) rfl rfl rfl rfl; exact rfl
    apply sq_g; exact g_load_agg (us := [.int _ _, .int _ _, .int _ _]) rfl rfl rfl rfl; exact rfl
    apply sq_g; exact g_load_agg (us := [.int _ _, .int _ _, .int _ _]) rfl rfl rfl rfl; exact rfl
    apply sq_g; exact g_call (h1) rfl; exact rfl
    refine sq_v (f_alloc 10 rfl) rfl ?_
    refine sq_s (g_store_agg rfl rfl rfl rfl rfl rfl) ?_
    refine sq_nil ?_
    refine sq_then ?_
    refine cq_seq ?_
    refine cq_seq ?_
    refine cq_region ?_
    apply sq_g; exact g_load_own_agg (us := [.int _ _, .int _ _, .int _ _]) rfl rfl rfl rfl; exact rfl
    apply sq_g; exact g_call (h2) rfl; exact rfl
    apply sq_g; exact g_move (s := .av (.val (.bool _))) rfl; exact rfl
    apply sq_on; exact g_load_agg (us := [.int _ _, .int _ _, .int _ _]) rfl rfl rfl rfl; exact rfl; exact rfl; exact rfl
    apply sq_on; exact g_load_agg (us := [.int _ _, .int _ _, .int _ _]) rfl rfl rfl rfl; exact rfl; exact rfl; exact rfl
    apply sq_on; exact g_load_agg (us := [.int _ _, .int _ _, .int _ _]) rfl rfl rfl rfl; exact rfl; exact rfl; exact rfl
    apply sq_on; exact g_load_agg (us := [.int _ _, .int _ _, .int _ _]) rfl rfl rfl rfl; exact rfl; exact rfl; exact rfl
    apply sq_on; exact g_call (h3) rfl; exact rfl; exact rfl; exact rfl
    apply sq_on; exact g_cmp rfl rfl rfl; exact rfl; exact rfl; exact rfl
    apply sq_g; exact g_pick (s := .av (.val (.bool _))) rfl rfl; exact rfl
    refine sq_nil ?_
    refine sq_then ?_
    (refine cq_cond rfl (fun hb => ?_) (fun hb => ?_) <;> (try simp only [decide_eq_true_eq, decide_eq_false_iff_not, beq_iff_eq, beq_eq_false_iff_ne, bne_iff_ne, bne_eq_false_iff_eq, ne_eq, Bool.not_eq_true', Bool.not_eq_false', Bool.and_eq_true, Bool.or_eq_true, Bool.and_eq_false_iff, Bool.or_eq_false_iff] at hb) <;> (try (exfalso; omega)))
    refine cq_seq ?_
    refine cq_region ?_
    apply sq_g; exact g_assign (s := .av (.val (.bool _))) rfl; exact rfl
    refine sq_nil ?_
    refine sq_then ?_
    refine cq_ret ?_
    refine sq_then_ret ?_
    exact sq_res1 rfl (.tmp rfl) rfl
theorem rinsol_c (a b c d p : Tr) (ha : BT 100000 a) (hb : BT 100000 b) (hc : BT 100000 c) (hd : BT 100000 d) (hp : BT 100000 p) : CtrA Tryz.prog 106 [tp a, tp b, tp c, tp d, tp p] (vb (inSolB a b c d p)) := by
  have h1 := rsix_c a b c d ha hb hc hd
  have h2 := rsix_c a b c p ha hb hc hp
  have h3 := rsix_c a b p d ha hb hp hd
  have h4 := rsix_c a p c d ha hp hc hd
  have h5 := rsix_c p b c d hp hb hc hd
  have k2 := ragree_c (six a b c p) (six a b c d)
  have k3 := ragree_c (six a b p d) (six a b c d)
  have k4 := ragree_c (six a p c d) (six a b c d)
  have k5 := ragree_c (six p b c d) (six a b c d)
  unfold inSolB
  clear ha hb hc hd hp
  generalize six a b c p = s2 at h2 k2 ⊢
  generalize six a b p d = s3 at h3 k3 ⊢
  generalize six a p c d = s4 at h4 k4 ⊢
  generalize six p b c d = s5 at h5 k5 ⊢
  generalize six a b c d = s at h1 k2 k3 k4 k5 ⊢
  generalize agreeB s2 s = q2 at k2 ⊢
  generalize agreeB s3 s = q3 at k3 ⊢
  generalize agreeB s4 s = q4 at k4 ⊢
  generalize agreeB s5 s = q5 at k5 ⊢
  by_cases hs : s = 0
  · subst hs
    refine ctrA _ Tryz.func106 rfl rfl Tryz.ntmps106 rfl fun w Z => ?_
    simp only [initT, List.map_cons, List.map_nil, Nat.zero_add, Nat.reduceAdd]
    refine cq_seq ?_
    refine cq_region ?_
    apply sq_g; exact g_box_agg rfl; exact rfl
    apply sq_g; exact g_box_agg rfl; exact rfl
    apply sq_g; exact g_box_agg rfl; exact rfl
    apply sq_g; exact g_box_agg rfl; exact rfl
    apply sq_g; exact g_box_agg rfl; exact rfl
    apply sq_g; exact g_assign (s := .av (.val (.bool _))) rfl; exact rfl
    refine sq_nil ?_
    refine sq_then ?_
    refine cq_seq ?_
    refine cq_region ?_
    apply sq_g; exact g_load_agg (us := [.int _ _, .int _ _, .int _ _]) rfl rfl rfl rfl; exact rfl
    apply sq_g; exact g_load_agg (us := [.int _ _, .int _ _, .int _ _]) rfl rfl rfl rfl; exact rfl
    apply sq_g; exact g_load_agg (us := [.int _ _, .int _ _, .int _ _]) rfl rfl rfl rfl; exact rfl
    apply sq_g; exact g_load_agg (us := [.int _ _, .int _ _, .int _ _]) rfl rfl rfl rfl; exact rfl
    apply sq_g; exact g_call (h1) rfl; exact rfl
    apply sq_g; exact g_assign (s := .av (.val (.int _ _))) rfl; exact rfl
    refine sq_nil ?_
    refine sq_then ?_
    refine cq_seq ?_
    refine cq_region ?_
    apply sq_g; exact g_move (s := .av (.val (.int _ _))) rfl; exact rfl
    apply sq_g; exact g_cmp rfl rfl rfl; exact rfl
    apply sq_g; exact g_move (s := .av (.val (.bool _))) rfl; exact rfl
    refine sq_off rfl rfl rfl rfl ?_
    refine sq_off rfl rfl rfl rfl ?_
    refine sq_off rfl rfl rfl rfl ?_
    refine sq_off rfl rfl rfl rfl ?_
    refine sq_off rfl rfl rfl rfl ?_
    refine sq_off rfl rfl rfl rfl ?_
    refine sq_off rfl rfl rfl rfl ?_
    apply sq_g; exact g_pick (s := .av (.val (.bool _))) rfl rfl; exact rfl
    apply sq_g; exact g_move (s := .av (.val (.bool _))) rfl; exact rfl
    refine sq_off rfl rfl rfl rfl ?_
    refine sq_off rfl rfl rfl rfl ?_
    refine sq_off rfl rfl rfl rfl ?_
    refine sq_off rfl rfl rfl rfl ?_
    refine sq_off rfl rfl rfl rfl ?_
    refine sq_off rfl rfl rfl rfl ?_
    refine sq_off rfl rfl rfl rfl ?_
    apply sq_g; exact g_pick (s := .av (.val (.bool _))) rfl rfl; exact rfl
    apply sq_g; exact g_move (s := .av (.val (.bool _))) rfl; exact rfl
    refine sq_off rfl rfl rfl rfl ?_
    refine sq_off rfl rfl rfl rfl ?_
    refine sq_off rfl rfl rfl rfl ?_
    refine sq_off rfl rfl rfl rfl ?_
    refine sq_off rfl rfl rfl rfl ?_
    refine sq_off rfl rfl rfl rfl ?_
    refine sq_off rfl rfl rfl rfl ?_
    apply sq_g; exact g_pick (s := .av (.val (.bool _))) rfl rfl; exact rfl
    apply sq_g; exact g_move (s := .av (.val (.bool _))) rfl; exact rfl
    refine sq_off rfl rfl rfl rfl ?_
    refine sq_off rfl rfl rfl rfl ?_
    refine sq_off rfl rfl rfl rfl ?_
    refine sq_off rfl rfl rfl rfl ?_
    refine sq_off rfl rfl rfl rfl ?_
    refine sq_off rfl rfl rfl rfl ?_
    refine sq_off rfl rfl rfl rfl ?_
    apply sq_g; exact g_pick (s := .av (.val (.bool _))) rfl rfl; exact rfl
    apply sq_g; exact g_assign (s := .av (.val (.bool _))) rfl; exact rfl
    refine sq_nil ?_
    refine sq_then ?_
    refine cq_ret ?_
    all_goals (first | exact sq_res1 rfl (.tmp rfl) rfl | (exfalso; exact absurd trivial ‹¬True›))
  · rw [decide_eq_true (show s ≠ 0 from hs)]
    refine ctrA _ Tryz.func106 rfl rfl Tryz.ntmps106 rfl fun w Z => ?_
    simp only [initT, List.map_cons, List.map_nil, Nat.zero_add, Nat.reduceAdd]
    cases q2 with
    | false =>
      refine cq_seq ?_
      refine cq_region ?_
      apply sq_g; exact g_box_agg rfl; exact rfl
      apply sq_g; exact g_box_agg rfl; exact rfl
      apply sq_g; exact g_box_agg rfl; exact rfl
      apply sq_g; exact g_box_agg rfl; exact rfl
      apply sq_g; exact g_box_agg rfl; exact rfl
      apply sq_g; exact g_assign (s := .av (.val (.bool _))) rfl; exact rfl
      refine sq_nil ?_
      refine sq_then ?_
      refine cq_seq ?_
      refine cq_region ?_
      apply sq_g; exact g_load_agg (us := [.int _ _, .int _ _, .int _ _]) rfl rfl rfl rfl; exact rfl
      apply sq_g; exact g_load_agg (us := [.int _ _, .int _ _, .int _ _]) rfl rfl rfl rfl; exact rfl
      apply sq_g; exact g_load_agg (us := [.int _ _, .int _ _, .int _ _]) rfl rfl rfl rfl; exact rfl
      apply sq_g; exact g_load_agg (us := [.int _ _, .int _ _, .int _ _]) rfl rfl rfl rfl; exact rfl
      apply sq_g; exact g_call (h1) rfl; exact rfl
      apply sq_g; exact g_assign (s := .av (.val (.int _ _))) rfl; exact rfl
      refine sq_nil ?_
      refine sq_then ?_
      refine cq_seq ?_
      refine cq_region ?_
      apply sq_g; exact g_move (s := .av (.val (.int _ _))) rfl; exact rfl
      apply sq_g; exact g_cmp rfl rfl rfl; exact rfl
      apply sq_g; exact g_move (s := .av (.val (.bool _))) rfl; exact rfl
      refine sq_split rfl rfl (fun hb => ?_) (fun hb => ?_) <;> (try simp only [decide_eq_true_eq, decide_eq_false_iff_not, beq_iff_eq, beq_eq_false_iff_ne, bne_iff_ne, bne_eq_false_iff_eq, ne_eq, Bool.not_eq_true', Bool.not_eq_false', Bool.and_eq_true, Bool.or_eq_true, Bool.and_eq_false_iff, Bool.or_eq_false_iff] at hb) <;> (try (exfalso; omega))
      apply sq_on; exact g_load_agg (us := [.int _ _, .int _ _, .int _ _]) rfl rfl rfl rfl; exact rfl; exact rfl; exact rfl
      apply sq_on; exact g_load_agg (us := [.int _ _, .int _ _, .int _ _]) rfl rfl rfl rfl; exact rfl; exact rfl; exact rfl
      apply sq_on; exact g_load_agg (us := [.int _ _, .int _ _, .int _ _]) rfl rfl rfl rfl; exact rfl; exact rfl; exact rfl
      apply sq_on; exact g_load_agg (us := [.int _ _, .int _ _, .int _ _]) rfl rfl rfl rfl; exact rfl; exact rfl; exact rfl
      apply sq_on; exact g_call (h2) rfl; exact rfl; exact rfl; exact rfl
      apply sq_on; exact g_move (s := .av (.val (.int _ _))) rfl; exact rfl; exact rfl; exact rfl
      apply sq_on; exact g_call (k2) rfl; exact rfl; exact rfl; exact rfl
      apply sq_g; exact g_pick (s := .av (.val (.bool _))) rfl rfl; exact rfl
      apply sq_g; exact g_move (s := .av (.val (.bool _))) rfl; exact rfl
      refine sq_off rfl rfl rfl rfl ?_
      refine sq_off rfl rfl rfl rfl ?_
      refine sq_off rfl rfl rfl rfl ?_
      refine sq_off rfl rfl rfl rfl ?_
      refine sq_off rfl rfl rfl rfl ?_
      refine sq_off rfl rfl rfl rfl ?_
      refine sq_off rfl rfl rfl rfl ?_
      apply sq_g; exact g_pick (s := .av (.val (.bool _))) rfl rfl; exact rfl
      apply sq_g; exact g_move (s := .av (.val (.bool _))) rfl; exact rfl
      refine sq_off rfl rfl rfl rfl ?_
      refine sq_off rfl rfl rfl rfl ?_
      refine sq_off rfl rfl rfl rfl ?_
      refine sq_off rfl rfl rfl rfl ?_
      refine sq_off rfl rfl rfl rfl ?_
      refine sq_off rfl rfl rfl rfl ?_
      refine sq_off rfl rfl rfl rfl ?_
      apply sq_g; exact g_pick (s := .av (.val (.bool _))) rfl rfl; exact rfl
      apply sq_g; exact g_move (s := .av (.val (.bool _))) rfl; exact rfl
      refine sq_off rfl rfl rfl rfl ?_
      refine sq_off rfl rfl rfl rfl ?_
      refine sq_off rfl rfl rfl rfl ?_
      refine sq_off rfl rfl rfl rfl ?_
      refine sq_off rfl rfl rfl rfl ?_
      refine sq_off rfl rfl rfl rfl ?_
      refine sq_off rfl rfl rfl rfl ?_
      apply sq_g; exact g_pick (s := .av (.val (.bool _))) rfl rfl; exact rfl
      apply sq_g; exact g_assign (s := .av (.val (.bool _))) rfl; exact rfl
      refine sq_nil ?_
      refine sq_then ?_
      refine cq_ret ?_
      all_goals exact sq_res1 rfl (.tmp rfl) rfl
    | true =>
      cases q3 with
      | false =>
        refine cq_seq ?_
        refine cq_region ?_
        apply sq_g; exact g_box_agg rfl; exact rfl
        apply sq_g; exact g_box_agg rfl; exact rfl
        apply sq_g; exact g_box_agg rfl; exact rfl
        apply sq_g; exact g_box_agg rfl; exact rfl
        apply sq_g; exact g_box_agg rfl; exact rfl
        apply sq_g; exact g_assign (s := .av (.val (.bool _))) rfl; exact rfl
        refine sq_nil ?_
        refine sq_then ?_
        refine cq_seq ?_
        refine cq_region ?_
        apply sq_g; exact g_load_agg (us := [.int _ _, .int _ _, .int _ _]) rfl rfl rfl rfl; exact rfl
        apply sq_g; exact g_load_agg (us := [.int _ _, .int _ _, .int _ _]) rfl rfl rfl rfl; exact rfl
        apply sq_g; exact g_load_agg (us := [.int _ _, .int _ _, .int _ _]) rfl rfl rfl rfl; exact rfl
        apply sq_g; exact g_load_agg (us := [.int _ _, .int _ _, .int _ _]) rfl rfl rfl rfl; exact rfl
        apply sq_g; exact g_call (h1) rfl; exact rfl
        apply sq_g; exact g_assign (s := .av (.val (.int _ _))) rfl; exact rfl
        refine sq_nil ?_
        refine sq_then ?_
        refine cq_seq ?_
        refine cq_region ?_
        apply sq_g; exact g_move (s := .av (.val (.int _ _))) rfl; exact rfl
        apply sq_g; exact g_cmp rfl rfl rfl; exact rfl
        apply sq_g; exact g_move (s := .av (.val (.bool _))) rfl; exact rfl
        refine sq_split rfl rfl (fun hb => ?_) (fun hb => ?_) <;> (try simp only [decide_eq_true_eq, decide_eq_false_iff_not, beq_iff_eq, beq_eq_false_iff_ne, bne_iff_ne, bne_eq_false_iff_eq, ne_eq, Bool.not_eq_true', Bool.not_eq_false', Bool.and_eq_true, Bool.or_eq_true, Bool.and_eq_false_iff, Bool.or_eq_false_iff] at hb) <;> (try (exfalso; omega))
        apply sq_on; exact g_load_agg (us := [.int _ _, .int _ _, .int _ _]) rfl rfl rfl rfl; exact rfl; exact rfl; exact rfl
        apply sq_on; exact g_load_agg (us := [.int _ _, .int _ _, .int _ _]) rfl rfl rfl rfl; exact rfl; exact rfl; exact rfl
        apply sq_on; exact g_load_agg (us := [.int _ _, .int _ _, .int _ _]) rfl rfl rfl rfl; exact rfl; exact rfl; exact rfl
        apply sq_on; exact g_load_agg (us := [.int _ _, .int _ _, .int _ _]) rfl rfl rfl rfl; exact rfl; exact rfl; exact rfl
        apply sq_on; exact g_call (h2) rfl; exact rfl; exact rfl; exact rfl
        apply sq_on; exact g_move (s := .av (.val (.int _ _))) rfl; exact rfl; exact rfl; exact rfl
        apply sq_on; exact g_call (k2) rfl; exact rfl; exact rfl; exact rfl
        apply sq_g; exact g_pick (s := .av (.val (.bool _))) rfl rfl; exact rfl
        apply sq_g; exact g_move (s := .av (.val (.bool _))) rfl; exact rfl
        apply sq_on; exact g_load_agg (us := [.int _ _, .int _ _, .int _ _]) rfl rfl rfl rfl; exact rfl; exact rfl; exact rfl
        apply sq_on; exact g_load_agg (us := [.int _ _, .int _ _, .int _ _]) rfl rfl rfl rfl; exact rfl; exact rfl; exact rfl
        apply sq_on; exact g_load_agg (us := [.int _ _, .int _ _, .int _ _]) rfl rfl rfl rfl; exact rfl; exact rfl; exact rfl
        apply sq_on; exact g_load_agg (us := [.int _ _, .int _ _, .int _ _]) rfl rfl rfl rfl; exact rfl; exact rfl; exact rfl
        apply sq_on; exact g_call (h3) rfl; exact rfl; exact rfl; exact rfl
        apply sq_on; exact g_move (s := .av (.val (.int _ _))) rfl; exact rfl; exact rfl; exact rfl
        apply sq_on; exact g_call (k3) rfl; exact rfl; exact rfl; exact rfl
        apply sq_g; exact g_pick (s := .av (.val (.bool _))) rfl rfl; exact rfl
        apply sq_g; exact g_move (s := .av (.val (.bool _))) rfl; exact rfl
        refine sq_off rfl rfl rfl rfl ?_
        refine sq_off rfl rfl rfl rfl ?_
        refine sq_off rfl rfl rfl rfl ?_
        refine sq_off rfl rfl rfl rfl ?_
        refine sq_off rfl rfl rfl rfl ?_
        refine sq_off rfl rfl rfl rfl ?_
        refine sq_off rfl rfl rfl rfl ?_
        apply sq_g; exact g_pick (s := .av (.val (.bool _))) rfl rfl; exact rfl
        apply sq_g; exact g_move (s := .av (.val (.bool _))) rfl; exact rfl
        refine sq_off rfl rfl rfl rfl ?_
        refine sq_off rfl rfl rfl rfl ?_
        refine sq_off rfl rfl rfl rfl ?_
        refine sq_off rfl rfl rfl rfl ?_
        refine sq_off rfl rfl rfl rfl ?_
        refine sq_off rfl rfl rfl rfl ?_
        refine sq_off rfl rfl rfl rfl ?_
        apply sq_g; exact g_pick (s := .av (.val (.bool _))) rfl rfl; exact rfl
        apply sq_g; exact g_assign (s := .av (.val (.bool _))) rfl; exact rfl
        refine sq_nil ?_
        refine sq_then ?_
        refine cq_ret ?_
        all_goals exact sq_res1 rfl (.tmp rfl) rfl
      | true =>
        cases q4 with
        | false =>
          refine cq_seq ?_
          refine cq_region ?_
          apply sq_g; exact g_box_agg rfl; exact rfl
          apply sq_g; exact g_box_agg rfl; exact rfl
          apply sq_g; exact g_box_agg rfl; exact rfl
          apply sq_g; exact g_box_agg rfl; exact rfl
          apply sq_g; exact g_box_agg rfl; exact rfl
          apply sq_g; exact g_assign (s := .av (.val (.bool _))) rfl; exact rfl
          refine sq_nil ?_
          refine sq_then ?_
          refine cq_seq ?_
          refine cq_region ?_
          apply sq_g; exact g_load_agg (us := [.int _ _, .int _ _, .int _ _]) rfl rfl rfl rfl; exact rfl
          apply sq_g; exact g_load_agg (us := [.int _ _, .int _ _, .int _ _]) rfl rfl rfl rfl; exact rfl
          apply sq_g; exact g_load_agg (us := [.int _ _, .int _ _, .int _ _]) rfl rfl rfl rfl; exact rfl
          apply sq_g; exact g_load_agg (us := [.int _ _, .int _ _, .int _ _]) rfl rfl rfl rfl; exact rfl
          apply sq_g; exact g_call (h1) rfl; exact rfl
          apply sq_g; exact g_assign (s := .av (.val (.int _ _))) rfl; exact rfl
          refine sq_nil ?_
          refine sq_then ?_
          refine cq_seq ?_
          refine cq_region ?_
          apply sq_g; exact g_move (s := .av (.val (.int _ _))) rfl; exact rfl
          apply sq_g; exact g_cmp rfl rfl rfl; exact rfl
          apply sq_g; exact g_move (s := .av (.val (.bool _))) rfl; exact rfl
          refine sq_split rfl rfl (fun hb => ?_) (fun hb => ?_) <;> (try simp only [decide_eq_true_eq, decide_eq_false_iff_not, beq_iff_eq, beq_eq_false_iff_ne, bne_iff_ne, bne_eq_false_iff_eq, ne_eq, Bool.not_eq_true', Bool.not_eq_false', Bool.and_eq_true, Bool.or_eq_true, Bool.and_eq_false_iff, Bool.or_eq_false_iff] at hb) <;> (try (exfalso; omega))
          apply sq_on; exact g_load_agg (us := [.int _ _, .int _ _, .int _ _]) rfl rfl rfl rfl; exact rfl; exact rfl; exact rfl
          apply sq_on; exact g_load_agg (us := [.int _ _, .int _ _, .int _ _]) rfl rfl rfl rfl; exact rfl; exact rfl; exact rfl
          apply sq_on; exact g_load_agg (us := [.int _ _, .int _ _, .int _ _]) rfl rfl rfl rfl; exact rfl; exact rfl; exact rfl
          apply sq_on; exact g_load_agg (us := [.int _ _, .int _ _, .int _ _]) rfl rfl rfl rfl; exact rfl; exact rfl; exact rfl
          apply sq_on; exact g_call (h2) rfl; exact rfl; exact rfl; exact rfl
          apply sq_on; exact g_move (s := .av (.val (.int _ _))) rfl; exact rfl; exact rfl; exact rfl
          apply sq_on; exact g_call (k2) rfl; exact rfl; exact rfl; exact rfl
          apply sq_g; exact g_pick (s := .av (.val (.bool _))) rfl rfl; exact rfl
          apply sq_g; exact g_move (s := .av (.val (.bool _))) rfl; exact rfl
          apply sq_on; exact g_load_agg (us := [.int _ _, .int _ _, .int _ _]) rfl rfl rfl rfl; exact rfl; exact rfl; exact rfl
          apply sq_on; exact g_load_agg (us := [.int _ _, .int _ _, .int _ _]) rfl rfl rfl rfl; exact rfl; exact rfl; exact rfl
          apply sq_on; exact g_load_agg (us := [.int _ _, .int _ _, .int _ _]) rfl rfl rfl rfl; exact rfl; exact rfl; exact rfl
          apply sq_on; exact g_load_agg (us := [.int _ _, .int _ _, .int _ _]) rfl rfl rfl rfl; exact rfl; exact rfl; exact rfl
          apply sq_on; exact g_call (h3) rfl; exact rfl; exact rfl; exact rfl
          apply sq_on; exact g_move (s := .av (.val (.int _ _))) rfl; exact rfl; exact rfl; exact rfl
          apply sq_on; exact g_call (k3) rfl; exact rfl; exact rfl; exact rfl
          apply sq_g; exact g_pick (s := .av (.val (.bool _))) rfl rfl; exact rfl
          apply sq_g; exact g_move (s := .av (.val (.bool _))) rfl; exact rfl
          apply sq_on; exact g_load_agg (us := [.int _ _, .int _ _, .int _ _]) rfl rfl rfl rfl; exact rfl; exact rfl; exact rfl
          apply sq_on; exact g_load_agg (us := [.int _ _, .int _ _, .int _ _]) rfl rfl rfl rfl; exact rfl; exact rfl; exact rfl
          apply sq_on; exact g_load_agg (us := [.int _ _, .int _ _, .int _ _]) rfl rfl rfl rfl; exact rfl; exact rfl; exact rfl
          apply sq_on; exact g_load_agg (us := [.int _ _, .int _ _, .int _ _]) rfl rfl rfl rfl; exact rfl; exact rfl; exact rfl
          apply sq_on; exact g_call (h4) rfl; exact rfl; exact rfl; exact rfl
          apply sq_on; exact g_move (s := .av (.val (.int _ _))) rfl; exact rfl; exact rfl; exact rfl
          apply sq_on; exact g_call (k4) rfl; exact rfl; exact rfl; exact rfl
          apply sq_g; exact g_pick (s := .av (.val (.bool _))) rfl rfl; exact rfl
          apply sq_g; exact g_move (s := .av (.val (.bool _))) rfl; exact rfl
          refine sq_off rfl rfl rfl rfl ?_
          refine sq_off rfl rfl rfl rfl ?_
          refine sq_off rfl rfl rfl rfl ?_
          refine sq_off rfl rfl rfl rfl ?_
          refine sq_off rfl rfl rfl rfl ?_
          refine sq_off rfl rfl rfl rfl ?_
          refine sq_off rfl rfl rfl rfl ?_
          apply sq_g; exact g_pick (s := .av (.val (.bool _))) rfl rfl; exact rfl
          apply sq_g; exact g_assign (s := .av (.val (.bool _))) rfl; exact rfl
          refine sq_nil ?_
          refine sq_then ?_
          refine cq_ret ?_
          all_goals exact sq_res1 rfl (.tmp rfl) rfl
        | true =>
          refine cq_seq ?_
          refine cq_region ?_
          apply sq_g; exact g_box_agg rfl; exact rfl
          apply sq_g; exact g_box_agg rfl; exact rfl
          apply sq_g; exact g_box_agg rfl; exact rfl
          apply sq_g; exact g_box_agg rfl; exact rfl
          apply sq_g; exact g_box_agg rfl; exact rfl
          apply sq_g; exact g_assign (s := .av (.val (.bool _))) rfl; exact rfl
          refine sq_nil ?_
          refine sq_then ?_
          refine cq_seq ?_
          refine cq_region ?_
          apply sq_g; exact g_load_agg (us := [.int _ _, .int _ _, .int _ _]) rfl rfl rfl rfl; exact rfl
          apply sq_g; exact g_load_agg (us := [.int _ _, .int _ _, .int _ _]) rfl rfl rfl rfl; exact rfl
          apply sq_g; exact g_load_agg (us := [.int _ _, .int _ _, .int _ _]) rfl rfl rfl rfl; exact rfl
          apply sq_g; exact g_load_agg (us := [.int _ _, .int _ _, .int _ _]) rfl rfl rfl rfl; exact rfl
          apply sq_g; exact g_call (h1) rfl; exact rfl
          apply sq_g; exact g_assign (s := .av (.val (.int _ _))) rfl; exact rfl
          refine sq_nil ?_
          refine sq_then ?_
          refine cq_seq ?_
          refine cq_region ?_
          apply sq_g; exact g_move (s := .av (.val (.int _ _))) rfl; exact rfl
          apply sq_g; exact g_cmp rfl rfl rfl; exact rfl
          apply sq_g; exact g_move (s := .av (.val (.bool _))) rfl; exact rfl
          refine sq_split rfl rfl (fun hb => ?_) (fun hb => ?_) <;> (try simp only [decide_eq_true_eq, decide_eq_false_iff_not, beq_iff_eq, beq_eq_false_iff_ne, bne_iff_ne, bne_eq_false_iff_eq, ne_eq, Bool.not_eq_true', Bool.not_eq_false', Bool.and_eq_true, Bool.or_eq_true, Bool.and_eq_false_iff, Bool.or_eq_false_iff] at hb) <;> (try (exfalso; omega))
          apply sq_on; exact g_load_agg (us := [.int _ _, .int _ _, .int _ _]) rfl rfl rfl rfl; exact rfl; exact rfl; exact rfl
          apply sq_on; exact g_load_agg (us := [.int _ _, .int _ _, .int _ _]) rfl rfl rfl rfl; exact rfl; exact rfl; exact rfl
          apply sq_on; exact g_load_agg (us := [.int _ _, .int _ _, .int _ _]) rfl rfl rfl rfl; exact rfl; exact rfl; exact rfl
          apply sq_on; exact g_load_agg (us := [.int _ _, .int _ _, .int _ _]) rfl rfl rfl rfl; exact rfl; exact rfl; exact rfl
          apply sq_on; exact g_call (h2) rfl; exact rfl; exact rfl; exact rfl
          apply sq_on; exact g_move (s := .av (.val (.int _ _))) rfl; exact rfl; exact rfl; exact rfl
          apply sq_on; exact g_call (k2) rfl; exact rfl; exact rfl; exact rfl
          apply sq_g; exact g_pick (s := .av (.val (.bool _))) rfl rfl; exact rfl
          apply sq_g; exact g_move (s := .av (.val (.bool _))) rfl; exact rfl
          apply sq_on; exact g_load_agg (us := [.int _ _, .int _ _, .int _ _]) rfl rfl rfl rfl; exact rfl; exact rfl; exact rfl
          apply sq_on; exact g_load_agg (us := [.int _ _, .int _ _, .int _ _]) rfl rfl rfl rfl; exact rfl; exact rfl; exact rfl
          apply sq_on; exact g_load_agg (us := [.int _ _, .int _ _, .int _ _]) rfl rfl rfl rfl; exact rfl; exact rfl; exact rfl
          apply sq_on; exact g_load_agg (us := [.int _ _, .int _ _, .int _ _]) rfl rfl rfl rfl; exact rfl; exact rfl; exact rfl
          apply sq_on; exact g_call (h3) rfl; exact rfl; exact rfl; exact rfl
          apply sq_on; exact g_move (s := .av (.val (.int _ _))) rfl; exact rfl; exact rfl; exact rfl
          apply sq_on; exact g_call (k3) rfl; exact rfl; exact rfl; exact rfl
          apply sq_g; exact g_pick (s := .av (.val (.bool _))) rfl rfl; exact rfl
          apply sq_g; exact g_move (s := .av (.val (.bool _))) rfl; exact rfl
          apply sq_on; exact g_load_agg (us := [.int _ _, .int _ _, .int _ _]) rfl rfl rfl rfl; exact rfl; exact rfl; exact rfl
          apply sq_on; exact g_load_agg (us := [.int _ _, .int _ _, .int _ _]) rfl rfl rfl rfl; exact rfl; exact rfl; exact rfl
          apply sq_on; exact g_load_agg (us := [.int _ _, .int _ _, .int _ _]) rfl rfl rfl rfl; exact rfl; exact rfl; exact rfl
          apply sq_on; exact g_load_agg (us := [.int _ _, .int _ _, .int _ _]) rfl rfl rfl rfl; exact rfl; exact rfl; exact rfl
          apply sq_on; exact g_call (h4) rfl; exact rfl; exact rfl; exact rfl
          apply sq_on; exact g_move (s := .av (.val (.int _ _))) rfl; exact rfl; exact rfl; exact rfl
          apply sq_on; exact g_call (k4) rfl; exact rfl; exact rfl; exact rfl
          apply sq_g; exact g_pick (s := .av (.val (.bool _))) rfl rfl; exact rfl
          apply sq_g; exact g_move (s := .av (.val (.bool _))) rfl; exact rfl
          apply sq_on; exact g_load_agg (us := [.int _ _, .int _ _, .int _ _]) rfl rfl rfl rfl; exact rfl; exact rfl; exact rfl
          apply sq_on; exact g_load_agg (us := [.int _ _, .int _ _, .int _ _]) rfl rfl rfl rfl; exact rfl; exact rfl; exact rfl
          apply sq_on; exact g_load_agg (us := [.int _ _, .int _ _, .int _ _]) rfl rfl rfl rfl; exact rfl; exact rfl; exact rfl
          apply sq_on; exact g_load_agg (us := [.int _ _, .int _ _, .int _ _]) rfl rfl rfl rfl; exact rfl; exact rfl; exact rfl
          apply sq_on; exact g_call (h5) rfl; exact rfl; exact rfl; exact rfl
          apply sq_on; exact g_move (s := .av (.val (.int _ _))) rfl; exact rfl; exact rfl; exact rfl
          apply sq_on; exact g_call (k5) rfl; exact rfl; exact rfl; exact rfl
          apply sq_g; exact g_pick (s := .av (.val (.bool _))) rfl rfl; exact rfl
          apply sq_g; exact g_assign (s := .av (.val (.bool _))) rfl; exact rfl
          refine sq_nil ?_
          refine sq_then ?_
          refine cq_ret ?_
          all_goals exact sq_res1 rfl (.tmp rfl) rfl
end Go.Proofs.YtdoppiajbpmmkaaGreat
namespace Go.Proofs.YtdoppiajbpmmkaaGreat
open Go Go.Vc Go.RowKit
set_option maxHeartbeats 8000000
/-! KDQ -/
def wC (l : List Tr) (p : Tr) (a b c : Nat) : Bool := inTriB (gt l a) (gt l b) (gt l c) p || (List.range c).any fun d => inSolB (gt l a) (gt l b) (gt l c) (gt l d) p
def wB (l : List Tr) (p : Tr) (a b : Nat) : Bool := onSegB (gt l a) (gt l b) p || (List.range b).any fun c => wC l p a b c
def wA (l : List Tr) (p : Tr) (a : Nat) : Bool := decide (gt l a = p) || (List.range a).any fun b => wB l p a b
def withinB (l : List Tr) (p : Tr) : Bool := (List.range l.length).any fun a => wA l p a
theorem any_now {p : Nat → Bool} {k n : Nat} (hk : k < n) (h : p k = true) : (List.range n).any p = true := any_t hk h
theorem within_c (l : List Tr) (p : Tr) (hl : RT l) (hn : l.length ≤ 1000) (hp : BT 100000 p) : CtrA Tryz.prog 77 [ts l, tp p] (vb (withinB l p)) := by
  refine ctrA _ Tryz.func77 rfl rfl Tryz.ntmps77 rfl fun w Z => ?_
  simp only [initT, List.map_cons, List.map_nil, Nat.zero_add, Nat.reduceAdd]
  refine cq_seq ?_
  refine cq_region ?_
  apply sq_g; exact g_box_agg rfl; exact rfl
  apply sq_g; exact g_assign (s := .av (.val (.bool _))) rfl; exact rfl
  refine sq_nil ?_
  refine sq_then ?_
  refine cq_seq ?_
  refine cq_seq ?_
  refine cq_region ?_
  apply sq_g; exact g_assign (s := .av (.val (.int _ _))) rfl; exact rfl
  refine sq_nil ?_
  refine sq_then ?_
  refine cq_block ?_
  refine cq_loop (γ := Nat) (fun a => [(0, .av (ts l)), (3, .av (bt p)), (5, .av (vi a))]) (fun _ => []) (fun a => a ≤ l.length ∧ ∀ a', a' < a → wA l p a' = false) (fun a => l.length - a) 0 ⟨Nat.zero_le _, by omega⟩ (ent ⟨.refl _, .refl _, .refl _, trivial⟩ trivial) ?_
  rintro a ⟨ha, iA⟩
  refine cq_seq ?_
  refine cq_seq ?_
  refine cq_region ?_
  apply sq_g; exact g_move (s := .av (.val (.int _ _))) rfl; exact rfl
  apply sq_g; exact g_move (s := .av _) rfl; exact rfl
  apply sq_g; exact g_len rfl; exact rfl
  apply sq_g; exact g_cmp rfl rfl rfl; exact rfl
  refine sq_nil ?_
  refine sq_then ?_
  (refine cq_cond rfl (fun hb => ?_) (fun hb => ?_) <;> (try simp only [decide_eq_true_eq, decide_eq_false_iff_not, beq_iff_eq, beq_eq_false_iff_ne, bne_iff_ne, bne_eq_false_iff_eq, ne_eq, Bool.not_eq_true', Bool.not_eq_false', Bool.and_eq_true, Bool.or_eq_true, Bool.and_eq_false_iff, Bool.or_eq_false_iff] at hb) <;> (try (exfalso; omega)))
  · have hal : a < l.length := by omega
    have tA : wA l p a = true → vb true = vb (withinB l p) := fun h => congrArg vb (any_now hal h).symm
    refine cq_skip ?_
    refine sq_then ?_
    refine cq_seq ?_
    refine cq_block ?_
    refine cq_seq ?_
    refine cq_seq ?_
    refine cq_drawn ?_
    apply dq_g; exact g_move (s := .av _) rfl; exact rfl
    apply dq_g; exact g_move (s := .av (.val (.int _ _))) rfl; exact rfl
    apply dq_g; exact g_index rfl rfl rfl (by omega); exact rfl
    apply dq_g; exact g_load_agg (us := [.int _ _, .int _ _, .int _ _]) rfl rfl rfl rfl; exact rfl
    apply dq_g; exact g_load_agg (us := [.int _ _, .int _ _, .int _ _]) rfl rfl rfl rfl; exact rfl
    apply dq_g; exact g_eql (xs := [_, _, _]) (ys := [_, _, _]) rfl rfl rfl rfl; exact rfl
    refine dq_nil tm (by kernel_rfl) ?_
    refine sq_then ?_
    (refine cq_cond rfl (fun hb => ?_) (fun hb => ?_) <;> (try simp only [decide_eq_true_eq, decide_eq_false_iff_not, beq_iff_eq, beq_eq_false_iff_ne, bne_iff_ne, bne_eq_false_iff_eq, ne_eq, Bool.not_eq_true', Bool.not_eq_false', Bool.and_eq_true, Bool.or_eq_true, Bool.and_eq_false_iff, Bool.or_eq_false_iff] at hb) <;> (try (exfalso; omega)))
    · have hab := (nn_iff _ _).1 hb
      refine cq_seq ?_
      refine cq_region ?_
      apply sq_g; exact g_assign (s := .av (.val (.bool _))) rfl; exact rfl
      refine sq_nil ?_
      refine sq_then ?_
      refine cq_ret ?_
      refine sq_then_ret ?_
      refine sq_inBlock_ret ?_
      refine sq_then_ret ?_
      refine sq_then_ret ?_
      refine sq_inBlock_ret ?_
      refine sq_then_ret ?_
      exact sq_res1 rfl (.tmp rfl) (tA (by unfold wA; rw [decide_eq_true hab]; rfl))
    have hnab : decide (gt l a = p) = false := decide_eq_false fun e => hb ((nn_iff _ _).2 e)
    clear hb
    refine cq_skip ?_
    refine sq_then ?_
    refine cq_seq ?_
    refine cq_region ?_
    apply sq_g; exact g_assign (s := .av (.val (.int _ _))) rfl; exact rfl
    refine sq_nil ?_
    refine sq_then ?_
    refine cq_block ?_
    refine cq_loop (γ := Nat) (fun b => [(0, .av (ts l)), (3, .av (bt p)), (5, .av (vi a)), (6, .av (vi b))]) (fun _ => []) (fun b => b ≤ a ∧ ∀ b', b' < b → wB l p a b' = false) (fun b => a - b) 0 ⟨Nat.zero_le _, by omega⟩ (ent ⟨.refl _, .refl _, .refl _, .refl _, trivial⟩ trivial) ?_
    rintro b ⟨hbn, iB⟩
    refine cq_seq ?_
    refine cq_seq ?_
    refine cq_region ?_
    apply sq_g; exact g_move (s := .av (.val (.int _ _))) rfl; exact rfl
    apply sq_g; exact g_move (s := .av (.val (.int _ _))) rfl; exact rfl
    apply sq_g; exact g_cmp rfl rfl rfl; exact rfl
    refine sq_nil ?_
    refine sq_then ?_
    (refine cq_cond rfl (fun hb => ?_) (fun hb => ?_) <;> (try simp only [decide_eq_true_eq, decide_eq_false_iff_not, beq_iff_eq, beq_eq_false_iff_ne, bne_iff_ne, bne_eq_false_iff_eq, ne_eq, Bool.not_eq_true', Bool.not_eq_false', Bool.and_eq_true, Bool.or_eq_true, Bool.and_eq_false_iff, Bool.or_eq_false_iff] at hb) <;> (try (exfalso; omega)))
    · have hba : b < a := by omega
      have hbl : b < l.length := by omega
      have tB : wB l p a b = true → vb true = vb (withinB l p) := fun h => tA (by unfold wA; rw [any_now (p := fun b => wB l p a b) hba h, Bool.or_true])
      have hseg := ronseg_c (gt l a) (gt l b) p (hl a) (hl b) hp
      cases hS : onSegB (gt l a) (gt l b) p with
      | true =>
        rw [hS] at hseg
        refine cq_skip ?_
        refine sq_then ?_
        refine cq_seq ?_
        refine cq_block ?_
        refine cq_seq ?_
        refine cq_seq ?_
        refine cq_drawn ?_
        apply dq_g; exact g_move (s := .av _) rfl; exact rfl
        apply dq_g; exact g_move (s := .av (.val (.int _ _))) rfl; exact rfl
        apply dq_g; exact g_index rfl rfl rfl (by omega); exact rfl
        apply dq_g; exact g_load_agg (us := [.int _ _, .int _ _, .int _ _]) rfl rfl rfl rfl; exact rfl
        apply dq_g; exact g_move (s := .av _) rfl; exact rfl
        apply dq_g; exact g_move (s := .av (.val (.int _ _))) rfl; exact rfl
        apply dq_g; exact g_index rfl rfl rfl (by omega); exact rfl
        apply dq_g; exact g_load_agg (us := [.int _ _, .int _ _, .int _ _]) rfl rfl rfl rfl; exact rfl
        apply dq_g; exact g_load_agg (us := [.int _ _, .int _ _, .int _ _]) rfl rfl rfl rfl; exact rfl
        apply dq_g; exact g_call (hseg) rfl; exact rfl
        refine dq_nil tm (by kernel_rfl) ?_
        refine sq_then ?_
        refine cq_cond_t rfl ?_
        refine cq_seq ?_
        refine cq_region ?_
        apply sq_g; exact g_assign (s := .av (.val (.bool _))) rfl; exact rfl
        refine sq_nil ?_
        refine sq_then ?_
        refine cq_ret ?_
        refine sq_then_ret ?_
        refine sq_inBlock_ret ?_
        refine sq_then_ret ?_
        refine sq_then_ret ?_
        refine sq_inBlock_ret ?_
        refine sq_inBlock_ret ?_
        refine sq_then_ret ?_
        refine sq_then_ret ?_
        refine sq_inBlock_ret ?_
        refine sq_then_ret ?_
        exact sq_res1 rfl (.tmp rfl) (tB (by unfold wB; rw [hS]; rfl))
      | false =>
      rw [hS] at hseg
      refine cq_skip ?_
      refine sq_then ?_
      refine cq_seq ?_
      refine cq_block ?_
      refine cq_seq ?_
      refine cq_seq ?_
      refine cq_drawn ?_
      apply dq_g; exact g_move (s := .av _) rfl; exact rfl
      apply dq_g; exact g_move (s := .av (.val (.int _ _))) rfl; exact rfl
      apply dq_g; exact g_index rfl rfl rfl (by omega); exact rfl
      apply dq_g; exact g_load_agg (us := [.int _ _, .int _ _, .int _ _]) rfl rfl rfl rfl; exact rfl
      apply dq_g; exact g_move (s := .av _) rfl; exact rfl
      apply dq_g; exact g_move (s := .av (.val (.int _ _))) rfl; exact rfl
      apply dq_g; exact g_index rfl rfl rfl (by omega); exact rfl
      apply dq_g; exact g_load_agg (us := [.int _ _, .int _ _, .int _ _]) rfl rfl rfl rfl; exact rfl
      apply dq_g; exact g_load_agg (us := [.int _ _, .int _ _, .int _ _]) rfl rfl rfl rfl; exact rfl
      apply dq_g; exact g_call (hseg) rfl; exact rfl
      refine dq_nil tm (by kernel_rfl) ?_
      refine sq_then ?_
      refine cq_cond_f rfl ?_
      refine cq_skip ?_
      refine sq_then ?_
      refine cq_seq ?_
      refine cq_region ?_
      apply sq_g; exact g_assign (s := .av (.val (.int _ _))) rfl; exact rfl
      refine sq_nil ?_
      refine sq_then ?_
      refine cq_block ?_
      refine cq_loop (γ := Nat) (fun c => [(0, .av (ts l)), (3, .av (bt p)), (5, .av (vi a)), (6, .av (vi b)), (7, .av (vi c))]) (fun _ => []) (fun c => c ≤ b ∧ ∀ c', c' < c → wC l p a b c' = false) (fun c => b - c) 0 ⟨Nat.zero_le _, by omega⟩ (ent ⟨.refl _, .refl _, .refl _, .refl _, .refl _, trivial⟩ trivial) ?_
      rintro c ⟨hcn, iC⟩
      refine cq_seq ?_
      refine cq_seq ?_
      refine cq_region ?_
      apply sq_g; exact g_move (s := .av (.val (.int _ _))) rfl; exact rfl
      apply sq_g; exact g_move (s := .av (.val (.int _ _))) rfl; exact rfl
      apply sq_g; exact g_cmp rfl rfl rfl; exact rfl
      refine sq_nil ?_
      refine sq_then ?_
      (refine cq_cond rfl (fun hb => ?_) (fun hb => ?_) <;> (try simp only [decide_eq_true_eq, decide_eq_false_iff_not, beq_iff_eq, beq_eq_false_iff_ne, bne_iff_ne, bne_eq_false_iff_eq, ne_eq, Bool.not_eq_true', Bool.not_eq_false', Bool.and_eq_true, Bool.or_eq_true, Bool.and_eq_false_iff, Bool.or_eq_false_iff] at hb) <;> (try (exfalso; omega)))
      · have hcb : c < b := by omega
        have hcl : c < l.length := by omega
        have tC : wC l p a b c = true → vb true = vb (withinB l p) := fun h => tB (by unfold wB; rw [any_now (p := fun c => wC l p a b c) hcb h, Bool.or_true])
        have htri := rintri_c (gt l a) (gt l b) (gt l c) p (hl a) (hl b) (hl c) hp
        cases hT : inTriB (gt l a) (gt l b) (gt l c) p with
        | true =>
          rw [hT] at htri
          refine cq_skip ?_
          refine sq_then ?_
          refine cq_seq ?_
          refine cq_block ?_
          refine cq_seq ?_
          refine cq_seq ?_
          refine cq_drawn ?_
          apply dq_g; exact g_move (s := .av _) rfl; exact rfl
          apply dq_g; exact g_move (s := .av (.val (.int _ _))) rfl; exact rfl
          apply dq_g; exact g_index rfl rfl rfl (by omega); exact rfl
          apply dq_g; exact g_load_agg (us := [.int _ _, .int _ _, .int _ _]) rfl rfl rfl rfl; exact rfl
          apply dq_g; exact g_move (s := .av _) rfl; exact rfl
          apply dq_g; exact g_move (s := .av (.val (.int _ _))) rfl; exact rfl
          apply dq_g; exact g_index rfl rfl rfl (by omega); exact rfl
          apply dq_g; exact g_load_agg (us := [.int _ _, .int _ _, .int _ _]) rfl rfl rfl rfl; exact rfl
          apply dq_g; exact g_move (s := .av _) rfl; exact rfl
          apply dq_g; exact g_move (s := .av (.val (.int _ _))) rfl; exact rfl
          apply dq_g; exact g_index rfl rfl rfl (by omega); exact rfl
          apply dq_g; exact g_load_agg (us := [.int _ _, .int _ _, .int _ _]) rfl rfl rfl rfl; exact rfl
          apply dq_g; exact g_load_agg (us := [.int _ _, .int _ _, .int _ _]) rfl rfl rfl rfl; exact rfl
          apply dq_g; exact g_call (htri) rfl; exact rfl
          refine dq_nil tm (by kernel_rfl) ?_
          refine sq_then ?_
          refine cq_cond_t rfl ?_
          refine cq_seq ?_
          refine cq_region ?_
          apply sq_g; exact g_assign (s := .av (.val (.bool _))) rfl; exact rfl
          refine sq_nil ?_
          refine sq_then ?_
          refine cq_ret ?_
          refine sq_then_ret ?_
          refine sq_inBlock_ret ?_
          refine sq_then_ret ?_
          refine sq_then_ret ?_
          refine sq_inBlock_ret ?_
          refine sq_inBlock_ret ?_
          refine sq_then_ret ?_
          refine sq_then_ret ?_
          refine sq_inBlock_ret ?_
          refine sq_inBlock_ret ?_
          refine sq_then_ret ?_
          refine sq_then_ret ?_
          refine sq_inBlock_ret ?_
          refine sq_then_ret ?_
          exact sq_res1 rfl (.tmp rfl) (tC (by unfold wC; rw [hT]; rfl))
        | false =>
        rw [hT] at htri
        refine cq_skip ?_
        refine sq_then ?_
        refine cq_seq ?_
        refine cq_block ?_
        refine cq_seq ?_
        refine cq_seq ?_
        refine cq_drawn ?_
        apply dq_g; exact g_move (s := .av _) rfl; exact rfl
        apply dq_g; exact g_move (s := .av (.val (.int _ _))) rfl; exact rfl
        apply dq_g; exact g_index rfl rfl rfl (by omega); exact rfl
        apply dq_g; exact g_load_agg (us := [.int _ _, .int _ _, .int _ _]) rfl rfl rfl rfl; exact rfl
        apply dq_g; exact g_move (s := .av _) rfl; exact rfl
        apply dq_g; exact g_move (s := .av (.val (.int _ _))) rfl; exact rfl
        apply dq_g; exact g_index rfl rfl rfl (by omega); exact rfl
        apply dq_g; exact g_load_agg (us := [.int _ _, .int _ _, .int _ _]) rfl rfl rfl rfl; exact rfl
        apply dq_g; exact g_move (s := .av _) rfl; exact rfl
        apply dq_g; exact g_move (s := .av (.val (.int _ _))) rfl; exact rfl
        apply dq_g; exact g_index rfl rfl rfl (by omega); exact rfl
        apply dq_g; exact g_load_agg (us := [.int _ _, .int _ _, .int _ _]) rfl rfl rfl rfl; exact rfl
        apply dq_g; exact g_load_agg (us := [.int _ _, .int _ _, .int _ _]) rfl rfl rfl rfl; exact rfl
        apply dq_g; exact g_call (htri) rfl; exact rfl
        refine dq_nil tm (by kernel_rfl) ?_
        refine sq_then ?_
        refine cq_cond_f rfl ?_
        refine cq_skip ?_
        refine sq_then ?_
        refine cq_seq ?_
        refine cq_region ?_
        apply sq_g; exact g_assign (s := .av (.val (.int _ _))) rfl; exact rfl
        refine sq_nil ?_
        refine sq_then ?_
        refine cq_block ?_
        refine cq_loop (γ := Nat) (fun d => [(0, .av (ts l)), (3, .av (bt p)), (5, .av (vi a)), (6, .av (vi b)), (7, .av (vi c)), (8, .av (vi d))]) (fun _ => []) (fun d => d ≤ c ∧ ∀ d', d' < d → inSolB (gt l a) (gt l b) (gt l c) (gt l d') p = false) (fun d => c - d) 0 ⟨Nat.zero_le _, by omega⟩ (ent ⟨.refl _, .refl _, .refl _, .refl _, .refl _, .refl _, trivial⟩ trivial) ?_
        rintro d ⟨hdn, iD⟩
        refine cq_seq ?_
        refine cq_seq ?_
        refine cq_region ?_
        apply sq_g; exact g_move (s := .av (.val (.int _ _))) rfl; exact rfl
        apply sq_g; exact g_move (s := .av (.val (.int _ _))) rfl; exact rfl
        apply sq_g; exact g_cmp rfl rfl rfl; exact rfl
        refine sq_nil ?_
        refine sq_then ?_
        (refine cq_cond rfl (fun hb => ?_) (fun hb => ?_) <;> (try simp only [decide_eq_true_eq, decide_eq_false_iff_not, beq_iff_eq, beq_eq_false_iff_ne, bne_iff_ne, bne_eq_false_iff_eq, ne_eq, Bool.not_eq_true', Bool.not_eq_false', Bool.and_eq_true, Bool.or_eq_true, Bool.and_eq_false_iff, Bool.or_eq_false_iff] at hb) <;> (try (exfalso; omega)))
        · have hdc : d < c := by omega
          have hdl : d < l.length := by omega
          have hsol := rinsol_c (gt l a) (gt l b) (gt l c) (gt l d) p (hl a) (hl b) (hl c) (hl d) hp
          cases hQ : inSolB (gt l a) (gt l b) (gt l c) (gt l d) p with
          | true =>
            rw [hQ] at hsol
            refine cq_skip ?_
            refine sq_then ?_
            refine cq_seq ?_
            refine cq_block ?_
            refine cq_seq ?_
            refine cq_drawn ?_
            apply dq_g; exact g_move (s := .av _) rfl; exact rfl
            apply dq_g; exact g_move (s := .av (.val (.int _ _))) rfl; exact rfl
            apply dq_g; exact g_index rfl rfl rfl (by omega); exact rfl
            apply dq_g; exact g_load_agg (us := [.int _ _, .int _ _, .int _ _]) rfl rfl rfl rfl; exact rfl
            apply dq_g; exact g_move (s := .av _) rfl; exact rfl
            apply dq_g; exact g_move (s := .av (.val (.int _ _))) rfl; exact rfl
            apply dq_g; exact g_index rfl rfl rfl (by omega); exact rfl
            apply dq_g; exact g_load_agg (us := [.int _ _, .int _ _, .int _ _]) rfl rfl rfl rfl; exact rfl
            apply dq_g; exact g_move (s := .av _) rfl; exact rfl
            apply dq_g; exact g_move (s := .av (.val (.int _ _))) rfl; exact rfl
            apply dq_g; exact g_index rfl rfl rfl (by omega); exact rfl
            apply dq_g; exact g_load_agg (us := [.int _ _, .int _ _, .int _ _]) rfl rfl rfl rfl; exact rfl
            apply dq_g; exact g_move (s := .av _) rfl; exact rfl
            apply dq_g; exact g_move (s := .av (.val (.int _ _))) rfl; exact rfl
            apply dq_g; exact g_index rfl rfl rfl (by omega); exact rfl
            apply dq_g; exact g_load_agg (us := [.int _ _, .int _ _, .int _ _]) rfl rfl rfl rfl; exact rfl
            apply dq_g; exact g_load_agg (us := [.int _ _, .int _ _, .int _ _]) rfl rfl rfl rfl; exact rfl
            apply dq_g; exact g_call (hsol) rfl; exact rfl
            refine dq_nil tm (by kernel_rfl) ?_
            refine sq_then ?_
            refine cq_cond_t rfl ?_
            refine cq_seq ?_
            refine cq_region ?_
            apply sq_g; exact g_assign (s := .av (.val (.bool _))) rfl; exact rfl
            refine sq_nil ?_
            refine sq_then ?_
            refine cq_ret ?_
            refine sq_inBlock_ret ?_
            refine sq_then_ret ?_
            refine sq_then_ret ?_
            refine sq_inBlock_ret ?_
            refine sq_inBlock_ret ?_
            refine sq_then_ret ?_
            refine sq_then_ret ?_
            refine sq_inBlock_ret ?_
            refine sq_inBlock_ret ?_
            refine sq_then_ret ?_
            refine sq_then_ret ?_
            refine sq_inBlock_ret ?_
            refine sq_inBlock_ret ?_
            refine sq_then_ret ?_
            refine sq_then_ret ?_
            refine sq_inBlock_ret ?_
            refine sq_then_ret ?_
            exact sq_res1 rfl (.tmp rfl) (tC (by unfold wC; rw [any_now (p := fun d => inSolB (gt l a) (gt l b) (gt l c) (gt l d) p) hdc hQ, Bool.or_true]))
          | false =>
            rw [hQ] at hsol
            refine cq_skip ?_
            refine sq_then ?_
            refine cq_seq ?_
            refine cq_block ?_
            refine cq_seq ?_
            refine cq_drawn ?_
            apply dq_g; exact g_move (s := .av _) rfl; exact rfl
            apply dq_g; exact g_move (s := .av (.val (.int _ _))) rfl; exact rfl
            apply dq_g; exact g_index rfl rfl rfl (by omega); exact rfl
            apply dq_g; exact g_load_agg (us := [.int _ _, .int _ _, .int _ _]) rfl rfl rfl rfl; exact rfl
            apply dq_g; exact g_move (s := .av _) rfl; exact rfl
            apply dq_g; exact g_move (s := .av (.val (.int _ _))) rfl; exact rfl
            apply dq_g; exact g_index rfl rfl rfl (by omega); exact rfl
            apply dq_g; exact g_load_agg (us := [.int _ _, .int _ _, .int _ _]) rfl rfl rfl rfl; exact rfl
            apply dq_g; exact g_move (s := .av _) rfl; exact rfl
            apply dq_g; exact g_move (s := .av (.val (.int _ _))) rfl; exact rfl
            apply dq_g; exact g_index rfl rfl rfl (by omega); exact rfl
            apply dq_g; exact g_load_agg (us := [.int _ _, .int _ _, .int _ _]) rfl rfl rfl rfl; exact rfl
            apply dq_g; exact g_move (s := .av _) rfl; exact rfl
            apply dq_g; exact g_move (s := .av (.val (.int _ _))) rfl; exact rfl
            apply dq_g; exact g_index rfl rfl rfl (by omega); exact rfl
            apply dq_g; exact g_load_agg (us := [.int _ _, .int _ _, .int _ _]) rfl rfl rfl rfl; exact rfl
            apply dq_g; exact g_load_agg (us := [.int _ _, .int _ _, .int _ _]) rfl rfl rfl rfl; exact rfl
            apply dq_g; exact g_call (hsol) rfl; exact rfl
            refine dq_nil tm (by kernel_rfl) ?_
            refine sq_then ?_
            refine cq_cond_f rfl ?_
            refine cq_skip ?_
            refine sq_then ?_
            refine cq_region ?_
            apply sq_g; exact g_move (s := .av (.val (.int _ _))) rfl; exact rfl
            apply sq_g; exact g_arith rfl rfl rfl (by omega); exact rfl
            apply sq_g; exact g_assign (s := .av (.val (.int _ _))) rfl; exact rfl
            refine sq_nil ?_
            exact sq_round (d + 1) ⟨by omega, flt_step (p := fun d => inSolB (gt l a) (gt l b) (gt l c) (gt l d) p) iD hQ⟩ (by omega) (ent ⟨.refl _, .refl _, .refl _, .refl _, .refl _, .int (by omega), trivial⟩ trivial)
        · have hdc : d = c := by omega
          subst hdc
          refine cq_exit ?_
          refine sq_then ?_
          refine cq_region ?_
          apply sq_g; exact g_move (s := .av (.val (.int _ _))) rfl; exact rfl
          apply sq_g; exact g_arith rfl rfl rfl (by omega); exact rfl
          apply sq_g; exact g_assign (s := .av (.val (.int _ _))) rfl; exact rfl
          refine sq_nil ?_
          exact sq_round (d + 1) ⟨by omega, flt_step (p := fun c => wC l p a b c) iC (by unfold wC; rw [hT, any_ff iD]; rfl)⟩ (by omega) (ent ⟨.refl _, .refl _, .refl _, .refl _, .int (by omega), trivial⟩ trivial)
      · have hcb : c = b := by omega
        subst hcb
        refine cq_exit ?_
        refine sq_then ?_
        refine cq_region ?_
        apply sq_g; exact g_move (s := .av (.val (.int _ _))) rfl; exact rfl
        apply sq_g; exact g_arith rfl rfl rfl (by omega); exact rfl
        apply sq_g; exact g_assign (s := .av (.val (.int _ _))) rfl; exact rfl
        refine sq_nil ?_
        exact sq_round (c + 1) ⟨by omega, flt_step (p := fun b => wB l p a b) iB (by unfold wB; rw [hS, any_ff iC]; rfl)⟩ (by omega) (ent ⟨.refl _, .refl _, .refl _, .int (by omega), trivial⟩ trivial)
    · have hba : b = a := by omega
      subst hba
      refine cq_exit ?_
      refine sq_then ?_
      refine cq_region ?_
      apply sq_g; exact g_move (s := .av (.val (.int _ _))) rfl; exact rfl
      apply sq_g; exact g_arith rfl rfl rfl (by omega); exact rfl
      apply sq_g; exact g_assign (s := .av (.val (.int _ _))) rfl; exact rfl
      refine sq_nil ?_
      exact sq_round (b + 1) ⟨by omega, flt_step (p := fun a => wA l p a) iA (by unfold wA; rw [hnab, any_ff iB]; rfl)⟩ (by omega) (ent ⟨.refl _, .refl _, .int (by omega), trivial⟩ trivial)
  · have hal : a = l.length := by omega
    subst hal
    refine cq_exit ?_
    refine sq_then ?_
    refine cq_seq ?_
    refine cq_region ?_
    apply sq_g; exact g_assign (s := .av (.val (.bool _))) rfl; exact rfl
    refine sq_nil ?_
    refine sq_then ?_
    refine cq_ret ?_
    exact sq_res1 rfl (.tmp rfl) (congrArg vb (any_ff iA).symm)
def othT (l : List Tr) (i k : Nat) : List Tr := (l.take k).filter (fun q => decide (q ≠ gt l i))
theorem othT_step {l : List Tr} {i k : Nat} (h : k < l.length) : othT l i (k + 1) = if gt l k = gt l i then othT l i k else othT l i k ++ [gt l k] := by
  unfold othT
  rw [gt_take h, List.filter_append]
  by_cases e : gt l k = gt l i
  · rw [if_pos e]; simp [e]
  · rw [if_neg e]; simp [e]
theorem othT_len (l : List Tr) (i k : Nat) : (othT l i k).length ≤ l.length := by
  unfold othT
  have := List.length_filter_le (fun q => decide (q ≠ gt l i)) (l.take k)
  have := List.length_take_le k l
  have : (l.take k).length ≤ l.length := by rw [List.length_take]; omega
  omega
theorem othT_rt {l : List Tr} (hl : RT l) (i k : Nat) : RT (othT l i k) := fun j => by
  by_cases hj : j < (othT l i k).length
  · have hm : gt (othT l i k) j ∈ l := List.mem_of_mem_take (List.mem_filter.1 (gt_mem hj)).1
    obtain ⟨q, hq, e⟩ := List.getElem_of_mem hm
    rw [← e, ← gt_eq hq]; exact hl q
  · have e : gt (othT l i k) j = ⟨0, 0, 0⟩ := by unfold gt; rw [List.getD, List.getElem?_eq_none (by omega)]; rfl
    rw [e]
    exact ⟨by decide, by decide, by decide⟩
def vtxT (l : List Tr) (i : Nat) : Bool := !((List.range i).any fun k => decide (gt l k = gt l i)) && !withinB (othT l i l.length) (gt l i)
def frB (l : List Tr) (i k : Nat) : Bool := !((List.range k).any fun q => decide (gt l q = gt l i) && decide (q < i))
theorem frB_succ (l : List Tr) (i k : Nat) : frB l i (k + 1) = (frB l i k && !(decide (gt l k = gt l i) && decide (k < i))) := by
  unfold frB; rw [List.range_succ, List.any_append]; simp
theorem frB_all (l : List Tr) {i : Nat} (h : i < l.length) : frB l i l.length = !((List.range i).any fun k => decide (gt l k = gt l i)) := by
  unfold frB
  congr 1
  rw [Bool.eq_iff_iff, List.any_eq_true, List.any_eq_true]
  constructor
  · rintro ⟨q, hq, e⟩
    rw [Bool.and_eq_true, decide_eq_true_eq, decide_eq_true_eq] at e
    exact ⟨q, List.mem_range.2 e.2, by simpa using e.1⟩
  · rintro ⟨q, hq, e⟩
    have hq := List.mem_range.1 hq
    exact ⟨q, List.mem_range.2 (by omega), by simp only [Bool.and_eq_true, decide_eq_true_eq]; exact ⟨by simpa using e, hq⟩⟩
def cTo (l : List Tr) (k : Nat) : List Nat := (List.range k).filter (vtxT l)
theorem cTo_succ (l : List Tr) (k : Nat) : cTo l (k + 1) = if vtxT l k = true then cTo l k ++ [k] else cTo l k := by
  unfold cTo; rw [List.range_succ, List.filter_append]; cases h : vtxT l k <;> simp [h]
theorem cTo_len (l : List Tr) (k : Nat) : (cTo l k).length ≤ k := by
  unfold cTo; have := List.length_filter_le (vtxT l) (List.range k); rw [List.length_range] at this; exact this
abbrev cornL (l : List Tr) : List Nat := cTo l l.length
theorem rcorners_c (l : List Tr) (hl : RT l) (hn : l.length ≤ 6) : CtrA Tryz.prog 52 [ts l] (zs (natL (cornL l))) := by
  refine ctrA _ Tryz.func52 rfl rfl Tryz.ntmps52 rfl fun w Z => ?_
  simp only [initT, List.map_cons, List.map_nil, Nat.zero_add, Nat.reduceAdd]
  refine cq_seq ?_
  refine cq_region ?_
  apply sq_g; exact g_assign (s := .av _) rfl; exact rfl
  refine sq_nil ?_
  refine sq_then ?_
  refine cq_seq ?_
  refine cq_region ?_
  apply sq_g; exact g_assign (s := .av _) rfl; exact rfl
  refine sq_nil ?_
  refine sq_then ?_
  refine cq_seq ?_
  refine cq_seq ?_
  refine cq_region ?_
  apply sq_g; exact g_assign (s := .av (.val (.int _ _))) rfl; exact rfl
  refine sq_nil ?_
  refine sq_then ?_
  refine cq_block ?_
  refine cq_loop (γ := Nat) (fun i => [(0, .av (ts l)), (3, .osl 70), (4, .av (vi i))]) (fun i => [(70, .row 3 1 (cTo l i).length (xf (cTo l i)))]) (fun i => i ≤ l.length) (fun i => l.length - i) 0 (Nat.zero_le _) (Ent.trans (ent_row (dd := 3) 70 3 1 (xf []) rfl rfl) (ent ⟨.refl _, .refl _, .refl _, trivial⟩ ⟨⟨_, rfl, .refl _⟩, trivial⟩)) ?_
  intro i hi
  refine cq_seq ?_
  refine cq_seq ?_
  refine cq_region ?_
  apply sq_g; exact g_move (s := .av (.val (.int _ _))) rfl; exact rfl
  apply sq_g; exact g_move (s := .av _) rfl; exact rfl
  apply sq_g; exact g_len rfl; exact rfl
  apply sq_g; exact g_cmp rfl rfl rfl; exact rfl
  refine sq_nil ?_
  refine sq_then ?_
  (refine cq_cond rfl (fun hb => ?_) (fun hb => ?_) <;> (try simp only [decide_eq_true_eq, decide_eq_false_iff_not, beq_iff_eq, beq_eq_false_iff_ne, bne_iff_ne, bne_eq_false_iff_eq, ne_eq, Bool.not_eq_true', Bool.not_eq_false', Bool.and_eq_true, Bool.or_eq_true, Bool.and_eq_false_iff, Bool.or_eq_false_iff] at hb) <;> (try (exfalso; omega)))
  · have hil : i < l.length := by omega
    have e0 := cTo_succ l i
    have hcl := cTo_len l i
    generalize cTo l i = X at e0 hcl ⊢
    refine cq_skip ?_
    refine sq_then ?_
    refine cq_seq ?_
    refine cq_block ?_
    refine cq_seq ?_
    refine cq_region ?_
    apply sq_g; exact g_assign (s := .av _) rfl; exact rfl
    refine sq_nil ?_
    refine sq_then ?_
    refine cq_seq ?_
    refine cq_region ?_
    apply sq_g; exact g_assign (s := .av (.val (.bool _))) rfl; exact rfl
    refine sq_nil ?_
    refine sq_then ?_
    refine cq_seq ?_
    refine cq_seq ?_
    refine cq_region ?_
    apply sq_g; exact g_assign (s := .av (.val (.int _ _))) rfl; exact rfl
    refine sq_nil ?_
    refine sq_then ?_
    refine cq_block ?_
    refine cq_loop (γ := Nat) (fun k => [(0, .av (ts l)), (3, .osl 70), (4, .av (vi i)), (5, .osl 71), (6, .av (vb (frB l i k))), (7, .av (vi k))]) (fun k => [(70, .row 3 1 X.length (xf X)), (71, .row 67 3 (othT l i k).length (tf (othT l i k)))]) (fun k => k ≤ l.length) (fun k => l.length - k) 0 (Nat.zero_le _) (Ent.trans (ent_row (dd := 5) 71 67 3 (tf []) rfl rfl) (ent ⟨.refl _, .refl _, .refl _, .refl _, .refl _, .refl _, trivial⟩ ⟨⟨_, rfl, .refl _⟩, ⟨_, rfl, .refl _⟩, trivial⟩)) ?_
    intro k hk
    refine cq_seq ?_
    refine cq_seq ?_
    refine cq_region ?_
    apply sq_g; exact g_move (s := .av (.val (.int _ _))) rfl; exact rfl
    apply sq_g; exact g_move (s := .av _) rfl; exact rfl
    apply sq_g; exact g_len rfl; exact rfl
    apply sq_g; exact g_cmp rfl rfl rfl; exact rfl
    refine sq_nil ?_
    refine sq_then ?_
    (refine cq_cond rfl (fun hb => ?_) (fun hb => ?_) <;> (try simp only [decide_eq_true_eq, decide_eq_false_iff_not, beq_iff_eq, beq_eq_false_iff_ne, bne_iff_ne, bne_eq_false_iff_eq, ne_eq, Bool.not_eq_true', Bool.not_eq_false', Bool.and_eq_true, Bool.or_eq_true, Bool.and_eq_false_iff, Bool.or_eq_false_iff] at hb) <;> (try (exfalso; omega)))
    · have hkl : k < l.length := by omega
      have e1 := othT_step (i := i) hkl
      have e2 := frB_succ l i k
      have hol := othT_len l i k
      generalize othT l i k = M at e1 hol ⊢
      generalize frB l i k = F at e2 ⊢
      have hmx : M.length + 1 ≤ maxLen := by simp only [maxLen]; omega
      by_cases heq : gt l k = gt l i
      · rw [if_pos heq] at e1
        rw [decide_eq_true heq, Bool.true_and] at e2
        refine cq_skip ?_
        refine sq_then ?_
        refine cq_seq ?_
        refine cq_block ?_
        refine cq_seq ?_
        refine cq_drawn ?_
        apply dq_g; exact g_move (s := .av _) rfl; exact rfl
        apply dq_g; exact g_move (s := .av (.val (.int _ _))) rfl; exact rfl
        apply dq_g; exact g_index rfl rfl rfl (by omega); exact rfl
        apply dq_g; exact g_load_agg (us := [.int _ _, .int _ _, .int _ _]) rfl rfl rfl rfl; exact rfl
        apply dq_g; exact g_move (s := .av _) rfl; exact rfl
        apply dq_g; exact g_move (s := .av (.val (.int _ _))) rfl; exact rfl
        apply dq_g; exact g_index rfl rfl rfl (by omega); exact rfl
        apply dq_g; exact g_load_agg (us := [.int _ _, .int _ _, .int _ _]) rfl rfl rfl rfl; exact rfl
        apply dq_g; exact g_neq (xs := [_, _, _]) (ys := [_, _, _]) rfl rfl rfl rfl; exact rfl
        refine dq_nil tm (by kernel_rfl) ?_
        refine sq_then ?_
        (refine cq_cond rfl (fun hb => ?_) (fun hb => ?_) <;> (try simp only [decide_eq_true_eq, decide_eq_false_iff_not, beq_iff_eq, beq_eq_false_iff_ne, bne_iff_ne, bne_eq_false_iff_eq, ne_eq, Bool.not_eq_true', Bool.not_eq_false', Bool.and_eq_true, Bool.or_eq_true, Bool.and_eq_false_iff, Bool.or_eq_false_iff] at hb) <;> (try (exfalso; omega)))
        · exact absurd ((nn_iff _ _).2 heq) hb
        refine cq_seq ?_
        refine cq_region ?_
        apply sq_g; exact g_move (s := .av (.val (.int _ _))) rfl; exact rfl
        apply sq_g; exact g_move (s := .av (.val (.int _ _))) rfl; exact rfl
        apply sq_g; exact g_cmp rfl rfl rfl; exact rfl
        refine sq_nil ?_
        refine sq_then ?_
        (refine cq_cond rfl (fun hb => ?_) (fun hb => ?_) <;> (try simp only [decide_eq_true_eq, decide_eq_false_iff_not, beq_iff_eq, beq_eq_false_iff_ne, bne_iff_ne, bne_eq_false_iff_eq, ne_eq, Bool.not_eq_true', Bool.not_eq_false', Bool.and_eq_true, Bool.or_eq_true, Bool.and_eq_false_iff, Bool.or_eq_false_iff] at hb) <;> (try (exfalso; omega)))
        · rw [decide_eq_true (show k < i by omega)] at e2
          refine cq_region ?_
          apply sq_g; exact g_assign (s := .av (.val (.bool _))) rfl; exact rfl
          refine sq_nil ?_
          refine sq_then ?_
          refine cq_region ?_
          apply sq_g; exact g_move (s := .av (.val (.int _ _))) rfl; exact rfl
          apply sq_g; exact g_arith rfl rfl rfl (by omega); exact rfl
          apply sq_g; exact g_assign (s := .av (.val (.int _ _))) rfl; exact rfl
          refine sq_nil ?_
          exact sq_round (k + 1) (by omega) (by omega) (ent ⟨.refl _, .refl _, .refl _, .refl _, lebool (by rw [e2]; simp), .int (by omega), trivial⟩ ⟨⟨_, rfl, .refl _⟩, ⟨_, rfl, by rw [e1]; exact .refl _⟩, trivial⟩)
        · rw [decide_eq_false (by omega)] at e2
          refine cq_skip ?_
          refine sq_then ?_
          refine cq_region ?_
          apply sq_g; exact g_move (s := .av (.val (.int _ _))) rfl; exact rfl
          apply sq_g; exact g_arith rfl rfl rfl (by omega); exact rfl
          apply sq_g; exact g_assign (s := .av (.val (.int _ _))) rfl; exact rfl
          refine sq_nil ?_
          exact sq_round (k + 1) (by omega) (by omega) (ent ⟨.refl _, .refl _, .refl _, .refl _, lebool (by rw [e2]; simp), .int (by omega), trivial⟩ ⟨⟨_, rfl, .refl _⟩, ⟨_, rfl, by rw [e1]; exact .refl _⟩, trivial⟩)
      · rw [if_neg heq] at e1
        rw [decide_eq_false heq, Bool.false_and] at e2
        refine cq_skip ?_
        refine sq_then ?_
        refine cq_seq ?_
        refine cq_block ?_
        refine cq_seq ?_
        refine cq_drawn ?_
        apply dq_g; exact g_move (s := .av _) rfl; exact rfl
        apply dq_g; exact g_move (s := .av (.val (.int _ _))) rfl; exact rfl
        apply dq_g; exact g_index rfl rfl rfl (by omega); exact rfl
        apply dq_g; exact g_load_agg (us := [.int _ _, .int _ _, .int _ _]) rfl rfl rfl rfl; exact rfl
        apply dq_g; exact g_move (s := .av _) rfl; exact rfl
        apply dq_g; exact g_move (s := .av (.val (.int _ _))) rfl; exact rfl
        apply dq_g; exact g_index rfl rfl rfl (by omega); exact rfl
        apply dq_g; exact g_load_agg (us := [.int _ _, .int _ _, .int _ _]) rfl rfl rfl rfl; exact rfl
        apply dq_g; exact g_neq (xs := [_, _, _]) (ys := [_, _, _]) rfl rfl rfl rfl; exact rfl
        refine dq_nil tm (by kernel_rfl) ?_
        refine sq_then ?_
        (refine cq_cond rfl (fun hb => ?_) (fun hb => ?_) <;> (try simp only [decide_eq_true_eq, decide_eq_false_iff_not, beq_iff_eq, beq_eq_false_iff_ne, bne_iff_ne, bne_eq_false_iff_eq, ne_eq, Bool.not_eq_true', Bool.not_eq_false', Bool.and_eq_true, Bool.or_eq_true, Bool.and_eq_false_iff, Bool.or_eq_false_iff] at hb) <;> (try (exfalso; omega)))
        · refine cq_region ?_
          apply sq_g; exact g_move (s := .osl _) rfl; exact rfl
          apply sq_g; exact g_move (s := .av _) rfl; exact rfl
          apply sq_g; exact g_move (s := .av (.val (.int _ _))) rfl; exact rfl
          apply sq_g; exact g_index rfl rfl rfl (by omega); exact rfl
          apply sq_g; exact g_load_agg (us := [.int _ _, .int _ _, .int _ _]) rfl rfl rfl rfl; exact rfl
          apply sq_g; exact  g_bslice (is := [0]) (xs := [_]) (vs := [_]) (us := [_, _, _]) (tq22 _ _ _) rfl rfl rfl (tf_row (gt l k)); exact rfl
          refine sq_v (v_append (h := tf [gt l k]) (m := 1) rfl rfl rfl (fun i _ j _ => tf_one _ i j) (by omega) hmx (by omega)) rfl ?_
          apply sq_g; exact g_assign (s := .osl _) rfl; exact rfl
          refine sq_nil ?_
          refine sq_then ?_
          refine cq_region ?_
          apply sq_g; exact g_move (s := .av (.val (.int _ _))) rfl; exact rfl
          apply sq_g; exact g_arith rfl rfl rfl (by omega); exact rfl
          apply sq_g; exact g_assign (s := .av (.val (.int _ _))) rfl; exact rfl
          refine sq_nil ?_
          exact sq_round (k + 1) (by omega) (by omega) (ent ⟨.refl _, .refl _, .refl _, .refl _, lebool (by rw [e2]; simp), .int (by omega), trivial⟩ ⟨⟨_, rfl, .refl _⟩, ⟨_, rfl, .row (by rw [e1]; simp) (fun i hi j hj => by rw [e1]; exact tf_app _ _ i hi j hj)⟩, trivial⟩)
        · exact absurd ((nn_iff _ _).1 hb) heq
    · have hkl : k = l.length := by omega
      subst hkl
      have hwc := within_c (othT l i l.length) (gt l i) (othT_rt hl i _) (by have := othT_len l i l.length; omega) (hl i)
      have hF := frB_all l hil
      have hV : vtxT l i = (frB l i l.length && !withinB (othT l i l.length) (gt l i)) := by rw [hF]; rfl
      rw [hV] at e0
      generalize withinB (othT l i l.length) (gt l i) = q at hwc e0
      generalize frB l i l.length = F at e0 ⊢
      have hml : X.length + 1 ≤ maxLen := by simp only [maxLen]; omega
      cases F with
      | false =>
        rw [if_neg (by simp)] at e0
        refine cq_exit ?_
        refine sq_then ?_
        refine cq_seq ?_
        refine cq_region ?_
        apply sq_g; exact g_move (s := .av (.val (.bool _))) rfl; exact rfl
        apply sq_g; exact g_move (s := .av (.val (.bool _))) rfl; exact rfl
        refine sq_off rfl rfl rfl rfl ?_
        refine sq_off rfl rfl rfl rfl ?_
        refine sq_off rfl rfl rfl rfl ?_
        refine sq_off rfl rfl rfl rfl ?_
        refine sq_off rfl rfl rfl rfl ?_
        refine sq_off rfl rfl rfl rfl ?_
        refine sq_off rfl rfl rfl rfl ?_
        apply sq_g; exact g_pick (s := .av (.val (.bool _))) rfl rfl; exact rfl
        refine sq_nil ?_
        refine sq_then ?_
        refine cq_cond_f rfl ?_
        refine cq_skip ?_
        refine sq_then ?_
        refine cq_region ?_
        apply sq_g; exact g_move (s := .av (.val (.int _ _))) rfl; exact rfl
        apply sq_g; exact g_arith rfl rfl rfl (by omega); exact rfl
        apply sq_g; exact g_assign (s := .av (.val (.int _ _))) rfl; exact rfl
        refine sq_nil ?_
        exact sq_round (i + 1) (by omega) (by omega) (ent ⟨.refl _, .refl _, .int (by omega), trivial⟩ ⟨⟨_, rfl, .row (by rw [e0]) (fun _ _ _ _ => by rw [e0])⟩, trivial⟩)
      | true =>
        cases q with
        | true =>
          rw [if_neg (by simp)] at e0
          refine cq_exit ?_
          refine sq_then ?_
          refine cq_seq ?_
          refine cq_region ?_
          apply sq_g; exact g_move (s := .av (.val (.bool _))) rfl; exact rfl
          apply sq_g; exact g_move (s := .av (.val (.bool _))) rfl; exact rfl
          apply sq_on; exact g_move (s := .osl _) rfl; exact rfl; exact rfl; exact rfl
          apply sq_on; exact g_move (s := .av _) rfl; exact rfl; exact rfl; exact rfl
          apply sq_on; exact g_move (s := .av (.val (.int _ _))) rfl; exact rfl; exact rfl; exact rfl
          apply sq_on; exact g_index rfl rfl rfl (by omega); exact rfl; exact rfl; exact rfl
          apply sq_on; exact g_load_agg (us := [.int _ _, .int _ _, .int _ _]) rfl rfl rfl rfl; exact rfl; exact rfl; exact rfl
          apply sq_on; exact g_call_b (hwc) rfl; exact rfl; exact rfl; exact rfl
          apply sq_on; exact g_not rfl; exact rfl; exact rfl; exact rfl
          apply sq_g; exact g_pick (s := .av (.val (.bool _))) rfl rfl; exact rfl
          refine sq_nil ?_
          refine sq_then ?_
          refine cq_cond_f rfl ?_
          refine cq_skip ?_
          refine sq_then ?_
          refine cq_region ?_
          apply sq_g; exact g_move (s := .av (.val (.int _ _))) rfl; exact rfl
          apply sq_g; exact g_arith rfl rfl rfl (by omega); exact rfl
          apply sq_g; exact g_assign (s := .av (.val (.int _ _))) rfl; exact rfl
          refine sq_nil ?_
          exact sq_round (i + 1) (by omega) (by omega) (ent ⟨.refl _, .refl _, .int (by omega), trivial⟩ ⟨⟨_, rfl, .row (by rw [e0]) (fun _ _ _ _ => by rw [e0])⟩, trivial⟩)
        | false =>
          rw [if_pos (by simp)] at e0
          refine cq_exit ?_
          refine sq_then ?_
          refine cq_seq ?_
          refine cq_region ?_
          apply sq_g; exact g_move (s := .av (.val (.bool _))) rfl; exact rfl
          apply sq_g; exact g_move (s := .av (.val (.bool _))) rfl; exact rfl
          apply sq_on; exact g_move (s := .osl _) rfl; exact rfl; exact rfl; exact rfl
          apply sq_on; exact g_move (s := .av _) rfl; exact rfl; exact rfl; exact rfl
          apply sq_on; exact g_move (s := .av (.val (.int _ _))) rfl; exact rfl; exact rfl; exact rfl
          apply sq_on; exact g_index rfl rfl rfl (by omega); exact rfl; exact rfl; exact rfl
          apply sq_on; exact g_load_agg (us := [.int _ _, .int _ _, .int _ _]) rfl rfl rfl rfl; exact rfl; exact rfl; exact rfl
          apply sq_on; exact g_call_b (hwc) rfl; exact rfl; exact rfl; exact rfl
          apply sq_on; exact g_not rfl; exact rfl; exact rfl; exact rfl
          apply sq_g; exact g_pick (s := .av (.val (.bool _))) rfl rfl; exact rfl
          refine sq_nil ?_
          refine sq_then ?_
          refine cq_cond_t rfl ?_
          refine cq_region ?_
          apply sq_g; exact g_move (s := .osl _) rfl; exact rfl
          apply sq_g; exact g_move (s := .av (.val (.int _ _))) rfl; exact rfl
          apply sq_g; exact g_one_ix (tq26 _) rfl rfl; exact rfl
          refine sq_v (v_push_ix rfl rfl rfl (by omega) rfl) rfl ?_
          apply sq_g; exact g_assign (s := .osl _) rfl; exact rfl
          refine sq_nil ?_
          refine sq_then ?_
          refine cq_region ?_
          apply sq_g; exact g_move (s := .av (.val (.int _ _))) rfl; exact rfl
          apply sq_g; exact g_arith rfl rfl rfl (by omega); exact rfl
          apply sq_g; exact g_assign (s := .av (.val (.int _ _))) rfl; exact rfl
          refine sq_nil ?_
          exact sq_round (i + 1) (by omega) (by omega) (ent ⟨.refl _, .refl _, .int (by omega), trivial⟩ ⟨⟨_, rfl, .row (by rw [e0]) (fun _ _ _ _ => by rw [e0])⟩, trivial⟩)
  · have hil : i = l.length := by omega
    subst hil
    rw [show zs (natL (cornL l)) = .sl (cTo l l.length).length 1 (xf (cTo l l.length)) from by rw [xf_natL, zs, List.length_map]]
    refine cq_exit ?_
    refine sq_then ?_
    refine cq_seq ?_
    refine cq_region ?_
    apply sq_g; exact g_move (s := .osl _) rfl; exact rfl
    apply sq_g; exact g_assign (s := .osl _) rfl; exact rfl
    refine sq_nil ?_
    refine sq_then ?_
    refine cq_ret ?_
    exact sq_ent (ent_freeze 70 rfl) (sq_res1 rfl (.tmp rfl) rfl)
end Go.Proofs.YtdoppiajbpmmkaaGreat
namespace Go.Proofs.YtdoppiajbpmmkaaGreat
open Go Go.Vc Go.RowKit
set_option maxHeartbeats 8000000
/-! KDQ -/
theorem rhas_c (s : List Int) (a : Int) (hn : s.length ≤ 100000) : CtrA Tryz.prog 81 [zs s, vi a] (vb (hasB s a)) := by
  refine ctrA _ Tryz.func81 rfl rfl Tryz.ntmps81 rfl fun w Z => ?_
  simp only [initT, List.map_cons, List.map_nil, Nat.zero_add, Nat.reduceAdd]
  refine cq_seq ?_
  refine cq_region ?_
  apply sq_g; exact g_assign (s := .av (.val (.bool _))) rfl; exact rfl
  refine sq_nil ?_
  refine sq_then ?_
  refine cq_seq ?_
  refine cq_seq ?_
  refine cq_region ?_
  apply sq_g; exact g_assign (s := .av (.val (.int _ _))) rfl; exact rfl
  refine sq_nil ?_
  refine sq_then ?_
  refine cq_block ?_
  refine cq_loop (γ := Nat) (fun k => [(0, .av (zs s)), (1, .av (vi a)), (5, .av (vi k))]) (fun _ => []) (fun k => k ≤ s.length ∧ ∀ j, j < k → gz s j ≠ a) (fun k => s.length - k) 0 ⟨Nat.zero_le _, by omega⟩ (ent ⟨.refl _, .refl _, .refl _, trivial⟩ trivial) ?_
  rintro k ⟨hk, hall⟩
  refine cq_seq ?_
  refine cq_seq ?_
  refine cq_region ?_
  apply sq_g; exact g_move (s := .av (.val (.int _ _))) rfl; exact rfl
  apply sq_g; exact g_move (s := .av _) rfl; exact rfl
  apply sq_g; exact g_len rfl; exact rfl
  apply sq_g; exact g_cmp rfl rfl rfl; exact rfl
  refine sq_nil ?_
  refine sq_then ?_
  (refine cq_cond rfl (fun hb => ?_) (fun hb => ?_) <;> (try simp only [decide_eq_true_eq, decide_eq_false_iff_not, beq_iff_eq, beq_eq_false_iff_ne, bne_iff_ne, bne_eq_false_iff_eq, ne_eq, Bool.not_eq_true', Bool.not_eq_false', Bool.and_eq_true, Bool.or_eq_true, Bool.and_eq_false_iff, Bool.or_eq_false_iff] at hb) <;> (try (exfalso; omega)))
  · have hkl : k < s.length := by omega
    refine cq_skip ?_
    refine sq_then ?_
    refine cq_seq ?_
    refine cq_block ?_
    refine cq_seq ?_
    refine cq_region ?_
    apply sq_g; exact g_move (s := .av _) rfl; exact rfl
    apply sq_g; exact g_move (s := .av (.val (.int _ _))) rfl; exact rfl
    apply sq_g; exact g_index rfl rfl rfl (by omega); exact rfl
    apply sq_g; exact g_load (τ := .val (.int _ _)) rfl rfl rfl; exact rfl
    apply sq_g; exact g_move (s := .av (.val (.int _ _))) rfl; exact rfl
    apply sq_g; exact g_cmp rfl rfl rfl; exact rfl
    refine sq_nil ?_
    refine sq_then ?_
    (refine cq_cond rfl (fun hb => ?_) (fun hb => ?_) <;> (try simp only [decide_eq_true_eq, decide_eq_false_iff_not, beq_iff_eq, beq_eq_false_iff_ne, bne_iff_ne, bne_eq_false_iff_eq, ne_eq, Bool.not_eq_true', Bool.not_eq_false', Bool.and_eq_true, Bool.or_eq_true, Bool.and_eq_false_iff, Bool.or_eq_false_iff] at hb) <;> (try (exfalso; omega)))
    · refine cq_seq ?_
      refine cq_region ?_
      apply sq_g; exact g_assign (s := .av (.val (.bool _))) rfl; exact rfl
      refine sq_nil ?_
      refine sq_then ?_
      refine cq_ret ?_
      refine sq_inBlock_ret ?_
      refine sq_then_ret ?_
      refine sq_then_ret ?_
      refine sq_inBlock_ret ?_
      refine sq_then_ret ?_
      exact sq_res1 rfl (.tmp rfl) (congrArg vb (decide_eq_true (by rw [← hb]; exact gz_memI hkl)).symm)
    · have hall2 : ∀ j, j < k + 1 → gz s j ≠ a := fun j hj => by
        by_cases e : j = k
        · subst e; exact hb
        · exact hall j (by omega)
      refine cq_skip ?_
      refine sq_then ?_
      refine cq_region ?_
      apply sq_g; exact g_move (s := .av (.val (.int _ _))) rfl; exact rfl
      apply sq_g; exact g_arith rfl rfl rfl (by omega); exact rfl
      apply sq_g; exact g_assign (s := .av (.val (.int _ _))) rfl; exact rfl
      refine sq_nil ?_
      exact sq_round (k + 1) ⟨by omega, hall2⟩ (by omega) (ent ⟨.refl _, .refl _, .int (by omega), trivial⟩ trivial)
  · have hkl : k = s.length := by omega
    subst hkl
    refine cq_exit ?_
    refine sq_then ?_
    refine cq_seq ?_
    refine cq_region ?_
    apply sq_g; exact g_assign (s := .av (.val (.bool _))) rfl; exact rfl
    refine sq_nil ?_
    refine sq_then ?_
    refine cq_ret ?_
    exact sq_res1 rfl (.tmp rfl) (congrArg vb (decide_eq_false fun h => by
      obtain ⟨i, hi, e⟩ := mem_gz h
      exact hall i hi e).symm)
theorem rjoins_c (l : List Tr) (L : List Fc) (V : List Int) (hc : CtrA Tryz.prog 52 [ts l] (zs V)) (hs : CtrA Tryz.prog 55 [ts l] (fs L)) (hLn : L.length ≤ 1000) (hL : ∀ f ∈ L, f.s.length ≤ 6) (hV : V.length ≤ 12000) : CtrA Tryz.prog 54 [ts l] (es (edgV L V)) := by
  refine ctrA _ Tryz.func54 rfl rfl Tryz.ntmps54 rfl fun w Z => ?_
  have hlen := eTo_len L V hV
  simp only [initT, List.map_cons, List.map_nil, Nat.zero_add, Nat.reduceAdd]
  refine cq_seq ?_
  refine cq_region ?_
  apply sq_g; exact g_assign (s := .av _) rfl; exact rfl
  refine sq_nil ?_
  refine sq_then ?_
  refine cq_seq ?_
  refine cq_region ?_
  apply sq_g; exact g_move (s := .av _) rfl; exact rfl
  apply sq_g; exact g_call (hc) rfl; exact rfl
  apply sq_g; exact g_move (s := .av _) rfl; exact rfl
  apply sq_g; exact g_call (hs) rfl; exact rfl
  apply sq_g; exact g_assign (s := .av _) rfl; exact rfl
  apply sq_g; exact g_assign (s := .av _) rfl; exact rfl
  refine sq_nil ?_
  refine sq_then ?_
  refine cq_seq ?_
  refine cq_region ?_
  apply sq_g; exact g_assign (s := .av _) rfl; exact rfl
  refine sq_nil ?_
  refine sq_then ?_
  refine cq_seq ?_
  refine cq_seq ?_
  refine cq_region ?_
  apply sq_g; exact g_assign (s := .av (.val (.int _ _))) rfl; exact rfl
  refine sq_nil ?_
  refine sq_then ?_
  refine cq_block ?_
  refine cq_loop (γ := Nat) (fun k => [(3, .av (zs V)), (4, .av (fs L)), (5, .osl 70), (6, .av (vi k))]) (fun k => [(70, .row 44 2 (eTo L V k).length (ef (eTo L V k)))]) (fun k => k ≤ V.length) (fun k => V.length - k) 0 (Nat.zero_le _) (Ent.trans (ent_row (dd := 5) 70 44 2 (ef []) rfl rfl) (ent ⟨.refl _, .refl _, .refl _, .refl _, trivial⟩ ⟨⟨_, rfl, .refl _⟩, trivial⟩)) ?_
  intro k hk
  refine cq_seq ?_
  refine cq_seq ?_
  refine cq_region ?_
  apply sq_g; exact g_move (s := .av (.val (.int _ _))) rfl; exact rfl
  apply sq_g; exact g_move (s := .av _) rfl; exact rfl
  apply sq_g; exact g_len rfl; exact rfl
  apply sq_g; exact g_cmp rfl rfl rfl; exact rfl
  refine sq_nil ?_
  refine sq_then ?_
  (refine cq_cond rfl (fun hb => ?_) (fun hb => ?_) <;> (try simp only [decide_eq_true_eq, decide_eq_false_iff_not, beq_iff_eq, beq_eq_false_iff_ne, bne_iff_ne, bne_eq_false_iff_eq, ne_eq, Bool.not_eq_true', Bool.not_eq_false', Bool.and_eq_true, Bool.or_eq_true, Bool.and_eq_false_iff, Bool.or_eq_false_iff] at hb) <;> (try (exfalso; omega)))
  · have hkl : k < V.length := by omega
    have e0 : eTo L V (k + 1) = eTo L V k ++ eM L V k (V.length - (k + 1)) := rfl
    have hk1 := hlen k
    generalize eTo L V k = X at e0 hk1 ⊢
    have hml := eM_len L V k
    refine cq_skip ?_
    refine sq_then ?_
    refine cq_seq ?_
    refine cq_block ?_
    refine cq_seq ?_
    refine cq_region ?_
    apply sq_g; exact g_move (s := .av (.val (.int _ _))) rfl; exact rfl
    apply sq_g; exact g_arith rfl rfl rfl (by omega); exact rfl
    apply sq_g; exact g_assign (s := .av (.val (.int _ _))) rfl; exact rfl
    refine sq_nil ?_
    refine sq_then ?_
    refine cq_block ?_
    refine cq_loop (γ := Nat) (fun m => [(3, .av (zs V)), (4, .av (fs L)), (5, .osl 70), (6, .av (vi k)), (7, .av (vi ((k + 1 + m : Nat) : Int)))]) (fun m => [(70, .row 44 2 (X ++ eM L V k m).length (ef (X ++ eM L V k m)))]) (fun m => m ≤ V.length - (k + 1)) (fun m => V.length - (k + 1) - m) 0 (Nat.zero_le _) (ent ⟨.refl _, .refl _, .refl _, .refl _, .int (by omega), trivial⟩ ⟨⟨_, rfl, by rw [show eM L V k 0 = [] from rfl, List.append_nil]; exact .refl _⟩, trivial⟩) ?_
    intro m hm
    refine cq_seq ?_
    refine cq_seq ?_
    refine cq_region ?_
    apply sq_g; exact g_move (s := .av (.val (.int _ _))) rfl; exact rfl
    apply sq_g; exact g_move (s := .av _) rfl; exact rfl
    apply sq_g; exact g_len rfl; exact rfl
    apply sq_g; exact g_cmp rfl rfl rfl; exact rfl
    refine sq_nil ?_
    refine sq_then ?_
    (refine cq_cond rfl (fun hb => ?_) (fun hb => ?_) <;> (try simp only [decide_eq_true_eq, decide_eq_false_iff_not, beq_iff_eq, beq_eq_false_iff_ne, bne_iff_ne, bne_eq_false_iff_eq, ne_eq, Bool.not_eq_true', Bool.not_eq_false', Bool.and_eq_true, Bool.or_eq_true, Bool.and_eq_false_iff, Bool.or_eq_false_iff] at hb) <;> (try (exfalso; omega)))
    · have hmm : m < V.length - (k + 1) := by omega
      have e1 : eM L V k (m + 1) = eM L V k m ++ if 2 ≤ cnt L (gz V k) (gz V (k + 1 + m)) L.length then [(gz V k, gz V (k + 1 + m))] else [] := rfl
      have e2 : X ++ eM L V k (m + 1) = (X ++ eM L V k m) ++ if 2 ≤ cnt L (gz V k) (gz V (k + 1 + m)) L.length then [(gz V k, gz V (k + 1 + m))] else [] := by rw [e1, List.append_assoc]
      have hYl : (X ++ eM L V k m).length ≤ 12000 * k + 12000 := by rw [List.length_append]; have := hml m; omega
      generalize X ++ eM L V k m = Y at e2 hYl ⊢
      have hkm : k + 1 + m < V.length := by omega
      generalize hke : k + 1 + m = km at hkm e1 e2 ⊢
      refine cq_skip ?_
      refine sq_then ?_
      refine cq_seq ?_
      refine cq_block ?_
      refine cq_seq ?_
      refine cq_region ?_
      apply sq_g; exact g_assign (s := .av (.val (.int _ _))) rfl; exact rfl
      refine sq_nil ?_
      refine sq_then ?_
      refine cq_seq ?_
      refine cq_seq ?_
      refine cq_region ?_
      apply sq_g; exact g_assign (s := .av (.val (.int _ _))) rfl; exact rfl
      refine sq_nil ?_
      refine sq_then ?_
      refine cq_block ?_
      refine cq_loop (γ := Nat) (fun q => [(3, .av (zs V)), (4, .av (fs L)), (5, .osl 70), (6, .av (vi k)), (7, .av (vi (km : Int))), (8, .av (vi (cnt L (gz V k) (gz V km) q))), (9, .av (vi q))]) (fun q => [(70, .row 44 2 Y.length (ef Y))]) (fun q => q ≤ L.length) (fun q => L.length - q) 0 (Nat.zero_le _) (ent ⟨.refl _, .refl _, .refl _, .refl _, .refl _, .refl _, .refl _, trivial⟩ ⟨⟨_, rfl, .refl _⟩, trivial⟩) ?_
      intro q hq
      have hql := cnt_le L (gz V k) (gz V km) q
      refine cq_seq ?_
      refine cq_seq ?_
      refine cq_region ?_
      apply sq_g; exact g_move (s := .av (.val (.int _ _))) rfl; exact rfl
      apply sq_g; exact g_move (s := .av _) rfl; exact rfl
      apply sq_g; exact g_len rfl; exact rfl
      apply sq_g; exact g_cmp rfl rfl rfl; exact rfl
      refine sq_nil ?_
      refine sq_then ?_
      (refine cq_cond rfl (fun hb => ?_) (fun hb => ?_) <;> (try simp only [decide_eq_true_eq, decide_eq_false_iff_not, beq_iff_eq, beq_eq_false_iff_ne, bne_iff_ne, bne_eq_false_iff_eq, ne_eq, Bool.not_eq_true', Bool.not_eq_false', Bool.and_eq_true, Bool.or_eq_true, Bool.and_eq_false_iff, Bool.or_eq_false_iff] at hb) <;> (try (exfalso; omega)))
      · have hqq : q < L.length := by omega
        have e3 : cnt L (gz V k) (gz V km) (q + 1) = cnt L (gz V k) (gz V km) q + if (hasB (natL (gf L q).s) (gz V k) && hasB (natL (gf L q).s) (gz V km)) = true then 1 else 0 := rfl
        have hf6 := hL _ (gf_mem hqq)
        have hc1 := rhas_c (natL (gf L q).s) (gz V k) (by simp; omega)
        have hc2 := rhas_c (natL (gf L q).s) (gz V km) (by simp; omega)
        rw [show zs (natL (gf L q).s) = .sl (gf L q).s.length 1 (xf (gf L q).s) from by rw [xf_natL, zs, List.length_map]] at hc1 hc2
        generalize hasB (natL (gf L q).s) (gz V k) = b1 at e3 hc1
        generalize hasB (natL (gf L q).s) (gz V km) = b2 at e3 hc2
        generalize cnt L (gz V k) (gz V km) q = c at e3 hql ⊢
        have hfin : ∀ c' : Nat, c' = cnt L (gz V k) (gz V km) (q + 1) → (c' : Int) = ((cnt L (gz V k) (gz V km) (q + 1) : Nat) : Int) := fun _ h => by rw [h]
        cases b1 with
        | false =>
          rw [Bool.false_and, if_neg (by decide)] at e3
          refine cq_skip ?_
          refine sq_then ?_
          refine cq_seq ?_
          refine cq_block ?_
          refine cq_seq ?_
          refine cq_drawn ?_
          apply dq_g; exact g_move (s := .av _) rfl; exact rfl
          apply dq_g; exact g_move (s := .av (.val (.int _ _))) rfl; exact rfl
          apply dq_g; exact g_index rfl rfl rfl (by omega); exact rfl
          apply dq_g; exact g_field rfl; exact rfl
          apply dq_g; exact g_load rfl rfl rfl; exact rfl
          apply dq_g; exact g_move (s := .av _) rfl; exact rfl
          apply dq_g; exact g_move (s := .av (.val (.int _ _))) rfl; exact rfl
          apply dq_g; exact g_index rfl rfl rfl (by omega); exact rfl
          apply dq_g; exact g_load (τ := .val (.int _ _)) rfl rfl rfl; exact rfl
          apply dq_g; exact g_call (hc1) rfl; exact rfl
          apply dq_g; exact g_move (s := .av (.val (.bool _))) rfl; exact rfl
          refine dq_off nofun rfl rfl rfl rfl ?_
          refine dq_off nofun rfl rfl rfl rfl ?_
          refine dq_off nofun rfl rfl rfl rfl ?_
          refine dq_off nofun rfl rfl rfl rfl ?_
          refine dq_off nofun rfl rfl rfl rfl ?_
          refine dq_off nofun rfl rfl rfl rfl ?_
          refine dq_off nofun rfl rfl rfl rfl ?_
          refine dq_off nofun rfl rfl rfl rfl ?_
          refine dq_off nofun rfl rfl rfl rfl ?_
          refine dq_off nofun rfl rfl rfl rfl ?_
          apply dq_g; exact g_pick (s := .av (.val (.bool _))) rfl rfl; exact rfl
          refine dq_nil tm (by kernel_rfl) ?_
          refine sq_then ?_
          refine cq_cond_f rfl ?_
          refine cq_skip ?_
          refine sq_then ?_
          refine cq_region ?_
          apply sq_g; exact g_move (s := .av (.val (.int _ _))) rfl; exact rfl
          apply sq_g; exact g_arith rfl rfl rfl (by omega); exact rfl
          apply sq_g; exact g_assign (s := .av (.val (.int _ _))) rfl; exact rfl
          refine sq_nil ?_
          exact sq_round (q + 1) (by omega) (by omega) (ent ⟨.refl _, .refl _, .refl _, .refl _, .refl _, .int (hfin _ (by rw [e3]; rfl)), .int (by omega), trivial⟩ ⟨⟨_, rfl, .refl _⟩, trivial⟩)
        | true =>
          cases b2 with
          | false =>
            rw [Bool.and_false, if_neg (by decide)] at e3
            refine cq_skip ?_
            refine sq_then ?_
            refine cq_seq ?_
            refine cq_block ?_
            refine cq_seq ?_
            refine cq_drawn ?_
            apply dq_g; exact g_move (s := .av _) rfl; exact rfl
            apply dq_g; exact g_move (s := .av (.val (.int _ _))) rfl; exact rfl
            apply dq_g; exact g_index rfl rfl rfl (by omega); exact rfl
            apply dq_g; exact g_field rfl; exact rfl
            apply dq_g; exact g_load rfl rfl rfl; exact rfl
            apply dq_g; exact g_move (s := .av _) rfl; exact rfl
            apply dq_g; exact g_move (s := .av (.val (.int _ _))) rfl; exact rfl
            apply dq_g; exact g_index rfl rfl rfl (by omega); exact rfl
            apply dq_g; exact g_load (τ := .val (.int _ _)) rfl rfl rfl; exact rfl
            apply dq_g; exact g_call (hc1) rfl; exact rfl
            apply dq_g; exact g_move (s := .av (.val (.bool _))) rfl; exact rfl
            apply dq_on; exact g_move (s := .av _) rfl; exact rfl; exact rfl; exact rfl
            apply dq_on; exact g_move (s := .av (.val (.int _ _))) rfl; exact rfl; exact rfl; exact rfl
            apply dq_on; exact g_index rfl rfl rfl (by omega); exact rfl; exact rfl; exact rfl
            apply dq_on; exact g_field rfl; exact rfl; exact rfl; exact rfl
            apply dq_on; exact g_load rfl rfl rfl; exact rfl; exact rfl; exact rfl
            apply dq_on; exact g_move (s := .av _) rfl; exact rfl; exact rfl; exact rfl
            apply dq_on; exact g_move (s := .av (.val (.int _ _))) rfl; exact rfl; exact rfl; exact rfl
            apply dq_on; exact g_index rfl rfl rfl (by omega); exact rfl; exact rfl; exact rfl
            apply dq_on; exact g_load (τ := .val (.int _ _)) rfl rfl rfl; exact rfl; exact rfl; exact rfl
            apply dq_on; exact g_call (hc2) rfl; exact rfl; exact rfl; exact rfl
            apply dq_g; exact g_pick (s := .av (.val (.bool _))) rfl rfl; exact rfl
            refine dq_nil tm (by kernel_rfl) ?_
            refine sq_then ?_
            refine cq_cond_f rfl ?_
            refine cq_skip ?_
            refine sq_then ?_
            refine cq_region ?_
            apply sq_g; exact g_move (s := .av (.val (.int _ _))) rfl; exact rfl
            apply sq_g; exact g_arith rfl rfl rfl (by omega); exact rfl
            apply sq_g; exact g_assign (s := .av (.val (.int _ _))) rfl; exact rfl
            refine sq_nil ?_
            exact sq_round (q + 1) (by omega) (by omega) (ent ⟨.refl _, .refl _, .refl _, .refl _, .refl _, .int (hfin _ (by rw [e3]; rfl)), .int (by omega), trivial⟩ ⟨⟨_, rfl, .refl _⟩, trivial⟩)
          | true =>
            rw [Bool.and_true, if_pos rfl] at e3
            refine cq_skip ?_
            refine sq_then ?_
            refine cq_seq ?_
            refine cq_block ?_
            refine cq_seq ?_
            refine cq_drawn ?_
            apply dq_g; exact g_move (s := .av _) rfl; exact rfl
            apply dq_g; exact g_move (s := .av (.val (.int _ _))) rfl; exact rfl
            apply dq_g; exact g_index rfl rfl rfl (by omega); exact rfl
            apply dq_g; exact g_field rfl; exact rfl
            apply dq_g; exact g_load rfl rfl rfl; exact rfl
            apply dq_g; exact g_move (s := .av _) rfl; exact rfl
            apply dq_g; exact g_move (s := .av (.val (.int _ _))) rfl; exact rfl
            apply dq_g; exact g_index rfl rfl rfl (by omega); exact rfl
            apply dq_g; exact g_load (τ := .val (.int _ _)) rfl rfl rfl; exact rfl
            apply dq_g; exact g_call (hc1) rfl; exact rfl
            apply dq_g; exact g_move (s := .av (.val (.bool _))) rfl; exact rfl
            apply dq_on; exact g_move (s := .av _) rfl; exact rfl; exact rfl; exact rfl
            apply dq_on; exact g_move (s := .av (.val (.int _ _))) rfl; exact rfl; exact rfl; exact rfl
            apply dq_on; exact g_index rfl rfl rfl (by omega); exact rfl; exact rfl; exact rfl
            apply dq_on; exact g_field rfl; exact rfl; exact rfl; exact rfl
            apply dq_on; exact g_load rfl rfl rfl; exact rfl; exact rfl; exact rfl
            apply dq_on; exact g_move (s := .av _) rfl; exact rfl; exact rfl; exact rfl
            apply dq_on; exact g_move (s := .av (.val (.int _ _))) rfl; exact rfl; exact rfl; exact rfl
            apply dq_on; exact g_index rfl rfl rfl (by omega); exact rfl; exact rfl; exact rfl
            apply dq_on; exact g_load (τ := .val (.int _ _)) rfl rfl rfl; exact rfl; exact rfl; exact rfl
            apply dq_on; exact g_call (hc2) rfl; exact rfl; exact rfl; exact rfl
            apply dq_g; exact g_pick (s := .av (.val (.bool _))) rfl rfl; exact rfl
            refine dq_nil tm (by kernel_rfl) ?_
            refine sq_then ?_
            refine cq_cond_t rfl ?_
            refine cq_region ?_
            apply sq_g; exact g_move (s := .av (.val (.int _ _))) rfl; exact rfl
            apply sq_g; exact g_arith rfl rfl rfl (by omega); exact rfl
            apply sq_g; exact g_assign (s := .av (.val (.int _ _))) rfl; exact rfl
            refine sq_nil ?_
            refine sq_then ?_
            refine cq_region ?_
            apply sq_g; exact g_move (s := .av (.val (.int _ _))) rfl; exact rfl
            apply sq_g; exact g_arith rfl rfl rfl (by omega); exact rfl
            apply sq_g; exact g_assign (s := .av (.val (.int _ _))) rfl; exact rfl
            refine sq_nil ?_
            exact sq_round (q + 1) (by omega) (by omega) (ent ⟨.refl _, .refl _, .refl _, .refl _, .refl _, .int (by have := hfin (c + 1) (by rw [e3]); omega), .int (by omega), trivial⟩ ⟨⟨_, rfl, .refl _⟩, trivial⟩)
      · have hqq : q = L.length := by omega
        subst hqq
        generalize cnt L (gz V k) (gz V km) L.length = c at e2 hql ⊢
        have hmx : Y.length + 1 ≤ maxLen := by simp only [maxLen]; omega
        refine cq_exit ?_
        refine sq_then ?_
        refine cq_seq ?_
        refine cq_region ?_
        apply sq_g; exact g_move (s := .av (.val (.int _ _))) rfl; exact rfl
        apply sq_g; exact g_cmp rfl rfl rfl; exact rfl
        refine sq_nil ?_
        refine sq_then ?_
        (refine cq_cond rfl (fun hb => ?_) (fun hb => ?_) <;> (try simp only [decide_eq_true_eq, decide_eq_false_iff_not, beq_iff_eq, beq_eq_false_iff_ne, bne_iff_ne, bne_eq_false_iff_eq, ne_eq, Bool.not_eq_true', Bool.not_eq_false', Bool.and_eq_true, Bool.or_eq_true, Bool.and_eq_false_iff, Bool.or_eq_false_iff] at hb) <;> (try (exfalso; omega)))
        · rw [if_pos (by omega)] at e2
          refine cq_drawn ?_
          apply dq_g; exact g_move (s := .osl _) rfl; exact rfl
          apply dq_g; exact g_move (s := .av _) rfl; exact rfl
          apply dq_g; exact g_move (s := .av (.val (.int _ _))) rfl; exact rfl
          apply dq_g; exact g_index rfl rfl rfl (by omega); exact rfl
          apply dq_g; exact g_load (τ := .val (.int _ _)) rfl rfl rfl; exact rfl
          apply dq_g; exact g_move (s := .av _) rfl; exact rfl
          apply dq_g; exact g_move (s := .av (.val (.int _ _))) rfl; exact rfl
          apply dq_g; exact g_index rfl rfl rfl (by omega); exact rfl
          apply dq_g; exact g_load (τ := .val (.int _ _)) rfl rfl rfl; exact rfl
          apply dq_g; exact g_build (is := [0, 1]) (xs := [_, _]) (vs := [_, _]) (tb44 _ _) rfl rfl; exact rfl
          apply dq_g; exact  g_bslice (is := [0]) (xs := [_]) (vs := [_]) (us := [_, _]) (tq38 _ _) rfl rfl rfl (ef_row _ _); exact rfl
          refine dq_tail tm rfl ?_
          refine sq_v (v_append (h := ef [(gz V k, gz V km)]) (m := 1) rfl rfl rfl (fun i _ j _ => ef_one _ i j) (by omega) hmx (by omega)) rfl ?_
          apply sq_g; exact g_assign (s := .osl _) rfl; exact rfl
          refine sq_nil ?_
          refine sq_then ?_
          refine cq_region ?_
          apply sq_g; exact g_move (s := .av (.val (.int _ _))) rfl; exact rfl
          apply sq_g; exact g_arith rfl rfl rfl (by omega); exact rfl
          apply sq_g; exact g_assign (s := .av (.val (.int _ _))) rfl; exact rfl
          refine sq_nil ?_
          exact sq_round (m + 1) (by omega) (by omega) (ent ⟨.refl _, .refl _, .refl _, .refl _, .int (by omega), trivial⟩ ⟨⟨_, rfl, .row (by rw [e2]; simp) (fun i hi j hj => by rw [e2]; exact ef_app _ _ i hi j hj)⟩, trivial⟩)
        · rw [if_neg (by omega), List.append_nil] at e2
          refine cq_skip ?_
          refine sq_then ?_
          refine cq_region ?_
          apply sq_g; exact g_move (s := .av (.val (.int _ _))) rfl; exact rfl
          apply sq_g; exact g_arith rfl rfl rfl (by omega); exact rfl
          apply sq_g; exact g_assign (s := .av (.val (.int _ _))) rfl; exact rfl
          refine sq_nil ?_
          exact sq_round (m + 1) (by omega) (by omega) (ent ⟨.refl _, .refl _, .refl _, .refl _, .int (by omega), trivial⟩ ⟨⟨_, rfl, by rw [e2]; exact .refl _⟩, trivial⟩)
    · have hmm : m = V.length - (k + 1) := by omega
      subst hmm
      refine cq_exit ?_
      refine sq_then ?_
      refine cq_region ?_
      apply sq_g; exact g_move (s := .av (.val (.int _ _))) rfl; exact rfl
      apply sq_g; exact g_arith rfl rfl rfl (by omega); exact rfl
      apply sq_g; exact g_assign (s := .av (.val (.int _ _))) rfl; exact rfl
      refine sq_nil ?_
      exact sq_round (k + 1) (by omega) (by omega) (ent ⟨.refl _, .refl _, .refl _, .int (by omega), trivial⟩ ⟨⟨_, rfl, by rw [e0]; exact .refl _⟩, trivial⟩)
  · have hkl : k = V.length := by omega
    subst hkl
    refine cq_exit ?_
    refine sq_then ?_
    refine cq_seq ?_
    refine cq_region ?_
    apply sq_g; exact g_move (s := .osl _) rfl; exact rfl
    apply sq_g; exact g_assign (s := .osl _) rfl; exact rfl
    refine sq_nil ?_
    refine sq_then ?_
    refine cq_ret ?_
    exact sq_ent (ent_freeze 70 rfl) (sq_res1 rfl (.tmp rfl) rfl)
/-- The vertices of the reference, in the same words as the code's. -/
def CornEq (l : List Tr) : Prop := vertV l (facetsL l) = natL (cornL l)
theorem rvert_c (l : List Tr) (hf : few l) (hn : l.length ≤ 1000) : CtrA Tryz.prog 15 [ts l] (tupOf [zs (if chkT l = 0 then natL (cornL l) else []), vi (chkT l)]) := by
  have hc := rcheck_c l hn
  by_cases h : chkT l = 0
  · obtain ⟨hl, h6⟩ := hf.le h
    rw [if_pos h]
    rw [h] at hc ⊢
    have hv := rcorners_c l hl h6
    generalize natL (cornL l) = V at hv ⊢
    refine ctrA _ Tryz.func15 rfl rfl Tryz.ntmps15 rfl fun w Z => ?_
    simp only [initT, List.map_cons, List.map_nil, Nat.zero_add, Nat.reduceAdd]
    refine cq_seq ?_
    refine cq_region ?_
    apply sq_g; exact g_assign (s := .av _) rfl; exact rfl
    apply sq_g; exact g_assign (s := .av (.val (.int _ _))) rfl; exact rfl
    refine sq_nil ?_
    refine sq_then ?_
    refine cq_seq ?_
    refine cq_seq ?_
    refine cq_region ?_
    apply sq_g; exact g_move (s := .av _) rfl; exact rfl
    apply sq_g; exact g_call (hc) rfl; exact rfl
    apply sq_g; exact g_assign (s := .av (.val (.int _ _))) rfl; exact rfl
    refine sq_nil ?_
    refine sq_then ?_
    refine cq_seq ?_
    refine cq_region ?_
    apply sq_g; exact g_move (s := .av (.val (.int _ _))) rfl; exact rfl
    apply sq_g; exact g_cmp rfl rfl rfl; exact rfl
    refine sq_nil ?_
    refine sq_then ?_
    refine cq_cond_f rfl ?_
    refine cq_skip ?_
    refine sq_then ?_
    refine cq_seq ?_
    refine cq_region ?_
    apply sq_g; exact g_move (s := .av _) rfl; exact rfl
    apply sq_g; exact g_call (hv) rfl; exact rfl
    apply sq_g; exact g_assign (s := .av _) rfl; exact rfl
    apply sq_g; exact g_assign (s := .av (.val (.int _ _))) rfl; exact rfl
    refine sq_nil ?_
    refine sq_then ?_
    refine cq_ret ?_
    exact sq_resN (rvs := [_, _]) (τs := [_, _]) rfl rfl ⟨.tmp rfl, .tmp rfl, trivial⟩ rfl
  · rw [if_neg h]
    generalize chkT l = e at h hc ⊢
    refine CtrA.to (τ := tupOf [nilA, vi e]) ?_ (.tup ⟨.nil, .refl _, trivial⟩)
    refine ctrA _ Tryz.func15 rfl rfl Tryz.ntmps15 rfl fun w Z => ?_
    simp only [initT, List.map_cons, List.map_nil, Nat.zero_add, Nat.reduceAdd]
    refine cq_seq ?_
    refine cq_region ?_
    apply sq_g; exact g_assign (s := .av _) rfl; exact rfl
    apply sq_g; exact g_assign (s := .av (.val (.int _ _))) rfl; exact rfl
    refine sq_nil ?_
    refine sq_then ?_
    refine cq_seq ?_
    refine cq_seq ?_
    refine cq_region ?_
    apply sq_g; exact g_move (s := .av _) rfl; exact rfl
    apply sq_g; exact g_call (hc) rfl; exact rfl
    apply sq_g; exact g_assign (s := .av (.val (.int _ _))) rfl; exact rfl
    refine sq_nil ?_
    refine sq_then ?_
    refine cq_seq ?_
    refine cq_region ?_
    apply sq_g; exact g_move (s := .av (.val (.int _ _))) rfl; exact rfl
    apply sq_g; exact g_cmp rfl rfl rfl; exact rfl
    refine sq_nil ?_
    refine sq_then ?_
    (refine cq_cond rfl (fun hb => ?_) (fun hb => ?_) <;> (try simp only [decide_eq_true_eq, decide_eq_false_iff_not, beq_iff_eq, beq_eq_false_iff_ne, bne_iff_ne, bne_eq_false_iff_eq, ne_eq, Bool.not_eq_true', Bool.not_eq_false', Bool.and_eq_true, Bool.or_eq_true, Bool.and_eq_false_iff, Bool.or_eq_false_iff] at hb) <;> (try (exfalso; omega)))
    refine cq_seq ?_
    refine cq_region ?_
    apply sq_g; exact g_move (s := .av (.val (.int _ _))) rfl; exact rfl
    apply sq_g; exact g_assign (s := .av _) rfl; exact rfl
    apply sq_g; exact g_assign (s := .av (.val (.int _ _))) rfl; exact rfl
    refine sq_nil ?_
    refine sq_then ?_
    refine cq_ret ?_
    refine sq_then_ret ?_
    exact sq_resN (rvs := [_, _]) (τs := [_, _]) rfl rfl ⟨.tmp rfl, .tmp rfl, trivial⟩ rfl
/-- What the code's Edges return. -/
def edgQ (l : List Tr) : List (Int × Int) := if chkT l = 0 then (if (spn l).dim < 3 then [] else edgV (facetsL l) (vertV l (facetsL l))) else []
end Go.Proofs.YtdoppiajbpmmkaaGreat
namespace Go.Proofs.YtdoppiajbpmmkaaGreat
open Go Go.Vc Go.RowKit
set_option maxHeartbeats 8000000
/-! KDQ -/
theorem ealle_c (l : List Tr) (hf : few l) : CtrA Tryz.prog 16 [ts l] (tupOf [es (edgQ l), vi (errF l)]) := by
  by_cases h : chkT l = 0
  · unfold edgQ errF
    rw [if_pos h, if_pos h]
    by_cases hd : (spn l).dim < 3
    · have hs := solid_c l hf h
      unfold solA at hs
      rw [if_pos hd] at hs
      rw [if_pos hd, if_pos hd]
      refine CtrA.to (τ := tupOf [nilA, vi 14]) ?_ (.tup ⟨.nil, .refl _, trivial⟩)
      refine ctrA _ Tryz.func16 rfl rfl Tryz.ntmps16 rfl fun w Z => ?_
      simp only [initT, List.map_cons, List.map_nil, Nat.zero_add, Nat.reduceAdd]
      refine cq_seq ?_
      refine cq_region ?_
      apply sq_g; exact g_assign (s := .av _) rfl; exact rfl
      apply sq_g; exact g_assign (s := .av (.val (.int _ _))) rfl; exact rfl
      refine sq_nil ?_
      refine sq_then ?_
      refine cq_seq ?_
      refine cq_region ?_
      apply sq_g; exact g_move (s := .av _) rfl; exact rfl
      apply sq_g; exact g_call (hs) rfl; exact rfl
      apply sq_g; exact g_move (s := .av _) rfl; exact rfl
      apply sq_g; exact g_extractT rfl rfl; exact rfl
      apply sq_g; exact g_extractT rfl rfl; exact rfl
      apply sq_g; exact g_extractT rfl rfl; exact rfl
      apply sq_g; exact g_assign (s := .av _) rfl; exact rfl
      apply sq_g; exact g_assign (s := .av _) rfl; exact rfl
      apply sq_g; exact g_assign (s := .av (.val (.int _ _))) rfl; exact rfl
      refine sq_nil ?_
      refine sq_then ?_
      refine cq_seq ?_
      refine cq_seq ?_
      refine cq_region ?_
      apply sq_g; exact g_move (s := .av (.val (.int _ _))) rfl; exact rfl
      apply sq_g; exact g_cmp rfl rfl rfl; exact rfl
      refine sq_nil ?_
      refine sq_then ?_
      refine cq_cond_f rfl ?_
      refine cq_skip ?_
      refine sq_then ?_
      refine cq_seq ?_
      refine cq_seq ?_
      refine cq_region ?_
      apply sq_g; exact g_move (s := .av _) rfl; exact rfl
      apply sq_g; exact  g_bin rfl rfl (fun w => en48 _ _ w) (fun w => eo48 w); exact rfl
      refine sq_nil ?_
      refine sq_then ?_
      refine cq_cond_t rfl ?_
      refine cq_seq ?_
      refine cq_region ?_
      apply sq_g; exact g_assign (s := .av _) rfl; exact rfl
      apply sq_g; exact g_assign (s := .av (.val (.int _ _))) rfl; exact rfl
      refine sq_nil ?_
      refine sq_then ?_
      refine cq_ret ?_
      refine sq_then_ret ?_
      exact sq_resN (rvs := [_, _]) (τs := [_, _]) rfl rfl ⟨.tmp rfl, .tmp rfl, trivial⟩ rfl
    · rw [if_neg hd, if_neg hd]
      obtain ⟨hl, _⟩ := hf.le h
      exact edges_q hf h ((dim3_iff l).1 (by rcases dim_cases hl with h1 | h1 | h1 | h1 | h1 <;> omega))
  · have hs := solid_e l h
    unfold edgQ errF
    rw [if_neg h, if_neg h]
    generalize chkT l = e at h hs ⊢
    refine CtrA.to (τ := tupOf [nilA, vi e]) ?_ (.tup ⟨.nil, .refl _, trivial⟩)
    refine ctrA _ Tryz.func16 rfl rfl Tryz.ntmps16 rfl fun w Z => ?_
    simp only [initT, List.map_cons, List.map_nil, Nat.zero_add, Nat.reduceAdd]
    refine cq_seq ?_
    refine cq_region ?_
    apply sq_g; exact g_assign (s := .av _) rfl; exact rfl
    apply sq_g; exact g_assign (s := .av (.val (.int _ _))) rfl; exact rfl
    refine sq_nil ?_
    refine sq_then ?_
    refine cq_seq ?_
    refine cq_region ?_
    apply sq_g; exact g_move (s := .av _) rfl; exact rfl
    apply sq_g; exact g_call (hs) rfl; exact rfl
    apply sq_g; exact g_move (s := .av _) rfl; exact rfl
    apply sq_g; exact g_extractT rfl rfl; exact rfl
    apply sq_g; exact g_extractT rfl rfl; exact rfl
    apply sq_g; exact g_extractT rfl rfl; exact rfl
    apply sq_g; exact g_assign (s := .av _) rfl; exact rfl
    apply sq_g; exact g_assign (s := .av _) rfl; exact rfl
    apply sq_g; exact g_assign (s := .av (.val (.int _ _))) rfl; exact rfl
    refine sq_nil ?_
    refine sq_then ?_
    refine cq_seq ?_
    refine cq_seq ?_
    refine cq_region ?_
    apply sq_g; exact g_move (s := .av (.val (.int _ _))) rfl; exact rfl
    apply sq_g; exact g_cmp rfl rfl rfl; exact rfl
    refine sq_nil ?_
    refine sq_then ?_
    (refine cq_cond rfl (fun hb => ?_) (fun hb => ?_) <;> (try simp only [decide_eq_true_eq, decide_eq_false_iff_not, beq_iff_eq, beq_eq_false_iff_ne, bne_iff_ne, bne_eq_false_iff_eq, ne_eq, Bool.not_eq_true', Bool.not_eq_false', Bool.and_eq_true, Bool.or_eq_true, Bool.and_eq_false_iff, Bool.or_eq_false_iff] at hb) <;> (try (exfalso; omega)))
    refine cq_seq ?_
    refine cq_region ?_
    apply sq_g; exact g_move (s := .av (.val (.int _ _))) rfl; exact rfl
    apply sq_g; exact g_assign (s := .av _) rfl; exact rfl
    apply sq_g; exact g_assign (s := .av (.val (.int _ _))) rfl; exact rfl
    refine sq_nil ?_
    refine sq_then ?_
    refine cq_ret ?_
    refine sq_then_ret ?_
    exact sq_resN (rvs := [_, _]) (τs := [_, _]) rfl rfl ⟨.tmp rfl, .tmp rfl, trivial⟩ rfl
theorem redges_c (l : List Tr) (hf : few l) (hn : l.length ≤ 1000) (hC : chkT l = 0 → l.length ≤ 6 → CornEq l) : CtrA Tryz.prog 17 [ts l] (tupOf [es (edgQ l), vi (errF l)]) := by
  have hc := rcheck_c l hn
  by_cases h : chkT l = 0
  · obtain ⟨hl, h6⟩ := hf.le h
    have hC := hC h h6
    unfold CornEq at hC
    unfold edgQ errF
    rw [if_pos h, if_pos h]
    rw [h] at hc
    by_cases hd : (spn l).dim < 3
    · rw [if_pos hd, if_pos hd]
      have hns : ¬ Solid l := fun hs => by have := (dim3_iff l).2 ((sol_iff l).2 hs); omega
      have hr := rank_c l (rA l l.length) hl h6 (fun hs => absurd hs hns) (fun _ => rfl)
      have hle := rA_le l l.length
      generalize rA l l.length = r at hr hle
      refine CtrA.to (τ := tupOf [nilA, vi 14]) ?_ (.tup ⟨.nil, .refl _, trivial⟩)
      refine ctrA _ Tryz.func17 rfl rfl Tryz.ntmps17 rfl fun w Z => ?_
      simp only [initT, List.map_cons, List.map_nil, Nat.zero_add, Nat.reduceAdd]
      refine cq_seq ?_
      refine cq_region ?_
      apply sq_g; exact g_assign (s := .av _) rfl; exact rfl
      apply sq_g; exact g_assign (s := .av (.val (.int _ _))) rfl; exact rfl
      refine sq_nil ?_
      refine sq_then ?_
      refine cq_seq ?_
      refine cq_seq ?_
      refine cq_region ?_
      apply sq_g; exact g_move (s := .av _) rfl; exact rfl
      apply sq_g; exact g_call (hc) rfl; exact rfl
      apply sq_g; exact g_assign (s := .av (.val (.int _ _))) rfl; exact rfl
      refine sq_nil ?_
      refine sq_then ?_
      refine cq_seq ?_
      refine cq_region ?_
      apply sq_g; exact g_move (s := .av (.val (.int _ _))) rfl; exact rfl
      apply sq_g; exact g_cmp rfl rfl rfl; exact rfl
      refine sq_nil ?_
      refine sq_then ?_
      refine cq_cond_f rfl ?_
      refine cq_skip ?_
      refine sq_then ?_
      refine cq_seq ?_
      refine cq_seq ?_
      refine cq_region ?_
      apply sq_g; exact g_move (s := .av _) rfl; exact rfl
      apply sq_g; exact g_call (hr) rfl; exact rfl
      apply sq_g; exact g_cmp rfl rfl rfl; exact rfl
      refine sq_nil ?_
      refine sq_then ?_
      (refine cq_cond rfl (fun hb => ?_) (fun hb => ?_) <;> (try simp only [decide_eq_true_eq, decide_eq_false_iff_not, beq_iff_eq, beq_eq_false_iff_ne, bne_iff_ne, bne_eq_false_iff_eq, ne_eq, Bool.not_eq_true', Bool.not_eq_false', Bool.and_eq_true, Bool.or_eq_true, Bool.and_eq_false_iff, Bool.or_eq_false_iff] at hb) <;> (try (exfalso; omega)))
      refine cq_seq ?_
      refine cq_region ?_
      apply sq_g; exact g_assign (s := .av _) rfl; exact rfl
      apply sq_g; exact g_assign (s := .av (.val (.int _ _))) rfl; exact rfl
      refine sq_nil ?_
      refine sq_then ?_
      refine cq_ret ?_
      refine sq_then_ret ?_
      exact sq_resN (rvs := [_, _]) (τs := [_, _]) rfl rfl ⟨.tmp rfl, .tmp rfl, trivial⟩ rfl
    · rw [if_neg hd, if_neg hd]
      have h3 : (spn l).dim = 3 := by rcases dim_cases hl with h1 | h1 | h1 | h1 | h1 <;> omega
      have hS := (dim3_iff l).1 h3
      have hr := rank_c l 3 hl h6 (fun _ => rfl) (fun hs => absurd ((sol_iff l).1 hS) hs)
      have hs := sides_c l hl h6
      rw [← facets_sides hS] at hs
      have hv := rcorners_c l hl h6
      have lV := vertV_len h6 h3
      have lF := facets_len l h6
      have lS : ∀ f ∈ facetsL l, f.s.length ≤ 6 := fun f hf => (facets_ok h6 f hf).2.2.1
      rw [← hC] at hv
      have hj := rjoins_c l (facetsL l) (vertV l (facetsL l)) hv hs lF lS lV
      generalize edgV (facetsL l) (vertV l (facetsL l)) = E at hj ⊢
      refine ctrA _ Tryz.func17 rfl rfl Tryz.ntmps17 rfl fun w Z => ?_
      simp only [initT, List.map_cons, List.map_nil, Nat.zero_add, Nat.reduceAdd]
      refine cq_seq ?_
      refine cq_region ?_
      apply sq_g; exact g_assign (s := .av _) rfl; exact rfl
      apply sq_g; exact g_assign (s := .av (.val (.int _ _))) rfl; exact rfl
      refine sq_nil ?_
      refine sq_then ?_
      refine cq_seq ?_
      refine cq_seq ?_
      refine cq_region ?_
      apply sq_g; exact g_move (s := .av _) rfl; exact rfl
      apply sq_g; exact g_call (hc) rfl; exact rfl
      apply sq_g; exact g_assign (s := .av (.val (.int _ _))) rfl; exact rfl
      refine sq_nil ?_
      refine sq_then ?_
      refine cq_seq ?_
      refine cq_region ?_
      apply sq_g; exact g_move (s := .av (.val (.int _ _))) rfl; exact rfl
      apply sq_g; exact g_cmp rfl rfl rfl; exact rfl
      refine sq_nil ?_
      refine sq_then ?_
      refine cq_cond_f rfl ?_
      refine cq_skip ?_
      refine sq_then ?_
      refine cq_seq ?_
      refine cq_seq ?_
      refine cq_region ?_
      apply sq_g; exact g_move (s := .av _) rfl; exact rfl
      apply sq_g; exact g_call (hr) rfl; exact rfl
      apply sq_g; exact g_cmp rfl rfl rfl; exact rfl
      refine sq_nil ?_
      refine sq_then ?_
      refine cq_cond_f rfl ?_
      refine cq_skip ?_
      refine sq_then ?_
      refine cq_seq ?_
      refine cq_region ?_
      apply sq_g; exact g_move (s := .av _) rfl; exact rfl
      apply sq_g; exact g_call (hj) rfl; exact rfl
      apply sq_g; exact g_assign (s := .av _) rfl; exact rfl
      apply sq_g; exact g_assign (s := .av (.val (.int _ _))) rfl; exact rfl
      refine sq_nil ?_
      refine sq_then ?_
      refine cq_ret ?_
      exact sq_resN (rvs := [_, _]) (τs := [_, _]) rfl rfl ⟨.tmp rfl, .tmp rfl, trivial⟩ rfl
  · unfold edgQ errF
    rw [if_neg h, if_neg h]
    generalize chkT l = e at h hc ⊢
    refine CtrA.to (τ := tupOf [nilA, vi e]) ?_ (.tup ⟨.nil, .refl _, trivial⟩)
    refine ctrA _ Tryz.func17 rfl rfl Tryz.ntmps17 rfl fun w Z => ?_
    simp only [initT, List.map_cons, List.map_nil, Nat.zero_add, Nat.reduceAdd]
    refine cq_seq ?_
    refine cq_region ?_
    apply sq_g; exact g_assign (s := .av _) rfl; exact rfl
    apply sq_g; exact g_assign (s := .av (.val (.int _ _))) rfl; exact rfl
    refine sq_nil ?_
    refine sq_then ?_
    refine cq_seq ?_
    refine cq_seq ?_
    refine cq_region ?_
    apply sq_g; exact g_move (s := .av _) rfl; exact rfl
    apply sq_g; exact g_call (hc) rfl; exact rfl
    apply sq_g; exact g_assign (s := .av (.val (.int _ _))) rfl; exact rfl
    refine sq_nil ?_
    refine sq_then ?_
    refine cq_seq ?_
    refine cq_region ?_
    apply sq_g; exact g_move (s := .av (.val (.int _ _))) rfl; exact rfl
    apply sq_g; exact g_cmp rfl rfl rfl; exact rfl
    refine sq_nil ?_
    refine sq_then ?_
    (refine cq_cond rfl (fun hb => ?_) (fun hb => ?_) <;> (try simp only [decide_eq_true_eq, decide_eq_false_iff_not, beq_iff_eq, beq_eq_false_iff_ne, bne_iff_ne, bne_eq_false_iff_eq, ne_eq, Bool.not_eq_true', Bool.not_eq_false', Bool.and_eq_true, Bool.or_eq_true, Bool.and_eq_false_iff, Bool.or_eq_false_iff] at hb) <;> (try (exfalso; omega)))
    refine cq_seq ?_
    refine cq_region ?_
    apply sq_g; exact g_move (s := .av (.val (.int _ _))) rfl; exact rfl
    apply sq_g; exact g_assign (s := .av _) rfl; exact rfl
    apply sq_g; exact g_assign (s := .av (.val (.int _ _))) rfl; exact rfl
    refine sq_nil ?_
    refine sq_then ?_
    refine cq_ret ?_
    refine sq_then_ret ?_
    exact sq_resN (rvs := [_, _]) (τs := [_, _]) rfl rfl ⟨.tmp rfl, .tmp rfl, trivial⟩ rfl
theorem vertV_len2 {l : List Tr} (hl : RT l) (h6 : l.length ≤ 6) : (vertV l (facetsL l)).length ≤ 12000 := by
  rcases dim_cases hl with h1 | h1 | h1 | h1 | h1
  case inr.inr.inr.inr => exact vertV_len h6 h1
  all_goals
    unfold vertV
    have h2 := compact_len (sortI (rawV l (facetsL l)))
    rw [sortI_len] at h2
    have h3 : (rawV l (facetsL l)).length ≤ 12000 := by
      unfold rawV
      rw [h1]
      simp
      try (have := hullN_len (shN l (spn l).way); rw [shN_len] at this; omega)
    omega
theorem turns_c (l : List Tr) (hC : RT l → l.length ≤ 6 → chkT l = 0 → CornEq l) : CtrA Tryz.prog 4 [ts l] (vb true) := by
  have hfw := fews_c l
  have hA := awake_c
  cases hq : (decide (l.length ≤ 6) || (decide (64 < l.length) && decide (l.length < 128))) with
  | false =>
    rw [hq] at hfw
    refine ctrA _ Tryz.func4 rfl rfl Tryz.ntmps4 rfl fun w Z => ?_
    simp only [initT, List.map_cons, List.map_nil, Nat.zero_add, Nat.reduceAdd]
    refine cq_seq ?_
    refine cq_region ?_
    apply sq_g; exact g_assign (s := .av (.val (.bool _))) rfl; exact rfl
    refine sq_nil ?_
    refine sq_then ?_
    refine cq_seq ?_
    refine cq_seq ?_
    refine cq_region ?_
    apply sq_g; exact g_move (s := .av _) rfl; exact rfl
    apply sq_g; exact g_call (hfw) rfl; exact rfl
    apply sq_g; exact g_not rfl; exact rfl
    refine sq_nil ?_
    refine sq_then ?_
    refine cq_cond_t rfl ?_
    refine cq_seq ?_
    refine cq_region ?_
    apply sq_g; exact g_call (hA) rfl; exact rfl
    apply sq_g; exact g_assign (s := .av (.val (.bool _))) rfl; exact rfl
    refine sq_nil ?_
    refine sq_then ?_
    refine cq_ret ?_
    refine sq_then_ret ?_
    exact sq_res1 rfl (.tmp rfl) rfl
  | true =>
    rw [hq] at hfw
    have hq2 : l.length ≤ 6 ∨ (64 < l.length ∧ l.length < 128) := by simpa using hq
    have hf : few l := hq2.imp id And.left
    have hn : l.length ≤ 1000 := by omega
    have hC' : chkT l = 0 → l.length ≤ 6 → CornEq l := fun h h6 => hC (hf.le h).1 h6 h
    have v1 := vert_c l hf
    have v2 := rvert_c l hf hn
    have e1 := ealle_c l hf
    have e2 := redges_c l hf hn hC'
    have hV : vertQ l = if chkT l = 0 then natL (cornL l) else [] := by
      unfold vertQ
      by_cases h : chkT l = 0
      · rw [if_pos h, if_pos h]; exact hC' h (hf.le h).2
      · rw [if_neg h, if_neg h]
    rw [← hV] at v2
    have lV : (vertQ l).length ≤ 12000 := by
      unfold vertQ
      by_cases h : chkT l = 0
      · rw [if_pos h]; exact vertV_len2 (hf.le h).1 (hf.le h).2
      · rw [if_neg h]; exact Nat.zero_le _
    have lE : (edgQ l).length ≤ 1000000000 := by
      unfold edgQ
      by_cases h : chkT l = 0
      · rw [if_pos h]
        by_cases hd : (spn l).dim < 3
        · rw [if_pos hd]; exact Nat.zero_le _
        · rw [if_neg hd]
          exact edgV_len (hf.le h).2 (by rcases dim_cases (hf.le h).1 with h1 | h1 | h1 | h1 | h1 <;> omega)
      · rw [if_neg h]; exact Nat.zero_le _
    have q1 := equali_c (vertQ l) (vertQ l) (by omega) (by omega)
    rw [decide_eq_true rfl] at q1
    have q2 := equale_c (edgQ l) lE
    clear hq hq2 hV lV lE hC hC' hf hn
    generalize vertQ l = V at v1 v2 q1
    generalize edgQ l = E at e1 e2 q2
    generalize chkT l = c at v1 v2
    generalize errF l = e at e1 e2
    refine ctrA _ Tryz.func4 rfl rfl Tryz.ntmps4 rfl fun w Z => ?_
    simp only [initT, List.map_cons, List.map_nil, Nat.zero_add, Nat.reduceAdd]
    focus
      refine cq_seq ?_
      refine cq_region ?_
      apply sq_g; exact g_assign (s := .av (.val (.bool _))) rfl; exact rfl
      refine sq_nil ?_
      refine sq_then ?_
      refine cq_seq ?_
      refine cq_seq ?_
      refine cq_region ?_
      apply sq_g; exact g_move (s := .av _) rfl; exact rfl
      apply sq_g; exact g_call (hfw) rfl; exact rfl
      apply sq_g; exact g_not rfl; exact rfl
      refine sq_nil ?_
      refine sq_then ?_
      refine cq_cond_f rfl ?_
      refine cq_skip ?_
      refine sq_then ?_
      refine cq_seq ?_
      refine cq_region ?_
      apply sq_g; exact g_move (s := .av _) rfl; exact rfl
      apply sq_g; exact g_call (v1) rfl; exact rfl
      apply sq_g; exact g_move (s := .av _) rfl; exact rfl
      apply sq_g; exact g_extractT rfl rfl; exact rfl
      apply sq_g; exact g_extractT rfl rfl; exact rfl
      apply sq_g; exact g_assign (s := .av _) rfl; exact rfl
      apply sq_g; exact g_assign (s := .av (.val (.int _ _))) rfl; exact rfl
      refine sq_nil ?_
      refine sq_then ?_
      refine cq_seq ?_
      refine cq_region ?_
      apply sq_g; exact g_move (s := .av _) rfl; exact rfl
      apply sq_g; exact g_call (v2) rfl; exact rfl
      apply sq_g; exact g_move (s := .av _) rfl; exact rfl
      apply sq_g; exact g_extractT rfl rfl; exact rfl
      apply sq_g; exact g_extractT rfl rfl; exact rfl
      apply sq_g; exact g_assign (s := .av _) rfl; exact rfl
      apply sq_g; exact g_assign (s := .av (.val (.int _ _))) rfl; exact rfl
      refine sq_nil ?_
      refine sq_then ?_
      refine cq_seq ?_
      refine cq_region ?_
      apply sq_g; exact g_move (s := .av _) rfl; exact rfl
      apply sq_g; exact g_call (e1) rfl; exact rfl
      apply sq_g; exact g_move (s := .av _) rfl; exact rfl
      apply sq_g; exact g_extractT rfl rfl; exact rfl
      apply sq_g; exact g_extractT rfl rfl; exact rfl
      apply sq_g; exact g_assign (s := .av _) rfl; exact rfl
      apply sq_g; exact g_assign (s := .av (.val (.int _ _))) rfl; exact rfl
      refine sq_nil ?_
      refine sq_then ?_
      refine cq_seq ?_
      refine cq_region ?_
      apply sq_g; exact g_move (s := .av _) rfl; exact rfl
      apply sq_g; exact g_call (e2) rfl; exact rfl
      apply sq_g; exact g_move (s := .av _) rfl; exact rfl
      apply sq_g; exact g_extractT rfl rfl; exact rfl
      apply sq_g; exact g_extractT rfl rfl; exact rfl
      apply sq_g; exact g_assign (s := .av _) rfl; exact rfl
      apply sq_g; exact g_assign (s := .av (.val (.int _ _))) rfl; exact rfl
      refine sq_nil ?_
      refine sq_then ?_
      refine cq_seq ?_
      refine cq_region ?_
      apply sq_g; exact g_move (s := .av _) rfl; exact rfl
      apply sq_g; exact g_move (s := .av _) rfl; exact rfl
      apply sq_g; exact g_call (q1) rfl; exact rfl
      apply sq_g; exact g_move (s := .av (.val (.bool _))) rfl; exact rfl
      apply sq_on; exact g_move (s := .av (.val (.int _ _))) rfl; exact rfl; exact rfl; exact rfl
      apply sq_on; exact g_move (s := .av (.val (.int _ _))) rfl; exact rfl; exact rfl; exact rfl
      apply sq_on; exact g_cmp rfl rfl rfl; exact rfl; exact rfl; exact rfl
      apply sq_g; exact g_pick (s := .av (.val (.bool _))) rfl rfl; exact rfl
      apply sq_g; exact g_move (s := .av (.val (.bool _))) rfl; exact rfl
      refine sq_split rfl rfl (fun hb => ?_) (fun hb => ?_) <;> (try simp only [decide_eq_true_eq, decide_eq_false_iff_not, beq_iff_eq, beq_eq_false_iff_ne, bne_iff_ne, bne_eq_false_iff_eq, ne_eq, Bool.not_eq_true', Bool.not_eq_false', Bool.and_eq_true, Bool.or_eq_true, Bool.and_eq_false_iff, Bool.or_eq_false_iff] at hb) <;> (try (exfalso; omega))
      apply sq_on; exact g_move (s := .av _) rfl; exact rfl; exact rfl; exact rfl
      apply sq_on; exact g_move (s := .av _) rfl; exact rfl; exact rfl; exact rfl
      apply sq_on; exact g_call (q2) rfl; exact rfl; exact rfl; exact rfl
      apply sq_g; exact g_pick (s := .av (.val (.bool _))) rfl rfl; exact rfl
      apply sq_g; exact g_move (s := .av (.val (.bool _))) rfl; exact rfl
      apply sq_on; exact g_move (s := .av (.val (.int _ _))) rfl; exact rfl; exact rfl; exact rfl
      apply sq_on; exact g_move (s := .av (.val (.int _ _))) rfl; exact rfl; exact rfl; exact rfl
      apply sq_on; exact g_cmp rfl rfl rfl; exact rfl; exact rfl; exact rfl
      apply sq_g; exact g_pick (s := .av (.val (.bool _))) rfl rfl; exact rfl
      apply sq_g; exact g_move (s := .av (.val (.bool _))) rfl; exact rfl
      refine sq_split rfl rfl (fun hb => ?_) (fun hb => ?_) <;> (try simp only [decide_eq_true_eq, decide_eq_false_iff_not, beq_iff_eq, beq_eq_false_iff_ne, bne_iff_ne, bne_eq_false_iff_eq, ne_eq, Bool.not_eq_true', Bool.not_eq_false', Bool.and_eq_true, Bool.or_eq_true, Bool.and_eq_false_iff, Bool.or_eq_false_iff] at hb) <;> (try (exfalso; omega))
      apply sq_on; exact g_call (hA) rfl; exact rfl; exact rfl; exact rfl
      apply sq_g; exact g_pick (s := .av (.val (.bool _))) rfl rfl; exact rfl
      apply sq_g; exact g_assign (s := .av (.val (.bool _))) rfl; exact rfl
      refine sq_nil ?_
      refine sq_then ?_
      refine cq_ret ?_
      rotate_left
      refine sq_off rfl rfl rfl rfl ?_
      apply sq_g; exact g_pick (s := .av (.val (.bool _))) rfl rfl; exact rfl
      apply sq_g; exact g_assign (s := .av (.val (.bool _))) rfl; exact rfl
      refine sq_nil ?_
      refine sq_then ?_
      refine cq_ret ?_
      rotate_left
      refine sq_off rfl rfl rfl rfl ?_
      refine sq_off rfl rfl rfl rfl ?_
      refine sq_off rfl rfl rfl rfl ?_
      apply sq_g; exact g_pick (s := .av (.val (.bool _))) rfl rfl; exact rfl
      apply sq_g; exact g_move (s := .av (.val (.bool _))) rfl; exact rfl
      refine sq_off rfl rfl rfl rfl ?_
      refine sq_off rfl rfl rfl rfl ?_
      refine sq_off rfl rfl rfl rfl ?_
      apply sq_g; exact g_pick (s := .av (.val (.bool _))) rfl rfl; exact rfl
      apply sq_g; exact g_move (s := .av (.val (.bool _))) rfl; exact rfl
      refine sq_off rfl rfl rfl rfl ?_
      apply sq_g; exact g_pick (s := .av (.val (.bool _))) rfl rfl; exact rfl
      apply sq_g; exact g_assign (s := .av (.val (.bool _))) rfl; exact rfl
      refine sq_nil ?_
      refine sq_then ?_
      refine cq_ret ?_
      rotate_left
    all_goals (first | exact absurd trivial ‹¬True› | exact sq_res1 rfl (.tmp rfl) rfl)
end Go.Proofs.YtdoppiajbpmmkaaGreat
