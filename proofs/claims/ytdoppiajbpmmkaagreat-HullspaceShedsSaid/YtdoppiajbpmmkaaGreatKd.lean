/- A part of the proof that the law returns true at every input and that the input reads behind the call as it read before; this part states nothing of its own that needs a condition of the input. -/
import Derived.Test.YtdoppiajbpmmkaaGreatKc
set_option linter.unusedVariables false
set_option linter.unusedSimpArgs false
set_option linter.unnecessarySimpa false
namespace Go.Proofs.YtdoppiajbpmmkaaGreat
open Go Go.Vc Go.RowKit
set_option maxHeartbeats 8000000
/-! KDQ -/
theorem rin_c (n : Int) : CtrA Tryz.prog 60 [vi n] (vb (inB n)) := by
  refine ctrA _ Tryz.func60 rfl rfl Tryz.ntmps60 rfl fun w Z => ?_
  simp only [initT, List.map_cons, List.map_nil, Nat.zero_add, Nat.reduceAdd]
  focus
    refine cq_seq ?_
    refine cq_region ?_
    apply sq_g; exact g_assign (s := .av (.val (.bool _))) rfl; exact rfl
    refine sq_nil ?_
    refine sq_then ?_
    refine cq_seq ?_
    refine cq_region ?_
    apply sq_g; exact g_move (s := .av (.val (.int _ _))) rfl; exact rfl
    apply sq_g; exact g_cmp rfl rfl rfl; exact rfl
    apply sq_g; exact g_move (s := .av (.val (.bool _))) rfl; exact rfl
    refine sq_split rfl rfl (fun hb => ?_) (fun hb => ?_) <;> (try simp only [decide_eq_true_eq, decide_eq_false_iff_not, beq_iff_eq, beq_eq_false_iff_ne, bne_iff_ne, bne_eq_false_iff_eq, ne_eq, Bool.not_eq_true', Bool.not_eq_false', Bool.and_eq_true, Bool.or_eq_true, Bool.and_eq_false_iff, Bool.or_eq_false_iff] at hb) <;> (try (exfalso; omega))
    apply sq_on; exact g_move (s := .av (.val (.int _ _))) rfl; exact rfl; exact rfl; exact rfl
    apply sq_on; exact g_cmp rfl rfl rfl; exact rfl; exact rfl; exact rfl
    apply sq_g; exact g_pick (s := .av (.val (.bool _))) rfl rfl; exact rfl
    apply sq_g; exact g_assign (s := .av (.val (.bool _))) rfl; exact rfl
    refine sq_nil ?_
    refine sq_then ?_
    refine cq_ret ?_
    rotate_left
    refine sq_off rfl rfl rfl rfl ?_
    refine sq_off rfl rfl rfl rfl ?_
    apply sq_g; exact g_pick (s := .av (.val (.bool _))) rfl rfl; exact rfl
    apply sq_g; exact g_assign (s := .av (.val (.bool _))) rfl; exact rfl
    refine sq_nil ?_
    refine sq_then ?_
    refine cq_ret ?_
    rotate_left
  all_goals (refine sq_res1 rfl (.tmp rfl) (congrArg vb ?_); simp [inB, *])
theorem rright_c (p : Tr) : CtrA Tryz.prog 33 [tp p] (vb (rightT p)) := by
  refine ctrA _ Tryz.func33 rfl rfl Tryz.ntmps33 rfl fun w Z => ?_
  simp only [initT, List.map_cons, List.map_nil, Nat.zero_add, Nat.reduceAdd]
  focus
    refine cq_seq ?_
    refine cq_region ?_
    apply sq_g; exact g_box_agg rfl; exact rfl
    apply sq_g; exact g_assign (s := .av (.val (.bool _))) rfl; exact rfl
    refine sq_nil ?_
    refine sq_then ?_
    refine cq_seq ?_
    refine cq_region ?_
    apply sq_g; exact g_field rfl; exact rfl
    apply sq_g; exact g_load (τ := .val (.int _ _)) rfl rfl rfl; exact rfl
    apply sq_g; exact g_call (rin_c p.x) rfl; exact rfl
    apply sq_g; exact g_move (s := .av (.val (.bool _))) rfl; exact rfl
    refine sq_split rfl rfl (fun hb => ?_) (fun hb => ?_) <;> (try simp only [decide_eq_true_eq, decide_eq_false_iff_not, beq_iff_eq, beq_eq_false_iff_ne, bne_iff_ne, bne_eq_false_iff_eq, ne_eq, Bool.not_eq_true', Bool.not_eq_false', Bool.and_eq_true, Bool.or_eq_true, Bool.and_eq_false_iff, Bool.or_eq_false_iff] at hb) <;> (try (exfalso; omega))
    apply sq_on; exact g_field rfl; exact rfl; exact rfl; exact rfl
    apply sq_on; exact g_load (τ := .val (.int _ _)) rfl rfl rfl; exact rfl; exact rfl; exact rfl
    apply sq_on; exact g_call (rin_c p.y) rfl; exact rfl; exact rfl; exact rfl
    apply sq_g; exact g_pick (s := .av (.val (.bool _))) rfl rfl; exact rfl
    apply sq_g; exact g_move (s := .av (.val (.bool _))) rfl; exact rfl
    refine sq_split rfl rfl (fun hb => ?_) (fun hb => ?_) <;> (try simp only [decide_eq_true_eq, decide_eq_false_iff_not, beq_iff_eq, beq_eq_false_iff_ne, bne_iff_ne, bne_eq_false_iff_eq, ne_eq, Bool.not_eq_true', Bool.not_eq_false', Bool.and_eq_true, Bool.or_eq_true, Bool.and_eq_false_iff, Bool.or_eq_false_iff] at hb) <;> (try (exfalso; omega))
    apply sq_on; exact g_field rfl; exact rfl; exact rfl; exact rfl
    apply sq_on; exact g_load (τ := .val (.int _ _)) rfl rfl rfl; exact rfl; exact rfl; exact rfl
    apply sq_on; exact g_call (rin_c p.z) rfl; exact rfl; exact rfl; exact rfl
    apply sq_g; exact g_pick (s := .av (.val (.bool _))) rfl rfl; exact rfl
    apply sq_g; exact g_assign (s := .av (.val (.bool _))) rfl; exact rfl
    refine sq_nil ?_
    refine sq_then ?_
    refine cq_ret ?_
    rotate_left
    refine sq_off rfl rfl rfl rfl ?_
    refine sq_off rfl rfl rfl rfl ?_
    refine sq_off rfl rfl rfl rfl ?_
    apply sq_g; exact g_pick (s := .av (.val (.bool _))) rfl rfl; exact rfl
    apply sq_g; exact g_assign (s := .av (.val (.bool _))) rfl; exact rfl
    refine sq_nil ?_
    refine sq_then ?_
    refine cq_ret ?_
    rotate_left
    refine sq_off rfl rfl rfl rfl ?_
    refine sq_off rfl rfl rfl rfl ?_
    refine sq_off rfl rfl rfl rfl ?_
    apply sq_g; exact g_pick (s := .av (.val (.bool _))) rfl rfl; exact rfl
    apply sq_g; exact g_move (s := .av (.val (.bool _))) rfl; exact rfl
    refine sq_off rfl rfl rfl rfl ?_
    refine sq_off rfl rfl rfl rfl ?_
    refine sq_off rfl rfl rfl rfl ?_
    apply sq_g; exact g_pick (s := .av (.val (.bool _))) rfl rfl; exact rfl
    apply sq_g; exact g_assign (s := .av (.val (.bool _))) rfl; exact rfl
    refine sq_nil ?_
    refine sq_then ?_
    refine cq_ret ?_
    rotate_left
  all_goals (refine sq_res1 rfl (.tmp rfl) (congrArg vb ?_); simp [rightT, *])
theorem rcheck_c (l : List Tr) (hn : l.length ≤ 1000) : CtrA Tryz.prog 34 [ts l] (vi (chkT l)) := by
  refine ctrA _ Tryz.func34 rfl rfl Tryz.ntmps34 rfl fun w Z => ?_
  have hC : chkT l = if 64 < l.length then 5 else if l.all rightT then 0 else 2 := rfl
  simp only [initT, List.map_cons, List.map_nil, Nat.zero_add, Nat.reduceAdd]
  refine cq_seq ?_
  refine cq_region ?_
  apply sq_g; exact g_assign (s := .av (.val (.int _ _))) rfl; exact rfl
  refine sq_nil ?_
  refine sq_then ?_
  refine cq_seq ?_
  refine cq_seq ?_
  refine cq_region ?_
  apply sq_g; exact g_move (s := .av _) rfl; exact rfl
  apply sq_g; exact g_len rfl; exact rfl
  apply sq_g; exact g_cmp rfl rfl rfl; exact rfl
  refine sq_nil ?_
  refine sq_then ?_
  (refine cq_cond rfl (fun hb => ?_) (fun hb => ?_) <;> (try simp only [decide_eq_true_eq, decide_eq_false_iff_not, beq_iff_eq, beq_eq_false_iff_ne, bne_iff_ne, bne_eq_false_iff_eq, ne_eq, Bool.not_eq_true', Bool.not_eq_false', Bool.and_eq_true, Bool.or_eq_true, Bool.and_eq_false_iff, Bool.or_eq_false_iff] at hb) <;> (try (exfalso; omega)))
  · refine cq_seq ?_
    refine cq_region ?_
    apply sq_g; exact g_assign (s := .av (.val (.int _ _))) rfl; exact rfl
    refine sq_nil ?_
    refine sq_then ?_
    refine cq_ret ?_
    refine sq_then_ret ?_
    exact sq_res1 rfl (.tmp rfl) (by rw [hC, if_pos (by omega)])
  rw [if_neg (by omega)] at hC
  refine cq_skip ?_
  refine sq_then ?_
  refine cq_seq ?_
  refine cq_seq ?_
  refine cq_region ?_
  apply sq_g; exact g_assign (s := .av (.val (.int _ _))) rfl; exact rfl
  refine sq_nil ?_
  refine sq_then ?_
  refine cq_block ?_
  refine cq_loop (γ := Nat) (fun k => [(0, .av (ts l)), (3, .av (vi k))]) (fun _ => []) (fun k => k ≤ l.length ∧ (l.take k).all rightT = true) (fun k => l.length - k) 0 ⟨Nat.zero_le _, rfl⟩ (ent ⟨.refl _, .refl _, trivial⟩ trivial) ?_
  rintro k ⟨hk, hall⟩
  refine cq_seq ?_
  refine cq_seq ?_
  refine cq_region ?_
  apply sq_g; exact g_move (s := .av (.val (.int _ _))) rfl; exact rfl
  apply sq_g; exact g_move (s := .av _) rfl; exact rfl
  apply sq_g; exact g_len rfl; exact rfl
  apply sq_g; exact g_cmp rfl rfl rfl; exact rfl
  refine sq_nil ?_
  refine sq_then ?_
  (refine cq_cond rfl (fun hb => ?_) (fun hb => ?_) <;> (try simp only [decide_eq_true_eq, decide_eq_false_iff_not, beq_iff_eq, beq_eq_false_iff_ne, bne_iff_ne, bne_eq_false_iff_eq, ne_eq, Bool.not_eq_true', Bool.not_eq_false', Bool.and_eq_true, Bool.or_eq_true, Bool.and_eq_false_iff, Bool.or_eq_false_iff] at hb) <;> (try (exfalso; omega)))
  · have hkl : k < l.length := by omega
    have hr := rright_c (gt l k)
    cases hg : rightT (gt l k) with
    | true =>
      rw [hg] at hr
      refine cq_skip ?_
      refine sq_then ?_
      refine cq_seq ?_
      refine cq_block ?_
      refine cq_seq ?_
      refine cq_region ?_
      apply sq_g; exact g_move (s := .av _) rfl; exact rfl
      apply sq_g; exact g_move (s := .av (.val (.int _ _))) rfl; exact rfl
      apply sq_g; exact g_index rfl rfl rfl (by omega); exact rfl
      apply sq_g; exact g_load_agg (us := [.int _ _, .int _ _, .int _ _]) rfl rfl rfl rfl; exact rfl
      apply sq_g; exact g_call (hr) rfl; exact rfl
      apply sq_g; exact g_not rfl; exact rfl
      refine sq_nil ?_
      refine sq_then ?_
      refine cq_cond_f rfl ?_
      refine cq_skip ?_
      refine sq_then ?_
      refine cq_region ?_
      apply sq_g; exact g_move (s := .av (.val (.int _ _))) rfl; exact rfl
      apply sq_g; exact g_arith rfl rfl rfl (by omega); exact rfl
      apply sq_g; exact g_assign (s := .av (.val (.int _ _))) rfl; exact rfl
      refine sq_nil ?_
      exact sq_round (k + 1) ⟨by omega, by rw [gt_take hkl]; simp only [List.all_append, hall, List.all_cons, List.all_nil, Bool.and_true, Bool.true_and]; exact hg⟩ (by omega) (ent ⟨.refl _, .int (by omega), trivial⟩ trivial)
    | false =>
      rw [hg] at hr
      rw [if_neg (fun h => by have := List.all_eq_true.1 h _ (gt_mem hkl); rw [hg] at this; cases this)] at hC
      refine cq_skip ?_
      refine sq_then ?_
      refine cq_seq ?_
      refine cq_block ?_
      refine cq_seq ?_
      refine cq_region ?_
      apply sq_g; exact g_move (s := .av _) rfl; exact rfl
      apply sq_g; exact g_move (s := .av (.val (.int _ _))) rfl; exact rfl
      apply sq_g; exact g_index rfl rfl rfl (by omega); exact rfl
      apply sq_g; exact g_load_agg (us := [.int _ _, .int _ _, .int _ _]) rfl rfl rfl rfl; exact rfl
      apply sq_g; exact g_call (hr) rfl; exact rfl
      apply sq_g; exact g_not rfl; exact rfl
      refine sq_nil ?_
      refine sq_then ?_
      refine cq_cond_t rfl ?_
      refine cq_seq ?_
      refine cq_region ?_
      apply sq_g; exact g_assign (s := .av (.val (.int _ _))) rfl; exact rfl
      refine sq_nil ?_
      refine sq_then ?_
      refine cq_ret ?_
      refine sq_inBlock_ret ?_
      refine sq_then_ret ?_
      refine sq_then_ret ?_
      refine sq_inBlock_ret ?_
      refine sq_then_ret ?_
      exact sq_res1 rfl (.tmp rfl) (by rw [hC])
  · have hkl : k = l.length := by omega
    subst hkl
    rw [List.take_length] at hall
    rw [if_pos hall] at hC
    refine cq_exit ?_
    refine sq_then ?_
    refine cq_seq ?_
    refine cq_region ?_
    apply sq_g; exact g_assign (s := .av (.val (.int _ _))) rfl; exact rfl
    refine sq_nil ?_
    refine sq_then ?_
    refine cq_ret ?_
    exact sq_res1 rfl (.tmp rfl) (by rw [hC])
theorem fews_c (l : List Tr) : CtrA Tryz.prog 9 [ts l] (vb (decide (l.length ≤ 6) || (decide (64 < l.length) && decide (l.length < 128)))) := by
  refine ctrA _ Tryz.func9 rfl rfl Tryz.ntmps9 rfl fun w Z => ?_
  simp only [initT, List.map_cons, List.map_nil, Nat.zero_add, Nat.reduceAdd]
  focus
    refine cq_seq ?_
    refine cq_region ?_
    apply sq_g; exact g_assign (s := .av (.val (.bool _))) rfl; exact rfl
    refine sq_nil ?_
    refine sq_then ?_
    refine cq_seq ?_
    refine cq_region ?_
    apply sq_g; exact g_move (s := .av _) rfl; exact rfl
    apply sq_g; exact g_len rfl; exact rfl
    apply sq_g; exact g_cmp rfl rfl rfl; exact rfl
    apply sq_g; exact g_move (s := .av (.val (.bool _))) rfl; exact rfl
    refine sq_split rfl rfl (fun hb => ?_) (fun hb => ?_) <;> (try simp only [decide_eq_true_eq, decide_eq_false_iff_not, beq_iff_eq, beq_eq_false_iff_ne, bne_iff_ne, bne_eq_false_iff_eq, ne_eq, Bool.not_eq_true', Bool.not_eq_false', Bool.and_eq_true, Bool.or_eq_true, Bool.and_eq_false_iff, Bool.or_eq_false_iff] at hb) <;> (try (exfalso; omega))
    refine sq_off rfl rfl rfl rfl ?_
    refine sq_off rfl rfl rfl rfl ?_
    refine sq_off rfl rfl rfl rfl ?_
    refine sq_off rfl rfl rfl rfl ?_
    refine sq_offu rfl rfl rfl ?_
    refine sq_offu rfl rfl rfl ?_
    refine sq_offu rfl rfl rfl ?_
    refine sq_off rfl rfl rfl rfl ?_
    apply sq_g; exact g_pick (s := .av (.val (.bool _))) rfl rfl; exact rfl
    apply sq_g; exact g_assign (s := .av (.val (.bool _))) rfl; exact rfl
    refine sq_nil ?_
    refine sq_then ?_
    refine cq_ret ?_
    rotate_left
    apply sq_on; exact g_move (s := .av _) rfl; exact rfl; exact rfl; exact rfl
    apply sq_on; exact g_len rfl; exact rfl; exact rfl; exact rfl
    apply sq_on; exact g_cmp rfl rfl rfl; exact rfl; exact rfl; exact rfl
    apply sq_on; exact g_move (s := .av (.val (.bool _))) rfl; exact rfl; exact rfl; exact rfl
    refine sq_split rfl rfl (fun hb => ?_) (fun hb => ?_) <;> (try simp only [decide_eq_true_eq, decide_eq_false_iff_not, beq_iff_eq, beq_eq_false_iff_ne, bne_iff_ne, bne_eq_false_iff_eq, ne_eq, Bool.not_eq_true', Bool.not_eq_false', Bool.and_eq_true, Bool.or_eq_true, Bool.and_eq_false_iff, Bool.or_eq_false_iff] at hb) <;> (try (exfalso; omega))
    apply sq_on; exact g_move (s := .av _) rfl; exact rfl; exact rfl; exact rfl
    apply sq_on; exact g_len rfl; exact rfl; exact rfl; exact rfl
    apply sq_on; exact g_cmp rfl rfl rfl; exact rfl; exact rfl; exact rfl
    apply sq_on; exact g_pick (s := .av (.val (.bool _))) rfl rfl; exact rfl; exact rfl; exact rfl
    apply sq_g; exact g_pick (s := .av (.val (.bool _))) rfl rfl; exact rfl
    apply sq_g; exact g_assign (s := .av (.val (.bool _))) rfl; exact rfl
    refine sq_nil ?_
    refine sq_then ?_
    refine cq_ret ?_
    rotate_left
    refine sq_off rfl rfl rfl rfl ?_
    refine sq_off rfl rfl rfl rfl ?_
    refine sq_off rfl rfl rfl rfl ?_
    apply sq_on; exact g_pick (s := .av (.val (.bool _))) rfl rfl; exact rfl; exact rfl; exact rfl
    apply sq_g; exact g_pick (s := .av (.val (.bool _))) rfl rfl; exact rfl
    apply sq_g; exact g_assign (s := .av (.val (.bool _))) rfl; exact rfl
    refine sq_nil ?_
    refine sq_then ?_
    refine cq_ret ?_
    rotate_left
  all_goals (refine sq_res1 rfl (.tmp rfl) (congrArg vb ?_); rw [Bool.eq_iff_iff]; simp; omega)
end Go.Proofs.YtdoppiajbpmmkaaGreat
namespace Go.Proofs.YtdoppiajbpmmkaaGreat
open Go Go.Vc Go.RowKit
def corner : List Tr := [⟨0, 0, 0⟩, ⟨4, 0, 0⟩, ⟨0, 4, 0⟩, ⟨0, 0, 4⟩, ⟨1, 1, 1⟩]
def line : List Tr := [⟨0, 0, 0⟩, ⟨2, 2, 2⟩, ⟨1, 1, 1⟩]
def cF : List Fc := [⟨⟨-1, 0, 0⟩, 0, [0, 2, 3]⟩, ⟨⟨0, -1, 0⟩, 0, [0, 1, 3]⟩, ⟨⟨0, 0, -1⟩, 0, [0, 1, 2]⟩, ⟨⟨1, 1, 1⟩, 4, [1, 2, 3]⟩]
theorem planes_corner : planesL corner = [⟨⟨0, 0, -1⟩, 0, [0, 1, 2]⟩, ⟨⟨0, -1, 0⟩, 0, [0, 1, 3]⟩, ⟨⟨-1, 0, 0⟩, 0, [0, 2, 3]⟩, ⟨⟨1, 1, 1⟩, 4, [1, 2, 3]⟩] := by kernel_rfl
theorem facets_corner : facetsL corner = cF := by
  have h : cF = sortF (planesL corner) := by
    rw [planes_corner]
    exact sortF_of (by decide) (by decide) (by decide)
  have h2 : cptF cF = cF := by kernel_rfl
  unfold facetsL
  rw [← h, h2]
theorem sortI_of {l m : List Int} (hp : m.Perm l) (hs : m.Pairwise (fun a b => decide (a ≤ b) = true)) : sortI l = m := by
  refine (List.Perm.eq_of_pairwise (le := fun a b => decide (a ≤ b) = true) (fun a b _ _ h1 h2 => by simp at h1 h2; omega) hs (List.pairwise_mergeSort (fun a b c h1 h2 => by simp at *; omega) (fun a b => by simp; omega) l) (hp.trans (List.mergeSort_perm l _).symm)).symm
theorem chk_corner : chkT corner = 0 := by decide
theorem spn_corner : (spn corner).dim = 3 := by kernel_rfl
theorem spn_line : (spn line).dim = 1 := by kernel_rfl
theorem chk_line : chkT line = 0 := by decide
theorem rawV_corner : rawV corner cF = [0, 2, 3, 0, 1, 3, 0, 1, 2, 1, 2, 3] := by kernel_rfl
theorem rawV_line (L : List Fc) : rawV line L = [0, 1] := by
  unfold rawV
  rw [if_neg (by rw [spn_line]; decide), if_neg (by rw [spn_line]; decide), if_pos spn_line]
  kernel_rfl
theorem vert_corner : vertQ corner = [0, 1, 2, 3] := by
  unfold vertQ vertV
  rw [if_pos chk_corner, facets_corner, rawV_corner, sortI_of (m := [0, 0, 0, 1, 1, 1, 2, 2, 2, 3, 3, 3]) (by decide) (by decide)]
  decide
theorem vert_line : vertQ line = [0, 1] := by
  unfold vertQ vertV
  rw [if_pos chk_line, rawV_line, sortI_of (m := [0, 1]) (by decide) (by decide)]
  decide
theorem edg_corner : edgV cF [0, 1, 2, 3] = [(0, 1), (0, 2), (0, 3), (1, 2), (1, 3), (2, 3)] := by decide
theorem supE_corner : supE corner ⟨1, 1, 0⟩ = 0 := by decide
theorem supB_corner : supBest corner ⟨1, 1, 0⟩ = 4 := by decide
theorem supX_corner : onTo corner ⟨1, 1, 0⟩ 4 5 = [1, 2] := by decide
end Go.Proofs.YtdoppiajbpmmkaaGreat
namespace Go.Proofs.YtdoppiajbpmmkaaGreat
open Go Go.Vc Go.RowKit
set_option maxHeartbeats 8000000
/-! KDQ -/
theorem tb67_e : Tryz.prog.built 67 [] = some #[.int .i64 0, .int .i64 0, .int .i64 0] := by kernel_rfl
theorem tb67_x (a : Int) : Tryz.prog.built 67 [(0, .int .i64 a)] = some #[.int .i64 a, .int .i64 0, .int .i64 0] := by kernel_rfl
theorem tb67_y (a : Int) : Tryz.prog.built 67 [(1, .int .i64 a)] = some #[.int .i64 0, .int .i64 a, .int .i64 0] := by kernel_rfl
theorem tb67_z (a : Int) : Tryz.prog.built 67 [(2, .int .i64 a)] = some #[.int .i64 0, .int .i64 0, .int .i64 a] := by kernel_rfl
theorem bs22_5 (w : World) : (Instr.buildSlice 22 5 ([0, 1, 2, 3, 4].zip [.agg #[.int .i64 0, .int .i64 0, .int .i64 0], .agg #[.int .i64 4, .int .i64 0, .int .i64 0], .agg #[.int .i64 0, .int .i64 4, .int .i64 0], .agg #[.int .i64 0, .int .i64 0, .int .i64 4], .agg #[.int .i64 1, .int .i64 1, .int .i64 1]]).toArray).run Tryz.prog w = .ok (.slice (some ⟨w.heap.size, 0, none⟩) 5 5) (w.alloc (.cells [Value.int .i64 0, .int .i64 0, .int .i64 0, .int .i64 4, .int .i64 0, .int .i64 0, .int .i64 0, .int .i64 4, .int .i64 0, .int .i64 0, .int .i64 0, .int .i64 4, .int .i64 1, .int .i64 1, .int .i64 1].toArray 67)) := by kernel_rfl
theorem row22_5 : ∀ i, i < 5 → ∀ j, j < 3 → ∃ u, [Value.int .i64 0, .int .i64 0, .int .i64 0, .int .i64 4, .int .i64 0, .int .i64 0, .int .i64 0, .int .i64 4, .int .i64 0, .int .i64 0, .int .i64 0, .int .i64 4, .int .i64 1, .int .i64 1, .int .i64 1][i * 3 + j]? = some u ∧ tf corner i j = .val u := by
  intro i hi j hj
  rcases (by omega : i = 0 ∨ i = 1 ∨ i = 2 ∨ i = 3 ∨ i = 4) with rfl | rfl | rfl | rfl | rfl <;> rcases (by omega : j = 0 ∨ j = 1 ∨ j = 2) with rfl | rfl | rfl <;> exact ⟨_, rfl, rfl⟩
theorem corner_c : CtrA Tryz.prog 42 [] (ts corner) := by
  refine ctrA _ Tryz.func42 rfl rfl Tryz.ntmps42 rfl fun w Z => ?_
  simp only [initT, List.map_cons, List.map_nil, Nat.zero_add, Nat.reduceAdd]
  refine cq_seq ?_
  refine cq_region ?_
  apply sq_g; exact g_assign (s := .av _) rfl; exact rfl
  refine sq_nil ?_
  refine sq_then ?_
  refine cq_seq ?_
  refine cq_region ?_
  apply sq_g; exact  g_build (is := []) (xs := []) (vs := []) tb67_e rfl rfl; exact rfl
  apply sq_g; exact  g_build (is := [0]) (xs := [_]) (vs := [_]) (tb67_x 4) rfl rfl; exact rfl
  apply sq_g; exact  g_build (is := [1]) (xs := [_]) (vs := [_]) (tb67_y 4) rfl rfl; exact rfl
  apply sq_g; exact  g_build (is := [2]) (xs := [_]) (vs := [_]) (tb67_z 4) rfl rfl; exact rfl
  apply sq_g; exact g_build (is := [0, 1, 2]) (xs := [_, _, _]) (vs := [_, _, _]) (tb67 _ _ _) rfl rfl; exact rfl
  apply sq_g; exact  g_bslice (is := [0, 1, 2, 3, 4]) (xs := [_, _, _, _, _]) (vs := [_, _, _, _, _]) bs22_5 rfl rfl rfl row22_5; exact rfl
  apply sq_g; exact g_assign (s := .av _) rfl; exact rfl
  refine sq_nil ?_
  refine sq_then ?_
  refine cq_ret ?_
  exact sq_res1 rfl (.tmp rfl) rfl
theorem bs22_3 (w : World) : (Instr.buildSlice 22 3 ([0, 1, 2].zip [.agg #[.int .i64 0, .int .i64 0, .int .i64 0], .agg #[.int .i64 2, .int .i64 2, .int .i64 2], .agg #[.int .i64 1, .int .i64 1, .int .i64 1]]).toArray).run Tryz.prog w = .ok (.slice (some ⟨w.heap.size, 0, none⟩) 3 3) (w.alloc (.cells [Value.int .i64 0, .int .i64 0, .int .i64 0, .int .i64 2, .int .i64 2, .int .i64 2, .int .i64 1, .int .i64 1, .int .i64 1].toArray 67)) := by kernel_rfl
theorem row22_3 : ∀ i, i < 3 → ∀ j, j < 3 → ∃ u, [Value.int .i64 0, .int .i64 0, .int .i64 0, .int .i64 2, .int .i64 2, .int .i64 2, .int .i64 1, .int .i64 1, .int .i64 1][i * 3 + j]? = some u ∧ tf line i j = .val u := by
  intro i hi j hj
  rcases (by omega : i = 0 ∨ i = 1 ∨ i = 2) with rfl | rfl | rfl <;> rcases (by omega : j = 0 ∨ j = 1 ∨ j = 2) with rfl | rfl | rfl <;> exact ⟨_, rfl, rfl⟩
theorem bs26_n4 (a b c d : Int) (w : World) : (Instr.buildSlice 26 4 ([0, 1, 2, 3].zip [.int .i64 a, .int .i64 b, .int .i64 c, .int .i64 d]).toArray).run Tryz.prog w = .ok (.slice (some ⟨w.heap.size, 0, none⟩) 4 4) (w.alloc (.cells [Value.int .i64 a, .int .i64 b, .int .i64 c, .int .i64 d].toArray 3)) := by kernel_rfl
theorem bs26_n3 (a b c : Int) (w : World) : (Instr.buildSlice 26 3 ([0, 1, 2].zip [.int .i64 a, .int .i64 b, .int .i64 c]).toArray).run Tryz.prog w = .ok (.slice (some ⟨w.heap.size, 0, none⟩) 3 3) (w.alloc (.cells [Value.int .i64 a, .int .i64 b, .int .i64 c].toArray 3)) := by kernel_rfl
theorem bs26_n2 (a b : Int) (w : World) : (Instr.buildSlice 26 2 ([0, 1].zip [.int .i64 a, .int .i64 b]).toArray).run Tryz.prog w = .ok (.slice (some ⟨w.heap.size, 0, none⟩) 2 2) (w.alloc (.cells [Value.int .i64 a, .int .i64 b].toArray 3)) := by kernel_rfl
theorem row26_4 (a b c d : Int) : ∀ i, i < 4 → ∀ j, j < 1 → ∃ u, [Value.int .i64 a, .int .i64 b, .int .i64 c, .int .i64 d][i * 1 + j]? = some u ∧ zf [a, b, c, d] i j = .val u := by
  intro i hi j hj
  obtain rfl : j = 0 := by omega
  rcases (by omega : i = 0 ∨ i = 1 ∨ i = 2 ∨ i = 3) with rfl | rfl | rfl | rfl <;> exact ⟨_, rfl, rfl⟩
theorem row26_3 (a b c : Nat) : ∀ i, i < 3 → ∀ j, j < 1 → ∃ u, [Value.int .i64 (a : Int), .int .i64 b, .int .i64 c][i * 1 + j]? = some u ∧ xf [a, b, c] i j = .val u := by
  intro i hi j hj
  obtain rfl : j = 0 := by omega
  rcases (by omega : i = 0 ∨ i = 1 ∨ i = 2) with rfl | rfl | rfl <;> exact ⟨_, rfl, rfl⟩
theorem row26_2 (a b : Int) : ∀ i, i < 2 → ∀ j, j < 1 → ∃ u, [Value.int .i64 a, .int .i64 b][i * 1 + j]? = some u ∧ zf [a, b] i j = .val u := by
  intro i hi j hj
  obtain rfl : j = 0 := by omega
  rcases (by omega : i = 0 ∨ i = 1) with rfl | rfl <;> exact ⟨_, rfl, rfl⟩
theorem tb23i (a b c : Int) : Tryz.prog.built 23 ([0, 1, 2].zip [.int .i64 a, .int .i64 b, .int .i64 c]) = some [Value.int .i64 a, .int .i64 b, .int .i64 c].toArray := by kernel_rfl
theorem tb46_02 (a b c : Int) (p : Option Addr) (n k : Nat) : Tryz.prog.built 46 ([0, 2].zip [.agg #[.int .i64 a, .int .i64 b, .int .i64 c], .slice p n k]) = some [Value.int .i64 a, .int .i64 b, .int .i64 c, .int .i64 0, .slice p n k].toArray := by kernel_rfl
theorem tb46_012 (a b c m : Int) (p : Option Addr) (n k : Nat) : Tryz.prog.built 46 ([0, 1, 2].zip [.agg #[.int .i64 a, .int .i64 b, .int .i64 c], .int .i64 m, .slice p n k]) = some [Value.int .i64 a, .int .i64 b, .int .i64 c, .int .i64 m, .slice p n k].toArray := by kernel_rfl
theorem mk02 (f : Fc) (h0 : f.m = 0) (Z : Zone) (w : World) (vs : List Value) (h : All2 (fun τ v => AV.ok Z w τ v) [tp f.n, .sl f.s.length 1 (xf f.s)] vs) : ∃ cs : List Value, Tryz.prog.built 46 ([0, 2].zip vs) = some cs.toArray ∧ cs.length = 5 ∧ ∀ i, i < 5 → ∃ u, cs[i]? = some u ∧ (fcf f i).ok Z w u := by
  match vs, h with
  | [a, s], ⟨h1, h2, _⟩ =>
    have h1 : a = .agg #[.int .i64 f.n.x, .int .i64 f.n.y, .int .i64 f.n.z] := h1
    subst h1
    obtain ⟨p, c, rfl, h3⟩ := id h2
    refine ⟨_, tb46_02 _ _ _ _ _ _, rfl, fun i hi => ?_⟩
    rcases (by omega : i = 0 ∨ i = 1 ∨ i = 2 ∨ i = 3 ∨ i = 4) with rfl | rfl | rfl | rfl | rfl
    · exact ⟨_, rfl, rfl⟩
    · exact ⟨_, rfl, rfl⟩
    · exact ⟨_, rfl, rfl⟩
    · exact ⟨_, rfl, by show _ = _; rw [h0]⟩
    · exact ⟨_, rfl, h2⟩
theorem mk012 (f : Fc) (Z : Zone) (w : World) (vs : List Value) (h : All2 (fun τ v => AV.ok Z w τ v) [tp f.n, vi f.m, .sl f.s.length 1 (xf f.s)] vs) : ∃ cs : List Value, Tryz.prog.built 46 ([0, 1, 2].zip vs) = some cs.toArray ∧ cs.length = 5 ∧ ∀ i, i < 5 → ∃ u, cs[i]? = some u ∧ (fcf f i).ok Z w u := by
  match vs, h with
  | [a, m, s], ⟨h1, hm, h2, _⟩ =>
    have h1 : a = .agg #[.int .i64 f.n.x, .int .i64 f.n.y, .int .i64 f.n.z] := h1
    have hm : m = .int .i64 f.m := hm
    subst h1 hm
    obtain ⟨p, c, rfl, h3⟩ := id h2
    refine ⟨_, tb46_012 _ _ _ _ _ _ _, rfl, fun i hi => ?_⟩
    rcases (by omega : i = 0 ∨ i = 1 ∨ i = 2 ∨ i = 3 ∨ i = 4) with rfl | rfl | rfl | rfl | rfl
    · exact ⟨_, rfl, rfl⟩
    · exact ⟨_, rfl, rfl⟩
    · exact ⟨_, rfl, rfl⟩
    · exact ⟨_, rfl, rfl⟩
    · exact ⟨_, rfl, h2⟩
theorem awake_c : CtrA Tryz.prog 10 [] (vb true) := by
  have hfew : few corner := .inl (by decide)
  have hfl : few line := .inl (by decide)
  have h1 := vert_c corner hfew
  rw [vert_corner, chk_corner] at h1
  have hrt := hfew.le chk_corner
  have hso := solid_c corner hfew chk_corner
  have hvq := vertices_q corner hrt.1 hrt.2
  unfold solA at hso hvq
  rw [if_neg (by rw [spn_corner]; decide), facets_corner] at hso hvq
  have hvv := vert_corner
  unfold vertQ at hvv
  rw [if_pos chk_corner, facets_corner] at hvv
  rw [hvv] at hvq
  have h2 := edges_c corner cF [0, 1, 2, 3] hso (by decide) (by decide) (by decide) hvq (by decide)
  rw [edg_corner] at h2
  have h3 := facs_c corner hfew (fun _ _ => by rw [facets_corner]; decide)
  have e3 : facQ corner = cF := by unfold facQ; rw [if_pos chk_corner, if_neg (by rw [spn_corner]; decide), facets_corner]
  have e4 : errF corner = 0 := by unfold errF; rw [if_pos chk_corner, if_neg (by rw [spn_corner]; decide)]
  rw [e3, e4] at h3
  have h4 := sup_c corner ⟨1, 1, 0⟩ hfew
  unfold supB supX at h4
  rw [supE_corner, if_pos rfl, if_pos rfl, supB_corner, show corner.length = 5 from rfl, supX_corner] at h4
  have h5 := dimn_c line hfl
  rw [if_pos chk_line, chk_line, spn_line] at h5
  have h6 := vert_c line hfl
  rw [vert_line, chk_line] at h6
  have h7 := equali_c [0, 1, 2, 3] [0, 1, 2, 3] (by decide) (by decide)
  have h8 := equali_c (natL [1, 2]) [1, 2] (by decide) (by decide)
  have h9 := equali_c [0, 1] [0, 1] (by decide) (by decide)
  rw [show decide (([0, 1, 2, 3] : List Int) = [0, 1, 2, 3]) = true from by decide] at h7
  rw [show decide (natL [1, 2] = [1, 2]) = true from by decide] at h8
  rw [show decide (([0, 1] : List Int) = [0, 1]) = true from by decide] at h9
  have h10 := same_c (gf cF 0) ⟨⟨-1, 0, 0⟩, 0, [0, 2, 3]⟩ (by decide) (by decide)
  have h11 := same_c (gf cF 3) ⟨⟨1, 1, 1⟩, 4, [1, 2, 3]⟩ (by decide) (by decide)
  rw [show (decide ((gf cF 0).n = _) && decide ((gf cF 0).m = _) && decide ((gf cF 0).s = _)) = true from by decide] at h10
  rw [show (decide ((gf cF 3).n = _) && decide ((gf cF 3).m = _) && decide ((gf cF 3).s = _)) = true from by decide] at h11
  refine ctrA _ Tryz.func10 rfl rfl Tryz.ntmps10 rfl fun w Z => ?_
  simp only [initT, List.map_cons, List.map_nil, Nat.zero_add, Nat.reduceAdd]
  refine cq_seq ?_
  refine cq_region ?_
  apply sq_g; exact g_assign (s := .av (.val (.bool _))) rfl; exact rfl
  refine sq_nil ?_
  refine sq_then ?_
  refine cq_seq ?_
  refine cq_region ?_
  apply sq_g; exact g_call (corner_c) rfl; exact rfl
  apply sq_g; exact g_assign (s := .av _) rfl; exact rfl
  refine sq_nil ?_
  refine sq_then ?_
  refine cq_seq ?_
  refine cq_region ?_
  apply sq_g; exact g_move (s := .av _) rfl; exact rfl
  apply sq_g; exact g_call (h1) rfl; exact rfl
  apply sq_g; exact g_move (s := .av _) rfl; exact rfl
  apply sq_g; exact g_extractT rfl rfl; exact rfl
  apply sq_g; exact g_extractT rfl rfl; exact rfl
  apply sq_g; exact g_assign (s := .av _) rfl; exact rfl
  apply sq_g; exact g_assign (s := .av (.val (.int _ _))) rfl; exact rfl
  refine sq_nil ?_
  refine sq_then ?_
  refine cq_seq ?_
  refine cq_region ?_
  apply sq_g; exact g_move (s := .av _) rfl; exact rfl
  apply sq_g; exact g_call (h2) rfl; exact rfl
  apply sq_g; exact g_move (s := .av _) rfl; exact rfl
  apply sq_g; exact g_extractT rfl rfl; exact rfl
  apply sq_g; exact g_extractT rfl rfl; exact rfl
  apply sq_g; exact g_assign (s := .av _) rfl; exact rfl
  apply sq_g; exact g_assign (s := .av (.val (.int _ _))) rfl; exact rfl
  refine sq_nil ?_
  refine sq_then ?_
  refine cq_seq ?_
  refine cq_region ?_
  apply sq_g; exact g_move (s := .av _) rfl; exact rfl
  apply sq_g; exact g_call (h3) rfl; exact rfl
  apply sq_g; exact g_move (s := .av _) rfl; exact rfl
  apply sq_g; exact g_extractT rfl rfl; exact rfl
  apply sq_g; exact g_extractT rfl rfl; exact rfl
  apply sq_g; exact g_assign (s := .av _) rfl; exact rfl
  apply sq_g; exact g_assign (s := .av (.val (.int _ _))) rfl; exact rfl
  refine sq_nil ?_
  refine sq_then ?_
  refine cq_seq ?_
  refine cq_region ?_
  apply sq_g; exact g_move (s := .av _) rfl; exact rfl
  apply sq_g; exact  g_build (is := [0, 1, 2]) (xs := [_, _, _]) (vs := [_, _, _]) (tb23i _ _ _) rfl rfl; exact rfl
  apply sq_g; exact g_call (h4) rfl; exact rfl
  apply sq_g; exact g_move (s := .av _) rfl; exact rfl
  apply sq_g; exact g_extractT rfl rfl; exact rfl
  apply sq_g; exact g_extractT rfl rfl; exact rfl
  apply sq_g; exact g_extractT rfl rfl; exact rfl
  apply sq_g; exact g_assign (s := .av (.val (.int _ _))) rfl; exact rfl
  apply sq_g; exact g_assign (s := .av _) rfl; exact rfl
  apply sq_g; exact g_assign (s := .av (.val (.int _ _))) rfl; exact rfl
  refine sq_nil ?_
  refine sq_then ?_
  refine cq_seq ?_
  refine cq_region ?_
  apply sq_g; exact  g_build (is := []) (xs := []) (vs := []) tb67_e rfl rfl; exact rfl
  apply sq_g; exact g_build (is := [0, 1, 2]) (xs := [_, _, _]) (vs := [_, _, _]) (tb67 _ _ _) rfl rfl; exact rfl
  apply sq_g; exact g_build (is := [0, 1, 2]) (xs := [_, _, _]) (vs := [_, _, _]) (tb67 _ _ _) rfl rfl; exact rfl
  apply sq_g; exact  g_bslice (is := [0, 1, 2]) (xs := [_, _, _]) (vs := [_, _, _]) bs22_3 rfl rfl rfl row22_3; exact rfl
  apply sq_g; exact g_assign (s := .av _) rfl; exact rfl
  refine sq_nil ?_
  refine sq_then ?_
  refine cq_seq ?_
  refine cq_region ?_
  apply sq_g; exact g_move (s := .av _) rfl; exact rfl
  apply sq_g; exact g_call (h5) rfl; exact rfl
  apply sq_g; exact g_move (s := .av _) rfl; exact rfl
  apply sq_g; exact g_extractT rfl rfl; exact rfl
  apply sq_g; exact g_extractT rfl rfl; exact rfl
  apply sq_g; exact g_assign (s := .av (.val (.int _ _))) rfl; exact rfl
  apply sq_g; exact g_assign (s := .av (.val (.int _ _))) rfl; exact rfl
  refine sq_nil ?_
  refine sq_then ?_
  refine cq_seq ?_
  refine cq_region ?_
  apply sq_g; exact g_move (s := .av _) rfl; exact rfl
  apply sq_g; exact g_call (h6) rfl; exact rfl
  apply sq_g; exact g_move (s := .av _) rfl; exact rfl
  apply sq_g; exact g_extractT rfl rfl; exact rfl
  apply sq_g; exact g_extractT rfl rfl; exact rfl
  apply sq_g; exact g_assign (s := .av _) rfl; exact rfl
  apply sq_g; exact g_assign (s := .av (.val (.int _ _))) rfl; exact rfl
  refine sq_nil ?_
  refine sq_then ?_
  refine cq_seq ?_
  refine cq_seq ?_
  refine cq_region ?_
  apply sq_g; exact g_move (s := .av (.val (.int _ _))) rfl; exact rfl
  apply sq_g; exact g_move (s := .av (.val (.int _ _))) rfl; exact rfl
  apply sq_g; exact g_arith rfl rfl rfl (by omega); exact rfl
  apply sq_g; exact g_move (s := .av (.val (.int _ _))) rfl; exact rfl
  apply sq_g; exact g_arith rfl rfl rfl (by omega); exact rfl
  apply sq_g; exact g_move (s := .av (.val (.int _ _))) rfl; exact rfl
  apply sq_g; exact g_arith rfl rfl rfl (by omega); exact rfl
  apply sq_g; exact g_move (s := .av (.val (.int _ _))) rfl; exact rfl
  apply sq_g; exact g_arith rfl rfl rfl (by omega); exact rfl
  apply sq_g; exact g_move (s := .av (.val (.int _ _))) rfl; exact rfl
  apply sq_g; exact g_arith rfl rfl rfl (by omega); exact rfl
  apply sq_g; exact g_cmp rfl rfl rfl; exact rfl
  apply sq_g; exact g_move (s := .av (.val (.bool _))) rfl; exact rfl
  apply sq_on; exact g_move (s := .av _) rfl; exact rfl; exact rfl; exact rfl
  apply sq_on; exact  g_bslice (is := [0, 1, 2, 3]) (xs := [_, _, _, _]) (vs := [_, _, _, _]) (bs26_n4 _ _ _ _) rfl rfl rfl (row26_4 _ _ _ _); exact rfl; exact rfl; exact rfl
  apply sq_on; exact g_call (h7) rfl; exact rfl; exact rfl; exact rfl
  apply sq_on; exact g_not rfl; exact rfl; exact rfl; exact rfl
  apply sq_g; exact g_pick (s := .av (.val (.bool _))) rfl rfl; exact rfl
  apply sq_g; exact g_move (s := .av (.val (.bool _))) rfl; exact rfl
  apply sq_on; exact g_move (s := .av _) rfl; exact rfl; exact rfl; exact rfl
  apply sq_on; exact g_len rfl; exact rfl; exact rfl; exact rfl
  apply sq_on; exact g_cmp rfl rfl rfl; exact rfl; exact rfl; exact rfl
  apply sq_g; exact g_pick (s := .av (.val (.bool _))) rfl rfl; exact rfl
  apply sq_g; exact g_move (s := .av (.val (.bool _))) rfl; exact rfl
  apply sq_on; exact g_move (s := .av _) rfl; exact rfl; exact rfl; exact rfl
  apply sq_on; exact g_len rfl; exact rfl; exact rfl; exact rfl
  apply sq_on; exact g_cmp rfl rfl rfl; exact rfl; exact rfl; exact rfl
  apply sq_g; exact g_pick (s := .av (.val (.bool _))) rfl rfl; exact rfl
  apply sq_g; exact g_move (s := .av (.val (.bool _))) rfl; exact rfl
  apply sq_on; exact g_move (s := .av (.val (.int _ _))) rfl; exact rfl; exact rfl; exact rfl
  apply sq_on; exact g_cmp rfl rfl rfl; exact rfl; exact rfl; exact rfl
  apply sq_g; exact g_pick (s := .av (.val (.bool _))) rfl rfl; exact rfl
  apply sq_g; exact g_move (s := .av (.val (.bool _))) rfl; exact rfl
  apply sq_on; exact g_move (s := .av _) rfl; exact rfl; exact rfl; exact rfl
  apply sq_on; exact  g_bslice (is := [0, 1]) (xs := [_, _]) (vs := [_, _]) (bs26_n2 _ _) rfl rfl rfl (row26_2 _ _); exact rfl; exact rfl; exact rfl
  apply sq_on; exact g_call (h8) rfl; exact rfl; exact rfl; exact rfl
  apply sq_on; exact g_not rfl; exact rfl; exact rfl; exact rfl
  apply sq_g; exact g_pick (s := .av (.val (.bool _))) rfl rfl; exact rfl
  apply sq_g; exact g_move (s := .av (.val (.bool _))) rfl; exact rfl
  apply sq_on; exact g_move (s := .av (.val (.int _ _))) rfl; exact rfl; exact rfl; exact rfl
  apply sq_on; exact g_cmp rfl rfl rfl; exact rfl; exact rfl; exact rfl
  apply sq_g; exact g_pick (s := .av (.val (.bool _))) rfl rfl; exact rfl
  apply sq_g; exact g_move (s := .av (.val (.bool _))) rfl; exact rfl
  apply sq_on; exact g_move (s := .av _) rfl; exact rfl; exact rfl; exact rfl
  apply sq_on; exact  g_bslice (is := [0, 1]) (xs := [_, _]) (vs := [_, _]) (bs26_n2 _ _) rfl rfl rfl (row26_2 _ _); exact rfl; exact rfl; exact rfl
  apply sq_on; exact g_call (h9) rfl; exact rfl; exact rfl; exact rfl
  apply sq_on; exact g_not rfl; exact rfl; exact rfl; exact rfl
  apply sq_g; exact g_pick (s := .av (.val (.bool _))) rfl rfl; exact rfl
  refine sq_nil ?_
  refine sq_then ?_
  refine cq_cond_f rfl ?_
  refine cq_skip ?_
  refine sq_then ?_
  refine cq_seq ?_
  refine cq_region ?_
  apply sq_g; exact g_move (s := .av _) rfl; exact rfl
  apply sq_g; exact  g_index (i := 0) rfl rfl rfl (by decide); exact rfl
  apply sq_g; exact  g_load_aggv rfl rfl; exact rfl
  apply sq_g; exact  g_build (is := [0, 1, 2]) (xs := [_, _, _]) (vs := [_, _, _]) (tb23i _ _ _) rfl rfl; exact rfl
  apply sq_g; exact  g_bslice (is := [0, 1, 2]) (xs := [_, _, _]) (vs := [_, _, _]) (bs26_n3 _ _ _) rfl rfl rfl (row26_3 0 2 3); exact rfl
  apply sq_g; exact  g_build_gen (is := [0, 2]) (xs := [_, _]) (τs := [_, _]) rfl rfl (mk02 ⟨⟨-1, 0, 0⟩, 0, [0, 2, 3]⟩ rfl); exact rfl
  apply sq_g; exact g_call (h10) rfl; exact rfl
  apply sq_g; exact g_move (s := .av (.val (.bool _))) rfl; exact rfl
  apply sq_on; exact g_move (s := .av _) rfl; exact rfl; exact rfl; exact rfl
  apply sq_on; exact  g_index (i := 3) rfl rfl rfl (by decide); exact rfl; exact rfl; exact rfl
  apply sq_on; exact  g_load_aggv rfl rfl; exact rfl; exact rfl; exact rfl
  apply sq_on; exact  g_build (is := [0, 1, 2]) (xs := [_, _, _]) (vs := [_, _, _]) (tb23i _ _ _) rfl rfl; exact rfl; exact rfl; exact rfl
  apply sq_on; exact  g_bslice (is := [0, 1, 2]) (xs := [_, _, _]) (vs := [_, _, _]) (bs26_n3 _ _ _) rfl rfl rfl (row26_3 1 2 3); exact rfl; exact rfl; exact rfl
  apply sq_on; exact  g_build_gen (is := [0, 1, 2]) (xs := [_, _, _]) (τs := [_, _, _]) rfl rfl (mk012 ⟨⟨1, 1, 1⟩, 4, [1, 2, 3]⟩); exact rfl; exact rfl; exact rfl
  apply sq_on; exact g_call (h11) rfl; exact rfl; exact rfl; exact rfl
  apply sq_g; exact g_pick (s := .av (.val (.bool _))) rfl rfl; exact rfl
  apply sq_g; exact g_assign (s := .av (.val (.bool _))) rfl; exact rfl
  refine sq_nil ?_
  refine sq_then ?_
  refine cq_ret ?_
  exact sq_res1 rfl (.tmp rfl) rfl
end Go.Proofs.YtdoppiajbpmmkaaGreat
namespace Go.Proofs.YtdoppiajbpmmkaaGreat
open Go Go.Vc Go.RowKit
set_option maxHeartbeats 8000000
/-! KDQ -/
end Go.Proofs.YtdoppiajbpmmkaaGreat
