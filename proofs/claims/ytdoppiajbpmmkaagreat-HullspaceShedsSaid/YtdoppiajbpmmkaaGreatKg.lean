/- A part of the proof that the law returns true at every input and that the input reads behind the call as it read before; this part states nothing of its own that needs a condition of the input. -/
import Derived.Test.YtdoppiajbpmmkaaGreatKf
set_option linter.unusedVariables false
set_option linter.unusedSimpArgs false
set_option linter.unnecessarySimpa false
namespace Go.Proofs.YtdoppiajbpmmkaaGreat
open Go Go.Vc Go.RowKit
set_option maxHeartbeats 1000000
/-! Moved points: the same hull. -/
/-! In space. -/
theorem gf_map (g : Fc → Fc) (L : List Fc) {q : Nat} (h : q < L.length) : gf (L.map g) q = g (gf L q) := by
  rw [gf_eq (by rw [List.length_map]; exact h), gf_eq h]; simp
end Go.Proofs.YtdoppiajbpmmkaaGreat
namespace Go.Proofs.YtdoppiajbpmmkaaGreat
open Go Go.Vc Go.RowKit
set_option maxHeartbeats 8000000
/-! KDQ -/
theorem lawsolid_c (l : List Tr) (hs : l.length ≤ 6 → chkT l = 0 → Sol l) (hn : l.length < 128) (hf : few l) (h : chkT l = 0) : CtrA Tryz.prog 25 [ts l] (vb true) := by
  obtain ⟨hl, h6⟩ := hf.le h
  have hS := hs h6 h
  have hfw := fews_c l
  rw [show (decide (l.length ≤ 6) || (decide (64 < l.length) && decide (l.length < 128))) = true from by simp [h6]] at hfw
  have hc := rcheck_c l (by omega)
  rw [h] at hc
  have hr := rank_c l 3 hl h6 (fun _ => rfl) (fun hs => absurd ((sol_iff l).1 hS) hs)
  refine ctrA _ Tryz.func25 rfl rfl Tryz.ntmps25 rfl fun w Z => ?_
  simp only [initT, List.map_cons, List.map_nil, Nat.zero_add, Nat.reduceAdd]
  refine cq_seq ?_
  refine cq_region ?_
  apply sq_g; exact g_assign (s := .av (.val (.bool _))) rfl; exact rfl
  refine sq_nil ?_
  refine sq_then ?_
  refine cq_seq ?_
  refine cq_region ?_
  apply sq_g; exact g_move (s := .av _) rfl; exact rfl
  apply sq_g; exact g_call (hfw) rfl; exact rfl
  apply sq_g; exact g_move (s := .av (.val (.bool _))) rfl; exact rfl
  apply sq_on; exact g_move (s := .av _) rfl; exact rfl; exact rfl; exact rfl
  apply sq_on; exact g_call (hc) rfl; exact rfl; exact rfl; exact rfl
  apply sq_on; exact g_cmp rfl rfl rfl; exact rfl; exact rfl; exact rfl
  apply sq_g; exact g_pick (s := .av (.val (.bool _))) rfl rfl; exact rfl
  apply sq_g; exact g_move (s := .av (.val (.bool _))) rfl; exact rfl
  apply sq_on; exact g_move (s := .av _) rfl; exact rfl; exact rfl; exact rfl
  apply sq_on; exact g_call (hr) rfl; exact rfl; exact rfl; exact rfl
  apply sq_on; exact g_cmp rfl rfl rfl; exact rfl; exact rfl; exact rfl
  apply sq_g; exact g_pick (s := .av (.val (.bool _))) rfl rfl; exact rfl
  apply sq_g; exact g_assign (s := .av (.val (.bool _))) rfl; exact rfl
  refine sq_nil ?_
  refine sq_then ?_
  refine cq_ret ?_
  exact sq_res1 rfl (.tmp rfl) rfl
theorem lawsolid_n (l : List Tr) (hs : ¬ (l.length ≤ 6 ∧ chkT l = 0 ∧ Sol l)) : CtrA Tryz.prog 25 [ts l] (vb false) := by
  have hfw := fews_c l
  cases hq : (decide (l.length ≤ 6) || (decide (64 < l.length) && decide (l.length < 128))) with
  | false =>
    rw [hq] at hfw
    refine ctrA _ Tryz.func25 rfl rfl Tryz.ntmps25 rfl fun w Z => ?_
    simp only [initT, List.map_cons, List.map_nil, Nat.zero_add, Nat.reduceAdd]
    refine cq_seq ?_
    refine cq_region ?_
    apply sq_g; exact g_assign (s := .av (.val (.bool _))) rfl; exact rfl
    refine sq_nil ?_
    refine sq_then ?_
    refine cq_seq ?_
    refine cq_region ?_
    apply sq_g; exact g_move (s := .av _) rfl; exact rfl
    apply sq_g; exact g_call (hfw) rfl; exact rfl
    apply sq_g; exact g_move (s := .av (.val (.bool _))) rfl; exact rfl
    refine sq_off rfl rfl rfl rfl ?_
    refine sq_off rfl rfl rfl rfl ?_
    refine sq_off rfl rfl rfl rfl ?_
    apply sq_g; exact g_pick (s := .av (.val (.bool _))) rfl rfl; exact rfl
    apply sq_g; exact g_move (s := .av (.val (.bool _))) rfl; exact rfl
    refine sq_off rfl rfl rfl rfl ?_
    refine sq_off rfl rfl rfl rfl ?_
    refine sq_off rfl rfl rfl rfl ?_
    apply sq_g; exact g_pick (s := .av (.val (.bool _))) rfl rfl; exact rfl
    apply sq_g; exact g_assign (s := .av (.val (.bool _))) rfl; exact rfl
    refine sq_nil ?_
    refine sq_then ?_
    refine cq_ret ?_
    exact sq_res1 rfl (.tmp rfl) rfl
  | true =>
    rw [hq] at hfw
    have hq2 : l.length ≤ 6 ∨ (64 < l.length ∧ l.length < 128) := by simpa using hq
    have hf : few l := hq2.imp id And.left
    have hc := rcheck_c l (by omega)
    by_cases h : chkT l = 0
    · obtain ⟨hl, h6⟩ := hf.le h
      have hS : ¬ Sol l := fun hS => hs ⟨h6, h, hS⟩
      rw [h] at hc
      have hns : ¬ Solid l := fun hs => hS ((sol_iff l).2 hs)
      have hr := rank_c l (rA l l.length) hl h6 (fun hs => absurd hs hns) (fun _ => rfl)
      have hle := rA_le l l.length
      generalize rA l l.length = r at hr hle
      refine ctrA _ Tryz.func25 rfl rfl Tryz.ntmps25 rfl fun w Z => ?_
      simp only [initT, List.map_cons, List.map_nil, Nat.zero_add, Nat.reduceAdd]
      refine cq_seq ?_
      refine cq_region ?_
      apply sq_g; exact g_assign (s := .av (.val (.bool _))) rfl; exact rfl
      refine sq_nil ?_
      refine sq_then ?_
      refine cq_seq ?_
      refine cq_region ?_
      apply sq_g; exact g_move (s := .av _) rfl; exact rfl
      apply sq_g; exact g_call (hfw) rfl; exact rfl
      apply sq_g; exact g_move (s := .av (.val (.bool _))) rfl; exact rfl
      apply sq_on; exact g_move (s := .av _) rfl; exact rfl; exact rfl; exact rfl
      apply sq_on; exact g_call (hc) rfl; exact rfl; exact rfl; exact rfl
      apply sq_on; exact g_cmp rfl rfl rfl; exact rfl; exact rfl; exact rfl
      apply sq_g; exact g_pick (s := .av (.val (.bool _))) rfl rfl; exact rfl
      apply sq_g; exact g_move (s := .av (.val (.bool _))) rfl; exact rfl
      apply sq_on; exact g_move (s := .av _) rfl; exact rfl; exact rfl; exact rfl
      apply sq_on; exact g_call (hr) rfl; exact rfl; exact rfl; exact rfl
      apply sq_on; exact g_cmp rfl rfl rfl; exact rfl; exact rfl; exact rfl
      apply sq_g; exact g_pick (s := .av (.val (.bool _))) rfl rfl; exact rfl
      apply sq_g; exact g_assign (s := .av (.val (.bool _))) rfl; exact rfl
      refine sq_nil ?_
      refine sq_then ?_
      refine cq_ret ?_
      all_goals (first | exact sq_res1 rfl (.tmp rfl) rfl | exact sq_res1 rfl (.tmp rfl) (congrArg vb (decide_eq_false (by omega)).symm) | exact sq_res1 rfl (.tmp rfl) (congrArg vb (by simp; omega)))
    · generalize chkT l = e at h hc
      refine ctrA _ Tryz.func25 rfl rfl Tryz.ntmps25 rfl fun w Z => ?_
      simp only [initT, List.map_cons, List.map_nil, Nat.zero_add, Nat.reduceAdd]
      refine cq_seq ?_
      refine cq_region ?_
      apply sq_g; exact g_assign (s := .av (.val (.bool _))) rfl; exact rfl
      refine sq_nil ?_
      refine sq_then ?_
      refine cq_seq ?_
      refine cq_region ?_
      apply sq_g; exact g_move (s := .av _) rfl; exact rfl
      apply sq_g; exact g_call (hfw) rfl; exact rfl
      apply sq_g; exact g_move (s := .av (.val (.bool _))) rfl; exact rfl
      apply sq_on; exact g_move (s := .av _) rfl; exact rfl; exact rfl; exact rfl
      apply sq_on; exact g_call (hc) rfl; exact rfl; exact rfl; exact rfl
      apply sq_on; exact g_cmp rfl rfl rfl; exact rfl; exact rfl; exact rfl
      apply sq_g; exact g_pick (s := .av (.val (.bool _))) rfl rfl; exact rfl
      apply sq_g; exact g_move (s := .av (.val (.bool _))) rfl; exact rfl
      refine sq_split rfl rfl (fun hb => ?_) (fun hb => ?_) <;> (try simp only [decide_eq_true_eq, decide_eq_false_iff_not, beq_iff_eq, beq_eq_false_iff_ne, bne_iff_ne, bne_eq_false_iff_eq, ne_eq, Bool.not_eq_true', Bool.not_eq_false', Bool.and_eq_true, Bool.or_eq_true, Bool.and_eq_false_iff, Bool.or_eq_false_iff] at hb) <;> (try (exfalso; omega))
      refine sq_off rfl rfl rfl rfl ?_
      refine sq_off rfl rfl rfl rfl ?_
      refine sq_off rfl rfl rfl rfl ?_
      apply sq_g; exact g_pick (s := .av (.val (.bool _))) rfl rfl; exact rfl
      apply sq_g; exact g_assign (s := .av (.val (.bool _))) rfl; exact rfl
      refine sq_nil ?_
      refine sq_then ?_
      refine cq_ret ?_
      all_goals (first | exact sq_res1 rfl (.tmp rfl) rfl | exact sq_res1 rfl (.tmp rfl) (congrArg vb (by simp; omega)))
end Go.Proofs.YtdoppiajbpmmkaaGreat
namespace Go.Proofs.YtdoppiajbpmmkaaGreat
open Go Go.Vc Go.RowKit
set_option maxHeartbeats 8000000
/-! KDQ -/
theorem fac_bd {l : List Tr} (hl : RT l) {f : Fc} (h : f ∈ facetsL l) : BT 1000000000000 f.n ∧ Bn 1000000000000000000 f.m := by
  have hp := facets_sub h
  obtain ⟨a, b, c, ho⟩ := planes_out hp
  have hb : BT 80000000000 f.n := by rw [ho.ev]; exact (BT.ac (hl a) (hl b) (hl c)).pr
  obtain ⟨k, hk, e⟩ := (planes_isF hp).at_
  refine ⟨hb.le (by decide), ?_⟩
  rw [← e]
  obtain ⟨m1, n1⟩ := bn_mul hb.x (hl k).x
  obtain ⟨m2, n2⟩ := bn_mul hb.y (hl k).y
  obtain ⟨m3, n3⟩ := bn_mul hb.z (hl k).z
  unfold tdot
  constructor <;> omega
end Go.Proofs.YtdoppiajbpmmkaaGreat
