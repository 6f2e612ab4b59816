/- A part of the proof that the law returns true at every input and that the input reads behind the call as it read before; this part states nothing of its own that needs a condition of the input. -/
import Derived.Test.YtdoppiajbpmmkaaGreatKf
set_option linter.unusedVariables false
set_option linter.unusedSimpArgs false
set_option linter.unnecessarySimpa false
namespace Go.Proofs.YtdoppiajbpmmkaaGreat
open Go Go.Vc Go.RowKit
set_option maxHeartbeats 1000000
/-! Moved points: the same hull. -/
/-! In space. -/
end Go.Proofs.YtdoppiajbpmmkaaGreat
namespace Go.Proofs.YtdoppiajbpmmkaaGreat
open Go Go.Vc Go.RowKit
set_option maxHeartbeats 8000000
/-! KDQ -/
theorem equale_c (E : List (Int × Int)) (hn : E.length ≤ 1000000000) : CtrA Tryz.prog 18 [es E, es E] (vb true) := by
  refine ctrA _ Tryz.func18 rfl rfl Tryz.ntmps18 rfl fun w Z => ?_
  simp only [initT, List.map_cons, List.map_nil, Nat.zero_add, Nat.reduceAdd]
  refine cq_seq ?_
  refine cq_region ?_
  apply sq_g; exact g_assign (s := .av (.val (.bool _))) rfl; exact rfl
  refine sq_nil ?_
  refine sq_then ?_
  refine cq_seq ?_
  refine cq_seq ?_
  refine cq_region ?_
  apply sq_g; exact g_move (s := .av _) rfl; exact rfl
  apply sq_g; exact g_len rfl; exact rfl
  apply sq_g; exact g_move (s := .av _) rfl; exact rfl
  apply sq_g; exact g_len rfl; exact rfl
  apply sq_g; exact g_cmp rfl rfl rfl; exact rfl
  refine sq_nil ?_
  refine sq_then ?_
  (refine cq_cond rfl (fun hb => ?_) (fun hb => ?_) <;> (try simp only [decide_eq_true_eq, decide_eq_false_iff_not, beq_iff_eq, beq_eq_false_iff_ne, bne_iff_ne, bne_eq_false_iff_eq, ne_eq, Bool.not_eq_true', Bool.not_eq_false', Bool.and_eq_true, Bool.or_eq_true, Bool.and_eq_false_iff, Bool.or_eq_false_iff] at hb) <;> (try (exfalso; omega)))
  · exact absurd trivial ‹¬True›
  refine cq_skip ?_
  refine sq_then ?_
  refine cq_seq ?_
  refine cq_seq ?_
  refine cq_region ?_
  apply sq_g; exact g_move (s := .av _) rfl; exact rfl
  apply sq_g; exact g_len rfl; exact rfl
  apply sq_g; exact g_move (s := .av (.val (.int _ _))) rfl; exact rfl
  refine sq_nil ?_
  refine sq_then ?_
  refine cq_block ?_
  refine cq_loop (γ := Nat) (fun k => [(0, .av (es E)), (1, .av (es E)), (12, .av (vi E.length)), (13, .av (vi k))]) (fun _ => []) (fun k => k ≤ E.length) (fun k => E.length - k) 0 (Nat.zero_le _) (ent ⟨.refl _, .refl _, .refl _, .refl _, trivial⟩ trivial) ?_
  intro k hk
  refine cq_seq ?_
  refine cq_region ?_
  apply sq_g; exact g_cmp rfl rfl rfl; exact rfl
  refine sq_nil ?_
  refine sq_then ?_
  refine cq_seq ?_
  (refine cq_cond rfl (fun hb => ?_) (fun hb => ?_) <;> (try simp only [decide_eq_true_eq, decide_eq_false_iff_not, beq_iff_eq, beq_eq_false_iff_ne, bne_iff_ne, bne_eq_false_iff_eq, ne_eq, Bool.not_eq_true', Bool.not_eq_false', Bool.and_eq_true, Bool.or_eq_true, Bool.and_eq_false_iff, Bool.or_eq_false_iff] at hb) <;> (try (exfalso; omega)))
  · have hkl : k < E.length := by omega
    refine cq_skip ?_
    refine sq_then ?_
    refine cq_seq ?_
    refine cq_block ?_
    refine cq_seq ?_
    refine cq_region ?_
    apply sq_g; exact g_move (s := .av (.val (.int _ _))) rfl; exact rfl
    apply sq_g; exact g_assign (s := .av (.val (.int _ _))) rfl; exact rfl
    refine sq_nil ?_
    refine sq_then ?_
    refine cq_seq ?_
    refine cq_drawn ?_
    apply dq_g; exact g_move (s := .av _) rfl; exact rfl
    apply dq_g; exact g_move (s := .av (.val (.int _ _))) rfl; exact rfl
    apply dq_g; exact g_index rfl rfl rfl (by omega); exact rfl
    apply dq_g; exact g_load_agg (us := [.int _ _, .int _ _]) rfl rfl rfl rfl; exact rfl
    apply dq_g; exact g_move (s := .av _) rfl; exact rfl
    apply dq_g; exact g_move (s := .av (.val (.int _ _))) rfl; exact rfl
    apply dq_g; exact g_index rfl rfl rfl (by omega); exact rfl
    apply dq_g; exact g_load_agg (us := [.int _ _, .int _ _]) rfl rfl rfl rfl; exact rfl
    apply dq_g; exact g_neq (xs := [_, _]) (ys := [_, _]) rfl rfl rfl rfl; exact rfl
    refine dq_nil tm (by kernel_rfl) ?_
    refine sq_then ?_
    (refine cq_cond rfl (fun hb => ?_) (fun hb => ?_) <;> (try simp only [decide_eq_true_eq, decide_eq_false_iff_not, beq_iff_eq, beq_eq_false_iff_ne, bne_iff_ne, bne_eq_false_iff_eq, ne_eq, Bool.not_eq_true', Bool.not_eq_false', Bool.and_eq_true, Bool.or_eq_true, Bool.and_eq_false_iff, Bool.or_eq_false_iff] at hb) <;> (try (exfalso; omega)))
    · first | exact absurd trivial ‹¬True› | exact absurd rfl hb | simp at hb
    refine cq_skip ?_
    refine sq_then ?_
    refine cq_region ?_
    apply sq_g; exact g_arith rfl rfl rfl (by omega); exact rfl
    apply sq_g; exact g_move (s := .av (.val (.int _ _))) rfl; exact rfl
    refine sq_nil ?_
    exact sq_round (k + 1) (by omega) (by omega) (ent ⟨.refl _, .refl _, .refl _, .int (by omega), trivial⟩ trivial)
  · refine cq_exit ?_
    refine sq_then ?_
    refine cq_seq ?_
    refine cq_region ?_
    apply sq_g; exact g_assign (s := .av (.val (.bool _))) rfl; exact rfl
    refine sq_nil ?_
    refine sq_then ?_
    refine cq_ret ?_
    exact sq_res1 rfl (.tmp rfl) rfl
end Go.Proofs.YtdoppiajbpmmkaaGreat
namespace Go.Proofs.YtdoppiajbpmmkaaGreat
open Go Go.Vc Go.RowKit
set_option maxHeartbeats 8000000
/-! KDQ -/
theorem vertV_len {l : List Tr} (h6 : l.length ≤ 6) (h3 : (spn l).dim = 3) : (vertV l (facetsL l)).length ≤ 12000 := by
  unfold vertV
  have h1 := compact_len (sortI (rawV l (facetsL l)))
  rw [sortI_len] at h1
  have h2 : (rawV l (facetsL l)).length ≤ 12000 := by
    unfold rawV
    rw [h3]
    simp only [show ¬ (3 : Int) = -1 by decide, show ¬ (3 : Int) = 0 by decide, show ¬ (3 : Int) = 1 by decide, show ¬ (3 : Int) = 2 by decide, if_false]
    have := rawTo_len l (facetsL l) (fun f hf => ⟨(facets_ok h6 f hf).1, (facets_ok h6 f hf).2.2.1⟩) _ (Nat.le_refl _)
    have := facets_len l h6
    omega
  omega
theorem edges_q {l : List Tr} (hf : few l) (h : chkT l = 0) (hS : Sol l) : CtrA Tryz.prog 16 [ts l] (tupOf [es (edgV (facetsL l) (vertV l (facetsL l))), vi 0]) := by
  obtain ⟨hl, h6⟩ := hf.le h
  have h3 := (dim3_iff l).2 hS
  have e : solA l = fs (facetsL l) := by unfold solA; rw [if_neg (by omega)]
  have hs := solid_c l hf h
  have hv := vertices_q l hl h6
  rw [e] at hs hv
  exact edges_c l (facetsL l) (vertV l (facetsL l)) hs (facets_pos hl h3) (facets_len l h6) (fun f hf => (facets_ok h6 f hf).2.2.1) hv (vertV_len h6 h3)
theorem edgV_len {l : List Tr} (h6 : l.length ≤ 6) (h3 : (spn l).dim = 3) : (edgV (facetsL l) (vertV l (facetsL l))).length ≤ 1000000000 := by
  have h1 := vertV_len h6 h3
  have h2 := eTo_len (facetsL l) _ h1 (vertV l (facetsL l)).length
  unfold edgV
  omega
end Go.Proofs.YtdoppiajbpmmkaaGreat
