/- A part of the proof. -/
import Derived.Test.YtgepmbjmaljgoaaGreatDoorBag
import Derived.Test.YtgepmbjmaljgoaaGreatDoorBam
set_option linter.unusedVariables false
set_option linter.unusedSimpArgs false
namespace Go.Vc
open Go
theorem gwm {A : Prop} (h : A := by first | ((fail_if_success (fail_if_success (apply g_nilk))); first | exact g_nilk rfl) | ((fail_if_success (fail_if_success (apply g_fieldk))); first | exact g_fieldk rfl) | ((fail_if_success (fail_if_success (apply g_indexk))); first | exact g_indexk rfl rfl rfl (by omega)) | ((fail_if_success (fail_if_success (apply g_loadk))); first | exact g_loadk rfl (by assumption) (by assumption) (by assumption)) | ((fail_if_success (fail_if_success (apply g_load_an))); first | exact g_load_an rfl rfl) | ((fail_if_success (fail_if_success (apply g_load_ab))); first | exact g_load_ab rfl rfl) | ((fail_if_success (fail_if_success (apply g_load_aw))); first | exact g_load_aw rfl rfl (by omega)) | ((fail_if_success (fail_if_success (apply g_load_wx))); first | exact g_load_wx rfl rfl rfl (by omega)) | ((fail_if_success (fail_if_success (apply g_move))); first | exact g_move (s := .av (.val (.int _ _))) rfl | exact g_move (s := .av (.val (.bool _))) rfl | exact g_move (s := .av _) rfl | exact g_move (s := .own _ _) rfl | exact g_move (s := .osl _) rfl | exact g_move (s := .oel _ _ _ _) rfl | exact g_move (s := .osx _ _ _ _) rfl | exact g_move (s := .clo _ _) rfl | exact g_move (s := .tupR _ _) rfl) | ((fail_if_success (fail_if_success (apply g_assign))); first | exact g_assign (s := .av (.val (.int _ _))) rfl | exact g_assign (s := .av (.val (.bool _))) rfl | exact g_assign (s := .av _) rfl | exact g_assign (s := .own _ _) rfl | exact g_assign (s := .osl _) rfl | exact g_assign (s := .oel _ _ _ _) rfl | exact g_assign (s := .osx _ _ _ _) rfl | exact g_assign (s := .clo _ _) rfl | exact g_assign (s := .tupR _ _) rfl) | ((fail_if_success (fail_if_success (apply g_load))); first | exact g_load (τ := .val (.int _ _)) rfl rfl rfl | exact g_load rfl rfl rfl | exact g_load (τ := .val (.bool _)) rfl rfl rfl) | ((fail_if_success (fail_if_success (apply g_load_agg))); first | exact g_load_agg (us := [.int _ _, .int _ _]) rfl rfl rfl rfl | exact g_load_agg (us := [.int _ _, .int _ _, .int _ _]) rfl rfl rfl rfl | exact g_load_agg (us := [_, _]) rfl rfl rfl rfl) | ((fail_if_success (fail_if_success (apply g_load_oel))); first | exact g_load_oel (τ := .val (.int _ _)) rfl rfl (by omega) rfl rfl | exact g_load_oel (τ := .val _) rfl rfl (by omega) rfl rfl | exact g_load_oel rfl rfl (by omega) rfl rfl | exact g_load_oel (τ := .val (.bool _)) rfl rfl (by omega) rfl rfl) | ((fail_if_success (fail_if_success (apply g_load_oel_agg))); first | exact g_load_oel_agg (us := [.int _ _, .int _ _]) rfl rfl (by omega) rfl rfl | exact g_load_oel_agg (us := [.int _ _, .int _ _, .int _ _]) rfl rfl (by omega) rfl rfl) | ((fail_if_success (fail_if_success (apply g_load_own))); first | exact g_load_own (s := .av (.val (.int _ _))) rfl rfl rfl | exact g_load_own (s := .av _) rfl rfl rfl | exact g_load_own rfl rfl rfl | exact g_load_own (s := .av (.val (.bool _))) rfl rfl rfl | exact g_load_own (s := .osl _) rfl rfl rfl | exact g_load_own (s := .own _ _) rfl rfl rfl | exact g_load_own (s := .clo _ _) rfl rfl rfl) | (apply g_callx; exact rfl; assumption) | (apply g_callvx; exact rfl; exact rfl; assumption) | (apply g_callcx; exact rfl; exact rfl; assumption) | (apply g_call_bx; assumption) | ((fail_if_success (fail_if_success (apply g_load_own_agg))); first | exact g_load_own_agg (us := [.int _ _, .int _ _]) rfl rfl rfl rfl | exact g_load_own_agg (us := [.int _ _, .int _ _, .int _ _]) rfl rfl rfl rfl) | ((fail_if_success (fail_if_success (apply g_cmp))); first | exact g_cmp rfl rfl rfl) | ((fail_if_success (fail_if_success (apply g_nilp))); first | exact g_nilp rfl) | ((fail_if_success (fail_if_success (apply g_index_arrN))); first | exact g_index_arrN rfl rfl rfl (by omega) (by decide)) | ((fail_if_success (fail_if_success (apply g_index_arrZ))); first | exact g_index_arrZ rfl rfl (by omega) (by omega) (by decide)) | ((fail_if_success (fail_if_success (apply g_index_own))); first | exact g_index_own rfl rfl rfl (by omega) | exact g_index_own rfl rfl rfl (by decide)) | ((fail_if_success (fail_if_success (apply g_index_ownZ))); first | exact g_index_ownZ rfl rfl (by omega) (by omega)) | ((fail_if_success (fail_if_success (apply g_neqb))); first | exact g_neqb rfl rfl rfl) | ((fail_if_success (fail_if_success (apply g_scmp))); first | exact g_scmp rfl rfl rfl) | ((fail_if_success (fail_if_success (apply g_slen))); first | exact g_slen rfl) | ((fail_if_success (fail_if_success (apply g_sidx))); first | exact g_sidx rfl rfl rfl rfl) | ((fail_if_success (fail_if_success (apply g_sub8))); first | exact g_sub8 rfl rfl (by omega)) | ((fail_if_success (fail_if_success (apply g_add8))); first | exact g_add8 rfl rfl (by omega)) | ((fail_if_success (fail_if_success (apply g_conv64))); first | exact g_conv64 rfl (by omega)) | ((fail_if_success (fail_if_success (apply g_conv8))); first | exact g_conv8 rfl (by omega)) | ((fail_if_success (fail_if_success (apply g_str_str))); first | exact g_str_str rfl) | ((fail_if_success (fail_if_success (apply g_load_wn))); first | exact g_load_wn rfl rfl rfl) | ((fail_if_success (fail_if_success (apply g_load_wb))); first | exact g_load_wb rfl rfl rfl) | ((fail_if_success (fail_if_success (apply g_extractC))); first | exact g_extractC rfl rfl) | ((fail_if_success (fail_if_success (apply g_load_vb))); first | exact g_load_vb rfl rfl rfl) | ((fail_if_success (fail_if_success (apply g_arith))); first | exact g_arith rfl rfl rfl (by omega)) | ((fail_if_success (fail_if_success (apply g_index))); first | exact g_index rfl rfl rfl (by omega) | exact g_index rfl rfl (Int.toNat_of_nonneg (by omega)).symm (by omega)) | ((fail_if_success (fail_if_success (apply g_index_row))); first | exact g_index_row rfl rfl rfl rfl (by omega) | exact g_index_row rfl rfl rfl (Int.toNat_of_nonneg (by omega)).symm (by omega)) | ((fail_if_success (fail_if_success (apply g_index_osx))); first | exact g_index_osx rfl rfl rfl (by omega)) | ((fail_if_success (fail_if_success (apply g_index_arr))); first | exact g_index_arr rfl rfl rfl (by decide) rfl) | ((fail_if_success (fail_if_success (apply g_field))); first | exact g_field rfl) | ((fail_if_success (fail_if_success (apply g_field_own))); first | exact g_field_own rfl) | ((fail_if_success (fail_if_success (apply g_pick))); first | exact g_pick (s := .av (.val (.bool _))) rfl rfl | exact g_pick rfl rfl) | ((fail_if_success (fail_if_success (apply g_pick_b))); first | exact g_pick_b rfl rfl rfl) | ((fail_if_success (fail_if_success (apply g_len))); first | exact g_len rfl) | ((fail_if_success (fail_if_success (apply g_len_nil))); first | exact g_len_nil rfl) | ((fail_if_success (fail_if_success (apply g_len_own))); first | exact g_len_own rfl rfl) | ((fail_if_success (fail_if_success (apply g_len_osx))); first | exact g_len_osx rfl) | ((fail_if_success (fail_if_success (apply g_extractT))); first | exact g_extractT rfl rfl) | ((fail_if_success (fail_if_success (apply g_extract))); first | exact g_extract rfl (by decide)) | ((fail_if_success (fail_if_success (apply g_extractR0))); first | exact g_extractR0 rfl) | ((fail_if_success (fail_if_success (apply g_extractR))); first | exact g_extractR rfl rfl) | ((fail_if_success (fail_if_success (apply g_box_agg))); first | exact g_box_agg rfl) | ((fail_if_success (fail_if_success (apply g_not))); first | exact g_not rfl) | ((fail_if_success (fail_if_success (apply g_eql))); first | exact g_eql (xs := [_, _]) (ys := [_, _]) rfl rfl rfl rfl | exact g_eql (xs := [_, _, _]) (ys := [_, _, _]) rfl rfl rfl rfl) | ((fail_if_success (fail_if_success (apply g_makeFunc))); first | exact g_makeFunc (τs := [_, _, _]) rfl | exact g_makeFunc (τs := [_]) rfl | exact g_makeFunc (τs := [_, _]) rfl) | ((fail_if_success (fail_if_success (apply g_from))); first | exact g_from rfl rfl rfl rfl (by omega) (by omega)) | ((fail_if_success (fail_if_success (apply g_box))); first | exact g_box rfl rfl) | ((fail_if_success (fail_if_success (apply g_max))); first | exact g_max rfl rfl) | ((fail_if_success (fail_if_success (apply g_neq))); first | exact g_neq (xs := [_, _]) (ys := [_, _]) rfl rfl rfl rfl | exact g_neq (xs := [_, _, _]) (ys := [_, _, _]) rfl rfl rfl rfl) | ((fail_if_success (fail_if_success (apply g_quoT))); first | exact g_quoT rfl rfl (by omega) (by omega)) | ((fail_if_success (fail_if_success (apply g_mulB))); first | exact g_mulB rfl rfl (by omega) (by omega)) | ((fail_if_success (fail_if_success (apply g_neg))); first | exact g_neg rfl (by omega)) | ((fail_if_success (fail_if_success (apply g_subP))); first | exact g_subP rfl rfl (by omega) (by omega) (by omega) (by omega)) | ((fail_if_success (fail_if_success (apply g_rem))); first | exact g_rem rfl rfl (by omega) (by omega)) | ((fail_if_success (fail_if_success (apply g_eqb))); first | exact g_eqb rfl rfl) | ((fail_if_success (fail_if_success (apply g_addP))); first | exact g_addP rfl rfl (by omega) (by omega) (by omega) (by omega)) | ((fail_if_success (fail_if_success (apply g_arith_w))); first | exact g_arith_w rfl rfl rfl) | ((fail_if_success (fail_if_success (apply g_quo))); first | exact g_quo rfl rfl (by omega) (by omega) (by omega)) | ((fail_if_success (fail_if_success (apply g_min))); first | exact g_min rfl rfl) | ((fail_if_success (fail_if_success (apply g_nilCheck))); first | exact g_nilCheck rfl) | ((fail_if_success (fail_if_success (apply g_slice))); first | exact g_slice rfl rfl rfl (by omega) (by omega)) | ((fail_if_success (fail_if_success (apply g_quoZ))); first | exact g_quoZ rfl rfl (by omega) (by omega)) | ((fail_if_success (fail_if_success (apply g_remZ))); first | exact g_remZ rfl rfl (by omega))) : A := h
set_option maxRecDepth 20000 in
theorem wm {A B : Prop} (b : B) (k : Bx B → A := by
 intro hk_
 repeat (first
  |((first | apply sq_g | apply dq_g); exact gwm; exact rfl)
  |refine cq_seq ?_
  |refine cq_region ?_
  |refine cq_drawn ?_
  |refine sq_nil ?_
  |refine sq_then ?_
  |refine cq_skip ?_
  |refine cq_ret ?_
  |refine cq_block ?_
  |refine cq_exit ?_
  |refine sq_then_ret ?_
  |refine sq_then_exit ?_
  |refine sq_inBlock_ret ?_
  |refine sq_inBlock_exit ?_
  |refine sq_inBlock_other rfl ?_
  |refine sq_inBlock ?_
  |refine cq_cond_t rfl ?_
  |refine cq_cond_f rfl ?_
  |refine cq_cond_cf ?_
  |refine cq_cond_ct ?_
  |refine dq_nil tm (by kernel_rfl) ?_
  |refine sq_off rfl rfl rfl rfl ?_
  |refine dq_off nofun rfl rfl rfl rfl ?_
  |((first | apply sq_on | apply dq_on); exact gwm; exact rfl; exact rfl; exact rfl)
  |refine sq_offu rfl rfl rfl ?_
  |refine dq_offu nofun rfl rfl rfl ?_
  |refine sq_s (g_store_wx rfl rfl rfl rfl zO) ?_
  |refine dq_s (g_store_wx rfl rfl rfl rfl zO) ?_
  |refine sq_s (g_store_wn rfl rfl rfl rfl) ?_
  |refine dq_s (g_store_wn rfl rfl rfl rfl) ?_
  |refine sq_s (g_store_wb rfl rfl rfl rfl) ?_
  |refine dq_s (g_store_wb rfl rfl rfl rfl) ?_
  |refine sq_s (g_store_agg rfl rfl rfl rfl rfl rfl) ?_
  |refine dq_s (g_store_agg rfl rfl rfl rfl rfl rfl) ?_
  |refine sq_s (g_store' rfl rfl rfl rfl rfl rfl) ?_
  |refine dq_s (g_store' rfl rfl rfl rfl rfl rfl) ?_
  |refine sq_s (g_store rfl rfl rfl rfl rfl (by simp)) ?_
  |refine dq_s (g_store rfl rfl rfl rfl rfl (by simp)) ?_
  |refine sq_s (g_store_oel rfl rfl rfl rfl zO rfl) ?_
  |refine dq_s (g_store_oel rfl rfl rfl rfl zO rfl) ?_
  |refine sq_v (v_push_pt rfl rfl rfl zO rfl) rfl ?_
  |refine sq_v (v_push_ix rfl rfl rfl zO rfl) rfl ?_
  |refine sq_v (v_push_pr rfl rfl rfl zO rfl) rfl ?_
  |refine sq_v (v_cut rfl rfl rfl rfl zO) rfl ?_
  |refine sq_v (v_cut rfl rfl rfl (Int.toNat_of_nonneg zO).symm zO) rfl ?_
  |refine sq_v (f_alloc 10 rfl) rfl ?_
  |refine sq_v (f_alloc 11 rfl) rfl ?_
  |refine sq_v (f_alloc 12 rfl) rfl ?_
  |refine sq_v (f_alloc 13 rfl) rfl ?_
  |refine sq_v (f_alloc 14 rfl) rfl ?_
  |refine sq_v (f_alloc 15 rfl) rfl ?_
  |refine dq_v (ga_alloc 10) rfl rfl ?_
  |refine dq_v (ga_alloc 11) rfl rfl ?_
  |refine dq_v (ga_alloc 12) rfl rfl ?_
  |refine dq_v (ga_alloc 13) rfl rfl ?_
  |refine dq_v (ga_alloc 14) rfl rfl ?_
  |refine dq_v (ga_alloc 15) rfl rfl ?_)
 exact hk_.out) : A := k ⟨b⟩
end Go.Vc
