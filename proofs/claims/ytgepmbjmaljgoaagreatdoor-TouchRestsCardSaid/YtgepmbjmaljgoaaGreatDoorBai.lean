/- A part of the proof. -/
import Derived.Test.YtgepmbjmaljgoaaGreatDoorBag
import Derived.Test.YtgepmbjmaljgoaaGreatDoorBah
set_option linter.unusedVariables false
set_option linter.unusedSimpArgs false
namespace Go.Proofs.YtgepmbjmaljgoaaGreatDoor
open Go Go.Vc Go.RowKit
theorem tb38e : Tryz.prog.built 38 [] = some #[.int .i64 0, .int .i64 0] := by kernel_rfl
theorem tb51e : Tryz.prog.built 51 [] = some #[.int .i64 0, .int .i64 0, .int .i64 0] := by kernel_rfl
theorem tb87e : Tryz.prog.built 87 [] = some #[.int .i64 0, .int .i64 0, .int .i64 0] := by kernel_rfl
theorem tb178e : Tryz.prog.built 178 [] = some #[.int .i64 0, .int .i64 0] := by kernel_rfl
theorem tb254e : Tryz.prog.built 254 [] = some #[.int .i64 0, .int .i64 0, .int .i64 0] := by kernel_rfl
set_option maxRecDepth 20000 in
theorem wt {A B : Prop} (b : B) (k : Bx B → A := by
 intro hk_
 repeat (first
  |((first | apply sq_g | apply dq_g); exact gwl; exact rfl)
  |refine cq_seq ?_
  |refine cq_region ?_
  |refine cq_drawn ?_
  |refine sq_nil ?_
  |refine sq_then ?_
  |refine cq_skip ?_
  |refine cq_ret ?_
  |refine cq_block ?_
  |refine cq_exit ?_
  |refine sq_then_ret ?_
  |refine sq_then_exit ?_
  |refine sq_inBlock_ret ?_
  |refine sq_inBlock_exit ?_
  |refine sq_inBlock_other rfl ?_
  |refine sq_inBlock ?_
  |refine cq_cond_t rfl ?_
  |refine cq_cond_f rfl ?_
  |refine cq_cond_cf ?_
  |refine cq_cond_ct ?_
  |refine dq_nil tm (by kernel_rfl) ?_
  |refine sq_off rfl rfl rfl rfl ?_
  |refine dq_off nofun rfl rfl rfl rfl ?_
  |((first | apply sq_on | apply dq_on); exact gwl; exact rfl; exact rfl; exact rfl)
  |refine sq_offu rfl rfl rfl ?_
  |refine dq_offu nofun rfl rfl rfl ?_
  |refine sq_s (g_store_osl rfl rfl rfl rfl rfl) ?_
  |refine dq_s (g_store_osl rfl rfl rfl rfl rfl) ?_
  |refine sq_s (g_store_wx rfl rfl rfl rfl zO) ?_
  |refine dq_s (g_store_wx rfl rfl rfl rfl zO) ?_
  |refine sq_s (g_store_wn rfl rfl rfl rfl) ?_
  |refine dq_s (g_store_wn rfl rfl rfl rfl) ?_
  |refine sq_s (g_store_wb rfl rfl rfl rfl) ?_
  |refine dq_s (g_store_wb rfl rfl rfl rfl) ?_
  |refine sq_s (g_store_agg rfl rfl rfl rfl rfl rfl) ?_
  |refine dq_s (g_store_agg rfl rfl rfl rfl rfl rfl) ?_
  |refine sq_s (g_store' rfl rfl rfl rfl rfl rfl) ?_
  |refine dq_s (g_store' rfl rfl rfl rfl rfl rfl) ?_
  |refine sq_s (g_store rfl rfl rfl rfl rfl (by simp)) ?_
  |refine dq_s (g_store rfl rfl rfl rfl rfl (by simp)) ?_
  |refine sq_s (g_store_oel rfl rfl rfl rfl zO rfl) ?_
  |refine dq_s (g_store_oel rfl rfl rfl rfl zO rfl) ?_
  |refine sq_v (v_push_pt rfl rfl rfl zO rfl) rfl ?_
  |refine sq_v (v_push_ix rfl rfl rfl zO rfl) rfl ?_
  |refine sq_v (v_push_pr rfl rfl rfl zO rfl) rfl ?_
  |refine sq_v (v_cut rfl rfl rfl rfl zO) rfl ?_
  |refine sq_v (v_cut rfl rfl rfl (Int.toNat_of_nonneg zO).symm zO) rfl ?_
  |refine sq_v (f_alloc 10 rfl) rfl ?_
  |refine sq_v (f_alloc 11 rfl) rfl ?_
  |refine sq_v (f_alloc 12 rfl) rfl ?_
  |refine sq_v (f_alloc 13 rfl) rfl ?_
  |refine sq_v (f_alloc 14 rfl) rfl ?_
  |refine sq_v (f_alloc 15 rfl) rfl ?_
  |refine dq_v (ga_alloc 10) rfl rfl ?_
  |refine dq_v (ga_alloc 11) rfl rfl ?_
  |refine dq_v (ga_alloc 12) rfl rfl ?_
  |refine dq_v (ga_alloc 13) rfl rfl ?_
  |refine dq_v (ga_alloc 14) rfl rfl ?_
  |refine dq_v (ga_alloc 15) rfl rfl ?_
  |refine sq_g (g_build (t := 38) (is := [0, 1]) (xs := [_, _]) (vs := [_, _]) (tb38 _ _) rfl rfl) rfl ?_
  |refine dq_g (g_build (t := 38) (is := [0, 1]) (xs := [_, _]) (vs := [_, _]) (tb38 _ _) rfl rfl) rfl ?_
  |refine sq_g (g_build (t := 178) (is := [0, 1]) (xs := [_, _]) (vs := [_, _]) (tb178 _ _) rfl rfl) rfl ?_
  |refine dq_g (g_build (t := 178) (is := [0, 1]) (xs := [_, _]) (vs := [_, _]) (tb178 _ _) rfl rfl) rfl ?_
  |refine sq_g (g_build (t := 51) (is := [0, 1, 2]) (xs := [_, _, _]) (vs := [_, _, _]) (tb51 _ _ _) rfl rfl) rfl ?_
  |refine dq_g (g_build (t := 51) (is := [0, 1, 2]) (xs := [_, _, _]) (vs := [_, _, _]) (tb51 _ _ _) rfl rfl) rfl ?_
  |refine sq_g (g_build (t := 87) (is := [0, 1, 2]) (xs := [_, _, _]) (vs := [_, _, _]) (tb87 _ _ _) rfl rfl) rfl ?_
  |refine dq_g (g_build (t := 87) (is := [0, 1, 2]) (xs := [_, _, _]) (vs := [_, _, _]) (tb87 _ _ _) rfl rfl) rfl ?_
  |refine sq_g (g_build (t := 254) (is := [0, 1, 2]) (xs := [_, _, _]) (vs := [_, _, _]) (tb254 _ _ _) rfl rfl) rfl ?_
  |refine dq_g (g_build (t := 254) (is := [0, 1, 2]) (xs := [_, _, _]) (vs := [_, _, _]) (tb254 _ _ _) rfl rfl) rfl ?_
  |refine sq_g (g_build (t := 38) (is := []) (xs := []) (vs := []) tb38e rfl rfl) rfl ?_
  |refine dq_g (g_build (t := 38) (is := []) (xs := []) (vs := []) tb38e rfl rfl) rfl ?_
  |refine sq_g (g_build (t := 51) (is := []) (xs := []) (vs := []) tb51e rfl rfl) rfl ?_
  |refine dq_g (g_build (t := 51) (is := []) (xs := []) (vs := []) tb51e rfl rfl) rfl ?_
  |refine sq_g (g_build (t := 87) (is := []) (xs := []) (vs := []) tb87e rfl rfl) rfl ?_
  |refine dq_g (g_build (t := 87) (is := []) (xs := []) (vs := []) tb87e rfl rfl) rfl ?_
  |refine sq_g (g_build (t := 178) (is := []) (xs := []) (vs := []) tb178e rfl rfl) rfl ?_
  |refine dq_g (g_build (t := 178) (is := []) (xs := []) (vs := []) tb178e rfl rfl) rfl ?_
  |refine sq_g (g_build (t := 254) (is := []) (xs := []) (vs := []) tb254e rfl rfl) rfl ?_
  |refine dq_g (g_build (t := 254) (is := []) (xs := []) (vs := []) tb254e rfl rfl) rfl ?_
  |refine sq_g (g_one_pt (t := 70) (tq70 _ _) rfl) rfl ?_
  |refine dq_g (g_one_pt (t := 70) (tq70 _ _) rfl) rfl ?_
  |refine sq_g (g_one_ix (t := 40) (tq40 _) rfl rfl) rfl ?_
  |refine dq_g (g_one_ix (t := 40) (tq40 _) rfl rfl) rfl ?_
  |refine sq_g (g_one_ix (t := 40) (tq40 _) rfl zO) rfl ?_
  |refine dq_g (g_one_ix (t := 40) (tq40 _) rfl zO) rfl ?_
  |refine sq_g (g_box_aggv rfl) rfl ?_
  |refine dq_g (g_box_aggv rfl) rfl ?_
  |refine sq_g (g_bound_v rfl) rfl ?_
  |refine dq_g (g_bound_v rfl) rfl ?_
  |refine sq_g (g_callfx rfl rfl (by assumption)) rfl ?_
  |refine dq_g (g_callfx rfl rfl (by assumption)) rfl ?_)
 exact hk_.out) : A := k ⟨b⟩
end Go.Proofs.YtgepmbjmaljgoaaGreatDoor
