/- A part of the proof. -/
import Derived.Test.YtfggdokihnopeaaGreatDoorBag
import Derived.Test.YtfggdokihnopeaaGreatDoorBal
set_option linter.unusedVariables false
set_option linter.unusedSimpArgs false
namespace Go.Vc
open Go
theorem gwm {A : Prop} (h : A := by first | ((fail_if_success (fail_if_success (apply J1b))); first | exact J1b rfl) | ((fail_if_success (fail_if_success (apply k0y))); first | exact k0y rfl) | ((fail_if_success (fail_if_success (apply J0o))); first | exact J0o rfl rfl rfl (by omega)) | ((fail_if_success (fail_if_success (apply v1a))); first | exact v1a rfl (by assumption) (by assumption) (by assumption)) | ((fail_if_success (fail_if_success (apply y0K))); first | exact y0K rfl rfl) | ((fail_if_success (fail_if_success (apply y0J))); first | exact y0J rfl rfl) | ((fail_if_success (fail_if_success (apply y0L))); first | exact y0L rfl rfl (by omega)) | ((fail_if_success (fail_if_success (apply y0M))); first | exact y0M rfl rfl rfl (by omega)) | ((fail_if_success (fail_if_success (apply j0Y))); first | exact j0Y (s := .av (.val (.int _ _))) rfl | exact j0Y (s := .av (.val (.bool _))) rfl | exact j0Y (s := .av _) rfl | exact j0Y (s := .own _ _) rfl | exact j0Y (s := .osl _) rfl | exact j0Y (s := .oel _ _ _ _) rfl | exact j0Y (s := .osx _ _ _ _) rfl | exact j0Y (s := .clo _ _) rfl | exact j0Y (s := .tupR _ _) rfl) | ((fail_if_success (fail_if_success (apply j0F))); first | exact j0F (s := .av (.val (.int _ _))) rfl | exact j0F (s := .av (.val (.bool _))) rfl | exact j0F (s := .av _) rfl | exact j0F (s := .own _ _) rfl | exact j0F (s := .osl _) rfl | exact j0F (s := .oel _ _ _ _) rfl | exact j0F (s := .osx _ _ _ _) rfl | exact j0F (s := .clo _ _) rfl | exact j0F (s := .tupR _ _) rfl) | ((fail_if_success (fail_if_success (apply v0V))); first | exact v0V (τ := .val (.int _ _)) rfl rfl rfl | exact v0V rfl rfl rfl | exact v0V (τ := .val (.bool _)) rfl rfl rfl) | ((fail_if_success (fail_if_success (apply j0k))); first | exact j0k (us := [.int _ _, .int _ _]) rfl rfl rfl rfl | exact j0k (us := [.int _ _, .int _ _, .int _ _]) rfl rfl rfl rfl | exact j0k (us := [_, _]) rfl rfl rfl rfl) | ((fail_if_success (fail_if_success (apply j0T))); first | exact j0T (τ := .val (.int _ _)) rfl rfl (by omega) rfl rfl | exact j0T (τ := .val _) rfl rfl (by omega) rfl rfl | exact j0T rfl rfl (by omega) rfl rfl | exact j0T (τ := .val (.bool _)) rfl rfl (by omega) rfl rfl) | ((fail_if_success (fail_if_success (apply g_load_oel_agg))); first | exact g_load_oel_agg (us := [.int _ _, .int _ _]) rfl rfl (by omega) rfl rfl | exact g_load_oel_agg (us := [.int _ _, .int _ _, .int _ _]) rfl rfl (by omega) rfl rfl) | ((fail_if_success (fail_if_success (apply j0w))); first | exact j0w (s := .av (.val (.int _ _))) rfl rfl rfl | exact j0w (s := .av _) rfl rfl rfl | exact j0w rfl rfl rfl | exact j0w (s := .av (.val (.bool _))) rfl rfl rfl | exact j0w (s := .osl _) rfl rfl rfl | exact j0w (s := .own _ _) rfl rfl rfl | exact j0w (s := .clo _ _) rfl rfl rfl) | (apply Y0W; exact rfl; assumption) | (apply W0o; exact rfl; exact rfl; assumption) | (apply W0n; exact rfl; exact rfl; assumption) | (apply Q0a; assumption) | ((fail_if_success (fail_if_success (apply j0i))); first | exact j0i (us := [.int _ _, .int _ _]) rfl rfl rfl rfl | exact j0i (us := [.int _ _, .int _ _, .int _ _]) rfl rfl rfl rfl) | ((fail_if_success (fail_if_success (apply K0S))); first | exact K0S rfl rfl rfl) | ((fail_if_success (fail_if_success (apply V0m))); first | exact V0m rfl) | ((fail_if_success (fail_if_success (apply w0i))); first | exact w0i rfl rfl rfl (by omega) (by decide)) | ((fail_if_success (fail_if_success (apply w0j))); first | exact w0j rfl rfl (by omega) (by omega) (by decide)) | ((fail_if_success (fail_if_success (apply q0q))); first | exact q0q rfl rfl rfl (by omega) | exact q0q rfl rfl rfl (by decide)) | ((fail_if_success (fail_if_success (apply w0k))); first | exact w0k rfl rfl (by omega) (by omega)) | ((fail_if_success (fail_if_success (apply V0l))); first | exact V0l rfl rfl rfl) | ((fail_if_success (fail_if_success (apply V0n))); first | exact V0n rfl rfl rfl) | ((fail_if_success (fail_if_success (apply V0o))); first | exact V0o rfl) | ((fail_if_success (fail_if_success (apply v0h))); first | exact v0h rfl rfl rfl rfl) | ((fail_if_success (fail_if_success (apply g_sub8))); first | exact g_sub8 rfl rfl (by omega)) | ((fail_if_success (fail_if_success (apply g_add8))); first | exact g_add8 rfl rfl (by omega)) | ((fail_if_success (fail_if_success (apply x0S))); first | exact x0S rfl (by omega)) | ((fail_if_success (fail_if_success (apply g_conv8))); first | exact g_conv8 rfl (by omega)) | ((fail_if_success (fail_if_success (apply g_str_str))); first | exact g_str_str rfl) | ((fail_if_success (fail_if_success (apply w0I))); first | exact w0I rfl rfl rfl) | ((fail_if_success (fail_if_success (apply w0H))); first | exact w0H rfl rfl rfl) | ((fail_if_success (fail_if_success (apply v0K))); first | exact v0K rfl rfl) | ((fail_if_success (fail_if_success (apply v0g))); first | exact v0g rfl rfl rfl) | ((fail_if_success (fail_if_success (apply z0p))); first | exact z0p rfl rfl rfl (by omega)) | ((fail_if_success (fail_if_success (apply w0W))); first | exact w0W rfl rfl rfl (by omega) | exact w0W rfl rfl (Int.toNat_of_nonneg (by omega)).symm (by omega)) | ((fail_if_success (fail_if_success (apply q0r))); first | exact q0r rfl rfl rfl rfl (by omega) | exact q0r rfl rfl rfl (Int.toNat_of_nonneg (by omega)).symm (by omega)) | ((fail_if_success (fail_if_success (apply q0R))); first | exact q0R rfl rfl rfl (by omega)) | ((fail_if_success (fail_if_success (apply q0Q))); first | exact q0Q rfl rfl rfl (by decide) rfl) | ((fail_if_success (fail_if_success (apply z0r))); first | exact z0r rfl) | ((fail_if_success (fail_if_success (apply v0s))); first | exact v0s rfl) | ((fail_if_success (fail_if_success (apply y0N))); first | exact y0N (s := .av (.val (.bool _))) rfl rfl | exact y0N rfl rfl) | ((fail_if_success (fail_if_success (apply g_pick_b))); first | exact g_pick_b rfl rfl rfl) | ((fail_if_success (fail_if_success (apply K0W))); first | exact K0W rfl) | ((fail_if_success (fail_if_success (apply w0E))); first | exact w0E rfl) | ((fail_if_success (fail_if_success (apply w0G))); first | exact w0G rfl rfl) | ((fail_if_success (fail_if_success (apply w0F))); first | exact w0F rfl) | ((fail_if_success (fail_if_success (apply v0M))); first | exact v0M rfl rfl) | ((fail_if_success (fail_if_success (apply v0U))); first | exact v0U rfl (by decide)) | ((fail_if_success (fail_if_success (apply v0r))); first | exact v0r rfl) | ((fail_if_success (fail_if_success (apply v0L))); first | exact v0L rfl rfl) | ((fail_if_success (fail_if_success (apply w0D))); first | exact w0D rfl) | ((fail_if_success (fail_if_success (apply j1a))); first | exact j1a rfl) | ((fail_if_success (fail_if_success (apply g_eql))); first | exact g_eql (xs := [_, _]) (ys := [_, _]) rfl rfl rfl rfl | exact g_eql (xs := [_, _, _]) (ys := [_, _, _]) rfl rfl rfl rfl) | ((fail_if_success (fail_if_success (apply q0i))); first | exact q0i (τs := [_, _, _]) rfl | exact q0i (τs := [_]) rfl | exact q0i (τs := [_, _]) rfl) | ((fail_if_success (fail_if_success (apply Q0c))); first | exact Q0c rfl rfl rfl rfl (by omega) (by omega)) | ((fail_if_success (fail_if_success (apply K0R))); first | exact K0R rfl rfl) | ((fail_if_success (fail_if_success (apply K0X))); first | exact K0X rfl rfl) | ((fail_if_success (fail_if_success (apply W0q))); first | exact W0q (xs := [_, _]) (ys := [_, _]) rfl rfl rfl rfl | exact W0q (xs := [_, _, _]) (ys := [_, _, _]) rfl rfl rfl rfl) | ((fail_if_success (fail_if_success (apply g_quoT))); first | exact g_quoT rfl rfl (by omega) (by omega)) | ((fail_if_success (fail_if_success (apply g_mulB))); first | exact g_mulB rfl rfl (by omega) (by omega)) | ((fail_if_success (fail_if_success (apply K0Z))); first | exact K0Z rfl (by omega)) | ((fail_if_success (fail_if_success (apply g_subP))); first | exact g_subP rfl rfl (by omega) (by omega) (by omega) (by omega)) | ((fail_if_success (fail_if_success (apply j1d))); first | exact j1d rfl rfl (by omega) (by omega)) | ((fail_if_success (fail_if_success (apply K0V))); first | exact K0V rfl rfl) | ((fail_if_success (fail_if_success (apply g_addP))); first | exact g_addP rfl rfl (by omega) (by omega) (by omega) (by omega)) | ((fail_if_success (fail_if_success (apply v0c))); first | exact v0c rfl rfl rfl) | ((fail_if_success (fail_if_success (apply j1c))); first | exact j1c rfl rfl (by omega) (by omega) (by omega)) | ((fail_if_success (fail_if_success (apply K0Y))); first | exact K0Y rfl rfl) | ((fail_if_success (fail_if_success (apply v0t))); first | exact v0t rfl) | ((fail_if_success (fail_if_success (apply g_slice))); first | exact g_slice rfl rfl rfl (by omega) (by omega)) | ((fail_if_success (fail_if_success (apply Q0d))); first | exact Q0d rfl rfl (by omega) (by omega)) | ((fail_if_success (fail_if_success (apply Q0e))); first | exact Q0e rfl rfl (by omega))) : A := h
set_option maxRecDepth 20000 in
theorem wm {A B : Prop} (b : B) (k : Bx B → A := by
 intro hk_
 repeat (first
  |((first | apply j0j | apply q0n); exact gwm; exact rfl)
  |refine v0D ?_
  |refine j0V ?_
  |refine J0i ?_
  |refine K0l ?_
  |refine Q0F ?_
  |refine J0Q ?_
  |refine k0c ?_
  |refine J0h ?_
  |refine V0Z ?_
  |refine x0f ?_
  |refine w0u ?_
  |refine v0A ?_
  |refine v0m ?_
  |refine sq_inBlock_other rfl ?_
  |refine x0Y ?_
  |refine y0E rfl ?_
  |refine y0D rfl ?_
  |refine cq_cond_cf ?_
  |refine cq_cond_ct ?_
  |refine k0h tm (by kernel_rfl) ?_
  |refine K0m rfl rfl rfl rfl ?_
  |refine k0i nofun rfl rfl rfl rfl ?_
  |((first | apply x0I | apply y1g); exact gwm; exact rfl; exact rfl; exact rfl)
  |refine W0L rfl rfl rfl ?_
  |refine dq_offu nofun rfl rfl rfl ?_
  |refine q0M (v0N rfl rfl rfl rfl zO) ?_
  |refine y0y (v0N rfl rfl rfl rfl zO) ?_
  |refine q0M (q0Z rfl rfl rfl rfl) ?_
  |refine y0y (q0Z rfl rfl rfl rfl) ?_
  |refine q0M (q0Y rfl rfl rfl rfl) ?_
  |refine y0y (q0Y rfl rfl rfl rfl) ?_
  |refine q0M (q0D rfl rfl rfl rfl rfl rfl) ?_
  |refine y0y (q0D rfl rfl rfl rfl rfl rfl) ?_
  |refine q0M (w0m rfl rfl rfl rfl rfl rfl) ?_
  |refine y0y (w0m rfl rfl rfl rfl rfl rfl) ?_
  |refine q0M (w0X rfl rfl rfl rfl rfl (by simp)) ?_
  |refine y0y (w0X rfl rfl rfl rfl rfl (by simp)) ?_
  |refine q0M (g_store_oel rfl rfl rfl rfl zO rfl) ?_
  |refine y0y (g_store_oel rfl rfl rfl rfl zO rfl) ?_
  |refine j0C (z0h rfl rfl rfl zO rfl) rfl ?_
  |refine j0C (z0g rfl rfl rfl zO rfl) rfl ?_
  |refine j0C (v_push_pr rfl rfl rfl zO rfl) rfl ?_
  |refine j0C (Y0A rfl rfl rfl rfl zO) rfl ?_
  |refine j0C (Y0A rfl rfl rfl (Int.toNat_of_nonneg zO).symm zO) rfl ?_
  |refine j0C (q0b 10 rfl) rfl ?_
  |refine j0C (q0b 11 rfl) rfl ?_
  |refine j0C (q0b 12 rfl) rfl ?_
  |refine j0C (q0b 13 rfl) rfl ?_
  |refine j0C (q0b 14 rfl) rfl ?_
  |refine j0C (q0b 15 rfl) rfl ?_
  |refine x0l (j0O 10) rfl rfl ?_
  |refine x0l (j0O 11) rfl rfl ?_
  |refine x0l (j0O 12) rfl rfl ?_
  |refine x0l (j0O 13) rfl rfl ?_
  |refine x0l (j0O 14) rfl rfl ?_
  |refine x0l (j0O 15) rfl rfl ?_)
 exact hk_.out) : A := k ⟨b⟩
end Go.Vc
