/- A part of the proof. -/
import Derived.Test.YtgblokifbgeegaaGreatDoorCak
set_option linter.unusedVariables false
set_option linter.unusedSimpArgs false
namespace Go.Vc
open Go
theorem gwl {A : Prop} (h : A := by first | ((fail_if_success (fail_if_success (apply y0H))); first | exact y0H rfl rfl) | ((fail_if_success (fail_if_success (apply y0G))); first | exact y0G rfl rfl) | ((fail_if_success (fail_if_success (apply y0I))); first | exact y0I rfl rfl (by omega)) | ((fail_if_success (fail_if_success (apply y0J))); first | exact y0J rfl rfl rfl (by omega)) | ((fail_if_success (fail_if_success (apply j0T))); first | exact j0T (s := .av (.val (.int _ _))) rfl | exact j0T (s := .av (.val (.bool _))) rfl | exact j0T (s := .av _) rfl | exact j0T (s := .own _ _) rfl | exact j0T (s := .osl _) rfl | exact j0T (s := .oel _ _ _ _) rfl | exact j0T (s := .osx _ _ _ _) rfl | exact j0T (s := .clo _ _) rfl | exact j0T (s := .tupR _ _) rfl) | ((fail_if_success (fail_if_success (apply j0t))); first | exact j0t (s := .av (.val (.int _ _))) rfl | exact j0t (s := .av (.val (.bool _))) rfl | exact j0t (s := .av _) rfl | exact j0t (s := .own _ _) rfl | exact j0t (s := .osl _) rfl | exact j0t (s := .oel _ _ _ _) rfl | exact j0t (s := .osx _ _ _ _) rfl | exact j0t (s := .clo _ _) rfl | exact j0t (s := .tupR _ _) rfl) | ((fail_if_success (fail_if_success (apply v0R))); first | exact v0R (τ := .val (.int _ _)) rfl rfl rfl | exact v0R rfl rfl rfl | exact v0R (τ := .val (.bool _)) rfl rfl rfl) | ((fail_if_success (fail_if_success (apply j0I))); first | exact j0I (us := [.int _ _, .int _ _]) rfl rfl rfl rfl | exact j0I (us := [.int _ _, .int _ _, .int _ _]) rfl rfl rfl rfl | exact j0I (us := [_, _]) rfl rfl rfl rfl) | ((fail_if_success (fail_if_success (apply j0N))); first | exact j0N (τ := .val (.int _ _)) rfl rfl (by omega) rfl rfl | exact j0N (τ := .val _) rfl rfl (by omega) rfl rfl | exact j0N rfl rfl (by omega) rfl rfl | exact j0N (τ := .val (.bool _)) rfl rfl (by omega) rfl rfl) | ((fail_if_success (fail_if_success (apply g_load_oel_agg))); first | exact g_load_oel_agg (us := [.int _ _, .int _ _]) rfl rfl (by omega) rfl rfl | exact g_load_oel_agg (us := [.int _ _, .int _ _, .int _ _]) rfl rfl (by omega) rfl rfl) | ((fail_if_success (fail_if_success (apply j0q))); first | exact j0q (s := .av (.val (.int _ _))) rfl rfl rfl | exact j0q (s := .av _) rfl rfl rfl | exact j0q rfl rfl rfl | exact j0q (s := .av (.val (.bool _))) rfl rfl rfl | exact j0q (s := .osl _) rfl rfl rfl | exact j0q (s := .own _ _) rfl rfl rfl | exact j0q (s := .clo _ _) rfl rfl rfl) | (apply Y0x; exact rfl; assumption) | (apply V0W; exact rfl; exact rfl; assumption) | (apply V0V; exact rfl; exact rfl; assumption) | (apply J0P; assumption) | ((fail_if_success (fail_if_success (apply j0w))); first | exact j0w (us := [.int _ _, .int _ _]) rfl rfl rfl rfl | exact j0w (us := [.int _ _, .int _ _, .int _ _]) rfl rfl rfl rfl) | ((fail_if_success (fail_if_success (apply K0u))); first | exact K0u rfl rfl rfl) | ((fail_if_success (fail_if_success (apply V0c))); first | exact V0c rfl) | ((fail_if_success (fail_if_success (apply w0g))); first | exact w0g rfl rfl rfl (by omega) (by decide)) | ((fail_if_success (fail_if_success (apply w0h))); first | exact w0h rfl rfl (by omega) (by omega) (by decide)) | ((fail_if_success (fail_if_success (apply q0i))); first | exact q0i rfl rfl rfl (by omega) | exact q0i rfl rfl rfl (by decide)) | ((fail_if_success (fail_if_success (apply w0i))); first | exact w0i rfl rfl (by omega) (by omega)) | ((fail_if_success (fail_if_success (apply V0b))); first | exact V0b rfl rfl rfl) | ((fail_if_success (fail_if_success (apply V0e))); first | exact V0e rfl rfl rfl) | ((fail_if_success (fail_if_success (apply V0f))); first | exact V0f rfl) | ((fail_if_success (fail_if_success (apply v0T))); first | exact v0T rfl rfl rfl rfl) | ((fail_if_success (fail_if_success (apply V0g))); first | exact V0g rfl rfl (by omega)) | ((fail_if_success (fail_if_success (apply Q0Y))); first | exact Q0Y rfl rfl (by omega)) | ((fail_if_success (fail_if_success (apply x0C))); first | exact x0C rfl (by omega)) | ((fail_if_success (fail_if_success (apply z0o))); first | exact z0o rfl (by omega)) | ((fail_if_success (fail_if_success (apply g_str_str))); first | exact g_str_str rfl) | ((fail_if_success (fail_if_success (apply w0E))); first | exact w0E rfl rfl rfl) | ((fail_if_success (fail_if_success (apply w0D))); first | exact w0D rfl rfl rfl) | ((fail_if_success (fail_if_success (apply v0I))); first | exact v0I rfl rfl) | ((fail_if_success (fail_if_success (apply q0X))); first | exact q0X rfl rfl rfl) | ((fail_if_success (fail_if_success (apply x0i))); first | exact x0i rfl rfl rfl (by omega)) | ((fail_if_success (fail_if_success (apply w0R))); first | exact w0R rfl rfl rfl (by omega) | exact w0R rfl rfl (Int.toNat_of_nonneg (by omega)).symm (by omega)) | ((fail_if_success (fail_if_success (apply q0j))); first | exact q0j rfl rfl rfl rfl (by omega) | exact q0j rfl rfl rfl (Int.toNat_of_nonneg (by omega)).symm (by omega)) | ((fail_if_success (fail_if_success (apply q0r))); first | exact q0r rfl rfl rfl (by omega)) | ((fail_if_success (fail_if_success (apply q0G))); first | exact q0G rfl rfl rfl (by decide) rfl) | ((fail_if_success (fail_if_success (apply z0q))); first | exact z0q rfl) | ((fail_if_success (fail_if_success (apply v0m))); first | exact v0m rfl) | ((fail_if_success (fail_if_success (apply y0K))); first | exact y0K (s := .av (.val (.bool _))) rfl rfl | exact y0K rfl rfl) | ((fail_if_success (fail_if_success (apply g_pick_b))); first | exact g_pick_b rfl rfl rfl) | ((fail_if_success (fail_if_success (apply K0y))); first | exact K0y rfl) | ((fail_if_success (fail_if_success (apply g_len_nil))); first | exact g_len_nil rfl) | ((fail_if_success (fail_if_success (apply w0C))); first | exact w0C rfl rfl) | ((fail_if_success (fail_if_success (apply w0B))); first | exact w0B rfl) | ((fail_if_success (fail_if_success (apply v0K))); first | exact v0K rfl rfl) | ((fail_if_success (fail_if_success (apply v0Q))); first | exact v0Q rfl (by decide)) | ((fail_if_success (fail_if_success (apply v0l))); first | exact v0l rfl) | ((fail_if_success (fail_if_success (apply v0J))); first | exact v0J rfl rfl) | ((fail_if_success (fail_if_success (apply w0A))); first | exact w0A rfl) | ((fail_if_success (fail_if_success (apply K0C))); first | exact K0C rfl) | ((fail_if_success (fail_if_success (apply V0X))); first | exact V0X (xs := [_, _]) (ys := [_, _]) rfl rfl rfl rfl | exact V0X (xs := [_, _, _]) (ys := [_, _, _]) rfl rfl rfl rfl) | ((fail_if_success (fail_if_success (apply j0Z))); first | exact j0Z (τs := [_, _, _]) rfl | exact j0Z (τs := [_]) rfl | exact j0Z (τs := [_, _]) rfl) | ((fail_if_success (fail_if_success (apply J0Q))); first | exact J0Q rfl rfl rfl rfl (by omega) (by omega)) | ((fail_if_success (fail_if_success (apply Y0w))); first | exact Y0w rfl rfl) | ((fail_if_success (fail_if_success (apply K0z))); first | exact K0z rfl rfl) | ((fail_if_success (fail_if_success (apply Q0M))); first | exact Q0M (xs := [_, _]) (ys := [_, _]) rfl rfl rfl rfl | exact Q0M (xs := [_, _, _]) (ys := [_, _, _]) rfl rfl rfl rfl) | ((fail_if_success (fail_if_success (apply V0d))); first | exact V0d rfl rfl (by omega) (by omega)) | ((fail_if_success (fail_if_success (apply V0a))); first | exact V0a rfl rfl (by omega) (by omega)) | ((fail_if_success (fail_if_success (apply K0B))); first | exact K0B rfl (by omega)) | ((fail_if_success (fail_if_success (apply V0h))); first | exact V0h rfl rfl (by omega) (by omega) (by omega) (by omega)) | ((fail_if_success (fail_if_success (apply K0E))); first | exact K0E rfl rfl (by omega) (by omega)) | ((fail_if_success (fail_if_success (apply K0x))); first | exact K0x rfl rfl) | ((fail_if_success (fail_if_success (apply g_addP))); first | exact g_addP rfl rfl (by omega) (by omega) (by omega) (by omega)) | ((fail_if_success (fail_if_success (apply q0W))); first | exact q0W rfl rfl rfl) | ((fail_if_success (fail_if_success (apply K0D))); first | exact K0D rfl rfl (by omega) (by omega) (by omega)) | ((fail_if_success (fail_if_success (apply K0A))); first | exact K0A rfl rfl) | ((fail_if_success (fail_if_success (apply v0o))); first | exact v0o rfl) | ((fail_if_success (fail_if_success (apply x0j))); first | exact x0j rfl rfl rfl (by omega) (by omega)) | ((fail_if_success (fail_if_success (apply J0R))); first | exact J0R rfl rfl (by omega) (by omega)) | ((fail_if_success (fail_if_success (apply J0S))); first | exact J0S rfl rfl (by omega))) : A := h
set_option maxRecDepth 20000 in
theorem wl {A B : Prop} (b : B) (k : Bx B → A := by
 intro hk_
 repeat (first
  |((first | apply j0o | apply v0D); exact gwl; exact rfl)
  |refine z0A ?_
  |refine q0T ?_
  |refine J0c ?_
  |refine k0M ?_
  |refine Q0y ?_
  |refine J0D ?_
  |refine Z0z ?_
  |refine J0b ?_
  |refine V0J ?_
  |refine w0Y ?_
  |refine w0n ?_
  |refine v0t ?_
  |refine v0d ?_
  |refine sq_inBlock_other rfl ?_
  |refine x0J ?_
  |refine y0u rfl ?_
  |refine y0t rfl ?_
  |refine cq_cond_cf ?_
  |refine cq_cond_ct ?_
  |refine Z0F tm (by kernel_rfl) ?_
  |refine k0N rfl rfl rfl rfl ?_
  |refine Z0G nofun rfl rfl rfl rfl ?_
  |((first | apply Q0P | apply Q0K); exact gwl; exact rfl; exact rfl; exact rfl)
  |refine W0t rfl rfl rfl ?_
  |refine V0M nofun rfl rfl rfl ?_
  |refine v0M (v0L rfl rfl rfl rfl zO) ?_
  |refine x0Y (v0L rfl rfl rfl rfl zO) ?_
  |refine v0M (q0P rfl rfl rfl rfl) ?_
  |refine x0Y (q0P rfl rfl rfl rfl) ?_
  |refine v0M (q0O rfl rfl rfl rfl) ?_
  |refine x0Y (q0O rfl rfl rfl rfl) ?_
  |refine v0M (q0k rfl rfl rfl rfl rfl rfl) ?_
  |refine x0Y (q0k rfl rfl rfl rfl rfl rfl) ?_
  |refine v0M (w0j rfl rfl rfl rfl rfl rfl) ?_
  |refine x0Y (w0j rfl rfl rfl rfl rfl rfl) ?_
  |refine v0M (w0q rfl rfl rfl rfl rfl (by simp)) ?_
  |refine x0Y (w0q rfl rfl rfl rfl rfl (by simp)) ?_
  |refine v0M (q0t rfl rfl rfl rfl zO rfl) ?_
  |refine x0Y (q0t rfl rfl rfl rfl zO rfl) ?_
  |refine j0u (z0c rfl rfl rfl zO rfl) rfl ?_
  |refine j0u (z0b rfl rfl rfl zO rfl) rfl ?_
  |refine j0u (v_push_pr rfl rfl rfl zO rfl) rfl ?_
  |refine j0u (Y0c rfl rfl rfl rfl zO) rfl ?_
  |refine j0u (Y0c rfl rfl rfl (Int.toNat_of_nonneg zO).symm zO) rfl ?_
  |refine j0u (j0J 10 rfl) rfl ?_
  |refine j0u (j0J 11 rfl) rfl ?_
  |refine j0u (j0J 12 rfl) rfl ?_
  |refine j0u (j0J 13 rfl) rfl ?_
  |refine j0u (j0J 14 rfl) rfl ?_
  |refine j0u (j0J 15 rfl) rfl ?_
  |refine z0R (j0F 10) rfl rfl ?_
  |refine z0R (j0F 11) rfl rfl ?_
  |refine z0R (j0F 12) rfl rfl ?_
  |refine z0R (j0F 13) rfl rfl ?_
  |refine z0R (j0F 14) rfl rfl ?_
  |refine z0R (j0F 15) rfl rfl ?_)
 exact hk_.out) : A := k ⟨b⟩
end Go.Vc
