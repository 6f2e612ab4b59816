/- A part of the proof. -/
import Derived.Test.YtfggdokihnopeaaGreatDoorCaf
set_option linter.unusedVariables false
set_option linter.unusedSimpArgs false
namespace Go.Vc
open Go
theorem gwl {A : Prop} (h : A := by first | ((fail_if_success (fail_if_success (apply y0n))); first | exact y0n rfl rfl) | ((fail_if_success (fail_if_success (apply y0m))); first | exact y0m rfl rfl) | ((fail_if_success (fail_if_success (apply y0o))); first | exact y0o rfl rfl (by omega)) | ((fail_if_success (fail_if_success (apply y0p))); first | exact y0p rfl rfl rfl (by omega)) | ((fail_if_success (fail_if_success (apply j0V))); first | exact j0V (s := .av (.val (.int _ _))) rfl | exact j0V (s := .av (.val (.bool _))) rfl | exact j0V (s := .av _) rfl | exact j0V (s := .own _ _) rfl | exact j0V (s := .osl _) rfl | exact j0V (s := .oel _ _ _ _) rfl | exact j0V (s := .osx _ _ _ _) rfl | exact j0V (s := .clo _ _) rfl | exact j0V (s := .tupR _ _) rfl) | ((fail_if_success (fail_if_success (apply j0D))); first | exact j0D (s := .av (.val (.int _ _))) rfl | exact j0D (s := .av (.val (.bool _))) rfl | exact j0D (s := .av _) rfl | exact j0D (s := .own _ _) rfl | exact j0D (s := .osl _) rfl | exact j0D (s := .oel _ _ _ _) rfl | exact j0D (s := .osx _ _ _ _) rfl | exact j0D (s := .clo _ _) rfl | exact j0D (s := .tupR _ _) rfl) | ((fail_if_success (fail_if_success (apply v0N))); first | exact v0N (τ := .val (.int _ _)) rfl rfl rfl | exact v0N rfl rfl rfl | exact v0N (τ := .val (.bool _)) rfl rfl rfl) | ((fail_if_success (fail_if_success (apply j0k))); first | exact j0k (us := [.int _ _, .int _ _]) rfl rfl rfl rfl | exact j0k (us := [.int _ _, .int _ _, .int _ _]) rfl rfl rfl rfl | exact j0k (us := [_, _]) rfl rfl rfl rfl) | ((fail_if_success (fail_if_success (apply j0Q))); first | exact j0Q (τ := .val (.int _ _)) rfl rfl (by omega) rfl rfl | exact j0Q (τ := .val _) rfl rfl (by omega) rfl rfl | exact j0Q rfl rfl (by omega) rfl rfl | exact j0Q (τ := .val (.bool _)) rfl rfl (by omega) rfl rfl) | ((fail_if_success (fail_if_success (apply g_load_oel_agg))); first | exact g_load_oel_agg (us := [.int _ _, .int _ _]) rfl rfl (by omega) rfl rfl | exact g_load_oel_agg (us := [.int _ _, .int _ _, .int _ _]) rfl rfl (by omega) rfl rfl) | ((fail_if_success (fail_if_success (apply j0u))); first | exact j0u (s := .av (.val (.int _ _))) rfl rfl rfl | exact j0u (s := .av _) rfl rfl rfl | exact j0u rfl rfl rfl | exact j0u (s := .av (.val (.bool _))) rfl rfl rfl | exact j0u (s := .osl _) rfl rfl rfl | exact j0u (s := .own _ _) rfl rfl rfl | exact j0u (s := .clo _ _) rfl rfl rfl) | (apply Y0c; exact rfl; assumption) | (apply V0z; exact rfl; exact rfl; assumption) | (apply V0y; exact rfl; exact rfl; assumption) | (apply J0x; assumption) | ((fail_if_success (fail_if_success (apply j0h))); first | exact j0h (us := [.int _ _, .int _ _]) rfl rfl rfl rfl | exact j0h (us := [.int _ _, .int _ _, .int _ _]) rfl rfl rfl rfl) | ((fail_if_success (fail_if_success (apply k0T))); first | exact k0T rfl rfl rfl) | ((fail_if_success (fail_if_success (apply Q0B))); first | exact Q0B rfl) | ((fail_if_success (fail_if_success (apply v0X))); first | exact v0X rfl rfl rfl (by omega) (by decide)) | ((fail_if_success (fail_if_success (apply v0Y))); first | exact v0Y rfl rfl (by omega) (by omega) (by decide)) | ((fail_if_success (fail_if_success (apply q0m))); first | exact q0m rfl rfl rfl (by omega) | exact q0m rfl rfl rfl (by decide)) | ((fail_if_success (fail_if_success (apply v0Z))); first | exact v0Z rfl rfl (by omega) (by omega)) | ((fail_if_success (fail_if_success (apply Q0A))); first | exact Q0A rfl rfl rfl) | ((fail_if_success (fail_if_success (apply Q0C))); first | exact Q0C rfl rfl rfl) | ((fail_if_success (fail_if_success (apply Q0D))); first | exact Q0D rfl) | ((fail_if_success (fail_if_success (apply v0c))); first | exact v0c rfl rfl rfl rfl) | ((fail_if_success (fail_if_success (apply Q0F))); first | exact Q0F rfl rfl (by omega)) | ((fail_if_success (fail_if_success (apply Q0x))); first | exact Q0x rfl rfl (by omega)) | ((fail_if_success (fail_if_success (apply x0w))); first | exact x0w rfl (by omega)) | ((fail_if_success (fail_if_success (apply y0S))); first | exact y0S rfl (by omega)) | ((fail_if_success (fail_if_success (apply g_str_str))); first | exact g_str_str rfl) | ((fail_if_success (fail_if_success (apply w0s))); first | exact w0s rfl rfl rfl) | ((fail_if_success (fail_if_success (apply w0r))); first | exact w0r rfl rfl rfl) | ((fail_if_success (fail_if_success (apply v0D))); first | exact v0D rfl rfl) | ((fail_if_success (fail_if_success (apply v0b))); first | exact v0b rfl rfl rfl) | ((fail_if_success (fail_if_success (apply y0Q))); first | exact y0Q rfl rfl rfl (by omega)) | ((fail_if_success (fail_if_success (apply w0E))); first | exact w0E rfl rfl rfl (by omega) | exact w0E rfl rfl (Int.toNat_of_nonneg (by omega)).symm (by omega)) | ((fail_if_success (fail_if_success (apply q0n))); first | exact q0n rfl rfl rfl rfl (by omega) | exact q0n rfl rfl rfl (Int.toNat_of_nonneg (by omega)).symm (by omega)) | ((fail_if_success (fail_if_success (apply q0M))); first | exact q0M rfl rfl rfl (by omega)) | ((fail_if_success (fail_if_success (apply q0L))); first | exact q0L rfl rfl rfl (by decide) rfl) | ((fail_if_success (fail_if_success (apply y0T))); first | exact y0T rfl) | ((fail_if_success (fail_if_success (apply v0o))); first | exact v0o rfl) | ((fail_if_success (fail_if_success (apply y0q))); first | exact y0q (s := .av (.val (.bool _))) rfl rfl | exact y0q rfl rfl) | ((fail_if_success (fail_if_success (apply g_pick_b))); first | exact g_pick_b rfl rfl rfl) | ((fail_if_success (fail_if_success (apply k0X))); first | exact k0X rfl) | ((fail_if_success (fail_if_success (apply w0o))); first | exact w0o rfl) | ((fail_if_success (fail_if_success (apply w0q))); first | exact w0q rfl rfl) | ((fail_if_success (fail_if_success (apply w0p))); first | exact w0p rfl) | ((fail_if_success (fail_if_success (apply v0F))); first | exact v0F rfl rfl) | ((fail_if_success (fail_if_success (apply v0M))); first | exact v0M rfl (by decide)) | ((fail_if_success (fail_if_success (apply v0n))); first | exact v0n rfl) | ((fail_if_success (fail_if_success (apply v0E))); first | exact v0E rfl rfl) | ((fail_if_success (fail_if_success (apply w0n))); first | exact w0n rfl) | ((fail_if_success (fail_if_success (apply K0b))); first | exact K0b rfl) | ((fail_if_success (fail_if_success (apply g_eql))); first | exact g_eql (xs := [_, _]) (ys := [_, _]) rfl rfl rfl rfl | exact g_eql (xs := [_, _, _]) (ys := [_, _, _]) rfl rfl rfl rfl) | ((fail_if_success (fail_if_success (apply q0d))); first | exact q0d (τs := [_, _, _]) rfl | exact q0d (τs := [_]) rfl | exact q0d (τs := [_, _]) rfl) | ((fail_if_success (fail_if_success (apply J0z))); first | exact J0z rfl rfl rfl rfl (by omega) (by omega)) | ((fail_if_success (fail_if_success (apply k0S))); first | exact k0S rfl rfl) | ((fail_if_success (fail_if_success (apply k0Y))); first | exact k0Y rfl rfl) | ((fail_if_success (fail_if_success (apply V0B))); first | exact V0B (xs := [_, _]) (ys := [_, _]) rfl rfl rfl rfl | exact V0B (xs := [_, _, _]) (ys := [_, _, _]) rfl rfl rfl rfl) | ((fail_if_success (fail_if_success (apply g_quoT))); first | exact g_quoT rfl rfl (by omega) (by omega)) | ((fail_if_success (fail_if_success (apply g_mulB))); first | exact g_mulB rfl rfl (by omega) (by omega)) | ((fail_if_success (fail_if_success (apply K0a))); first | exact K0a rfl (by omega)) | ((fail_if_success (fail_if_success (apply g_subP))); first | exact g_subP rfl rfl (by omega) (by omega) (by omega) (by omega)) | ((fail_if_success (fail_if_success (apply K0e))); first | exact K0e rfl rfl (by omega) (by omega)) | ((fail_if_success (fail_if_success (apply k0W))); first | exact k0W rfl rfl) | ((fail_if_success (fail_if_success (apply g_addP))); first | exact g_addP rfl rfl (by omega) (by omega) (by omega) (by omega)) | ((fail_if_success (fail_if_success (apply q0X))); first | exact q0X rfl rfl rfl) | ((fail_if_success (fail_if_success (apply K0d))); first | exact K0d rfl rfl (by omega) (by omega) (by omega)) | ((fail_if_success (fail_if_success (apply k0Z))); first | exact k0Z rfl rfl) | ((fail_if_success (fail_if_success (apply v0p))); first | exact v0p rfl) | ((fail_if_success (fail_if_success (apply g_slice))); first | exact g_slice rfl rfl rfl (by omega) (by omega)) | ((fail_if_success (fail_if_success (apply J0A))); first | exact J0A rfl rfl (by omega) (by omega)) | ((fail_if_success (fail_if_success (apply J0B))); first | exact J0B rfl rfl (by omega))) : A := h
set_option maxRecDepth 20000 in
theorem wl {A B : Prop} (b : B) (k : Bx B → A := by
 intro hk_
 repeat (first
  |((first | apply j0j | apply q0H); exact gwl; exact rfl)
  |refine v0y ?_
  |refine j0T ?_
  |refine z0K ?_
  |refine k0o ?_
  |refine J0Y ?_
  |refine J0q ?_
  |refine Z0g ?_
  |refine z0J ?_
  |refine V0m ?_
  |refine w0K ?_
  |refine w0f ?_
  |refine v0v ?_
  |refine v0h ?_
  |refine sq_inBlock_other rfl ?_
  |refine x0E ?_
  |refine y0h rfl ?_
  |refine y0g rfl ?_
  |refine cq_cond_cf ?_
  |refine cq_cond_ct ?_
  |refine Z0k tm (by kernel_rfl) ?_
  |refine k0p rfl rfl rfl rfl ?_
  |refine Z0l nofun rfl rfl rfl rfl ?_
  |((first | apply x0m | apply w1V); exact gwl; exact rfl; exact rfl; exact rfl)
  |refine V0X rfl rfl rfl ?_
  |refine dq_offu nofun rfl rfl rfl ?_
  |refine q0U (v0G rfl rfl rfl rfl zO) ?_
  |refine y0b (v0G rfl rfl rfl rfl zO) ?_
  |refine q0U (q0S rfl rfl rfl rfl) ?_
  |refine y0b (q0S rfl rfl rfl rfl) ?_
  |refine q0U (q0R rfl rfl rfl rfl) ?_
  |refine y0b (q0R rfl rfl rfl rfl) ?_
  |refine q0U (q0x rfl rfl rfl rfl rfl rfl) ?_
  |refine y0b (q0x rfl rfl rfl rfl rfl rfl) ?_
  |refine q0U (w0a rfl rfl rfl rfl rfl rfl) ?_
  |refine y0b (w0a rfl rfl rfl rfl rfl rfl) ?_
  |refine q0U (w0F rfl rfl rfl rfl rfl (by simp)) ?_
  |refine y0b (w0F rfl rfl rfl rfl rfl (by simp)) ?_
  |refine q0U (q0y rfl rfl rfl rfl zO rfl) ?_
  |refine y0b (q0y rfl rfl rfl rfl zO rfl) ?_
  |refine j0A (y0H rfl rfl rfl zO rfl) rfl ?_
  |refine j0A (y0G rfl rfl rfl zO rfl) rfl ?_
  |refine j0A (v_push_pr rfl rfl rfl zO rfl) rfl ?_
  |refine j0A (X0I rfl rfl rfl rfl zO) rfl ?_
  |refine j0A (X0I rfl rfl rfl (Int.toNat_of_nonneg zO).symm zO) rfl ?_
  |refine j0A (j0X 10 rfl) rfl ?_
  |refine j0A (j0X 11 rfl) rfl ?_
  |refine j0A (j0X 12 rfl) rfl ?_
  |refine j0A (j0X 13 rfl) rfl ?_
  |refine j0A (j0X 14 rfl) rfl ?_
  |refine j0A (j0X 15 rfl) rfl ?_
  |refine y0k (j0K 10) rfl rfl ?_
  |refine y0k (j0K 11) rfl rfl ?_
  |refine y0k (j0K 12) rfl rfl ?_
  |refine y0k (j0K 13) rfl rfl ?_
  |refine y0k (j0K 14) rfl rfl ?_
  |refine y0k (j0K 15) rfl rfl ?_)
 exact hk_.out) : A := k ⟨b⟩
end Go.Vc
