/- A part of the proof. -/
import Derived.Test.YtgblokifbgeegaaGreatDoorBam
set_option linter.unusedVariables false
set_option linter.unusedSimpArgs false
namespace Go.Proofs.YtgblokifbgeegaaGreatDoor
open Go Go.Vc Go.RowKit
theorem Z1G : Tryz.prog.built 82 [] = some #[.int .i64 0, .int .i64 0] := by kernel_rfl
theorem Z1E : Tryz.prog.built 53 [] = some #[.int .i64 0, .int .i64 0, .int .i64 0] := by kernel_rfl
theorem Z1B : Tryz.prog.built 22 [] = some #[.int .i64 0, .int .i64 0, .int .i64 0] := by kernel_rfl
theorem Z1C : Tryz.prog.built 24 [] = some #[.int .i64 0, .int .i64 0, .int .i64 0, .int .i64 0, .int .i64 0] := by kernel_rfl
theorem J1y (x y z a b : Int) : Tryz.prog.built 24 [(0, .agg #[.int .i64 x, .int .i64 y, .int .i64 z]), (1, .int .i64 a), (2, .int .i64 b)] = some #[.int .i64 x, .int .i64 y, .int .i64 z, .int .i64 a, .int .i64 b] := by kernel_rfl
theorem Z1D : Tryz.prog.built 31 [] = some #[.int .i64 0, .int .i64 0, .int .i64 0, .int .i64 0, .int .i64 0] := by kernel_rfl
theorem J1z (x y z a b : Int) : Tryz.prog.built 31 [(0, .agg #[.int .i64 x, .int .i64 y, .int .i64 z]), (1, .int .i64 a), (2, .int .i64 b)] = some #[.int .i64 x, .int .i64 y, .int .i64 z, .int .i64 a, .int .i64 b] := by kernel_rfl
set_option maxRecDepth 20000 in
theorem wt {A B : Prop} (b : B) (k : Bx B → A := by
 intro hk_
 repeat (first
  |((first | apply j0l | apply v0I); exact gwl; exact rfl)
  |refine z0E ?_
  |refine q0S ?_
  |refine J0i ?_
  |refine k0T ?_
  |refine Q0E ?_
  |refine J0J ?_
  |refine Z0I ?_
  |refine J0h ?_
  |refine V0Q ?_
  |refine x0c ?_
  |refine w0q ?_
  |refine v0u ?_
  |refine v0d ?_
  |refine sq_inBlock_other rfl ?_
  |refine x0R ?_
  |refine y0C rfl ?_
  |refine y0B rfl ?_
  |refine cq_cond_cf ?_
  |refine cq_cond_ct ?_
  |refine Z0O tm (by kernel_rfl) ?_
  |refine k0U rfl rfl rfl rfl ?_
  |refine Z0P nofun rfl rfl rfl rfl ?_
  |((first | apply z0Y | apply Q0O); exact gwl; exact rfl; exact rfl; exact rfl)
  |refine W0x rfl rfl rfl ?_
  |refine V0T nofun rfl rfl rfl ?_
  |refine v0N (J0Z rfl rfl rfl rfl rfl) ?_
  |refine y0e (J0Z rfl rfl rfl rfl rfl) ?_
  |refine v0N (v0M rfl rfl rfl rfl zO) ?_
  |refine y0e (v0M rfl rfl rfl rfl zO) ?_
  |refine v0N (q0N rfl rfl rfl rfl) ?_
  |refine y0e (q0N rfl rfl rfl rfl) ?_
  |refine v0N (q0M rfl rfl rfl rfl) ?_
  |refine y0e (q0M rfl rfl rfl rfl) ?_
  |refine v0N (q0k rfl rfl rfl rfl rfl rfl) ?_
  |refine y0e (q0k rfl rfl rfl rfl rfl rfl) ?_
  |refine v0N (w0k rfl rfl rfl rfl rfl rfl) ?_
  |refine y0e (w0k rfl rfl rfl rfl rfl rfl) ?_
  |refine v0N (w0t rfl rfl rfl rfl rfl (by simp)) ?_
  |refine y0e (w0t rfl rfl rfl rfl rfl (by simp)) ?_
  |refine v0N (q0t rfl rfl rfl rfl zO rfl) ?_
  |refine y0e (q0t rfl rfl rfl rfl zO rfl) ?_
  |refine j0u (z0g rfl rfl rfl zO rfl) rfl ?_
  |refine j0u (z0f rfl rfl rfl zO rfl) rfl ?_
  |refine j0u (v_push_pr rfl rfl rfl zO rfl) rfl ?_
  |refine j0u (Y0i rfl rfl rfl rfl zO) rfl ?_
  |refine j0u (Y0i rfl rfl rfl (Int.toNat_of_nonneg zO).symm zO) rfl ?_
  |refine j0u (j0I 10 rfl) rfl ?_
  |refine j0u (j0I 11 rfl) rfl ?_
  |refine j0u (j0I 12 rfl) rfl ?_
  |refine j0u (j0I 13 rfl) rfl ?_
  |refine j0u (j0I 14 rfl) rfl ?_
  |refine j0u (j0I 15 rfl) rfl ?_
  |refine z0T (j0F 10) rfl rfl ?_
  |refine z0T (j0F 11) rfl rfl ?_
  |refine z0T (j0F 12) rfl rfl ?_
  |refine z0T (j0F 13) rfl rfl ?_
  |refine z0T (j0F 14) rfl rfl ?_
  |refine z0T (j0F 15) rfl rfl ?_
  |refine j0l (j0k (t := 82) (is := [0, 1]) (xs := [_, _]) (vs := [_, _]) (K1Y _ _) rfl rfl) rfl ?_
  |refine v0I (j0k (t := 82) (is := [0, 1]) (xs := [_, _]) (vs := [_, _]) (K1Y _ _) rfl rfl) rfl ?_
  |refine j0l (j0k (t := 53) (is := [0, 1, 2]) (xs := [_, _, _]) (vs := [_, _, _]) (K1X _ _ _) rfl rfl) rfl ?_
  |refine v0I (j0k (t := 53) (is := [0, 1, 2]) (xs := [_, _, _]) (vs := [_, _, _]) (K1X _ _ _) rfl rfl) rfl ?_
  |refine j0l (j0k (t := 22) (is := [0, 1, 2]) (xs := [_, _, _]) (vs := [_, _, _]) (K1o _ _ _) rfl rfl) rfl ?_
  |refine v0I (j0k (t := 22) (is := [0, 1, 2]) (xs := [_, _, _]) (vs := [_, _, _]) (K1o _ _ _) rfl rfl) rfl ?_
  |refine j0l (j0k (t := 82) (is := []) (xs := []) (vs := []) Z1G rfl rfl) rfl ?_
  |refine v0I (j0k (t := 82) (is := []) (xs := []) (vs := []) Z1G rfl rfl) rfl ?_
  |refine j0l (j0k (t := 53) (is := []) (xs := []) (vs := []) Z1E rfl rfl) rfl ?_
  |refine v0I (j0k (t := 53) (is := []) (xs := []) (vs := []) Z1E rfl rfl) rfl ?_
  |refine j0l (j0k (t := 22) (is := []) (xs := []) (vs := []) Z1B rfl rfl) rfl ?_
  |refine v0I (j0k (t := 22) (is := []) (xs := []) (vs := []) Z1B rfl rfl) rfl ?_
  |refine j0l (j0H (us := [.int _ _, .int _ _, .int _ _, .int _ _, .int _ _]) rfl rfl rfl rfl) rfl ?_
  |refine v0I (j0H (us := [.int _ _, .int _ _, .int _ _, .int _ _, .int _ _]) rfl rfl rfl rfl) rfl ?_
  |refine j0l (j0w (us := [.int _ _, .int _ _, .int _ _, .int _ _, .int _ _]) rfl rfl rfl rfl) rfl ?_
  |refine v0I (j0w (us := [.int _ _, .int _ _, .int _ _, .int _ _, .int _ _]) rfl rfl rfl rfl) rfl ?_
  |refine j0l (j0k (t := 24) (is := [0, 1, 2]) (xs := [_, _, _]) (vs := [.agg #[.int .i64 _, .int .i64 _, .int .i64 _], .int .i64 _, .int .i64 _]) (J1y _ _ _ _ _) rfl rfl) rfl ?_
  |refine v0I (j0k (t := 24) (is := [0, 1, 2]) (xs := [_, _, _]) (vs := [.agg #[.int .i64 _, .int .i64 _, .int .i64 _], .int .i64 _, .int .i64 _]) (J1y _ _ _ _ _) rfl rfl) rfl ?_
  |refine j0l (j0k (t := 24) (is := []) (xs := []) (vs := []) Z1C rfl rfl) rfl ?_
  |refine v0I (j0k (t := 24) (is := []) (xs := []) (vs := []) Z1C rfl rfl) rfl ?_
  |refine j0l (j0k (t := 31) (is := [0, 1, 2]) (xs := [_, _, _]) (vs := [.agg #[.int .i64 _, .int .i64 _, .int .i64 _], .int .i64 _, .int .i64 _]) (J1z _ _ _ _ _) rfl rfl) rfl ?_
  |refine v0I (j0k (t := 31) (is := [0, 1, 2]) (xs := [_, _, _]) (vs := [.agg #[.int .i64 _, .int .i64 _, .int .i64 _], .int .i64 _, .int .i64 _]) (J1z _ _ _ _ _) rfl rfl) rfl ?_
  |refine j0l (j0k (t := 31) (is := []) (xs := []) (vs := []) Z1D rfl rfl) rfl ?_
  |refine v0I (j0k (t := 31) (is := []) (xs := []) (vs := []) Z1D rfl rfl) rfl ?_
  |refine j0l (g_one_pt (t := 76) (K1v _ _) rfl) rfl ?_
  |refine v0I (g_one_pt (t := 76) (K1v _ _) rfl) rfl ?_
  |refine j0l (J0n (t := 40) (k1s _) rfl rfl) rfl ?_
  |refine v0I (J0n (t := 40) (k1s _) rfl rfl) rfl ?_
  |refine j0l (J0n (t := 40) (k1s _) rfl zO) rfl ?_
  |refine v0I (J0n (t := 40) (k1s _) rfl zO) rfl ?_
  |refine j0l (V0b rfl) rfl ?_
  |refine v0I (V0b rfl) rfl ?_
  |refine j0l (g_bound_v rfl) rfl ?_
  |refine v0I (g_bound_v rfl) rfl ?_
  |refine j0l (g_callfx rfl rfl (by assumption)) rfl ?_
  |refine v0I (g_callfx rfl rfl (by assumption)) rfl ?_)
 exact hk_.out) : A := k ⟨b⟩
end Go.Proofs.YtgblokifbgeegaaGreatDoor
