/- A part of the proof. -/
import Derived.Test.YtgblokifbgeegaaGreatDoorDam
set_option linter.unusedVariables false
set_option linter.unusedSimpArgs false
namespace Go.Proofs.YtgblokifbgeegaaGreatDoor
open Go Go.Vc Go.RowKit
theorem k1c : Tryz.prog.built 82 [] = some #[.int .i64 0, .int .i64 0] := by kernel_rfl
theorem k1a : Tryz.prog.built 53 [] = some #[.int .i64 0, .int .i64 0, .int .i64 0] := by kernel_rfl
theorem Z1W : Tryz.prog.built 22 [] = some #[.int .i64 0, .int .i64 0, .int .i64 0] := by kernel_rfl
theorem Z1X : Tryz.prog.built 24 [] = some #[.int .i64 0, .int .i64 0, .int .i64 0, .int .i64 0, .int .i64 0] := by kernel_rfl
theorem J1R (x y z a b : Int) : Tryz.prog.built 24 [(0, .agg #[.int .i64 x, .int .i64 y, .int .i64 z]), (1, .int .i64 a), (2, .int .i64 b)] = some #[.int .i64 x, .int .i64 y, .int .i64 z, .int .i64 a, .int .i64 b] := by kernel_rfl
theorem Z1Y : Tryz.prog.built 31 [] = some #[.int .i64 0, .int .i64 0, .int .i64 0, .int .i64 0, .int .i64 0] := by kernel_rfl
theorem J1S (x y z a b : Int) : Tryz.prog.built 31 [(0, .agg #[.int .i64 x, .int .i64 y, .int .i64 z]), (1, .int .i64 a), (2, .int .i64 b)] = some #[.int .i64 x, .int .i64 y, .int .i64 z, .int .i64 a, .int .i64 b] := by kernel_rfl
set_option maxRecDepth 20000 in
theorem wt {A B : Prop} (b : B) (k : Bx B → A := by
 intro hk_
 repeat (first
  |((first | apply j0l | apply v0j); exact gwl; exact rfl)
  |refine y0D ?_
  |refine q0B ?_
  |refine J0h ?_
  |refine K0p ?_
  |refine Q0G ?_
  |refine J0M ?_
  |refine Z0X ?_
  |refine J0g ?_
  |refine V0Z ?_
  |refine x0d ?_
  |refine w0t ?_
  |refine v0x ?_
  |refine v0e ?_
  |refine sq_inBlock_other rfl ?_
  |refine x0O ?_
  |refine y0C rfl ?_
  |refine y0B rfl ?_
  |refine cq_cond_cf ?_
  |refine cq_cond_ct ?_
  |refine k0e tm (by kernel_rfl) ?_
  |refine K0q rfl rfl rfl rfl ?_
  |refine k0f nofun rfl rfl rfl rfl ?_
  |((first | apply Y0n | apply Q0Q); exact gwl; exact rfl; exact rfl; exact rfl)
  |refine W0L rfl rfl rfl ?_
  |refine W0c nofun rfl rfl rfl ?_
  |refine v0N (Q0b rfl rfl rfl rfl rfl) ?_
  |refine y0e (Q0b rfl rfl rfl rfl rfl) ?_
  |refine v0N (v0R rfl rfl rfl rfl zO) ?_
  |refine y0e (v0R rfl rfl rfl rfl zO) ?_
  |refine v0N (q0O rfl rfl rfl rfl) ?_
  |refine y0e (q0O rfl rfl rfl rfl) ?_
  |refine v0N (q0N rfl rfl rfl rfl) ?_
  |refine y0e (q0N rfl rfl rfl rfl) ?_
  |refine v0N (q0k rfl rfl rfl rfl rfl rfl) ?_
  |refine y0e (q0k rfl rfl rfl rfl rfl rfl) ?_
  |refine v0N (w0n rfl rfl rfl rfl rfl rfl) ?_
  |refine y0e (w0n rfl rfl rfl rfl rfl rfl) ?_
  |refine v0N (v0Z rfl rfl rfl rfl rfl (by simp)) ?_
  |refine y0e (v0Z rfl rfl rfl rfl rfl (by simp)) ?_
  |refine v0N (q0t rfl rfl rfl rfl zO rfl) ?_
  |refine y0e (q0t rfl rfl rfl rfl zO rfl) ?_
  |refine j0t (z0l rfl rfl rfl zO rfl) rfl ?_
  |refine j0t (z0k rfl rfl rfl zO rfl) rfl ?_
  |refine j0t (v_push_pr rfl rfl rfl zO rfl) rfl ?_
  |refine j0t (Y0x rfl rfl rfl rfl zO) rfl ?_
  |refine j0t (Y0x rfl rfl rfl (Int.toNat_of_nonneg zO).symm zO) rfl ?_
  |refine j0t (j0I 10 rfl) rfl ?_
  |refine j0t (j0I 11 rfl) rfl ?_
  |refine j0t (j0I 12 rfl) rfl ?_
  |refine j0t (j0I 13 rfl) rfl ?_
  |refine j0t (j0I 14 rfl) rfl ?_
  |refine j0t (j0I 15 rfl) rfl ?_
  |refine z0V (j0F 10) rfl rfl ?_
  |refine z0V (j0F 11) rfl rfl ?_
  |refine z0V (j0F 12) rfl rfl ?_
  |refine z0V (j0F 13) rfl rfl ?_
  |refine z0V (j0F 14) rfl rfl ?_
  |refine z0V (j0F 15) rfl rfl ?_
  |refine j0l (j0j (t := 82) (is := [0, 1]) (xs := [_, _]) (vs := [_, _]) (K1Z _ _) rfl rfl) rfl ?_
  |refine v0j (j0j (t := 82) (is := [0, 1]) (xs := [_, _]) (vs := [_, _]) (K1Z _ _) rfl rfl) rfl ?_
  |refine j0l (j0j (t := 53) (is := [0, 1, 2]) (xs := [_, _, _]) (vs := [_, _, _]) (K1Y _ _ _) rfl rfl) rfl ?_
  |refine v0j (j0j (t := 53) (is := [0, 1, 2]) (xs := [_, _, _]) (vs := [_, _, _]) (K1Y _ _ _) rfl rfl) rfl ?_
  |refine j0l (j0j (t := 22) (is := [0, 1, 2]) (xs := [_, _, _]) (vs := [_, _, _]) (K1X _ _ _) rfl rfl) rfl ?_
  |refine v0j (j0j (t := 22) (is := [0, 1, 2]) (xs := [_, _, _]) (vs := [_, _, _]) (K1X _ _ _) rfl rfl) rfl ?_
  |refine j0l (j0j (t := 82) (is := []) (xs := []) (vs := []) k1c rfl rfl) rfl ?_
  |refine v0j (j0j (t := 82) (is := []) (xs := []) (vs := []) k1c rfl rfl) rfl ?_
  |refine j0l (j0j (t := 53) (is := []) (xs := []) (vs := []) k1a rfl rfl) rfl ?_
  |refine v0j (j0j (t := 53) (is := []) (xs := []) (vs := []) k1a rfl rfl) rfl ?_
  |refine j0l (j0j (t := 22) (is := []) (xs := []) (vs := []) Z1W rfl rfl) rfl ?_
  |refine v0j (j0j (t := 22) (is := []) (xs := []) (vs := []) Z1W rfl rfl) rfl ?_
  |refine j0l (j0v (us := [.int _ _, .int _ _, .int _ _, .int _ _, .int _ _]) rfl rfl rfl rfl) rfl ?_
  |refine v0j (j0v (us := [.int _ _, .int _ _, .int _ _, .int _ _, .int _ _]) rfl rfl rfl rfl) rfl ?_
  |refine j0l (j0n (us := [.int _ _, .int _ _, .int _ _, .int _ _, .int _ _]) rfl rfl rfl rfl) rfl ?_
  |refine v0j (j0n (us := [.int _ _, .int _ _, .int _ _, .int _ _, .int _ _]) rfl rfl rfl rfl) rfl ?_
  |refine j0l (j0j (t := 24) (is := [0, 1, 2]) (xs := [_, _, _]) (vs := [.agg #[.int .i64 _, .int .i64 _, .int .i64 _], .int .i64 _, .int .i64 _]) (J1R _ _ _ _ _) rfl rfl) rfl ?_
  |refine v0j (j0j (t := 24) (is := [0, 1, 2]) (xs := [_, _, _]) (vs := [.agg #[.int .i64 _, .int .i64 _, .int .i64 _], .int .i64 _, .int .i64 _]) (J1R _ _ _ _ _) rfl rfl) rfl ?_
  |refine j0l (j0j (t := 24) (is := []) (xs := []) (vs := []) Z1X rfl rfl) rfl ?_
  |refine v0j (j0j (t := 24) (is := []) (xs := []) (vs := []) Z1X rfl rfl) rfl ?_
  |refine j0l (j0j (t := 31) (is := [0, 1, 2]) (xs := [_, _, _]) (vs := [.agg #[.int .i64 _, .int .i64 _, .int .i64 _], .int .i64 _, .int .i64 _]) (J1S _ _ _ _ _) rfl rfl) rfl ?_
  |refine v0j (j0j (t := 31) (is := [0, 1, 2]) (xs := [_, _, _]) (vs := [.agg #[.int .i64 _, .int .i64 _, .int .i64 _], .int .i64 _, .int .i64 _]) (J1S _ _ _ _ _) rfl rfl) rfl ?_
  |refine j0l (j0j (t := 31) (is := []) (xs := []) (vs := []) Z1Y rfl rfl) rfl ?_
  |refine v0j (j0j (t := 31) (is := []) (xs := []) (vs := []) Z1Y rfl rfl) rfl ?_
  |refine j0l (g_one_pt (t := 76) (K1y _ _) rfl) rfl ?_
  |refine v0j (g_one_pt (t := 76) (K1y _ _) rfl) rfl ?_
  |refine j0l (J0m (t := 40) (k1M _) rfl rfl) rfl ?_
  |refine v0j (J0m (t := 40) (k1M _) rfl rfl) rfl ?_
  |refine j0l (J0m (t := 40) (k1M _) rfl zO) rfl ?_
  |refine v0j (J0m (t := 40) (k1M _) rfl zO) rfl ?_
  |refine j0l (V0g rfl) rfl ?_
  |refine v0j (V0g rfl) rfl ?_
  |refine j0l (g_bound_v rfl) rfl ?_
  |refine v0j (g_bound_v rfl) rfl ?_
  |refine j0l (g_callfx rfl rfl (by assumption)) rfl ?_
  |refine v0j (g_callfx rfl rfl (by assumption)) rfl ?_)
 exact hk_.out) : A := k ⟨b⟩
end Go.Proofs.YtgblokifbgeegaaGreatDoor
