/- A part of the proof. -/
import Derived.Test.YtgblokifbgeegaaGreatDoorCal
set_option linter.unusedVariables false
set_option linter.unusedSimpArgs false
namespace Go.Proofs.YtgblokifbgeegaaGreatDoor
open Go Go.Vc Go.RowKit
theorem Z1p : Tryz.prog.built 82 [] = some #[.int .i64 0, .int .i64 0] := by kernel_rfl
theorem Z1n : Tryz.prog.built 53 [] = some #[.int .i64 0, .int .i64 0, .int .i64 0] := by kernel_rfl
theorem Z1k : Tryz.prog.built 22 [] = some #[.int .i64 0, .int .i64 0, .int .i64 0] := by kernel_rfl
theorem Z1l : Tryz.prog.built 24 [] = some #[.int .i64 0, .int .i64 0, .int .i64 0, .int .i64 0, .int .i64 0] := by kernel_rfl
theorem J1l (x y z a b : Int) : Tryz.prog.built 24 [(0, .agg #[.int .i64 x, .int .i64 y, .int .i64 z]), (1, .int .i64 a), (2, .int .i64 b)] = some #[.int .i64 x, .int .i64 y, .int .i64 z, .int .i64 a, .int .i64 b] := by kernel_rfl
theorem Z1m : Tryz.prog.built 31 [] = some #[.int .i64 0, .int .i64 0, .int .i64 0, .int .i64 0, .int .i64 0] := by kernel_rfl
theorem J1m (x y z a b : Int) : Tryz.prog.built 31 [(0, .agg #[.int .i64 x, .int .i64 y, .int .i64 z]), (1, .int .i64 a), (2, .int .i64 b)] = some #[.int .i64 x, .int .i64 y, .int .i64 z, .int .i64 a, .int .i64 b] := by kernel_rfl
set_option maxRecDepth 20000 in
theorem wt {A B : Prop} (b : B) (k : Bx B → A := by
 intro hk_
 repeat (first
  |((first | apply j0o | apply v0D); exact gwl; exact rfl)
  |refine z0A ?_
  |refine q0T ?_
  |refine J0c ?_
  |refine k0M ?_
  |refine Q0y ?_
  |refine J0D ?_
  |refine Z0z ?_
  |refine J0b ?_
  |refine V0J ?_
  |refine w0Y ?_
  |refine w0n ?_
  |refine v0t ?_
  |refine v0d ?_
  |refine sq_inBlock_other rfl ?_
  |refine x0J ?_
  |refine y0u rfl ?_
  |refine y0t rfl ?_
  |refine cq_cond_cf ?_
  |refine cq_cond_ct ?_
  |refine Z0F tm (by kernel_rfl) ?_
  |refine k0N rfl rfl rfl rfl ?_
  |refine Z0G nofun rfl rfl rfl rfl ?_
  |((first | apply Q0P | apply Q0K); exact gwl; exact rfl; exact rfl; exact rfl)
  |refine W0t rfl rfl rfl ?_
  |refine V0M nofun rfl rfl rfl ?_
  |refine v0M (J0T rfl rfl rfl rfl rfl) ?_
  |refine x0Y (J0T rfl rfl rfl rfl rfl) ?_
  |refine v0M (v0L rfl rfl rfl rfl zO) ?_
  |refine x0Y (v0L rfl rfl rfl rfl zO) ?_
  |refine v0M (q0P rfl rfl rfl rfl) ?_
  |refine x0Y (q0P rfl rfl rfl rfl) ?_
  |refine v0M (q0O rfl rfl rfl rfl) ?_
  |refine x0Y (q0O rfl rfl rfl rfl) ?_
  |refine v0M (q0k rfl rfl rfl rfl rfl rfl) ?_
  |refine x0Y (q0k rfl rfl rfl rfl rfl rfl) ?_
  |refine v0M (w0j rfl rfl rfl rfl rfl rfl) ?_
  |refine x0Y (w0j rfl rfl rfl rfl rfl rfl) ?_
  |refine v0M (w0q rfl rfl rfl rfl rfl (by simp)) ?_
  |refine x0Y (w0q rfl rfl rfl rfl rfl (by simp)) ?_
  |refine v0M (q0t rfl rfl rfl rfl zO rfl) ?_
  |refine x0Y (q0t rfl rfl rfl rfl zO rfl) ?_
  |refine j0u (z0c rfl rfl rfl zO rfl) rfl ?_
  |refine j0u (z0b rfl rfl rfl zO rfl) rfl ?_
  |refine j0u (v_push_pr rfl rfl rfl zO rfl) rfl ?_
  |refine j0u (Y0c rfl rfl rfl rfl zO) rfl ?_
  |refine j0u (Y0c rfl rfl rfl (Int.toNat_of_nonneg zO).symm zO) rfl ?_
  |refine j0u (j0J 10 rfl) rfl ?_
  |refine j0u (j0J 11 rfl) rfl ?_
  |refine j0u (j0J 12 rfl) rfl ?_
  |refine j0u (j0J 13 rfl) rfl ?_
  |refine j0u (j0J 14 rfl) rfl ?_
  |refine j0u (j0J 15 rfl) rfl ?_
  |refine z0R (j0F 10) rfl rfl ?_
  |refine z0R (j0F 11) rfl rfl ?_
  |refine z0R (j0F 12) rfl rfl ?_
  |refine z0R (j0F 13) rfl rfl ?_
  |refine z0R (j0F 14) rfl rfl ?_
  |refine z0R (j0F 15) rfl rfl ?_
  |refine j0o (j0k (t := 82) (is := [0, 1]) (xs := [_, _]) (vs := [_, _]) (K1H _ _) rfl rfl) rfl ?_
  |refine v0D (j0k (t := 82) (is := [0, 1]) (xs := [_, _]) (vs := [_, _]) (K1H _ _) rfl rfl) rfl ?_
  |refine j0o (j0k (t := 53) (is := [0, 1, 2]) (xs := [_, _, _]) (vs := [_, _, _]) (K1G _ _ _) rfl rfl) rfl ?_
  |refine v0D (j0k (t := 53) (is := [0, 1, 2]) (xs := [_, _, _]) (vs := [_, _, _]) (K1G _ _ _) rfl rfl) rfl ?_
  |refine j0o (j0k (t := 22) (is := [0, 1, 2]) (xs := [_, _, _]) (vs := [_, _, _]) (k1V _ _ _) rfl rfl) rfl ?_
  |refine v0D (j0k (t := 22) (is := [0, 1, 2]) (xs := [_, _, _]) (vs := [_, _, _]) (k1V _ _ _) rfl rfl) rfl ?_
  |refine j0o (j0k (t := 82) (is := []) (xs := []) (vs := []) Z1p rfl rfl) rfl ?_
  |refine v0D (j0k (t := 82) (is := []) (xs := []) (vs := []) Z1p rfl rfl) rfl ?_
  |refine j0o (j0k (t := 53) (is := []) (xs := []) (vs := []) Z1n rfl rfl) rfl ?_
  |refine v0D (j0k (t := 53) (is := []) (xs := []) (vs := []) Z1n rfl rfl) rfl ?_
  |refine j0o (j0k (t := 22) (is := []) (xs := []) (vs := []) Z1k rfl rfl) rfl ?_
  |refine v0D (j0k (t := 22) (is := []) (xs := []) (vs := []) Z1k rfl rfl) rfl ?_
  |refine j0o (j0I (us := [.int _ _, .int _ _, .int _ _, .int _ _, .int _ _]) rfl rfl rfl rfl) rfl ?_
  |refine v0D (j0I (us := [.int _ _, .int _ _, .int _ _, .int _ _, .int _ _]) rfl rfl rfl rfl) rfl ?_
  |refine j0o (j0w (us := [.int _ _, .int _ _, .int _ _, .int _ _, .int _ _]) rfl rfl rfl rfl) rfl ?_
  |refine v0D (j0w (us := [.int _ _, .int _ _, .int _ _, .int _ _, .int _ _]) rfl rfl rfl rfl) rfl ?_
  |refine j0o (j0k (t := 24) (is := [0, 1, 2]) (xs := [_, _, _]) (vs := [.agg #[.int .i64 _, .int .i64 _, .int .i64 _], .int .i64 _, .int .i64 _]) (J1l _ _ _ _ _) rfl rfl) rfl ?_
  |refine v0D (j0k (t := 24) (is := [0, 1, 2]) (xs := [_, _, _]) (vs := [.agg #[.int .i64 _, .int .i64 _, .int .i64 _], .int .i64 _, .int .i64 _]) (J1l _ _ _ _ _) rfl rfl) rfl ?_
  |refine j0o (j0k (t := 24) (is := []) (xs := []) (vs := []) Z1l rfl rfl) rfl ?_
  |refine v0D (j0k (t := 24) (is := []) (xs := []) (vs := []) Z1l rfl rfl) rfl ?_
  |refine j0o (j0k (t := 31) (is := [0, 1, 2]) (xs := [_, _, _]) (vs := [.agg #[.int .i64 _, .int .i64 _, .int .i64 _], .int .i64 _, .int .i64 _]) (J1m _ _ _ _ _) rfl rfl) rfl ?_
  |refine v0D (j0k (t := 31) (is := [0, 1, 2]) (xs := [_, _, _]) (vs := [.agg #[.int .i64 _, .int .i64 _, .int .i64 _], .int .i64 _, .int .i64 _]) (J1m _ _ _ _ _) rfl rfl) rfl ?_
  |refine j0o (j0k (t := 31) (is := []) (xs := []) (vs := []) Z1m rfl rfl) rfl ?_
  |refine v0D (j0k (t := 31) (is := []) (xs := []) (vs := []) Z1m rfl rfl) rfl ?_
  |refine j0o (g_one_pt (t := 76) (K1c _ _) rfl) rfl ?_
  |refine v0D (g_one_pt (t := 76) (K1c _ _) rfl) rfl ?_
  |refine j0o (J0h (t := 40) (Z1Z _) rfl rfl) rfl ?_
  |refine v0D (J0h (t := 40) (Z1Z _) rfl rfl) rfl ?_
  |refine j0o (J0h (t := 40) (Z1Z _) rfl zO) rfl ?_
  |refine v0D (J0h (t := 40) (Z1Z _) rfl zO) rfl ?_
  |refine j0o (Q0Z rfl) rfl ?_
  |refine v0D (Q0Z rfl) rfl ?_
  |refine j0o (g_bound_v rfl) rfl ?_
  |refine v0D (g_bound_v rfl) rfl ?_
  |refine j0o (g_callfx rfl rfl (by assumption)) rfl ?_
  |refine v0D (g_callfx rfl rfl (by assumption)) rfl ?_)
 exact hk_.out) : A := k ⟨b⟩
end Go.Proofs.YtgblokifbgeegaaGreatDoor
