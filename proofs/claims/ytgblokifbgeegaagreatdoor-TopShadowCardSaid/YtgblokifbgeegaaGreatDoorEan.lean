/- A part of the proof. -/
import Derived.Test.YtgblokifbgeegaaGreatDoorEam
set_option linter.unusedVariables false
set_option linter.unusedSimpArgs false
namespace Go.Proofs.YtgblokifbgeegaaGreatDoor
open Go Go.Vc Go.RowKit
theorem k1I : Tryz.prog.built 82 [] = some #[.int .i64 0, .int .i64 0] := by kernel_rfl
theorem k1G : Tryz.prog.built 53 [] = some #[.int .i64 0, .int .i64 0, .int .i64 0] := by kernel_rfl
theorem k1C : Tryz.prog.built 22 [] = some #[.int .i64 0, .int .i64 0, .int .i64 0] := by kernel_rfl
theorem k1D : Tryz.prog.built 24 [] = some #[.int .i64 0, .int .i64 0, .int .i64 0, .int .i64 0, .int .i64 0] := by kernel_rfl
theorem Q1o (x y z a b : Int) : Tryz.prog.built 24 [(0, .agg #[.int .i64 x, .int .i64 y, .int .i64 z]), (1, .int .i64 a), (2, .int .i64 b)] = some #[.int .i64 x, .int .i64 y, .int .i64 z, .int .i64 a, .int .i64 b] := by kernel_rfl
theorem k1E : Tryz.prog.built 31 [] = some #[.int .i64 0, .int .i64 0, .int .i64 0, .int .i64 0, .int .i64 0] := by kernel_rfl
theorem Q1p (x y z a b : Int) : Tryz.prog.built 31 [(0, .agg #[.int .i64 x, .int .i64 y, .int .i64 z]), (1, .int .i64 a), (2, .int .i64 b)] = some #[.int .i64 x, .int .i64 y, .int .i64 z, .int .i64 a, .int .i64 b] := by kernel_rfl
set_option maxRecDepth 20000 in
theorem wt {A B : Prop} (b : B) (k : Bx B → A := by
 intro hk_
 repeat (first
  |((first | apply j0n | apply v0x); exact gwl; exact rfl)
  |refine y0F ?_
  |refine q0C ?_
  |refine J0k ?_
  |refine K0o ?_
  |refine Q0L ?_
  |refine J0O ?_
  |refine Z0Y ?_
  |refine J0j ?_
  |refine V0Z ?_
  |refine x0e ?_
  |refine w0u ?_
  |refine v0z ?_
  |refine v0g ?_
  |refine sq_inBlock_other rfl ?_
  |refine x0R ?_
  |refine y0E rfl ?_
  |refine y0D rfl ?_
  |refine cq_cond_cf ?_
  |refine cq_cond_ct ?_
  |refine k0f tm (by kernel_rfl) ?_
  |refine K0p rfl rfl rfl rfl ?_
  |refine k0g nofun rfl rfl rfl rfl ?_
  |((first | apply Y0n | apply Q0U); exact gwl; exact rfl; exact rfl; exact rfl)
  |refine W0L rfl rfl rfl ?_
  |refine W0c nofun rfl rfl rfl ?_
  |refine v0P (Q0d rfl rfl rfl rfl rfl) ?_
  |refine y0g (Q0d rfl rfl rfl rfl rfl) ?_
  |refine v0P (v0T rfl rfl rfl rfl zO) ?_
  |refine y0g (v0T rfl rfl rfl rfl zO) ?_
  |refine v0P (q0P rfl rfl rfl rfl) ?_
  |refine y0g (q0P rfl rfl rfl rfl) ?_
  |refine v0P (q0O rfl rfl rfl rfl) ?_
  |refine y0g (q0O rfl rfl rfl rfl) ?_
  |refine v0P (q0m rfl rfl rfl rfl rfl rfl) ?_
  |refine y0g (q0m rfl rfl rfl rfl rfl rfl) ?_
  |refine v0P (w0p rfl rfl rfl rfl rfl rfl) ?_
  |refine y0g (w0p rfl rfl rfl rfl rfl rfl) ?_
  |refine v0P (w0b rfl rfl rfl rfl rfl (by simp)) ?_
  |refine y0g (w0b rfl rfl rfl rfl rfl (by simp)) ?_
  |refine v0P (q0u rfl rfl rfl rfl zO rfl) ?_
  |refine y0g (q0u rfl rfl rfl rfl zO rfl) ?_
  |refine j0u (z0n rfl rfl rfl zO rfl) rfl ?_
  |refine j0u (z0m rfl rfl rfl zO rfl) rfl ?_
  |refine j0u (v_push_pr rfl rfl rfl zO rfl) rfl ?_
  |refine j0u (Y0x rfl rfl rfl rfl zO) rfl ?_
  |refine j0u (Y0x rfl rfl rfl (Int.toNat_of_nonneg zO).symm zO) rfl ?_
  |refine j0u (j0J 10 rfl) rfl ?_
  |refine j0u (j0J 11 rfl) rfl ?_
  |refine j0u (j0J 12 rfl) rfl ?_
  |refine j0u (j0J 13 rfl) rfl ?_
  |refine j0u (j0J 14 rfl) rfl ?_
  |refine j0u (j0J 15 rfl) rfl ?_
  |refine z0Y (j0H 10) rfl rfl ?_
  |refine z0Y (j0H 11) rfl rfl ?_
  |refine z0Y (j0H 12) rfl rfl ?_
  |refine z0Y (j0H 13) rfl rfl ?_
  |refine z0Y (j0H 14) rfl rfl ?_
  |refine z0Y (j0H 15) rfl rfl ?_
  |refine j0n (j0j (t := 82) (is := [0, 1]) (xs := [_, _]) (vs := [_, _]) (j2S _ _) rfl rfl) rfl ?_
  |refine v0x (j0j (t := 82) (is := [0, 1]) (xs := [_, _]) (vs := [_, _]) (j2S _ _) rfl rfl) rfl ?_
  |refine j0n (j0j (t := 53) (is := [0, 1, 2]) (xs := [_, _, _]) (vs := [_, _, _]) (j2R _ _ _) rfl rfl) rfl ?_
  |refine v0x (j0j (t := 53) (is := [0, 1, 2]) (xs := [_, _, _]) (vs := [_, _, _]) (j2R _ _ _) rfl rfl) rfl ?_
  |refine j0n (j0j (t := 22) (is := [0, 1, 2]) (xs := [_, _, _]) (vs := [_, _, _]) (j2Q _ _ _) rfl rfl) rfl ?_
  |refine v0x (j0j (t := 22) (is := [0, 1, 2]) (xs := [_, _, _]) (vs := [_, _, _]) (j2Q _ _ _) rfl rfl) rfl ?_
  |refine j0n (j0j (t := 82) (is := []) (xs := []) (vs := []) k1I rfl rfl) rfl ?_
  |refine v0x (j0j (t := 82) (is := []) (xs := []) (vs := []) k1I rfl rfl) rfl ?_
  |refine j0n (j0j (t := 53) (is := []) (xs := []) (vs := []) k1G rfl rfl) rfl ?_
  |refine v0x (j0j (t := 53) (is := []) (xs := []) (vs := []) k1G rfl rfl) rfl ?_
  |refine j0n (j0j (t := 22) (is := []) (xs := []) (vs := []) k1C rfl rfl) rfl ?_
  |refine v0x (j0j (t := 22) (is := []) (xs := []) (vs := []) k1C rfl rfl) rfl ?_
  |refine j0n (j0v (us := [.int _ _, .int _ _, .int _ _, .int _ _, .int _ _]) rfl rfl rfl rfl) rfl ?_
  |refine v0x (j0v (us := [.int _ _, .int _ _, .int _ _, .int _ _, .int _ _]) rfl rfl rfl rfl) rfl ?_
  |refine j0n (j0o (us := [.int _ _, .int _ _, .int _ _, .int _ _, .int _ _]) rfl rfl rfl rfl) rfl ?_
  |refine v0x (j0o (us := [.int _ _, .int _ _, .int _ _, .int _ _, .int _ _]) rfl rfl rfl rfl) rfl ?_
  |refine j0n (j0j (t := 24) (is := [0, 1, 2]) (xs := [_, _, _]) (vs := [.agg #[.int .i64 _, .int .i64 _, .int .i64 _], .int .i64 _, .int .i64 _]) (Q1o _ _ _ _ _) rfl rfl) rfl ?_
  |refine v0x (j0j (t := 24) (is := [0, 1, 2]) (xs := [_, _, _]) (vs := [.agg #[.int .i64 _, .int .i64 _, .int .i64 _], .int .i64 _, .int .i64 _]) (Q1o _ _ _ _ _) rfl rfl) rfl ?_
  |refine j0n (j0j (t := 24) (is := []) (xs := []) (vs := []) k1D rfl rfl) rfl ?_
  |refine v0x (j0j (t := 24) (is := []) (xs := []) (vs := []) k1D rfl rfl) rfl ?_
  |refine j0n (j0j (t := 31) (is := [0, 1, 2]) (xs := [_, _, _]) (vs := [.agg #[.int .i64 _, .int .i64 _, .int .i64 _], .int .i64 _, .int .i64 _]) (Q1p _ _ _ _ _) rfl rfl) rfl ?_
  |refine v0x (j0j (t := 31) (is := [0, 1, 2]) (xs := [_, _, _]) (vs := [.agg #[.int .i64 _, .int .i64 _, .int .i64 _], .int .i64 _, .int .i64 _]) (Q1p _ _ _ _ _) rfl rfl) rfl ?_
  |refine j0n (j0j (t := 31) (is := []) (xs := []) (vs := []) k1E rfl rfl) rfl ?_
  |refine v0x (j0j (t := 31) (is := []) (xs := []) (vs := []) k1E rfl rfl) rfl ?_
  |refine j0n (g_one_pt (t := 76) (X1X _ _) rfl) rfl ?_
  |refine v0x (g_one_pt (t := 76) (X1X _ _) rfl) rfl ?_
  |refine j0n (J0p (t := 40) (K1u _) rfl rfl) rfl ?_
  |refine v0x (J0p (t := 40) (K1u _) rfl rfl) rfl ?_
  |refine j0n (J0p (t := 40) (K1u _) rfl zO) rfl ?_
  |refine v0x (J0p (t := 40) (K1u _) rfl zO) rfl ?_
  |refine j0n (V0h rfl) rfl ?_
  |refine v0x (V0h rfl) rfl ?_
  |refine j0n (g_bound_v rfl) rfl ?_
  |refine v0x (g_bound_v rfl) rfl ?_
  |refine j0n (g_callfx rfl rfl (by assumption)) rfl ?_
  |refine v0x (g_callfx rfl rfl (by assumption)) rfl ?_)
 exact hk_.out) : A := k ⟨b⟩
end Go.Proofs.YtgblokifbgeegaaGreatDoor
