/- A part of the proof. -/
import Derived.Test.YtfggdokihnopeaaGreatDoorBag
import Derived.Test.YtfggdokihnopeaaGreatDoorBah
set_option linter.unusedVariables false
set_option linter.unusedSimpArgs false
namespace Go.Proofs.YtfggdokihnopeaaGreatDoor
open Go Go.Vc Go.RowKit
theorem J1F : Tryz.prog.built 209 [] = some #[.int .i64 0, .int .i64 0] := by kernel_rfl
theorem z1i : Tryz.prog.built 43 [] = some #[.int .i64 0, .int .i64 0, .int .i64 0] := by kernel_rfl
theorem Y1X : Tryz.prog.built 22 [] = some #[.int .i64 0, .int .i64 0, .int .i64 0] := by kernel_rfl
theorem J1G : Tryz.prog.built 257 [] = some #[.int .i64 0, .int .i64 0] := by kernel_rfl
theorem J1I : Tryz.prog.built 318 [] = some #[.int .i64 0, .int .i64 0, .int .i64 0] := by kernel_rfl
set_option maxRecDepth 20000 in
theorem wt {A B : Prop} (b : B) (k : Bx B → A := by
 intro hk_
 repeat (first
  |((first | apply j0j | apply q0n); exact gwl; exact rfl)
  |refine v0D ?_
  |refine j0V ?_
  |refine J0i ?_
  |refine K0l ?_
  |refine Q0F ?_
  |refine J0Q ?_
  |refine k0c ?_
  |refine J0h ?_
  |refine V0Z ?_
  |refine x0f ?_
  |refine w0u ?_
  |refine v0A ?_
  |refine v0m ?_
  |refine sq_inBlock_other rfl ?_
  |refine x0Y ?_
  |refine y0E rfl ?_
  |refine y0D rfl ?_
  |refine cq_cond_cf ?_
  |refine cq_cond_ct ?_
  |refine k0h tm (by kernel_rfl) ?_
  |refine K0m rfl rfl rfl rfl ?_
  |refine k0i nofun rfl rfl rfl rfl ?_
  |((first | apply x0I | apply y1g); exact gwl; exact rfl; exact rfl; exact rfl)
  |refine W0L rfl rfl rfl ?_
  |refine dq_offu nofun rfl rfl rfl ?_
  |refine q0M (Q0g rfl rfl rfl rfl rfl) ?_
  |refine y0y (Q0g rfl rfl rfl rfl rfl) ?_
  |refine q0M (v0N rfl rfl rfl rfl zO) ?_
  |refine y0y (v0N rfl rfl rfl rfl zO) ?_
  |refine q0M (q0Z rfl rfl rfl rfl) ?_
  |refine y0y (q0Z rfl rfl rfl rfl) ?_
  |refine q0M (q0Y rfl rfl rfl rfl) ?_
  |refine y0y (q0Y rfl rfl rfl rfl) ?_
  |refine q0M (q0D rfl rfl rfl rfl rfl rfl) ?_
  |refine y0y (q0D rfl rfl rfl rfl rfl rfl) ?_
  |refine q0M (w0m rfl rfl rfl rfl rfl rfl) ?_
  |refine y0y (w0m rfl rfl rfl rfl rfl rfl) ?_
  |refine q0M (w0X rfl rfl rfl rfl rfl (by simp)) ?_
  |refine y0y (w0X rfl rfl rfl rfl rfl (by simp)) ?_
  |refine q0M (g_store_oel rfl rfl rfl rfl zO rfl) ?_
  |refine y0y (g_store_oel rfl rfl rfl rfl zO rfl) ?_
  |refine j0C (z0h rfl rfl rfl zO rfl) rfl ?_
  |refine j0C (z0g rfl rfl rfl zO rfl) rfl ?_
  |refine j0C (v_push_pr rfl rfl rfl zO rfl) rfl ?_
  |refine j0C (Y0A rfl rfl rfl rfl zO) rfl ?_
  |refine j0C (Y0A rfl rfl rfl (Int.toNat_of_nonneg zO).symm zO) rfl ?_
  |refine j0C (q0b 10 rfl) rfl ?_
  |refine j0C (q0b 11 rfl) rfl ?_
  |refine j0C (q0b 12 rfl) rfl ?_
  |refine j0C (q0b 13 rfl) rfl ?_
  |refine j0C (q0b 14 rfl) rfl ?_
  |refine j0C (q0b 15 rfl) rfl ?_
  |refine x0l (j0O 10) rfl rfl ?_
  |refine x0l (j0O 11) rfl rfl ?_
  |refine x0l (j0O 12) rfl rfl ?_
  |refine x0l (j0O 13) rfl rfl ?_
  |refine x0l (j0O 14) rfl rfl ?_
  |refine x0l (j0O 15) rfl rfl ?_
  |refine j0j (j0n (t := 209) (is := [0, 1]) (xs := [_, _]) (vs := [_, _]) (Y1W _ _) rfl rfl) rfl ?_
  |refine q0n (j0n (t := 209) (is := [0, 1]) (xs := [_, _]) (vs := [_, _]) (Y1W _ _) rfl rfl) rfl ?_
  |refine j0j (j0n (t := 257) (is := [0, 1]) (xs := [_, _]) (vs := [_, _]) (Y1Y _ _) rfl rfl) rfl ?_
  |refine q0n (j0n (t := 257) (is := [0, 1]) (xs := [_, _]) (vs := [_, _]) (Y1Y _ _) rfl rfl) rfl ?_
  |refine j0j (j0n (t := 43) (is := [0, 1, 2]) (xs := [_, _, _]) (vs := [_, _, _]) (Z0t _ _ _) rfl rfl) rfl ?_
  |refine q0n (j0n (t := 43) (is := [0, 1, 2]) (xs := [_, _, _]) (vs := [_, _, _]) (Z0t _ _ _) rfl rfl) rfl ?_
  |refine j0j (j0n (t := 22) (is := [0, 1, 2]) (xs := [_, _, _]) (vs := [_, _, _]) (K1t _ _ _) rfl rfl) rfl ?_
  |refine q0n (j0n (t := 22) (is := [0, 1, 2]) (xs := [_, _, _]) (vs := [_, _, _]) (K1t _ _ _) rfl rfl) rfl ?_
  |refine j0j (j0n (t := 318) (is := [0, 1, 2]) (xs := [_, _, _]) (vs := [_, _, _]) (Z1b _ _ _) rfl rfl) rfl ?_
  |refine q0n (j0n (t := 318) (is := [0, 1, 2]) (xs := [_, _, _]) (vs := [_, _, _]) (Z1b _ _ _) rfl rfl) rfl ?_
  |refine j0j (j0n (t := 209) (is := []) (xs := []) (vs := []) J1F rfl rfl) rfl ?_
  |refine q0n (j0n (t := 209) (is := []) (xs := []) (vs := []) J1F rfl rfl) rfl ?_
  |refine j0j (j0n (t := 43) (is := []) (xs := []) (vs := []) z1i rfl rfl) rfl ?_
  |refine q0n (j0n (t := 43) (is := []) (xs := []) (vs := []) z1i rfl rfl) rfl ?_
  |refine j0j (j0n (t := 22) (is := []) (xs := []) (vs := []) Y1X rfl rfl) rfl ?_
  |refine q0n (j0n (t := 22) (is := []) (xs := []) (vs := []) Y1X rfl rfl) rfl ?_
  |refine j0j (j0n (t := 257) (is := []) (xs := []) (vs := []) J1G rfl rfl) rfl ?_
  |refine q0n (j0n (t := 257) (is := []) (xs := []) (vs := []) J1G rfl rfl) rfl ?_
  |refine j0j (j0n (t := 318) (is := []) (xs := []) (vs := []) J1I rfl rfl) rfl ?_
  |refine q0n (j0n (t := 318) (is := []) (xs := []) (vs := []) J1I rfl rfl) rfl ?_
  |refine j0j (k0z (t := 136) (Z1i _ _) rfl) rfl ?_
  |refine q0n (k0z (t := 136) (Z1i _ _) rfl) rfl ?_
  |refine j0j (J0p (t := 37) (Z1Q _) rfl rfl) rfl ?_
  |refine q0n (J0p (t := 37) (Z1Q _) rfl rfl) rfl ?_
  |refine j0j (J0p (t := 37) (Z1Q _) rfl zO) rfl ?_
  |refine q0n (J0p (t := 37) (Z1Q _) rfl zO) rfl ?_
  |refine j0j (x0R rfl) rfl ?_
  |refine q0n (x0R rfl) rfl ?_
  |refine j0j (X0F rfl) rfl ?_
  |refine q0n (X0F rfl) rfl ?_
  |refine j0j (k0w rfl rfl (by assumption)) rfl ?_
  |refine q0n (k0w rfl rfl (by assumption)) rfl ?_)
 exact hk_.out) : A := k ⟨b⟩
end Go.Proofs.YtfggdokihnopeaaGreatDoor
