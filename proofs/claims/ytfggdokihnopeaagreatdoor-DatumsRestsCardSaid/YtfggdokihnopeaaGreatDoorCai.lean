/- A part of the proof. -/
import Derived.Test.YtfggdokihnopeaaGreatDoorCag
import Derived.Test.YtfggdokihnopeaaGreatDoorCah
set_option linter.unusedVariables false
set_option linter.unusedSimpArgs false
namespace Go.Proofs.YtfggdokihnopeaaGreatDoor
open Go Go.Vc Go.RowKit
theorem z1q : Tryz.prog.built 209 [] = some #[.int .i64 0, .int .i64 0] := by kernel_rfl
theorem x1V : Tryz.prog.built 43 [] = some #[.int .i64 0, .int .i64 0, .int .i64 0] := by kernel_rfl
theorem X1p : Tryz.prog.built 22 [] = some #[.int .i64 0, .int .i64 0, .int .i64 0] := by kernel_rfl
theorem z1r : Tryz.prog.built 257 [] = some #[.int .i64 0, .int .i64 0] := by kernel_rfl
theorem z1t : Tryz.prog.built 318 [] = some #[.int .i64 0, .int .i64 0, .int .i64 0] := by kernel_rfl
set_option maxRecDepth 20000 in
theorem wt {A B : Prop} (b : B) (k : Bx B → A := by
 intro hk_
 repeat (first
  |((first | apply j0j | apply q0H); exact gwl; exact rfl)
  |refine v0y ?_
  |refine j0T ?_
  |refine z0K ?_
  |refine k0o ?_
  |refine J0Y ?_
  |refine J0q ?_
  |refine Z0g ?_
  |refine z0J ?_
  |refine V0m ?_
  |refine w0K ?_
  |refine w0f ?_
  |refine v0v ?_
  |refine v0h ?_
  |refine sq_inBlock_other rfl ?_
  |refine x0E ?_
  |refine y0h rfl ?_
  |refine y0g rfl ?_
  |refine cq_cond_cf ?_
  |refine cq_cond_ct ?_
  |refine Z0k tm (by kernel_rfl) ?_
  |refine k0p rfl rfl rfl rfl ?_
  |refine Z0l nofun rfl rfl rfl rfl ?_
  |((first | apply x0m | apply w1V); exact gwl; exact rfl; exact rfl; exact rfl)
  |refine V0X rfl rfl rfl ?_
  |refine dq_offu nofun rfl rfl rfl ?_
  |refine q0U (J0D rfl rfl rfl rfl rfl) ?_
  |refine y0b (J0D rfl rfl rfl rfl rfl) ?_
  |refine q0U (v0G rfl rfl rfl rfl zO) ?_
  |refine y0b (v0G rfl rfl rfl rfl zO) ?_
  |refine q0U (q0S rfl rfl rfl rfl) ?_
  |refine y0b (q0S rfl rfl rfl rfl) ?_
  |refine q0U (q0R rfl rfl rfl rfl) ?_
  |refine y0b (q0R rfl rfl rfl rfl) ?_
  |refine q0U (q0x rfl rfl rfl rfl rfl rfl) ?_
  |refine y0b (q0x rfl rfl rfl rfl rfl rfl) ?_
  |refine q0U (w0a rfl rfl rfl rfl rfl rfl) ?_
  |refine y0b (w0a rfl rfl rfl rfl rfl rfl) ?_
  |refine q0U (w0F rfl rfl rfl rfl rfl (by simp)) ?_
  |refine y0b (w0F rfl rfl rfl rfl rfl (by simp)) ?_
  |refine q0U (q0y rfl rfl rfl rfl zO rfl) ?_
  |refine y0b (q0y rfl rfl rfl rfl zO rfl) ?_
  |refine j0A (y0H rfl rfl rfl zO rfl) rfl ?_
  |refine j0A (y0G rfl rfl rfl zO rfl) rfl ?_
  |refine j0A (v_push_pr rfl rfl rfl zO rfl) rfl ?_
  |refine j0A (X0I rfl rfl rfl rfl zO) rfl ?_
  |refine j0A (X0I rfl rfl rfl (Int.toNat_of_nonneg zO).symm zO) rfl ?_
  |refine j0A (j0X 10 rfl) rfl ?_
  |refine j0A (j0X 11 rfl) rfl ?_
  |refine j0A (j0X 12 rfl) rfl ?_
  |refine j0A (j0X 13 rfl) rfl ?_
  |refine j0A (j0X 14 rfl) rfl ?_
  |refine j0A (j0X 15 rfl) rfl ?_
  |refine y0k (j0K 10) rfl rfl ?_
  |refine y0k (j0K 11) rfl rfl ?_
  |refine y0k (j0K 12) rfl rfl ?_
  |refine y0k (j0K 13) rfl rfl ?_
  |refine y0k (j0K 14) rfl rfl ?_
  |refine y0k (j0K 15) rfl rfl ?_
  |refine j0j (j0m (t := 209) (is := [0, 1]) (xs := [_, _]) (vs := [_, _]) (X1o _ _) rfl rfl) rfl ?_
  |refine q0H (j0m (t := 209) (is := [0, 1]) (xs := [_, _]) (vs := [_, _]) (X1o _ _) rfl rfl) rfl ?_
  |refine j0j (j0m (t := 257) (is := [0, 1]) (xs := [_, _]) (vs := [_, _]) (X1q _ _) rfl rfl) rfl ?_
  |refine q0H (j0m (t := 257) (is := [0, 1]) (xs := [_, _]) (vs := [_, _]) (X1q _ _) rfl rfl) rfl ?_
  |refine j0j (j0m (t := 43) (is := [0, 1, 2]) (xs := [_, _, _]) (vs := [_, _, _]) (tb43 _ _ _) rfl rfl) rfl ?_
  |refine q0H (j0m (t := 43) (is := [0, 1, 2]) (xs := [_, _, _]) (vs := [_, _, _]) (tb43 _ _ _) rfl rfl) rfl ?_
  |refine j0j (j0m (t := 22) (is := [0, 1, 2]) (xs := [_, _, _]) (vs := [_, _, _]) (Z1M _ _ _) rfl rfl) rfl ?_
  |refine q0H (j0m (t := 22) (is := [0, 1, 2]) (xs := [_, _, _]) (vs := [_, _, _]) (Z1M _ _ _) rfl rfl) rfl ?_
  |refine j0j (j0m (t := 318) (is := [0, 1, 2]) (xs := [_, _, _]) (vs := [_, _, _]) (X1t _ _ _) rfl rfl) rfl ?_
  |refine q0H (j0m (t := 318) (is := [0, 1, 2]) (xs := [_, _, _]) (vs := [_, _, _]) (X1t _ _ _) rfl rfl) rfl ?_
  |refine j0j (j0m (t := 209) (is := []) (xs := []) (vs := []) z1q rfl rfl) rfl ?_
  |refine q0H (j0m (t := 209) (is := []) (xs := []) (vs := []) z1q rfl rfl) rfl ?_
  |refine j0j (j0m (t := 43) (is := []) (xs := []) (vs := []) x1V rfl rfl) rfl ?_
  |refine q0H (j0m (t := 43) (is := []) (xs := []) (vs := []) x1V rfl rfl) rfl ?_
  |refine j0j (j0m (t := 22) (is := []) (xs := []) (vs := []) X1p rfl rfl) rfl ?_
  |refine q0H (j0m (t := 22) (is := []) (xs := []) (vs := []) X1p rfl rfl) rfl ?_
  |refine j0j (j0m (t := 257) (is := []) (xs := []) (vs := []) z1r rfl rfl) rfl ?_
  |refine q0H (j0m (t := 257) (is := []) (xs := []) (vs := []) z1r rfl rfl) rfl ?_
  |refine j0j (j0m (t := 318) (is := []) (xs := []) (vs := []) z1t rfl rfl) rfl ?_
  |refine q0H (j0m (t := 318) (is := []) (xs := []) (vs := []) z1t rfl rfl) rfl ?_
  |refine j0j (Z0D (t := 136) (X1B _ _) rfl) rfl ?_
  |refine q0H (Z0D (t := 136) (X1B _ _) rfl) rfl ?_
  |refine j0j (z0R (t := 37) (Y1l _) rfl rfl) rfl ?_
  |refine q0H (z0R (t := 37) (Y1l _) rfl rfl) rfl ?_
  |refine j0j (z0R (t := 37) (Y1l _) rfl zO) rfl ?_
  |refine q0H (z0R (t := 37) (Y1l _) rfl zO) rfl ?_
  |refine j0j (x0v rfl) rfl ?_
  |refine q0H (x0v rfl) rfl ?_
  |refine j0j (W0R rfl) rfl ?_
  |refine q0H (W0R rfl) rfl ?_
  |refine j0j (Z0A rfl rfl (by assumption)) rfl ?_
  |refine q0H (Z0A rfl rfl (by assumption)) rfl ?_)
 exact hk_.out) : A := k ⟨b⟩
end Go.Proofs.YtfggdokihnopeaaGreatDoor
