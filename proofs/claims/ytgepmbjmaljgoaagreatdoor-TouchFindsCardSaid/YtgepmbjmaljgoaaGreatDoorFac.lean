/- A part of the proof. -/
import Derived.Test.YtgepmbjmaljgoaaGreatDoorBay
set_option linter.unusedVariables false
set_option linter.unusedSimpArgs false
namespace Go.Proofs.YtgepmbjmaljgoaaGreatDoor.H
open Go Go.Vc Go.RowKit
open Go.Na (rtx LR chkR_rtx chkR rsg)
set_option maxHeartbeats 4000000
theorem finds_law (l : List Tr) (a : Int) : CtrA Tryz.prog 3 [ts l, vi a] (vb true) := by
 have haw := awake_c
 have hfw := fews_c l
 cases hf : fewB l with
 |false =>
  rw [hf] at hfw
  refine ctrA _ Tryz.func3 rfl rfl Tryz.ntmps3 rfl fun w Z => ?_
  refine zU ?_
  refine wt ?_
  exact zV
 |true =>
  rw [hf] at hfw
  have h1 := candidates_c l a hf
  have h2 := rcand_c l a hf
  have h3 := rocks_c l a hf
  have b1 : (cndE l a == cndE l a) = true := by simp
  rcases candX_cases l a with ⟨hx, hL⟩ | ⟨hx, hE⟩
  ·rw [hx] at h1 h2
   rw [hL] at h3
   have hp : CtrA Tryz.prog 17 [nilP] (plA (0 : Nat) []) := (planes_c 0 [] (by simp)).of ⟨.nil, trivial⟩
   have hs : CtrA Tryz.prog 16 [plA (0 : Nat) [], nilP] (vb true) := (sameall_c 0 [] (by simp) (by simp)).of ⟨.refl _, .nil, trivial⟩
   generalize cndE l a = e at *
   refine ctrA _ Tryz.func3 rfl rfl Tryz.ntmps3 rfl fun w Z => ?_
   refine zU ?_
   refine wt ?_
   rw [b1]
   refine wt ?_
   rw [b1]
   refine wt ?_
   exact zV
  ·have hg : givE l a = 0 := by
    by_cases h : givE l a = 0
    ·exact h
    ·unfold cndE at hE; rw [if_pos h] at hE; exact absurd hE h
   obtain ⟨hR, h6, k, hk, rfl⟩ := few_of hf hg
   rw [hx, hE] at h1 h2
   rw [hE] at h3
   have hcl : (cndL l k).length ≤ 729 ∧ ∀ P ∈ cndL l k, P.s.length ≤ 1000 := by
    unfold cndL
    rw [if_neg (fun h => h hg)]
    split
    ·simp
    ·split
     ·simp
     ·rw [Int.toNat_natCast]
      exact ⟨cand_len k zO, fun P hP => by
       have h1 := onL_len' l k P.A P.B P.C l.length
       rw [(cand_on hk hP).1]; omega⟩
   have hp := planes_c k (cndL l k) zO
   have hs := sameall_c k (cndL l k) zO hcl.2
   have hdd : (decide (1 < (cndL l k).length) == decide (1 < ((cndL l k).length : Int))) = true := by
    rw [beq_iff_eq, Bool.eq_iff_iff]; simp; omega
   generalize cndL l k = L at *
   refine ctrA _ Tryz.func3 rfl rfl Tryz.ntmps3 rfl fun w Z => ?_
   refine zU ?_
   refine wt ?_
   rw [hdd]
   refine wt ?_
   exact zV
end Go.Proofs.YtgepmbjmaljgoaaGreatDoor.H
