/- A part of the proof. -/
import Derived.Test.YtgepmbjmaljgoaaGreatDoorBay
set_option linter.unusedVariables false
set_option linter.unusedSimpArgs false
namespace Go.Proofs.YtgepmbjmaljgoaaGreatDoor.H
open Go Go.Vc Go.RowKit
open Go.Na (rtx LR chkR_rtx chkR rsg)
set_option maxHeartbeats 4000000
theorem restA_cases (l : List Tr) (a : Int) (p : Pt) (hf : fewB l = true) : (∃ e, restA l a p = tupOf [pZ, vb false, vi e]) ∨ (∃ (k : Nat) (P : Pl), P.s.length ≤ 1000 ∧ restA l a p = tupOf [pR k P, vb true, vi 0]) := by
 unfold restA
 split
 ·exact .inl ⟨_, rfl⟩
 ·rename_i hg
  obtain ⟨hR, hn6, k, hk, rfl⟩ := few_of hf (Decidable.not_not.1 hg)
  split
  ·exact .inl ⟨_, rfl⟩
  ·split
   ·exact .inl ⟨_, rfl⟩
   ·rw [Int.toNat_natCast]
    cases h : (candP l k).find? (bearB l k p) with
    |none => exact .inl ⟨_, rfl⟩
    |some P =>
     refine .inr ⟨k, P, ?_, rfl⟩
     have h1 := onL_len' l k P.A P.B P.C l.length
     rw [(cand_on hk (List.mem_of_find?_eq_some h)).1]; omega
theorem same_z : CtrA Tryz.prog 20 [pZ, pZ] (vb true) := by
 have h : CtrA Tryz.prog 54 [nilP, nilP] (vb true) := (same_c (fun _ => 0) (fun _ => 0) 0 0 zO zO).of ⟨.nil, .nil, trivial⟩
 refine ctrA _ Tryz.func20 rfl rfl Tryz.ntmps20 rfl fun w Z => ?_
 refine zU ?_
 refine wt ?_
 exact zV
theorem rests_law (l : List Tr) (a : Int) (p : Pt) : CtrA Tryz.prog 4 [ts l, vi a, pp p] (vb true) := by
 have haw := awake_c
 have hfw := fews_c l
 cases hf : fewB l with
 |false =>
  rw [hf] at hfw
  refine ctrA _ Tryz.func4 rfl rfl Tryz.ntmps4 rfl fun w Z => ?_
  refine zU ?_
  refine wt ?_
  exact zV
 |true =>
  rw [hf] at hfw
  have h1 := resting_c l a p hf
  have h2 := rresting_c l a p hf
  have b0 : (true == true) = true := rfl
  have b2 : (false == false) = true := rfl
  rcases restA_cases l a p hf with ⟨e, hA⟩ | ⟨k, P, h3, hA⟩
  ·rw [hA] at h1 h2
   have hs := same_z
   have b1 : (e == e) = true := by simp
   refine ctrA _ Tryz.func4 rfl rfl Tryz.ntmps4 rfl fun w Z => ?_
   refine zU ?_
   refine wt ?_
   refine sq_g (g_load_own_agg (us := [.int .i64 0, .string (bs []), .string (bs []), .string (bs []), .slice none 0 0]) rfl rfl rfl rfl) rfl ?_
   refine wt ?_
   refine sq_g (g_load_own_agg (us := [.int .i64 0, .string (bs []), .string (bs []), .string (bs []), .slice none 0 0]) rfl rfl rfl rfl) rfl ?_
   refine wt ?_
   rw [b1]
   refine wt ?_
   exact zV
  ·rw [hA] at h1 h2
   have hs := same_self k P h3
   refine ctrA _ Tryz.func4 rfl rfl Tryz.ntmps4 rfl fun w Z => ?_
   refine zU ?_
   refine wt ?_
   refine sq_s (g_store_aggv rfl rfl (pAf_one _ _ _ _ _) rfl rfl) ?_
   refine wt ?_
   refine sq_s (g_store_aggv rfl rfl (pAf_one _ _ _ _ _) rfl rfl) ?_
   refine wt ?_
   refine sq_g (g_load_own_aggv (f := pAf k (rtx P.A) (rtx P.B) (rtx P.C) (idx P.s)) rfl rfl rfl) rfl ?_
   refine wt ?_
   refine sq_g (g_load_own_aggv (f := pAf k (rtx P.A) (rtx P.B) (rtx P.C) (idx P.s)) rfl rfl rfl) rfl ?_
   refine wt ?_
   exact zV
end Go.Proofs.YtgepmbjmaljgoaaGreatDoor.H
