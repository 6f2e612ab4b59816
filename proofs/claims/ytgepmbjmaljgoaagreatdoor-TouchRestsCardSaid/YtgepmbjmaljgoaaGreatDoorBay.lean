/- A part of the proof. -/
import Derived.Test.YtgepmbjmaljgoaaGreatDoorBax
set_option linter.unusedVariables false
set_option linter.unusedSimpArgs false
namespace Go.Proofs.YtgepmbjmaljgoaaGreatDoor.H
open Go Go.Vc Go.RowKit
open Go.Na (rtx LR chkR_rtx chkR rsg)
set_option maxHeartbeats 4000000
abbrev nilP : AV := .val (.slice none 0 0)
theorem rgiven_bad (l : List Tr) (a : Int) (hn : l.length ≤ 1000) (hg : givE l a ≠ 0) : CtrA Tryz.prog 47 [ts l, vi a] (vi (givE l a)) := by
 have h1 := rpoints_c l a hn
 refine ctrA _ Tryz.func47 rfl rfl Tryz.ntmps47 rfl fun w Z => ?_
 refine zU ?_
 refine wt ?_
 (refine cq_cond rfl ?_ ?_ <;> intro hb <;> (try simp only [zA, zB, zG, zC, zD, zN] at hb) <;> (try (exfalso; omega)))
 ·refine wt ?_
  exact zV
theorem few_n {l : List Tr} (h : fewB l = true) : l.length ≤ 1000 := by unfold fewB at h; simp at h; omega
theorem rcand_c (l : List Tr) (a : Int) (hf : fewB l = true) : CtrA Tryz.prog 14 [ts l, vi a] (candX l a) := by
 by_cases hg : givE l a = 0
 ·obtain ⟨hR, h6, k, hk, rfl⟩ := few_of hf hg
  have hT : chkT l = 0 := by unfold givE at hg; split at hg; (rename_i h; exact absurd hg h); (rename_i h; simpa using h)
  obtain ⟨_, h64⟩ := RT.of hT
  have hgv := rgiven_c l hk zO
  rw [if_neg (fun h => h hg)] at hgv
  have hre := rests_c l hR hk zO
  unfold candX candA
  rw [if_neg (fun h => h hg), Int.toNat_natCast, if_neg (fun h => h (chk_plcs hR h64 k)), ← coll_str]
  cases hs : strB (plcs l k) with
  |true =>
   rw [hs, if_pos rfl] at hgv
   rw [if_pos rfl]
   refine ctrA _ Tryz.func14 rfl rfl Tryz.ntmps14 rfl fun w Z => ?_
   refine zU ?_
   refine wt ?_
   exact zW
  |false =>
   rw [hs, if_neg (by decide)] at hgv
   rw [if_neg (by decide)]
   refine ctrA _ Tryz.func14 rfl rfl Tryz.ntmps14 rfl fun w Z => ?_
   refine zU ?_
   refine wt ?_
   exact zW
 ·have hgv := rgiven_bad l a (few_n hf) hg
  unfold candX
  rw [if_pos hg]
  refine ctrA _ Tryz.func14 rfl rfl Tryz.ntmps14 rfl fun w Z => ?_
  refine zU ?_
  refine wt ?_
  (refine cq_cond rfl ?_ ?_ <;> intro hb <;> (try simp only [zA, zB, zG, zC, zD, zN] at hb) <;> (try (exfalso; omega)))
  ·refine wt ?_
   exact zW
theorem same_self (k : Nat) (P : Pl) (hs : P.s.length ≤ 1000) : CtrA Tryz.prog 20 [pR (k : Int) P, pR (k : Int) P] (vb true) := by
 have h := same20_c k P k (rtx P.A) (rtx P.B) (rtx P.C) (toI P.s) hs (by simp [toI]; exact hs)
 rw [← idx_toI] at h
 have e : sameB k P k (rtx P.A) (rtx P.B) (rtx P.C) (toI P.s) = true := by
  unfold sameB eqB
  simp [toI, gz_toI]
  intro i hi
  exact decide_eq_true (gz_toI P.s i).symm
 rw [e] at h
 exact h
theorem sameall_c (k : Nat) (Ps : List Pl) (hn : Ps.length ≤ 1000) (hs : ∀ P ∈ Ps, P.s.length ≤ 1000) : CtrA Tryz.prog 16 [plA k Ps, plA k Ps] (vb true) := by
 refine ctrA _ Tryz.func16 rfl rfl Tryz.ntmps16 rfl fun w Z => ?_
 have hne : ((Ps.length : Int) != (Ps.length : Int)) = false := by simp
 refine zU ?_
 refine wt ?_
 rw [hne]
 refine wt ?_
 refine cq_loop (γ := Nat) (fun i => [(0, .av (plA k Ps)), (1, .av (plA k Ps)), (5, .av (vi i))]) (fun _ => []) (fun i => i ≤ Ps.length) (fun i => Ps.length - i) 0 (Nat.zero_le _) (ent zS trivial) ?_
 intro i hi
 refine wt ?_
 (refine cq_cond rfl ?_ ?_ <;> intro hb <;> (try simp only [zA, zB, zG, zC, zD, zN] at hb) <;> (try (exfalso; omega)))
 ·have hil : i < Ps.length := by omega
  have hc := same_self k (gP Ps i) (hs _ (gP_mem hil))
  refine wt ?_
  refine dq_g (g_load_aggv rfl rfl) rfl ?_
  refine wt ?_
  refine dq_g (g_load_aggv rfl rfl) rfl ?_
  refine wt ?_
  exact sq_round (i + 1) zO zO (ent zS trivial)
 ·refine wt ?_
  exact zV
theorem pf5_snoc (k : Int) (Ps : List Pl) {i : Nat} (hi : i < Ps.length) : ∀ x, x < i + 1 → ∀ j, j < 5 → rowApp i (pf5 k Ps) (pf5 k [gP Ps i]) x j = pf5 k Ps x j := by
 intro x hx j hj
 unfold rowApp
 by_cases h : x < i
 ·rw [if_pos h]
 ·have e : x = i := by omega
  subst e
  rw [if_neg h, Nat.sub_self]
  rfl
theorem planes_c (k : Nat) (Ps : List Pl) (hn : Ps.length ≤ 1000) : CtrA Tryz.prog 17 [plA k Ps] (plA k Ps) := by
 refine ctrA _ Tryz.func17 rfl rfl Tryz.ntmps17 rfl fun w Z => ?_
 refine zU ?_
 refine wt ?_
 refine cq_loop (γ := Nat) (fun i => [(3, .osl 20), (6, .av (plA k Ps)), (7, .av (vi Ps.length)), (8, .av (vi i))]) (fun i => [(20, .row 45 5 i (pf5 k Ps))]) (fun i => i ≤ Ps.length) (fun i => Ps.length - i) 0 (Nat.zero_le _)
  ((ent_row (dd := 3) 20 45 5 (pf5 k Ps) rfl rfl).trans (ent zS zT)) ?_
 intro i hi
 refine wt ?_
 (refine cq_cond rfl ?_ ?_ <;> intro hb <;> (try simp only [zA, zB, zG, zC, zD, zN] at hb) <;> (try (exfalso; omega)))
 ·have hil : i < Ps.length := by omega
  refine wt ?_
  refine sq_g (g_load_aggv rfl rfl) rfl ?_
  refine wt ?_
  refine sq_s (g_store_aggv rfl rfl (pAf_one _ _ _ _ _) rfl rfl) ?_
  refine wt ?_
  refine sq_g (g_load_own_aggv (f := pf5 k Ps i) rfl rfl rfl) rfl ?_
  refine wt ?_
  refine sq_g (g_bslice_gen (is := [0]) (xs := [_]) (τs := [pR k (gP Ps i)]) (row := pf5 k [gP Ps i]) rfl rfl (bs29 k (gP Ps i)) rfl) rfl ?_
  refine wt ?_
  refine sq_v (v_append (h := pf5 k [gP Ps i]) (m := 1) rfl rfl rfl (fun i hi j hj => pAf_one _ _ _ _ _ j hj) (by omega) (by simp only [maxLen]; omega) (by omega)) rfl ?_
  refine wt ?_
  exact sq_round (i + 1) (by omega) (by omega) (ent zS ⟨⟨_, rfl, .row (by simp) (fun x hx j hj => pf5_snoc k Ps hil x (by simpa using hx) j hj)⟩, trivial⟩)
 ·have hil : i = Ps.length := by omega
  subst hil
  refine wt ?_
  refine sq_more ((ent_freeze 20 rfl).trans (ent (T' := [(2, .av (plA k Ps))]) (O' := []) ⟨.refl _, trivial⟩ trivial)) ?_
  exact zV
end Go.Proofs.YtgepmbjmaljgoaaGreatDoor.H
namespace Go.Proofs.YtgepmbjmaljgoaaGreatDoor.H
open Go Go.Vc Go.RowKit
set_option maxHeartbeats 4000000
theorem btw_c (p a b : Pt) (h1 : SmP p) (h2 : SmP a) (h3 : SmP b) : CtrA Tryz.prog 73 [pp p, pp a, pp b] (vb (btw p a b)) := by
 have c1 := rleft_c a b p h2 h3 h1
 have c2 := rminus_c a p h2 h1
 have c3 := rminus_c b p h3 h1
 have c4 := rtimes_c _ _ (sub_bd h2 h1) (sub_bd h3 h1)
 refine ctrA _ Tryz.func73 rfl rfl Tryz.ntmps73 rfl fun w Z => ?_
 refine zU ?_
 (refine wt ?_; repeat' (((first | refine sq_split rfl rfl ?_ ?_ | refine dq_split rfl rfl ?_ ?_) <;> intro hb <;> (try simp only [zA, zB, zG, zC, zD, zN] at hb) <;> (try (exfalso; omega))) <;> refine wt ?_))
 all_goals (refine sq_res1 rfl (.tmp rfl) (congrArg vb ?_); simp [btw, *])
theorem wth_c (p a b c : Pt) (h1 : SmP p) (h2 : SmP a) (h3 : SmP b) (h4 : SmP c) : CtrA Tryz.prog 74 [pp p, pp a, pp b, pp c] (vb (wth p a b c)) := by
 have c1 := rleft_c a b p h2 h3 h1
 have c2 := rleft_c b c p h3 h4 h1
 have c3 := rleft_c c a p h4 h2 h1
 have c4 := rleft_c a b c h2 h3 h4
 have s1 := rsgn_c (crs a b p)
 have s2 := rsgn_c (crs b c p)
 have s3 := rsgn_c (crs c a p)
 refine ctrA _ Tryz.func74 rfl rfl Tryz.ntmps74 rfl fun w Z => ?_
 refine zU ?_
 (refine wt ?_; repeat' (((first | refine sq_split rfl rfl ?_ ?_ | refine dq_split rfl rfl ?_ ?_) <;> intro hb <;> (try simp only [zA, zB, zG, zC, zD, zN] at hb) <;> (try (exfalso; omega))) <;> refine wt ?_))
 all_goals (refine sq_res1 rfl (.tmp rfl) (congrArg vb ?_); simp [wth, *])
theorem inH_c (l : List Pt) (p : Pt) (hl : ∀ i, SmP (gp l i)) (hp : SmP p) (hn : l.length ≤ 64) : CtrA Tryz.prog 30 [pts l, pp p] (vb (inH l p)) := by
 refine ctrA _ Tryz.func30 rfl rfl Tryz.ntmps30 rfl fun w Z => ?_
 refine zU ?_
 refine wt ?_
 refine cq_loop (γ := Nat) (fun i => [(0, .av (pts l)), (3, .av (bp p)), (5, .av (vi i))]) (fun _ => []) (fun i => i ≤ l.length ∧ ∀ i', i' < i → (decide (gp l i' = p) || (List.range i').any fun j => btw p (gp l i') (gp l j) || (List.range j).any fun k => wth p (gp l i') (gp l j) (gp l k)) = false) (fun i => l.length - i) 0 ⟨Nat.zero_le _, by intro i hi; omega⟩ (ent zS trivial) ?_
 rintro i ⟨hi, hall⟩
 refine wt ?_
 (refine cq_cond rfl ?_ ?_ <;> intro hb <;> (try simp only [zA, zB, zG, zC, zD, zN] at hb) <;> (try (exfalso; omega)))
 ·refine wt ?_
  rw [pt_beq (gp l i) p]
  (refine cq_cond rfl ?_ ?_ <;> intro hb <;> (try simp only [zA, zB, zG, zC, zD, zN] at hb) <;> (try (exfalso; omega)))
  ·refine wt ?_
   refine sq_res1 rfl (.tmp rfl) (congrArg vb ?_)
   exact (any_true_of (k := i) (by omega) (by simp [hb])).symm
  ·refine wt ?_
   have hne := hb
   refine cq_loop (γ := Nat) (fun j => [(0, .av (pts l)), (3, .av (bp p)), (5, .av (vi i)), (6, .av (vi j))]) (fun _ => []) (fun j => j ≤ i ∧ ∀ j', j' < j → (btw p (gp l i) (gp l j') || (List.range j').any fun k => wth p (gp l i) (gp l j') (gp l k)) = false) (fun j => i - j) 0 ⟨Nat.zero_le _, by intro i hi; omega⟩ (ent zS trivial) ?_
   rintro j ⟨hj, hallj⟩
   refine wt ?_
   (refine cq_cond rfl ?_ ?_ <;> intro hb <;> (try simp only [zA, zB, zG, zC, zD, zN] at hb) <;> (try (exfalso; omega)))
   ·have hbc := btw_c p (gp l i) (gp l j) hp (hl _) (hl _)
    refine wt ?_
    (refine cq_cond rfl ?_ ?_ <;> intro hb <;> (try simp only [zA, zB, zG, zC, zD, zN] at hb) <;> (try (exfalso; omega)))
    ·refine wt ?_
     refine sq_res1 rfl (.tmp rfl) (congrArg vb ?_)
     refine (any_true_of (k := i) zO ?_).symm
     rw [any_true_of (k := j) (by omega) (by rw [hb]; rfl)]; simp
    ·refine wt ?_
     have hbt := hb
     refine cq_loop (γ := Nat) (fun k => [(0, .av (pts l)), (3, .av (bp p)), (5, .av (vi i)), (6, .av (vi j)), (7, .av (vi k))]) (fun _ => []) (fun k => k ≤ j ∧ ∀ k', k' < k → wth p (gp l i) (gp l j) (gp l k') = false) (fun k => j - k) 0 ⟨Nat.zero_le _, by intro i hi; omega⟩ (ent zS trivial) ?_
     rintro k ⟨hk, hallk⟩
     refine wt ?_
     (refine cq_cond rfl ?_ ?_ <;> intro hb <;> (try simp only [zA, zB, zG, zC, zD, zN] at hb) <;> (try (exfalso; omega)))
     ·have hwc := wth_c p (gp l i) (gp l j) (gp l k) hp (hl _) (hl _) (hl _)
      refine wt ?_
      (refine cq_cond rfl ?_ ?_ <;> intro hb <;> (try simp only [zA, zB, zG, zC, zD, zN] at hb) <;> (try (exfalso; omega)))
      ·refine wt ?_
       refine sq_res1 rfl (.tmp rfl) (congrArg vb ?_)
       refine (any_true_of (k := i) zO ?_).symm
       rw [any_true_of (k := j) (by omega) (by rw [any_true_of (k := k) (by omega) hb]; simp)]; simp
      ·refine wt ?_
       exact sq_round (k + 1) ⟨by omega, plt_step hallk hb⟩ zO (ent zS trivial)
     ·refine wt ?_
      exact sq_round (j + 1) ⟨by omega, plt_step hallj (by rw [hbt, any_false_of (fun k' hk' => hallk k' (by omega))]; rfl)⟩ (by omega) (ent zS trivial)
   ·refine wt ?_
    exact sq_round (i + 1) ⟨by omega, plt_step hall (by rw [any_false_of (fun k' hk' => hallj k' (by omega))]; simp [hne])⟩ (by omega) (ent zS trivial)
 ·refine wt ?_
  exact sq_res1 rfl (.tmp rfl) (congrArg vb (any_false_of (fun k' hk' => hall k' zO)).symm)
end Go.Proofs.YtgepmbjmaljgoaaGreatDoor.H
namespace Go.Proofs.YtgepmbjmaljgoaaGreatDoor.H
open Go Go.Vc Go.RowKit
open Go.Na (rtx LR chkR_rtx chkR rsg)
set_option maxHeartbeats 4000000
theorem tb45e : Tryz.prog.built 45 [] = some #[.int .i64 0, .string (bs []), .string (bs []), .string (bs []), .slice none 0 0] := by kernel_rfl
theorem bears_c (l : List Tr) (hR : RT l) {k : Nat} (hk : k < 3) (P : Pl) (p : Pt) (hp : SmP p) (h64 : P.s.length ≤ 64) (hs : ∀ j, j < P.s.length → gi P.s j < l.length) (hn : l.length ≤ 1000) : CtrA Tryz.prog 53 [ts l, pR (k : Int) P, pp p] (vb (inH (plP l k P.s) p)) := by
 have hck := chk_plP hR k (s := P.s) h64
 have hin := inH_c (plP l k P.s) p (chk_sm hck).1 hp (by simp [plP]; exact h64)
 refine ctrA _ Tryz.func53 rfl rfl Tryz.ntmps53 rfl fun w Z => ?_
 refine zU ?_
 refine wt ?_
 refine cq_loop (γ := Nat) (fun j => [(0, .av (ts l)), (4, .av (.ptr 5 (pAf k (rtx P.A) (rtx P.B) (rtx P.C) (idx P.s)))), (5, .av (bp p)), (7, .osl 20), (8, .av (vi j))])
  (fun j => [(20, .row 38 2 (plP l k (P.s.take j)).length (pf (plP l k (P.s.take j))))]) (fun j => j ≤ P.s.length) (fun j => P.s.length - j) 0 (Nat.zero_le _)
  ((ent_row (dd := 7) 20 38 2 (pf []) rfl rfl).trans (ent zS zT)) ?_
 intro j hj
 have hpj : (plP l k (P.s.take j)).length ≤ 64 := by unfold plP; rw [List.length_map, List.length_take]; omega
 refine wt ?_
 (refine cq_cond rfl ?_ ?_ <;> intro hb <;> (try simp only [zA, zB, zG, zC, zD, zN] at hb) <;> (try (exfalso; omega)))
 ·have hjl : j < P.s.length := by omega
  have hb1 := hs j hjl
  have hpc := rplace_c (gt l (gi P.s j)) hk
  refine wt ?_
  refine dq_tail rfl rfl ?_
  refine wt ?_
  exact sq_round (j + 1) (by omega) (by omega) (ent zS ⟨⟨_, rfl, .row (by rw [plP_snoc l k P.s hjl]) (fun _ _ _ _ => by rw [plP_snoc l k P.s hjl])⟩, trivial⟩)
 ·have hjl : j = P.s.length := by omega
  subst hjl
  rw [List.take_length]
  refine cq_more (ent_freeze 20 rfl) ?_
  refine wt ?_
  exact zV
theorem rresting_c (l : List Tr) (a : Int) (p : Pt) (hf : fewB l = true) : CtrA Tryz.prog 19 [ts l, vi a, pp p] (restA l a p) := by
 have h1 := rpoints_c l a (few_n hf)
 have h2 := rright_c p
 by_cases hg : givE l a = 0
 ·obtain ⟨hR, hn6, k, hk, rfl⟩ := few_of hf hg
  have hT : chkT l = 0 := by unfold givE at hg; split at hg; (rename_i h; exact absurd hg h); (rename_i h; simpa using h)
  obtain ⟨_, h64⟩ := RT.of hT
  rw [hg] at h1
  cases hrb : rightB p with
  |false =>
   rw [hrb] at h2
   refine ctrA _ Tryz.func19 rfl rfl Tryz.ntmps19 rfl fun w Z => ?_
   refine zU ?_
   refine wt ?_
   refine sq_g (g_build (t := 45) (is := []) (xs := []) (vs := []) tb45e rfl rfl) rfl ?_
   refine wt ?_
   exact sq_resN (rvs := [_, _, _]) (τs := [_, _, _]) rfl rfl ⟨.agg (us := [_, _, _, _, _]) rfl rfl rfl rfl, .tmp rfl, .tmp rfl, trivial⟩ (by unfold restA; rw [if_neg (fun h => h hg), if_pos hrb])
  |true =>
   rw [hrb] at h2
   have hgv := rgiven_c l hk zO
   rw [if_neg (fun h => h hg)] at hgv
   cases hs : strB (plcs l k) with
   |true =>
    rw [hs, if_pos rfl] at hgv
    have hE : cndE l k = 14 := by unfold cndE; rw [if_neg (fun h => h hg), Int.toNat_natCast, if_neg (fun h => h (chk_plcs hR h64 k)), ← coll_str, hs, if_pos rfl]
    refine ctrA _ Tryz.func19 rfl rfl Tryz.ntmps19 rfl fun w Z => ?_
    refine zU ?_
    refine wt ?_
    refine sq_g (g_build (t := 45) (is := []) (xs := []) (vs := []) tb45e rfl rfl) rfl ?_
    refine wt ?_
    exact sq_resN (rvs := [_, _, _]) (τs := [_, _, _]) rfl rfl ⟨.agg (us := [_, _, _, _, _]) rfl rfl rfl rfl, .tmp rfl, .tmp rfl, trivial⟩ (by unfold restA; rw [if_neg (fun h => h hg), if_neg (by rw [hrb]; decide), if_pos (by rw [hE]; decide), hE])
   |false =>
    rw [hs, if_neg (by decide)] at hgv
    have hre := rests_c l hR hk zO
    have hE : cndE l k = 0 := by unfold cndE; rw [if_neg (fun h => h hg), Int.toNat_natCast, if_neg (fun h => h (chk_plcs hR h64 k)), ← coll_str, hs, if_neg (by decide)]
    have hrA : restA l k p = match (candP l k).find? (bearB l k p) with | some P => tupOf [pR k P, vb true, vi 0] | none => tupOf [pZ, vb false, vi 0] := by
     unfold restA; rw [if_neg (fun h => h hg), if_neg (by rw [hrb]; decide), if_neg (fun h => h hE), Int.toNat_natCast]
     rfl
    have hcl := cand_len k (l := l) zO
    rw [hrA]
    refine ctrA _ Tryz.func19 rfl rfl Tryz.ntmps19 rfl fun w Z => ?_
    refine zU ?_
    refine wt ?_
    refine cq_loop (γ := Nat) (fun i => [(0, .av (ts l)), (5, .av (bp p)), (6, .own 10 0), (11, .av (plA k (candP l k))), (12, .av (vi i))])
     (fun _ => [(10, .cells [.av (vi 0), .av (vS []), .av (vS []), .av (vS []), .av (.val (.slice none 0 0))])]) (fun i => i ≤ (candP l k).length ∧ ∀ j, j < i → bearB l k p (gP (candP l k) j) = false) (fun i => (candP l k).length - i) 0 ⟨Nat.zero_le _, by omega⟩
     (ent zS zT) ?_
    rintro i ⟨hi, hno⟩
    refine wt ?_
    (refine cq_cond rfl ?_ ?_ <;> intro hb <;> (try simp only [zA, zB, zG, zC, zD, zN] at hb) <;> (try (exfalso; omega)))
    ·have hil : i < (candP l k).length := by omega
     obtain ⟨hon, hpos⟩ := cand_on hk (gP_mem hil)
     have hbi := bear_inH hk hR h64 hrb (gP_mem hil)
     have hsl : (gP (candP l k) i).s.length ≤ 6 := by
      have := onL_len' l k (gP (candP l k) i).A (gP (candP l k) i).B (gP (candP l k) i).C l.length
      rw [hon]; omega
     have hslt : ∀ j, j < (gP (candP l k) i).s.length → gi (gP (candP l k) i).s j < l.length := fun j hj => by
      have : gi (gP (candP l k) i).s j ∈ onL l k (gP (candP l k) i).A (gP (candP l k) i).B (gP (candP l k) i).C l.length := by rw [← hon]; rw [gi_eq hj]; exact List.getElem_mem hj
      exact onL_lt' this
     have hbc := bears_c l hR hk (gP (candP l k) i) p (right_sm hrb) zO hslt zO
     rw [← hbi] at hbc
     refine wt ?_
     refine dq_g (g_load_aggv rfl rfl) rfl ?_
     refine wt ?_
     refine cq_cond rfl (fun hb => ?_) (fun hb => ?_)
     ·have hfi := find_at (f := bearB l k p) hil hno hb
      rw [hfi]
      refine wt ?_
      refine sq_g (g_load_aggv rfl rfl) rfl ?_
      refine wt ?_
      refine sq_s (g_store_aggv rfl rfl (pAf_one _ _ _ _ _) rfl rfl) ?_
      refine wt ?_
      exact sq_resN (rvs := [_, _, _]) (τs := [_, _, _]) rfl rfl ⟨.aggv (f := pf5 k (candP l k) i) rfl rfl rfl, .tmp rfl, .tmp rfl, trivial⟩ rfl
     ·refine wt ?_
      exact sq_round (i + 1) ⟨by omega, fun j hj => by
       by_cases e : j = i
       ·subst e; exact hb
       ·exact hno j zO⟩ zO (ent zS zT)
    ·have hil : i = (candP l k).length := by omega
     subst hil
     rw [find_no hno]
     refine wt ?_
     refine sq_g (g_build (t := 45) (is := []) (xs := []) (vs := []) tb45e rfl rfl) rfl ?_
     refine wt ?_
     exact sq_resN (rvs := [_, _, _]) (τs := [_, _, _]) rfl rfl ⟨.agg (us := [_, _, _, _, _]) rfl rfl rfl rfl, .tmp rfl, .tmp rfl, trivial⟩ rfl
 ·refine ctrA _ Tryz.func19 rfl rfl Tryz.ntmps19 rfl fun w Z => ?_
  refine zU ?_
  refine wt ?_
  (refine cq_cond rfl ?_ ?_ <;> intro hb <;> (try simp only [zA, zB, zG, zC, zD, zN] at hb) <;> (try (exfalso; omega)))
  ·refine wt ?_
   refine sq_g (g_build (t := 45) (is := []) (xs := []) (vs := []) tb45e rfl rfl) rfl ?_
   refine wt ?_
   exact sq_resN (rvs := [_, _, _]) (τs := [_, _, _]) rfl rfl ⟨.agg (us := [_, _, _, _, _]) rfl rfl rfl rfl, .tmp rfl, .tmp rfl, trivial⟩ (by unfold restA; rw [if_pos hb])
end Go.Proofs.YtgepmbjmaljgoaaGreatDoor.H
