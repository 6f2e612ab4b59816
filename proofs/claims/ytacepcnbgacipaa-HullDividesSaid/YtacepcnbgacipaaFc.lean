/- A part of the proof that the law returns true at every input and that the input reads behind the call as it read before; this part states nothing of its own that needs a condition of the input. -/
import Derived.Test.YtacepcnbgacipaaW
import Derived.Test.YtacepcnbgacipaaGeo
import Derived.Test.YtacepcnbgacipaaFa
import Derived.Test.YtacepcnbgacipaaFb
set_option linter.unusedVariables false
set_option linter.unusedSimpArgs false
namespace Go.Proofs.Ytacepcnbgacipaa
open Go Go.Vc Go.RowKit
set_option maxHeartbeats 1000000
abbrev Sml (l : List Pt) : Prop := chk l = 0 → l.length ≤ 19 ∧ (arr l).length ≤ 12 ∧ ∀ k, k < (arr l).length → gi (arr l) k < l.length
def errH (l : List Pt) : Int := if chk l ≠ 0 then chk l else if l.length = 0 then 13 else 0
def hullN (l : List Pt) : List Nat := if errH l = 0 then arr l else []
theorem hull_c (l : List Pt) (hs : Sml l) : CtrA Try.prog 13 [pts l] (tupOf [idx (hullN l), vi (errH l)]) := by
  refine ctrA _ Try.func13 rfl rfl Try.ntmps13 rfl fun w Z => ?_
  simp only [initT, List.map_cons, List.map_nil, Nat.zero_add, Nat.reduceAdd]
  refine cq_seq ?_
  refine cq_region ?_
  apply sq_g; exact g_assign (s := .av _) rfl; exact rfl
  apply sq_g; exact g_assign (s := .av (.val (.int _ _))) rfl; exact rfl
  refine sq_nil ?_
  refine sq_then ?_
  refine cq_seq ?_
  refine cq_seq ?_
  refine cq_region ?_
  apply sq_g; exact g_move (s := .av _) rfl; exact rfl
  apply sq_g; exact g_call (check_c l) rfl; exact rfl
  apply sq_g; exact g_assign (s := .av (.val (.int _ _))) rfl; exact rfl
  refine sq_nil ?_
  refine sq_then ?_
  refine cq_seq ?_
  refine cq_region ?_
  apply sq_g; exact g_move (s := .av (.val (.int _ _))) rfl; exact rfl
  apply sq_g; exact g_cmp rfl rfl rfl; exact rfl
  refine sq_nil ?_
  refine sq_then ?_
  (refine cq_cond rfl (fun hb => ?_) (fun hb => ?_) <;> (try simp only [decide_eq_true_eq, decide_eq_false_iff_not, beq_iff_eq, beq_eq_false_iff_ne, bne_iff_ne, bne_eq_false_iff_eq, ne_eq, Bool.not_eq_true', Bool.not_eq_false', Bool.and_eq_true, Bool.or_eq_true, Bool.and_eq_false_iff, Bool.or_eq_false_iff] at hb) <;> (try (exfalso; omega)))
  · have e1 : errH l = chk l := by simp [errH, hb]
    have e2 : hullN l = [] := by simp [hullN, e1, hb]
    refine cq_seq ?_
    refine cq_region ?_
    apply sq_g; exact g_move (s := .av (.val (.int _ _))) rfl; exact rfl
    apply sq_g; exact g_assign (s := .av _) rfl; exact rfl
    apply sq_g; exact g_assign (s := .av (.val (.int _ _))) rfl; exact rfl
    refine sq_nil ?_
    refine sq_then ?_
    refine cq_ret ?_
    refine sq_then_ret ?_
    exact sq_ent (ent_nil 2 1 (xf []) rfl) (sq_resN (rvs := [_, _]) (τs := [idx [], vi (chk l)]) rfl rfl ⟨.tmp rfl, .tmp rfl, trivial⟩ (by rw [e1, e2]))
  · obtain ⟨hn1, hn2, hall⟩ := hs hb
    have hb' := hb
    refine cq_skip ?_
    refine sq_then ?_
    refine cq_seq ?_
    refine cq_seq ?_
    refine cq_region ?_
    apply sq_g; exact g_move (s := .av _) rfl; exact rfl
    apply sq_g; exact g_len rfl; exact rfl
    apply sq_g; exact g_cmp rfl rfl rfl; exact rfl
    refine sq_nil ?_
    refine sq_then ?_
    (refine cq_cond rfl (fun hb => ?_) (fun hb => ?_) <;> (try simp only [decide_eq_true_eq, decide_eq_false_iff_not, beq_iff_eq, beq_eq_false_iff_ne, bne_iff_ne, bne_eq_false_iff_eq, ne_eq, Bool.not_eq_true', Bool.not_eq_false', Bool.and_eq_true, Bool.or_eq_true, Bool.and_eq_false_iff, Bool.or_eq_false_iff] at hb) <;> (try (exfalso; omega)))
    · have e1 : errH l = 13 := by simp [errH, hb', show l.length = 0 by omega]
      have e2 : hullN l = [] := by simp [hullN, e1]
      refine cq_seq ?_
      refine cq_region ?_
      apply sq_g; exact g_assign (s := .av _) rfl; exact rfl
      apply sq_g; exact g_assign (s := .av (.val (.int _ _))) rfl; exact rfl
      refine sq_nil ?_
      refine sq_then ?_
      refine cq_ret ?_
      refine sq_then_ret ?_
      exact sq_ent (ent_nil 2 1 (xf []) rfl) (sq_resN (rvs := [_, _]) (τs := [idx [], vi 13]) rfl rfl ⟨.tmp rfl, .tmp rfl, trivial⟩ (by rw [e1, e2]))
    · have e1 : errH l = 0 := by simp [errH, hb', show l.length ≠ 0 by omega]
      have e2 : hullN l = arr l := by simp [hullN, e1]
      refine cq_skip ?_
      refine sq_then ?_
      refine cq_seq ?_
      refine cq_region ?_
      apply sq_g; exact g_move (s := .av _) rfl; exact rfl
      apply sq_g; exact g_call ((around_c l hn1).ro) rfl; exact rfl
      apply sq_g; exact g_assign (s := .av _) rfl; exact rfl
      apply sq_g; exact g_assign (s := .av (.val (.int _ _))) rfl; exact rfl
      refine sq_nil ?_
      refine sq_then ?_
      refine cq_ret ?_
      exact sq_resN (rvs := [_, _]) (τs := [_, _]) rfl rfl ⟨.tmp rfl, .tmp rfl, trivial⟩ (by rw [e1, e2]; rfl)
/-! Locate -/
def edg (l : List Pt) (v : List Nat) (p : Pt) (k : Nat) : Int := crs (gp l (gi v k)) (gp l (gi v ((k + 1) % v.length))) p
def loc2 (a b p : Pt) : Int := if crs a b p = 0 ∧ dot (sub a p) (sub b p) ≤ 0 then 0 else -1
def locTo (l : List Pt) (v : List Nat) (p : Pt) (m : Nat) : Int := if (List.range m).any (fun k => decide (edg l v p k = 0)) then 0 else 1
def locV (l : List Pt) (p : Pt) : Int :=
  if (arr l).length ≤ 2 then loc2 (gp l (gi (arr l) 0)) (gp l (gi (arr l) ((arr l).length - 1))) p else
  if (List.range (arr l).length).any (fun k => decide (edg l (arr l) p k < 0)) then -1 else locTo l (arr l) p (arr l).length
def errL (l : List Pt) (p : Pt) : Int := if chk l ≠ 0 then chk l else if rightB p = false then 2 else if l.length = 0 then 13 else 0
def locN (l : List Pt) (p : Pt) : Int := if errL l p = 0 then locV l p else 0
theorem locTo_succ (l : List Pt) (v : List Nat) (p : Pt) (m : Nat) : locTo l v p (m + 1) = if edg l v p m = 0 then 0 else locTo l v p m := by
  simp only [locTo, List.range_succ, List.any_append, List.any_cons, List.any_nil, Bool.or_false, Bool.or_eq_true, decide_eq_true_eq]
  split <;> split <;> simp_all
theorem right_sm {p : Pt} (h : rightB p = true) : SmP p := by
  simp [rightB, inB] at h; simp only [SmP, Sm]; omega
theorem loc_c (l : List Pt) (p : Pt) (hs : Sml l) : CtrA Try.prog 15 [pts l, pp p] (tupOf [vi (locN l p), vi (errL l p)]) := by
  refine ctrA _ Try.func15 rfl rfl Try.ntmps15 rfl fun w Z => ?_
  simp only [initT, List.map_cons, List.map_nil, Nat.zero_add, Nat.reduceAdd]
  refine cq_seq ?_
  refine cq_region ?_
  apply sq_g; exact g_box_agg rfl; exact rfl
  apply sq_g; exact g_assign (s := .av (.val (.int _ _))) rfl; exact rfl
  apply sq_g; exact g_assign (s := .av (.val (.int _ _))) rfl; exact rfl
  refine sq_nil ?_
  refine sq_then ?_
  refine cq_seq ?_
  refine cq_seq ?_
  refine cq_region ?_
  apply sq_g; exact g_move (s := .av _) rfl; exact rfl
  apply sq_g; exact g_call (check_c l) rfl; exact rfl
  apply sq_g; exact g_assign (s := .av (.val (.int _ _))) rfl; exact rfl
  refine sq_nil ?_
  refine sq_then ?_
  refine cq_seq ?_
  refine cq_region ?_
  apply sq_g; exact g_move (s := .av (.val (.int _ _))) rfl; exact rfl
  apply sq_g; exact g_cmp rfl rfl rfl; exact rfl
  refine sq_nil ?_
  refine sq_then ?_
  (refine cq_cond rfl (fun hb => ?_) (fun hb => ?_) <;> (try simp only [decide_eq_true_eq, decide_eq_false_iff_not, beq_iff_eq, beq_eq_false_iff_ne, bne_iff_ne, bne_eq_false_iff_eq, ne_eq, Bool.not_eq_true', Bool.not_eq_false', Bool.and_eq_true, Bool.or_eq_true, Bool.and_eq_false_iff, Bool.or_eq_false_iff] at hb) <;> (try (exfalso; omega)))
  · have e1 : errL l p = chk l := by simp [errL, hb]
    have e2 : locN l p = 0 := by simp [locN, e1, hb]
    refine cq_seq ?_
    refine cq_region ?_
    apply sq_g; exact g_move (s := .av (.val (.int _ _))) rfl; exact rfl
    apply sq_g; exact g_assign (s := .av (.val (.int _ _))) rfl; exact rfl
    apply sq_g; exact g_assign (s := .av (.val (.int _ _))) rfl; exact rfl
    refine sq_nil ?_
    refine sq_then ?_
    refine cq_ret ?_
    refine sq_then_ret ?_
    exact sq_resN (rvs := [_, _]) (τs := [_, _]) rfl rfl ⟨.tmp rfl, .tmp rfl, trivial⟩ (by rw [e1, e2])
  · obtain ⟨hn1, hn2, hall⟩ := hs hb
    have hb' := hb
    have sm := chk_sm hb
    refine cq_skip ?_
    refine sq_then ?_
    refine cq_seq ?_
    refine cq_block ?_
    refine cq_seq ?_
    refine cq_region ?_
    apply sq_g; exact g_load_agg (us := [.int _ _, .int _ _]) rfl rfl rfl rfl; exact rfl
    apply sq_g; exact g_call (hright_c p) rfl; exact rfl
    apply sq_g; exact g_not rfl; exact rfl
    apply sq_g; exact g_assign (s := .av (.val (.bool _))) rfl; exact rfl
    refine sq_nil ?_
    refine sq_then ?_
    (refine cq_cond rfl (fun hb => ?_) (fun hb => ?_) <;> (try simp only [decide_eq_true_eq, decide_eq_false_iff_not, beq_iff_eq, beq_eq_false_iff_ne, bne_iff_ne, bne_eq_false_iff_eq, ne_eq, Bool.not_eq_true', Bool.not_eq_false', Bool.and_eq_true, Bool.or_eq_true, Bool.and_eq_false_iff, Bool.or_eq_false_iff] at hb) <;> (try (exfalso; omega)))
    · have e1 : errL l p = 2 := by simp [errL, hb', hb]
      have e2 : locN l p = 0 := by simp [locN, e1]
      refine cq_seq ?_
      refine cq_region ?_
      apply sq_g; exact g_assign (s := .av (.val (.int _ _))) rfl; exact rfl
      apply sq_g; exact g_assign (s := .av (.val (.int _ _))) rfl; exact rfl
      refine sq_nil ?_
      refine sq_then ?_
      refine cq_ret ?_
      refine sq_inBlock_ret ?_
      refine sq_then_ret ?_
      exact sq_resN (rvs := [_, _]) (τs := [_, _]) rfl rfl ⟨.tmp rfl, .tmp rfl, trivial⟩ (by rw [e1, e2])
    · have hr := hb
      have sp := right_sm hr
      refine cq_seq ?_
      refine cq_region ?_
      apply sq_g; exact g_move (s := .av _) rfl; exact rfl
      apply sq_g; exact g_len rfl; exact rfl
      apply sq_g; exact g_cmp rfl rfl rfl; exact rfl
      apply sq_g; exact g_assign (s := .av (.val (.bool _))) rfl; exact rfl
      refine sq_nil ?_
      refine sq_then ?_
      (refine cq_cond rfl (fun hb => ?_) (fun hb => ?_) <;> (try simp only [decide_eq_true_eq, decide_eq_false_iff_not, beq_iff_eq, beq_eq_false_iff_ne, bne_iff_ne, bne_eq_false_iff_eq, ne_eq, Bool.not_eq_true', Bool.not_eq_false', Bool.and_eq_true, Bool.or_eq_true, Bool.and_eq_false_iff, Bool.or_eq_false_iff] at hb) <;> (try (exfalso; omega)))
      · have e1 : errL l p = 13 := by simp [errL, hb', hr, show l.length = 0 by omega]
        have e2 : locN l p = 0 := by simp [locN, e1]
        refine cq_seq ?_
        refine cq_region ?_
        apply sq_g; exact g_assign (s := .av (.val (.int _ _))) rfl; exact rfl
        apply sq_g; exact g_assign (s := .av (.val (.int _ _))) rfl; exact rfl
        refine sq_nil ?_
        refine sq_then ?_
        refine cq_ret ?_
        refine sq_inBlock_ret ?_
        refine sq_then_ret ?_
        exact sq_resN (rvs := [_, _]) (τs := [_, _]) rfl rfl ⟨.tmp rfl, .tmp rfl, trivial⟩ (by rw [e1, e2])
      · have e1 : errL l p = 0 := by simp [errL, hb', hr, show l.length ≠ 0 by omega]
        have e2 : locN l p = locV l p := by simp [locN, e1]
        have hne := arr_ne l hb' (by omega)
        refine cq_skip ?_
        refine sq_then ?_
        refine cq_seq ?_
        refine cq_region ?_
        apply sq_g; exact g_move (s := .av _) rfl; exact rfl
        apply sq_g; exact g_call ((around_c l hn1).ro) rfl; exact rfl
        apply sq_g; exact g_assign (s := .av _) rfl; exact rfl
        refine sq_nil ?_
        refine sq_then ?_
        refine cq_seq ?_
        refine cq_seq ?_
        refine cq_region ?_
        apply sq_g; exact g_move (s := .av _) rfl; exact rfl
        apply sq_g; exact g_len rfl; exact rfl
        apply sq_g; exact g_cmp rfl rfl rfl; exact rfl
        refine sq_nil ?_
        refine sq_then ?_
        generalize hv : arr l = v at *
        have h0' := hall 0 hne
        have h1' := hall (v.length - 1) (by omega)
        (refine cq_cond rfl (fun hb => ?_) (fun hb => ?_) <;> (try simp only [decide_eq_true_eq, decide_eq_false_iff_not, beq_iff_eq, beq_eq_false_iff_ne, bne_iff_ne, bne_eq_false_iff_eq, ne_eq, Bool.not_eq_true', Bool.not_eq_false', Bool.and_eq_true, Bool.or_eq_true, Bool.and_eq_false_iff, Bool.or_eq_false_iff] at hb) <;> (try (exfalso; omega)))
        · have e3 : locV l p = loc2 (gp l (gi v 0)) (gp l (gi v (v.length - 1))) p := by rw [locV, hv, if_pos (by omega)]
          have hq1 := sub_bd (sm (gi v 0)) sp
          have hq2 := sub_bd (sm (gi v (v.length - 1))) sp
          focus
            refine cq_seq ?_
            refine cq_drawn ?_
            apply dq_g; exact g_move (s := .av _) rfl; exact rfl
            apply dq_g; exact g_move (s := .av _) rfl; exact rfl
            apply dq_g; exact g_index rfl rfl rfl (by omega); exact rfl
            apply dq_g; exact g_load (τ := .val (.int _ _)) rfl rfl rfl; exact rfl
            apply dq_g; exact g_index rfl rfl rfl (by omega); exact rfl
            apply dq_g; exact g_load_agg (us := [.int _ _, .int _ _]) rfl rfl rfl rfl; exact rfl
            apply dq_g; exact g_move (s := .av _) rfl; exact rfl
            apply dq_g; exact g_move (s := .av _) rfl; exact rfl
            apply dq_g; exact g_move (s := .av _) rfl; exact rfl
            apply dq_g; exact g_len rfl; exact rfl
            apply dq_g; exact g_arith rfl rfl rfl (by omega); exact rfl
            apply dq_g; exact  g_index (k := v.length - 1) rfl rfl (by omega) (by omega); exact rfl
            apply dq_g; exact g_load (τ := .val (.int _ _)) rfl rfl rfl; exact rfl
            apply dq_g; exact g_index rfl rfl rfl (by omega); exact rfl
            apply dq_g; exact g_load_agg (us := [.int _ _, .int _ _]) rfl rfl rfl rfl; exact rfl
            refine dq_v (ga_alloc 10) rfl rfl ?_
            refine dq_v (ga_alloc 11) rfl rfl ?_
            refine dq_s (g_store_agg rfl rfl rfl rfl rfl rfl) ?_
            refine dq_s (g_store_agg rfl rfl rfl rfl rfl rfl) ?_
            refine dq_nil tm rfl ?_
            refine sq_then ?_
            refine cq_seq ?_
            refine cq_seq ?_
            refine cq_drawn ?_
            apply dq_g; exact g_load_own_agg (us := [.int _ _, .int _ _]) rfl rfl rfl rfl; exact rfl
            apply dq_g; exact g_load_own_agg (us := [.int _ _, .int _ _]) rfl rfl rfl rfl; exact rfl
            apply dq_g; exact g_load_agg (us := [.int _ _, .int _ _]) rfl rfl rfl rfl; exact rfl
            apply dq_g; exact g_call (hleft_c _ _ _ (sm _) (sm _) sp) rfl; exact rfl
            apply dq_g; exact g_cmp rfl rfl rfl; exact rfl
            apply dq_g; exact g_move (s := .av (.val (.bool _))) rfl; exact rfl
            refine dq_split rfl rfl (fun hb => ?_) (fun hb => ?_) <;> (try simp only [decide_eq_true_eq, decide_eq_false_iff_not, beq_iff_eq, beq_eq_false_iff_ne, bne_iff_ne, bne_eq_false_iff_eq, ne_eq, Bool.not_eq_true', Bool.not_eq_false', Bool.and_eq_true, Bool.or_eq_true, Bool.and_eq_false_iff, Bool.or_eq_false_iff] at hb) <;> (try (exfalso; omega))
            apply dq_on; exact g_load_own_agg (us := [.int _ _, .int _ _]) rfl rfl rfl rfl; exact rfl; exact rfl; exact rfl
            apply dq_on; exact g_load_agg (us := [.int _ _, .int _ _]) rfl rfl rfl rfl; exact rfl; exact rfl; exact rfl
            apply dq_on; exact g_call (hless_c _ _ (sm _) sp) rfl; exact rfl; exact rfl; exact rfl
            apply dq_on; exact g_load_own_agg (us := [.int _ _, .int _ _]) rfl rfl rfl rfl; exact rfl; exact rfl; exact rfl
            apply dq_on; exact g_load_agg (us := [.int _ _, .int _ _]) rfl rfl rfl rfl; exact rfl; exact rfl; exact rfl
            apply dq_on; exact g_call (hless_c _ _ (sm _) sp) rfl; exact rfl; exact rfl; exact rfl
            apply dq_on; exact g_call (hdot_c _ _ hq1 hq2) rfl; exact rfl; exact rfl; exact rfl
            apply dq_on; exact g_cmp rfl rfl rfl; exact rfl; exact rfl; exact rfl
            apply dq_g; exact g_pick (s := .av (.val (.bool _))) rfl rfl; exact rfl
            refine dq_nil tm rfl ?_
            refine sq_then ?_
            rotate_left
            refine dq_off nofun rfl rfl rfl rfl ?_
            refine dq_off nofun rfl rfl rfl rfl ?_
            refine dq_off nofun rfl rfl rfl rfl ?_
            refine dq_off nofun rfl rfl rfl rfl ?_
            refine dq_off nofun rfl rfl rfl rfl ?_
            refine dq_off nofun rfl rfl rfl rfl ?_
            refine dq_off nofun rfl rfl rfl rfl ?_
            refine dq_off nofun rfl rfl rfl rfl ?_
            apply dq_g; exact g_pick (s := .av (.val (.bool _))) rfl rfl; exact rfl
            refine dq_nil tm rfl ?_
            refine sq_then ?_
            refine cq_cond_f rfl ?_
            refine cq_skip ?_
            refine sq_then ?_
            refine cq_seq ?_
            refine cq_region ?_
            apply sq_g; exact g_assign (s := .av (.val (.int _ _))) rfl; exact rfl
            apply sq_g; exact g_assign (s := .av (.val (.int _ _))) rfl; exact rfl
            refine sq_nil ?_
            refine sq_then ?_
            refine cq_ret ?_
            refine sq_then_ret ?_
            rotate_left
          · (refine cq_cond rfl (fun hb => ?_) (fun hb => ?_) <;> (try simp only [decide_eq_true_eq, decide_eq_false_iff_not, beq_iff_eq, beq_eq_false_iff_ne, bne_iff_ne, bne_eq_false_iff_eq, ne_eq, Bool.not_eq_true', Bool.not_eq_false', Bool.and_eq_true, Bool.or_eq_true, Bool.and_eq_false_iff, Bool.or_eq_false_iff] at hb) <;> (try (exfalso; omega)))
            · rename_i hz
              refine cq_seq ?_
              refine cq_region ?_
              apply sq_g; exact g_assign (s := .av (.val (.int _ _))) rfl; exact rfl
              apply sq_g; exact g_assign (s := .av (.val (.int _ _))) rfl; exact rfl
              refine sq_nil ?_
              refine sq_then ?_
              refine cq_ret ?_
              refine sq_then_ret ?_
              refine sq_then_ret ?_
              exact sq_resN (rvs := [_, _]) (τs := [_, _]) rfl rfl ⟨.tmp rfl, .tmp rfl, trivial⟩ (by rw [e1, e2, e3, loc2, if_pos ⟨hz, hb⟩])
            · refine cq_skip ?_
              refine sq_then ?_
              refine cq_seq ?_
              refine cq_region ?_
              apply sq_g; exact g_assign (s := .av (.val (.int _ _))) rfl; exact rfl
              apply sq_g; exact g_assign (s := .av (.val (.int _ _))) rfl; exact rfl
              refine sq_nil ?_
              refine sq_then ?_
              refine cq_ret ?_
              refine sq_then_ret ?_
              exact sq_resN (rvs := [_, _]) (τs := [_, _]) rfl rfl ⟨.tmp rfl, .tmp rfl, trivial⟩ (by rw [e1, e2, e3, loc2, if_neg (fun h => hb h.2)])
          · exact sq_resN (rvs := [_, _]) (τs := [_, _]) rfl rfl ⟨.tmp rfl, .tmp rfl, trivial⟩ (by rw [e1, e2, e3, loc2, if_neg (fun h => hb h.1)])
        · have hv2 : 2 < v.length := by omega
          refine cq_skip ?_
          refine sq_then ?_
          refine cq_seq ?_
          refine cq_region ?_
          apply sq_g; exact g_assign (s := .av (.val (.int _ _))) rfl; exact rfl
          refine sq_nil ?_
          refine sq_then ?_
          refine cq_seq ?_
          refine cq_seq ?_
          refine cq_region ?_
          apply sq_g; exact g_move (s := .av _) rfl; exact rfl
          apply sq_g; exact g_len rfl; exact rfl
          apply sq_g; exact g_move (s := .av (.val (.int _ _))) rfl; exact rfl
          refine sq_nil ?_
          refine sq_then ?_
          refine cq_block ?_
          refine cq_loop (γ := Nat) (fun k => [(0, .av (pts l)), (3, .av (bp p)), (7, .av (idx v)), (10, .av (vi (locTo l v p k))), (62, .av (idx v)), (63, .av (vi v.length)), (64, .av (vi k))]) (fun _ => []) (fun k => k ≤ v.length ∧ ∀ k', k' < k → decide (edg l v p k' < 0) = false) (fun k => v.length - k) 0 ⟨Nat.zero_le _, by intro i hi; omega⟩ (ent ⟨.refl _, .refl _, .refl _, .refl _, .refl _, .refl _, .refl _, trivial⟩ trivial) ?_
          rintro k ⟨hk, hallk⟩
          refine cq_seq ?_
          refine cq_region ?_
          apply sq_g; exact g_cmp rfl rfl rfl; exact rfl
          refine sq_nil ?_
          refine sq_then ?_
          refine cq_seq ?_
          (refine cq_cond rfl (fun hb => ?_) (fun hb => ?_) <;> (try simp only [decide_eq_true_eq, decide_eq_false_iff_not, beq_iff_eq, beq_eq_false_iff_ne, bne_iff_ne, bne_eq_false_iff_eq, ne_eq, Bool.not_eq_true', Bool.not_eq_false', Bool.and_eq_true, Bool.or_eq_true, Bool.and_eq_false_iff, Bool.or_eq_false_iff] at hb) <;> (try (exfalso; omega)))
          · have hkl : k < v.length := by omega
            have hm : (k + 1) % v.length < v.length := Nat.mod_lt _ hne
            have hg1 := hall k hkl
            have hg2 := hall _ hm
            have hrem : ((k : Int) + 1) % (v.length : Int) = (((k + 1) % v.length : Nat) : Int) := by simp
            have hs := locTo_succ l v p k
            refine cq_skip ?_
            refine sq_then ?_
            refine cq_seq ?_
            refine cq_block ?_
            refine cq_seq ?_
            refine cq_region ?_
            apply sq_g; exact g_move (s := .av (.val (.int _ _))) rfl; exact rfl
            apply sq_g; exact g_index rfl rfl rfl (by omega); exact rfl
            apply sq_g; exact g_load (τ := .val (.int _ _)) rfl rfl rfl; exact rfl
            apply sq_g; exact g_assign (s := .av (.val (.int _ _))) rfl; exact rfl
            apply sq_g; exact g_assign (s := .av (.val (.int _ _))) rfl; exact rfl
            refine sq_nil ?_
            refine sq_then ?_
            refine cq_seq ?_
            refine cq_drawn ?_
            apply dq_g; exact g_move (s := .av _) rfl; exact rfl
            apply dq_g; exact g_move (s := .av (.val (.int _ _))) rfl; exact rfl
            apply dq_g; exact g_index rfl rfl rfl (by omega); exact rfl
            apply dq_g; exact g_load_agg (us := [.int _ _, .int _ _]) rfl rfl rfl rfl; exact rfl
            apply dq_g; exact g_move (s := .av _) rfl; exact rfl
            apply dq_g; exact g_move (s := .av _) rfl; exact rfl
            apply dq_g; exact g_move (s := .av (.val (.int _ _))) rfl; exact rfl
            apply dq_g; exact g_arith rfl rfl rfl (by omega); exact rfl
            apply dq_g; exact g_move (s := .av _) rfl; exact rfl
            apply dq_g; exact g_len rfl; exact rfl
            apply dq_g; exact g_rem rfl rfl (by omega) (by omega); exact rfl
            apply dq_g; exact  g_index (k := (k + 1) % v.length) rfl rfl hrem hm; exact rfl
            apply dq_g; exact g_load (τ := .val (.int _ _)) rfl rfl rfl; exact rfl
            apply dq_g; exact g_index rfl rfl rfl (by omega); exact rfl
            apply dq_g; exact g_load_agg (us := [.int _ _, .int _ _]) rfl rfl rfl rfl; exact rfl
            apply dq_g; exact g_load_agg (us := [.int _ _, .int _ _]) rfl rfl rfl rfl; exact rfl
            apply dq_g; exact g_call (hleft_c _ _ _ (sm _) (sm _) sp) rfl; exact rfl
            apply dq_g; exact g_assign (s := .av (.val (.int _ _))) rfl; exact rfl
            refine dq_nil tm rfl ?_
            refine sq_then ?_
            refine cq_seq ?_
            refine cq_seq ?_
            refine cq_region ?_
            apply sq_g; exact g_move (s := .av (.val (.int _ _))) rfl; exact rfl
            apply sq_g; exact g_cmp rfl rfl rfl; exact rfl
            refine sq_nil ?_
            refine sq_then ?_
            (refine cq_cond rfl (fun hb => ?_) (fun hb => ?_) <;> (try simp only [decide_eq_true_eq, decide_eq_false_iff_not, beq_iff_eq, beq_eq_false_iff_ne, bne_iff_ne, bne_eq_false_iff_eq, ne_eq, Bool.not_eq_true', Bool.not_eq_false', Bool.and_eq_true, Bool.or_eq_true, Bool.and_eq_false_iff, Bool.or_eq_false_iff] at hb) <;> (try (exfalso; omega)))
            · have e3 : locV l p = -1 := by rw [locV, hv, if_neg (by omega), if_pos (any_true_of (k := k) hkl (by rw [decide_eq_true_eq]; exact hb))]
              refine cq_seq ?_
              refine cq_region ?_
              apply sq_g; exact g_assign (s := .av (.val (.int _ _))) rfl; exact rfl
              apply sq_g; exact g_assign (s := .av (.val (.int _ _))) rfl; exact rfl
              refine sq_nil ?_
              refine sq_then ?_
              refine cq_ret ?_
              refine sq_then_ret ?_
              refine sq_inBlock_ret ?_
              refine sq_then_ret ?_
              refine sq_then_ret ?_
              refine sq_inBlock_ret ?_
              refine sq_then_ret ?_
              exact sq_resN (rvs := [_, _]) (τs := [_, _]) rfl rfl ⟨.tmp rfl, .tmp rfl, trivial⟩ (by rw [e1, e2, e3])
            · have hlt : decide (edg l v p k < 0) = false := by rw [decide_eq_false_iff_not]; exact hb
              refine cq_skip ?_
              refine sq_then ?_
              refine cq_seq ?_
              refine cq_region ?_
              apply sq_g; exact g_move (s := .av (.val (.int _ _))) rfl; exact rfl
              apply sq_g; exact g_cmp rfl rfl rfl; exact rfl
              refine sq_nil ?_
              refine sq_then ?_
              (refine cq_cond rfl (fun hb => ?_) (fun hb => ?_) <;> (try simp only [decide_eq_true_eq, decide_eq_false_iff_not, beq_iff_eq, beq_eq_false_iff_ne, bne_iff_ne, bne_eq_false_iff_eq, ne_eq, Bool.not_eq_true', Bool.not_eq_false', Bool.and_eq_true, Bool.or_eq_true, Bool.and_eq_false_iff, Bool.or_eq_false_iff] at hb) <;> (try (exfalso; omega)))
              · have e3 : locTo l v p (k + 1) = 0 := by rw [hs, if_pos (by simpa [edg] using hb)]
                refine cq_region ?_
                apply sq_g; exact g_assign (s := .av (.val (.int _ _))) rfl; exact rfl
                refine sq_nil ?_
                refine sq_then ?_
                refine cq_region ?_
                apply sq_g; exact g_arith rfl rfl rfl (by omega); exact rfl
                apply sq_g; exact g_move (s := .av (.val (.int _ _))) rfl; exact rfl
                refine sq_nil ?_
                exact sq_round (k + 1) ⟨by omega, lt_step hallk hlt⟩ (by omega) (ent ⟨.refl _, .refl _, .refl _, .int e3.symm, .refl _, .refl _, .int (by omega), trivial⟩ trivial)
              · have e3 : locTo l v p (k + 1) = locTo l v p k := by rw [hs, if_neg (by simpa [edg] using hb)]
                refine cq_skip ?_
                refine sq_then ?_
                refine cq_region ?_
                apply sq_g; exact g_arith rfl rfl rfl (by omega); exact rfl
                apply sq_g; exact g_move (s := .av (.val (.int _ _))) rfl; exact rfl
                refine sq_nil ?_
                exact sq_round (k + 1) ⟨by omega, lt_step hallk hlt⟩ (by omega) (ent ⟨.refl _, .refl _, .refl _, .int e3.symm, .refl _, .refl _, .int (by omega), trivial⟩ trivial)
          · have hkl : k = v.length := by omega
            subst hkl
            have e3 : locV l p = locTo l v p v.length := by rw [locV, hv, if_neg (by omega), any_false_of hallk]; simp
            refine cq_exit ?_
            refine sq_then ?_
            refine cq_seq ?_
            refine cq_region ?_
            apply sq_g; exact g_move (s := .av (.val (.int _ _))) rfl; exact rfl
            apply sq_g; exact g_assign (s := .av (.val (.int _ _))) rfl; exact rfl
            apply sq_g; exact g_assign (s := .av (.val (.int _ _))) rfl; exact rfl
            refine sq_nil ?_
            refine sq_then ?_
            refine cq_ret ?_
            exact sq_resN (rvs := [_, _]) (τs := [_, _]) rfl rfl ⟨.tmp rfl, .tmp rfl, trivial⟩ (by rw [e1, e2, e3])
end Go.Proofs.Ytacepcnbgacipaa
namespace Go.Proofs.Ytacepcnbgacipaa
open Go Go.Vc Go.RowKit
set_option maxHeartbeats 1000000
def errE (l : List Pt) (d : Pt) : Int := if chk l ≠ 0 then chk l else if rightB d = false then 2 else if l.length = 0 then 13 else if d = ⟨0, 0⟩ then 10 else 0
def extN (l : List Pt) (d : Pt) : List Nat := if errE l d = 0 then tops l d else []
theorem pt0 (p : Pt) : ([p.x, p.y] == [0, 0]) = decide (p = ⟨0, 0⟩) := by
  cases p; rw [Bool.eq_iff_iff]; simp
theorem ext_c (l : List Pt) (d : Pt) (hn : chk l = 0 → l.length ≤ 64) : CtrA Try.prog 17 [pts l, pp d] (tupOf [idx (extN l d), vi (errE l d)]) := by
  refine ctrA _ Try.func17 rfl rfl Try.ntmps17 rfl fun w Z => ?_
  simp only [initT, List.map_cons, List.map_nil, Nat.zero_add, Nat.reduceAdd]
  refine cq_seq ?_
  refine cq_region ?_
  apply sq_g; exact g_box_agg rfl; exact rfl
  apply sq_g; exact g_assign (s := .av _) rfl; exact rfl
  apply sq_g; exact g_assign (s := .av (.val (.int _ _))) rfl; exact rfl
  refine sq_nil ?_
  refine sq_then ?_
  refine cq_seq ?_
  refine cq_seq ?_
  refine cq_region ?_
  apply sq_g; exact g_move (s := .av _) rfl; exact rfl
  apply sq_g; exact g_call (check_c l) rfl; exact rfl
  apply sq_g; exact g_assign (s := .av (.val (.int _ _))) rfl; exact rfl
  refine sq_nil ?_
  refine sq_then ?_
  refine cq_seq ?_
  refine cq_region ?_
  apply sq_g; exact g_move (s := .av (.val (.int _ _))) rfl; exact rfl
  apply sq_g; exact g_cmp rfl rfl rfl; exact rfl
  refine sq_nil ?_
  refine sq_then ?_
  (refine cq_cond rfl (fun hb => ?_) (fun hb => ?_) <;> (try simp only [decide_eq_true_eq, decide_eq_false_iff_not, beq_iff_eq, beq_eq_false_iff_ne, bne_iff_ne, bne_eq_false_iff_eq, ne_eq, Bool.not_eq_true', Bool.not_eq_false', Bool.and_eq_true, Bool.or_eq_true, Bool.and_eq_false_iff, Bool.or_eq_false_iff] at hb) <;> (try (exfalso; omega)))
  · have e1 : errE l d = chk l := by simp [errE, hb]
    have e2 : extN l d = [] := by simp [extN, e1, hb]
    refine cq_seq ?_
    refine cq_region ?_
    apply sq_g; exact g_move (s := .av (.val (.int _ _))) rfl; exact rfl
    apply sq_g; exact g_assign (s := .av _) rfl; exact rfl
    apply sq_g; exact g_assign (s := .av (.val (.int _ _))) rfl; exact rfl
    refine sq_nil ?_
    refine sq_then ?_
    refine cq_ret ?_
    refine sq_then_ret ?_
    exact sq_ent (ent_nil 4 1 (xf []) rfl) (sq_resN (rvs := [_, _]) (τs := [idx [], vi (chk l)]) rfl rfl ⟨.tmp rfl, .tmp rfl, trivial⟩ (by rw [e1, e2]))
  · have hb' := hb
    have sm := chk_sm hb
    have hn' := hn hb
    refine cq_skip ?_
    refine sq_then ?_
    refine cq_seq ?_
    refine cq_block ?_
    refine cq_seq ?_
    refine cq_region ?_
    apply sq_g; exact g_load_agg (us := [.int _ _, .int _ _]) rfl rfl rfl rfl; exact rfl
    apply sq_g; exact g_call (hright_c d) rfl; exact rfl
    apply sq_g; exact g_not rfl; exact rfl
    apply sq_g; exact g_assign (s := .av (.val (.bool _))) rfl; exact rfl
    refine sq_nil ?_
    refine sq_then ?_
    (refine cq_cond rfl (fun hb => ?_) (fun hb => ?_) <;> (try simp only [decide_eq_true_eq, decide_eq_false_iff_not, beq_iff_eq, beq_eq_false_iff_ne, bne_iff_ne, bne_eq_false_iff_eq, ne_eq, Bool.not_eq_true', Bool.not_eq_false', Bool.and_eq_true, Bool.or_eq_true, Bool.and_eq_false_iff, Bool.or_eq_false_iff] at hb) <;> (try (exfalso; omega)))
    · have e1 : errE l d = 2 := by simp [errE, hb', hb]
      have e2 : extN l d = [] := by simp [extN, e1]
      refine cq_seq ?_
      refine cq_region ?_
      apply sq_g; exact g_assign (s := .av _) rfl; exact rfl
      apply sq_g; exact g_assign (s := .av (.val (.int _ _))) rfl; exact rfl
      refine sq_nil ?_
      refine sq_then ?_
      refine cq_ret ?_
      refine sq_inBlock_ret ?_
      refine sq_then_ret ?_
      exact sq_ent (ent_nil 4 1 (xf []) rfl) (sq_resN (rvs := [_, _]) (τs := [idx [], vi 2]) rfl rfl ⟨.tmp rfl, .tmp rfl, trivial⟩ (by rw [e1, e2]))
    · have hr := hb
      have sp := right_sm hr
      refine cq_seq ?_
      refine cq_region ?_
      apply sq_g; exact g_move (s := .av _) rfl; exact rfl
      apply sq_g; exact g_len rfl; exact rfl
      apply sq_g; exact g_cmp rfl rfl rfl; exact rfl
      apply sq_g; exact g_assign (s := .av (.val (.bool _))) rfl; exact rfl
      refine sq_nil ?_
      refine sq_then ?_
      (refine cq_cond rfl (fun hb => ?_) (fun hb => ?_) <;> (try simp only [decide_eq_true_eq, decide_eq_false_iff_not, beq_iff_eq, beq_eq_false_iff_ne, bne_iff_ne, bne_eq_false_iff_eq, ne_eq, Bool.not_eq_true', Bool.not_eq_false', Bool.and_eq_true, Bool.or_eq_true, Bool.and_eq_false_iff, Bool.or_eq_false_iff] at hb) <;> (try (exfalso; omega)))
      · have e1 : errE l d = 13 := by simp [errE, hb', hr, show l.length = 0 by omega]
        have e2 : extN l d = [] := by simp [extN, e1]
        refine cq_seq ?_
        refine cq_region ?_
        apply sq_g; exact g_assign (s := .av _) rfl; exact rfl
        apply sq_g; exact g_assign (s := .av (.val (.int _ _))) rfl; exact rfl
        refine sq_nil ?_
        refine sq_then ?_
        refine cq_ret ?_
        refine sq_inBlock_ret ?_
        refine sq_then_ret ?_
        exact sq_ent (ent_nil 4 1 (xf []) rfl) (sq_resN (rvs := [_, _]) (τs := [idx [], vi 13]) rfl rfl ⟨.tmp rfl, .tmp rfl, trivial⟩ (by rw [e1, e2]))
      · have h0 : l.length ≠ 0 := by omega
        refine cq_seq ?_
        refine cq_region ?_
        apply sq_g; exact g_load_agg (us := [.int _ _, .int _ _]) rfl rfl rfl rfl; exact rfl
        apply sq_g; exact  g_build (is := []) (xs := []) (vs := []) tb24_0 rfl rfl; exact rfl
        apply sq_g; exact g_eql (xs := [_, _]) (ys := [_, _]) rfl rfl rfl rfl; exact rfl
        apply sq_g; exact g_assign (s := .av (.val (.bool _))) rfl; exact rfl
        refine sq_nil ?_
        refine sq_then ?_
        rw [pt0]
        (refine cq_cond rfl (fun hb => ?_) (fun hb => ?_) <;> (try simp only [decide_eq_true_eq, decide_eq_false_iff_not, beq_iff_eq, beq_eq_false_iff_ne, bne_iff_ne, bne_eq_false_iff_eq, ne_eq, Bool.not_eq_true', Bool.not_eq_false', Bool.and_eq_true, Bool.or_eq_true, Bool.and_eq_false_iff, Bool.or_eq_false_iff] at hb) <;> (try (exfalso; omega)))
        · have e1 : errE l d = 10 := by rw [hb] at hr ⊢; simp [errE, hb', hr, h0]
          have e2 : extN l d = [] := by simp [extN, e1]
          refine cq_seq ?_
          refine cq_region ?_
          apply sq_g; exact g_assign (s := .av _) rfl; exact rfl
          apply sq_g; exact g_assign (s := .av (.val (.int _ _))) rfl; exact rfl
          refine sq_nil ?_
          refine sq_then ?_
          refine cq_ret ?_
          refine sq_inBlock_ret ?_
          refine sq_then_ret ?_
          exact sq_ent (ent_nil 4 1 (xf []) rfl) (sq_resN (rvs := [_, _]) (τs := [idx [], vi 10]) rfl rfl ⟨.tmp rfl, .tmp rfl, trivial⟩ (by rw [e1, e2]))
        · have e1 : errE l d = 0 := by simp [errE, hb', hr, h0, hb]
          have e2 : extN l d = tops l d := by simp [extN, e1]
          refine cq_skip ?_
          refine sq_then ?_
          refine cq_seq ?_
          refine cq_region ?_
          apply sq_g; exact g_move (s := .av _) rfl; exact rfl
          apply sq_g; exact g_load_agg (us := [.int _ _, .int _ _]) rfl rfl rfl rfl; exact rfl
          apply sq_g; exact g_call (htop_c l d sm sp.bd (by omega) hn') rfl; exact rfl
          apply sq_g; exact g_assign (s := .av (.val (.int _ _))) rfl; exact rfl
          refine sq_nil ?_
          refine sq_then ?_
          refine cq_seq ?_
          refine cq_region ?_
          apply sq_g; exact g_assign (s := .av _) rfl; exact rfl
          refine sq_nil ?_
          refine sq_then ?_
          refine cq_seq ?_
          refine cq_seq ?_
          refine cq_region ?_
          apply sq_g; exact g_move (s := .av _) rfl; exact rfl
          apply sq_g; exact g_len rfl; exact rfl
          apply sq_g; exact g_move (s := .av (.val (.int _ _))) rfl; exact rfl
          refine sq_nil ?_
          refine sq_then ?_
          refine cq_block ?_
          refine cq_loop (γ := Nat) (fun k => [(0, .av (pts l)), (3, .av (bp d)), (7, .av (vi (top l d))), (8, .osl 0), (31, .av (pts l)), (32, .av (vi l.length)), (33, .av (vi k))]) (fun k => [(0, .row 3 1 (topsTo l d k).length (xf (topsTo l d k)))]) (fun k => k ≤ l.length) (fun k => l.length - k) 0 (Nat.zero_le _) ((ent_row (dd := 8) 0 3 1 (xf []) rfl rfl).trans (ent ⟨.refl _, .refl _, .refl _, .refl _, .refl _, .refl _, .refl _, trivial⟩ ⟨⟨_, rfl, .refl _⟩, trivial⟩)) ?_
          intro k hk
          have hlen := topsTo_len l d k
          have hs := topsTo_succ l d k
          refine cq_seq ?_
          refine cq_region ?_
          apply sq_g; exact g_cmp rfl rfl rfl; exact rfl
          refine sq_nil ?_
          refine sq_then ?_
          refine cq_seq ?_
          (refine cq_cond rfl (fun hb => ?_) (fun hb => ?_) <;> (try simp only [decide_eq_true_eq, decide_eq_false_iff_not, beq_iff_eq, beq_eq_false_iff_ne, bne_iff_ne, bne_eq_false_iff_eq, ne_eq, Bool.not_eq_true', Bool.not_eq_false', Bool.and_eq_true, Bool.or_eq_true, Bool.and_eq_false_iff, Bool.or_eq_false_iff] at hb) <;> (try (exfalso; omega)))
          · refine cq_skip ?_
            refine sq_then ?_
            refine cq_seq ?_
            refine cq_block ?_
            refine cq_seq ?_
            refine cq_region ?_
            apply sq_g; exact g_move (s := .av (.val (.int _ _))) rfl; exact rfl
            apply sq_g; exact g_index rfl rfl rfl (by omega); exact rfl
            apply sq_g; exact g_load_agg (us := [.int _ _, .int _ _]) rfl rfl rfl rfl; exact rfl
            refine sq_v (f_alloc 10 rfl) rfl ?_
            apply sq_g; exact g_assign (s := .av (.val (.int _ _))) rfl; exact rfl
            refine sq_s (g_store_agg rfl rfl rfl rfl rfl rfl) ?_
            refine sq_nil ?_
            refine sq_then ?_
            refine cq_seq ?_
            refine cq_region ?_
            apply sq_g; exact g_load_own_agg (us := [.int _ _, .int _ _]) rfl rfl rfl rfl; exact rfl
            apply sq_g; exact g_load_agg (us := [.int _ _, .int _ _]) rfl rfl rfl rfl; exact rfl
            apply sq_g; exact g_call (hdot_c (gp l k) d (sm k).bd sp.bd) rfl; exact rfl
            apply sq_g; exact g_move (s := .av (.val (.int _ _))) rfl; exact rfl
            apply sq_g; exact g_cmp rfl rfl rfl; exact rfl
            refine sq_nil ?_
            refine sq_then ?_
            (refine cq_cond rfl (fun hb => ?_) (fun hb => ?_) <;> (try simp only [decide_eq_true_eq, decide_eq_false_iff_not, beq_iff_eq, beq_eq_false_iff_ne, bne_iff_ne, bne_eq_false_iff_eq, ne_eq, Bool.not_eq_true', Bool.not_eq_false', Bool.and_eq_true, Bool.or_eq_true, Bool.and_eq_false_iff, Bool.or_eq_false_iff] at hb) <;> (try (exfalso; omega)))
            · rw [if_pos hb] at hs
              refine cq_region ?_
              apply sq_g; exact g_move (s := .osl _) rfl; exact rfl
              apply sq_g; exact g_move (s := .av (.val (.int _ _))) rfl; exact rfl
              apply sq_g; exact g_one_ix (tq27 _) rfl rfl; exact rfl
              refine sq_v (v_push_ix rfl rfl rfl (by omega) rfl) rfl ?_
              apply sq_g; exact g_assign (s := .osl _) rfl; exact rfl
              refine sq_nil ?_
              refine sq_then ?_
              refine cq_region ?_
              apply sq_g; exact g_arith rfl rfl rfl (by omega); exact rfl
              apply sq_g; exact g_move (s := .av (.val (.int _ _))) rfl; exact rfl
              refine sq_nil ?_
              exact sq_round (k + 1) (by omega) (by omega) (ent ⟨.refl _, .refl _, .refl _, .refl _, .refl _, .refl _, .int (by omega), trivial⟩ ⟨⟨_, rfl, by rw [hs]; exact .refl _⟩, trivial⟩)
            · rw [if_neg hb] at hs
              refine cq_skip ?_
              refine sq_then ?_
              refine cq_region ?_
              apply sq_g; exact g_arith rfl rfl rfl (by omega); exact rfl
              apply sq_g; exact g_move (s := .av (.val (.int _ _))) rfl; exact rfl
              refine sq_nil ?_
              exact sq_round (k + 1) (by omega) (by omega) (ent ⟨.refl _, .refl _, .refl _, .refl _, .refl _, .refl _, .int (by omega), trivial⟩ ⟨⟨_, rfl, by rw [hs]; exact .refl _⟩, trivial⟩)
          · have : k = l.length := by omega
            subst this
            refine cq_exit ?_
            refine sq_then ?_
            refine cq_seq ?_
            refine cq_region ?_
            apply sq_g; exact g_move (s := .osl _) rfl; exact rfl
            apply sq_g; exact g_assign (s := .osl _) rfl; exact rfl
            apply sq_g; exact g_assign (s := .av (.val (.int _ _))) rfl; exact rfl
            refine sq_nil ?_
            refine sq_then ?_
            refine cq_ret ?_
            exact sq_ent (ent_freeze 0 rfl) (sq_resN (rvs := [_, _]) (τs := [idx (tops l d), vi 0]) rfl rfl ⟨.tmp rfl, .tmp rfl, trivial⟩ (by rw [e1, e2]))
theorem equal_c (a b : List Nat) (hn : a.length ≤ 1000) : CtrA Try.prog 39 [idx a, idx b] (vb (decide (a = b))) := by
  refine ctrA _ Try.func39 rfl rfl Try.ntmps39 rfl fun w Z => ?_
  simp only [initT, List.map_cons, List.map_nil, Nat.zero_add, Nat.reduceAdd]
  refine cq_seq ?_
  refine cq_region ?_
  apply sq_g; exact g_assign (s := .av (.val (.bool _))) rfl; exact rfl
  refine sq_nil ?_
  refine sq_then ?_
  refine cq_seq ?_
  refine cq_seq ?_
  refine cq_region ?_
  apply sq_g; exact g_move (s := .av _) rfl; exact rfl
  apply sq_g; exact g_len rfl; exact rfl
  apply sq_g; exact g_move (s := .av _) rfl; exact rfl
  apply sq_g; exact g_len rfl; exact rfl
  apply sq_g; exact g_cmp rfl rfl rfl; exact rfl
  refine sq_nil ?_
  refine sq_then ?_
  (refine cq_cond rfl (fun hb => ?_) (fun hb => ?_) <;> (try simp only [decide_eq_true_eq, decide_eq_false_iff_not, beq_iff_eq, beq_eq_false_iff_ne, bne_iff_ne, bne_eq_false_iff_eq, ne_eq, Bool.not_eq_true', Bool.not_eq_false', Bool.and_eq_true, Bool.or_eq_true, Bool.and_eq_false_iff, Bool.or_eq_false_iff] at hb) <;> (try (exfalso; omega)))
  · refine cq_seq ?_
    refine cq_region ?_
    apply sq_g; exact g_assign (s := .av (.val (.bool _))) rfl; exact rfl
    refine sq_nil ?_
    refine sq_then ?_
    refine cq_ret ?_
    refine sq_then_ret ?_
    exact sq_res1 rfl (.tmp rfl) (congrArg vb (by symm; rw [decide_eq_false_iff_not]; intro e; subst e; exact hb rfl))
  · have hlen := hb
    refine cq_skip ?_
    refine sq_then ?_
    refine cq_seq ?_
    refine cq_seq ?_
    refine cq_region ?_
    apply sq_g; exact g_move (s := .av _) rfl; exact rfl
    apply sq_g; exact g_len rfl; exact rfl
    apply sq_g; exact g_move (s := .av (.val (.int _ _))) rfl; exact rfl
    refine sq_nil ?_
    refine sq_then ?_
    refine cq_block ?_
    refine cq_loop (γ := Nat) (fun k => [(0, .av (idx a)), (1, .av (idx b)), (11, .av (idx a)), (12, .av (vi a.length)), (13, .av (vi k))]) (fun _ => []) (fun k => k ≤ a.length ∧ ∀ k', k' < k → gi a k' = gi b k') (fun k => a.length - k) 0 ⟨Nat.zero_le _, by intro k hk; omega⟩ (ent ⟨.refl _, .refl _, .refl _, .refl _, .refl _, trivial⟩ trivial) ?_
    rintro k ⟨hk, hall⟩
    refine cq_seq ?_
    refine cq_region ?_
    apply sq_g; exact g_cmp rfl rfl rfl; exact rfl
    refine sq_nil ?_
    refine sq_then ?_
    refine cq_seq ?_
    (refine cq_cond rfl (fun hb => ?_) (fun hb => ?_) <;> (try simp only [decide_eq_true_eq, decide_eq_false_iff_not, beq_iff_eq, beq_eq_false_iff_ne, bne_iff_ne, bne_eq_false_iff_eq, ne_eq, Bool.not_eq_true', Bool.not_eq_false', Bool.and_eq_true, Bool.or_eq_true, Bool.and_eq_false_iff, Bool.or_eq_false_iff] at hb) <;> (try (exfalso; omega)))
    · refine cq_skip ?_
      refine sq_then ?_
      refine cq_seq ?_
      refine cq_block ?_
      refine cq_seq ?_
      refine cq_region ?_
      apply sq_g; exact g_move (s := .av (.val (.int _ _))) rfl; exact rfl
      apply sq_g; exact g_assign (s := .av (.val (.int _ _))) rfl; exact rfl
      refine sq_nil ?_
      refine sq_then ?_
      refine cq_seq ?_
      refine cq_drawn ?_
      apply dq_g; exact g_move (s := .av _) rfl; exact rfl
      apply dq_g; exact g_move (s := .av (.val (.int _ _))) rfl; exact rfl
      apply dq_g; exact g_index rfl rfl rfl (by omega); exact rfl
      apply dq_g; exact g_load (τ := .val (.int _ _)) rfl rfl rfl; exact rfl
      apply dq_g; exact g_move (s := .av _) rfl; exact rfl
      apply dq_g; exact g_move (s := .av (.val (.int _ _))) rfl; exact rfl
      apply dq_g; exact g_index rfl rfl rfl (by omega); exact rfl
      apply dq_g; exact g_load (τ := .val (.int _ _)) rfl rfl rfl; exact rfl
      apply dq_g; exact g_cmp rfl rfl rfl; exact rfl
      refine dq_nil tm rfl ?_
      refine sq_then ?_
      (refine cq_cond rfl (fun hb => ?_) (fun hb => ?_) <;> (try simp only [decide_eq_true_eq, decide_eq_false_iff_not, beq_iff_eq, beq_eq_false_iff_ne, bne_iff_ne, bne_eq_false_iff_eq, ne_eq, Bool.not_eq_true', Bool.not_eq_false', Bool.and_eq_true, Bool.or_eq_true, Bool.and_eq_false_iff, Bool.or_eq_false_iff] at hb) <;> (try (exfalso; omega)))
      · refine cq_seq ?_
        refine cq_region ?_
        apply sq_g; exact g_assign (s := .av (.val (.bool _))) rfl; exact rfl
        refine sq_nil ?_
        refine sq_then ?_
        refine cq_ret ?_
        refine sq_inBlock_ret ?_
        refine sq_then_ret ?_
        refine sq_then_ret ?_
        refine sq_inBlock_ret ?_
        refine sq_then_ret ?_
        exact sq_res1 rfl (.tmp rfl) (congrArg vb (by symm; rw [decide_eq_false_iff_not]; intro e; subst e; exact hb rfl))
      · refine cq_skip ?_
        refine sq_then ?_
        refine cq_region ?_
        apply sq_g; exact g_arith rfl rfl rfl (by omega); exact rfl
        apply sq_g; exact g_move (s := .av (.val (.int _ _))) rfl; exact rfl
        refine sq_nil ?_
        exact sq_round (k + 1) ⟨by omega, lt_step hall (by omega)⟩ (by omega) (ent ⟨.refl _, .refl _, .refl _, .refl _, .int (by omega), trivial⟩ trivial)
    · refine cq_exit ?_
      refine sq_then ?_
      refine cq_seq ?_
      refine cq_region ?_
      apply sq_g; exact g_assign (s := .av (.val (.bool _))) rfl; exact rfl
      refine sq_nil ?_
      refine sq_then ?_
      refine cq_ret ?_
      refine sq_res1 rfl (.tmp rfl) (congrArg vb ?_)
      symm; rw [decide_eq_true_eq]
      refine List.ext_getElem (by omega) fun i h1 h2 => ?_
      have := hall i (by omega)
      rwa [gi_eq h1, gi_eq h2] at this
theorem at_c (x y : Int) : CtrA Try.prog 38 [vi x, vi y] (pp ⟨x, y⟩) := by
  refine ctrA _ Try.func38 rfl rfl Try.ntmps38 rfl fun w Z => ?_
  simp only [initT, List.map_cons, List.map_nil, Nat.zero_add, Nat.reduceAdd]
  refine cq_seq ?_
  refine cq_region ?_
  refine sq_v (f_alloc 10 rfl) rfl ?_
  refine sq_nil ?_
  refine sq_then ?_
  refine cq_seq ?_
  refine cq_region ?_
  apply sq_g; exact g_move (s := .av (.val (.int _ _))) rfl; exact rfl
  apply sq_g; exact g_move (s := .av (.val (.int _ _))) rfl; exact rfl
  apply sq_g; exact g_build (is := [0, 1]) (xs := [_, _]) (vs := [_, _]) (tb24 _ _) rfl rfl; exact rfl
  refine sq_s (g_store_agg rfl rfl rfl rfl rfl rfl) ?_
  refine sq_nil ?_
  refine sq_then ?_
  refine cq_ret ?_
  exact sq_res1 rfl (.agg (us := [_, _]) rfl rfl rfl rfl) rfl
def Tab6 : List Pt := [⟨0, 0⟩, ⟨4, 0⟩, ⟨2, 1⟩, ⟨4, 4⟩, ⟨0, 4⟩, ⟨2, 0⟩]
theorem tq22_6 (a b c d e f g h i j k l : Int) (w : World) : (Instr.buildSlice 22 6 #[(0, .agg #[.int .i64 a, .int .i64 b]), (1, .agg #[.int .i64 c, .int .i64 d]), (2, .agg #[.int .i64 e, .int .i64 f]), (3, .agg #[.int .i64 g, .int .i64 h]), (4, .agg #[.int .i64 i, .int .i64 j]), (5, .agg #[.int .i64 k, .int .i64 l])]).run Try.prog w = .ok (.slice (some ⟨w.heap.size, 0, none⟩) 6 6) (w.alloc (.cells #[.int .i64 a, .int .i64 b, .int .i64 c, .int .i64 d, .int .i64 e, .int .i64 f, .int .i64 g, .int .i64 h, .int .i64 i, .int .i64 j, .int .i64 k, .int .i64 l] 24)) := by kernel_rfl
theorem row6 : ∀ i, i < 6 → ∀ j, j < 2 → ∃ u, [Value.int .i64 0, .int .i64 0, .int .i64 4, .int .i64 0, .int .i64 2, .int .i64 1, .int .i64 4, .int .i64 4, .int .i64 0, .int .i64 4, .int .i64 2, .int .i64 0][i * 2 + j]? = some u ∧ pf Tab6 i j = .val u := by
  intro i hi j hj
  match i, hi, j, hj with
  | 0, _, 0, _ | 0, _, 1, _ | 1, _, 0, _ | 1, _, 1, _ | 2, _, 0, _ | 2, _, 1, _ | 3, _, 0, _ | 3, _, 1, _ | 4, _, 0, _ | 4, _, 1, _ | 5, _, 0, _ | 5, _, 1, _ => exact ⟨_, rfl, rfl⟩
theorem table_c : CtrA Try.prog 49 [] (pts Tab6) := by
  refine ctrA _ Try.func49 rfl rfl Try.ntmps49 rfl fun w Z => ?_
  simp only [initT, List.map_cons, List.map_nil, Nat.zero_add, Nat.reduceAdd]
  refine cq_seq ?_
  refine cq_region ?_
  apply sq_g; exact g_assign (s := .av _) rfl; exact rfl
  refine sq_nil ?_
  refine sq_then ?_
  refine cq_seq ?_
  refine cq_region ?_
  apply sq_g; exact g_call (at_c _ _) rfl; exact rfl
  apply sq_g; exact g_call (at_c _ _) rfl; exact rfl
  apply sq_g; exact g_call (at_c _ _) rfl; exact rfl
  apply sq_g; exact g_call (at_c _ _) rfl; exact rfl
  apply sq_g; exact g_call (at_c _ _) rfl; exact rfl
  apply sq_g; exact g_call (at_c _ _) rfl; exact rfl
  apply sq_g; exact  g_bslice (is := [0, 1, 2, 3, 4, 5]) (xs := [_, _, _, _, _, _]) (vs := [_, _, _, _, _, _]) (us := [_, _, _, _, _, _, _, _, _, _, _, _]) (tq22_6 _ _ _ _ _ _ _ _ _ _ _ _) rfl rfl rfl row6; exact rfl
  apply sq_g; exact g_assign (s := .av _) rfl; exact rfl
  refine sq_nil ?_
  refine sq_then ?_
  refine cq_ret ?_
  exact sq_res1 rfl (.tmp rfl) rfl
end Go.Proofs.Ytacepcnbgacipaa
namespace Go.Proofs.Ytacepcnbgacipaa
open Go Go.Vc Go.RowKit
set_option maxHeartbeats 1000000
/-! Farthest -/
abbrev FS := Int × Nat × Nat
def farS (l : List Pt) (i : Nat) (s : FS) (j : Nat) : FS := if far (gp l i) (gp l j) > s.1 then (far (gp l i) (gp l j), i, j) else s
def farR (l : List Pt) (i : Nat) (s : FS) (m : Nat) : FS := (List.range' (i + 1) m).foldl (farS l i) s
def farTo (l : List Pt) (m : Nat) : FS := (List.range m).foldl (fun s i => farR l i s (l.length - (i + 1))) (-1, 0, 0)
theorem farR_succ (l : List Pt) (i : Nat) (s : FS) (m : Nat) : farR l i s (m + 1) = farS l i (farR l i s m) (i + 1 + m) := by
  simp [farR, List.range'_concat, List.foldl_append]
theorem farTo_succ (l : List Pt) (m : Nat) : farTo l (m + 1) = farR l m (farTo l m) (l.length - (m + 1)) := by
  simp [farTo, List.range_succ, List.foldl_append]
def errF (l : List Pt) : Int := if chk l ≠ 0 then chk l else if l.length < 2 then 13 else 0
def farN (l : List Pt) : FS := if errF l = 0 then farTo l l.length else (0, 0, 0)
abbrev prv (s : FS) : AV := pv s.2.1 s.2.2
theorem tb62_0 : Try.prog.built 62 [] = some #[.int .i64 0, .int .i64 0] := by kernel_rfl
abbrev cpr (s : FS) : Res := .cells [.av (vi s.2.1), .av (vi s.2.2)]
theorem hdot_self (p : Pt) (h : BdP p) : CtrA Try.prog 56 [pp p, pp p] (vi (dot p p)) := hdot_c p p h h
theorem hless_far (a b : Pt) : dot (sub a b) (sub a b) = far a b := rfl
theorem fart_c (l : List Pt) : CtrA Try.prog 44 [pts l] (tupOf [vi (farN l).1, prv (farN l), vi (errF l)]) := by
  refine ctrA _ Try.func44 rfl rfl Try.ntmps44 rfl fun w Z => ?_
  simp only [initT, List.map_cons, List.map_nil, Nat.zero_add, Nat.reduceAdd]
  refine cq_seq ?_
  refine cq_region ?_
  apply sq_g; exact g_assign (s := .av (.val (.int _ _))) rfl; exact rfl
  refine sq_v (f_alloc 10 rfl) rfl ?_
  apply sq_g; exact g_assign (s := .av (.val (.int _ _))) rfl; exact rfl
  refine sq_nil ?_
  refine sq_then ?_
  refine cq_seq ?_
  refine cq_seq ?_
  refine cq_region ?_
  apply sq_g; exact g_move (s := .av _) rfl; exact rfl
  apply sq_g; exact g_call (check_c l) rfl; exact rfl
  apply sq_g; exact g_assign (s := .av (.val (.int _ _))) rfl; exact rfl
  refine sq_nil ?_
  refine sq_then ?_
  refine cq_seq ?_
  refine cq_region ?_
  apply sq_g; exact g_move (s := .av (.val (.int _ _))) rfl; exact rfl
  apply sq_g; exact g_cmp rfl rfl rfl; exact rfl
  refine sq_nil ?_
  refine sq_then ?_
  (refine cq_cond rfl (fun hb => ?_) (fun hb => ?_) <;> (try simp only [decide_eq_true_eq, decide_eq_false_iff_not, beq_iff_eq, beq_eq_false_iff_ne, bne_iff_ne, bne_eq_false_iff_eq, ne_eq, Bool.not_eq_true', Bool.not_eq_false', Bool.and_eq_true, Bool.or_eq_true, Bool.and_eq_false_iff, Bool.or_eq_false_iff] at hb) <;> (try (exfalso; omega)))
  · have e1 : errF l = chk l := by simp [errF, hb]
    have e2 : farN l = (0, 0, 0) := by simp [farN, e1, hb]
    refine cq_seq ?_
    refine cq_region ?_
    apply sq_g; exact  g_build (is := []) (xs := []) (vs := []) tb62_0 rfl rfl; exact rfl
    apply sq_g; exact g_move (s := .av (.val (.int _ _))) rfl; exact rfl
    apply sq_g; exact g_assign (s := .av (.val (.int _ _))) rfl; exact rfl
    refine sq_s (g_store_agg rfl rfl rfl rfl rfl rfl) ?_
    apply sq_g; exact g_assign (s := .av (.val (.int _ _))) rfl; exact rfl
    refine sq_nil ?_
    refine sq_then ?_
    refine cq_ret ?_
    refine sq_then_ret ?_
    exact sq_resN (rvs := [_, _, _]) (τs := [_, _, _]) rfl rfl ⟨.tmp rfl, .agg (us := [_, _]) rfl rfl rfl rfl, .tmp rfl, trivial⟩ (by rw [e1, e2]; rfl)
  · have hb' := hb
    have sm := chk_sm hb
    have hn := chk_len hb
    refine cq_skip ?_
    refine sq_then ?_
    refine cq_seq ?_
    refine cq_seq ?_
    refine cq_region ?_
    apply sq_g; exact g_move (s := .av _) rfl; exact rfl
    apply sq_g; exact g_len rfl; exact rfl
    apply sq_g; exact g_cmp rfl rfl rfl; exact rfl
    refine sq_nil ?_
    refine sq_then ?_
    (refine cq_cond rfl (fun hb => ?_) (fun hb => ?_) <;> (try simp only [decide_eq_true_eq, decide_eq_false_iff_not, beq_iff_eq, beq_eq_false_iff_ne, bne_iff_ne, bne_eq_false_iff_eq, ne_eq, Bool.not_eq_true', Bool.not_eq_false', Bool.and_eq_true, Bool.or_eq_true, Bool.and_eq_false_iff, Bool.or_eq_false_iff] at hb) <;> (try (exfalso; omega)))
    · have e1 : errF l = 13 := by simp [errF, hb', show l.length < 2 by omega]
      have e2 : farN l = (0, 0, 0) := by simp [farN, e1]
      refine cq_seq ?_
      refine cq_region ?_
      apply sq_g; exact  g_build (is := []) (xs := []) (vs := []) tb62_0 rfl rfl; exact rfl
      apply sq_g; exact g_assign (s := .av (.val (.int _ _))) rfl; exact rfl
      refine sq_s (g_store_agg rfl rfl rfl rfl rfl rfl) ?_
      apply sq_g; exact g_assign (s := .av (.val (.int _ _))) rfl; exact rfl
      refine sq_nil ?_
      refine sq_then ?_
      refine cq_ret ?_
      refine sq_then_ret ?_
      exact sq_resN (rvs := [_, _, _]) (τs := [_, _, _]) rfl rfl ⟨.tmp rfl, .agg (us := [_, _]) rfl rfl rfl rfl, .tmp rfl, trivial⟩ (by rw [e1, e2]; rfl)
    · have e1 : errF l = 0 := by simp [errF, hb', show ¬ l.length < 2 by omega]
      have e2 : farN l = farTo l l.length := by simp [farN, e1]
      refine cq_skip ?_
      refine sq_then ?_
      refine cq_seq ?_
      refine cq_region ?_
      apply sq_g; exact  g_build (is := []) (xs := []) (vs := []) tb62_0 rfl rfl; exact rfl
      refine sq_v (f_alloc 11 rfl) rfl ?_
      apply sq_g; exact g_assign (s := .av (.val (.int _ _))) rfl; exact rfl
      refine sq_s (g_store_agg rfl rfl rfl rfl rfl rfl) ?_
      refine sq_nil ?_
      refine sq_then ?_
      refine cq_seq ?_
      refine cq_seq ?_
      refine cq_region ?_
      apply sq_g; exact g_move (s := .av _) rfl; exact rfl
      apply sq_g; exact g_len rfl; exact rfl
      apply sq_g; exact g_move (s := .av (.val (.int _ _))) rfl; exact rfl
      refine sq_nil ?_
      refine sq_then ?_
      refine cq_block ?_
      refine cq_loop (γ := Nat) (fun i => [(0, .av (pts l)), (3, .own 10 0), (6, .av (vi (farTo l i).1)), (7, .own 11 0), (24, .av (pts l)), (25, .av (vi l.length)), (26, .av (vi i))]) (fun i => [(10, .cells [.av (vi 0), .av (vi 0)]), (11, cpr (farTo l i))]) (fun i => i ≤ l.length) (fun i => l.length - i) 0 (Nat.zero_le _) (ent ⟨.refl _, .refl _, .refl _, .refl _, .refl _, .refl _, .refl _, trivial⟩ ⟨⟨_, rfl, .refl _⟩, ⟨_, rfl, .refl _⟩, trivial⟩) ?_
      intro i hi
      refine cq_seq ?_
      refine cq_region ?_
      apply sq_g; exact g_cmp rfl rfl rfl; exact rfl
      refine sq_nil ?_
      refine sq_then ?_
      refine cq_seq ?_
      (refine cq_cond rfl (fun hb => ?_) (fun hb => ?_) <;> (try simp only [decide_eq_true_eq, decide_eq_false_iff_not, beq_iff_eq, beq_eq_false_iff_ne, bne_iff_ne, bne_eq_false_iff_eq, ne_eq, Bool.not_eq_true', Bool.not_eq_false', Bool.and_eq_true, Bool.or_eq_true, Bool.and_eq_false_iff, Bool.or_eq_false_iff] at hb) <;> (try (exfalso; omega)))
      · have hil : i < l.length := by omega
        refine cq_skip ?_
        refine sq_then ?_
        refine cq_seq ?_
        refine cq_block ?_
        refine cq_seq ?_
        refine cq_region ?_
        apply sq_g; exact g_move (s := .av (.val (.int _ _))) rfl; exact rfl
        apply sq_g; exact g_index rfl rfl rfl (by omega); exact rfl
        apply sq_g; exact g_load_agg (us := [.int _ _, .int _ _]) rfl rfl rfl rfl; exact rfl
        refine sq_v (f_alloc 12 rfl) rfl ?_
        apply sq_g; exact g_assign (s := .av (.val (.int _ _))) rfl; exact rfl
        refine sq_s (g_store_agg rfl rfl rfl rfl rfl rfl) ?_
        refine sq_nil ?_
        refine sq_then ?_
        refine cq_seq ?_
        refine cq_region ?_
        apply sq_g; exact g_move (s := .av (.val (.int _ _))) rfl; exact rfl
        apply sq_g; exact g_arith rfl rfl rfl (by omega); exact rfl
        apply sq_g; exact g_assign (s := .av (.val (.int _ _))) rfl; exact rfl
        refine sq_nil ?_
        refine sq_then ?_
        refine cq_block ?_
        refine cq_loop (γ := Nat) (fun m => [(0, .av (pts l)), (3, .own 10 0), (6, .av (vi (farR l i (farTo l i) m).1)), (7, .own 11 0), (8, .av (vi i)), (9, .own 12 0), (10, .av (vi ((i + 1 + m : Nat) : Int))), (24, .av (pts l)), (25, .av (vi l.length)), (26, .av (vi i))]) (fun m => [(10, .cells [.av (vi 0), .av (vi 0)]), (11, cpr (farR l i (farTo l i) m)), (12, cp (gp l i))]) (fun m => i + 1 + m ≤ l.length) (fun m => l.length - m) 0 (by omega) (ent ⟨.refl _, .refl _, .refl _, .refl _, .refl _, .refl _, .int (by omega), .refl _, .refl _, .refl _, trivial⟩ ⟨⟨_, rfl, .refl _⟩, ⟨_, rfl, .refl _⟩, ⟨_, rfl, .refl _⟩, trivial⟩) ?_
        intro m hm
        have hs := farR_succ l i (farTo l i) m
        refine cq_seq ?_
        refine cq_seq ?_
        refine cq_region ?_
        apply sq_g; exact g_move (s := .av (.val (.int _ _))) rfl; exact rfl
        apply sq_g; exact g_move (s := .av _) rfl; exact rfl
        apply sq_g; exact g_len rfl; exact rfl
        apply sq_g; exact g_cmp rfl rfl rfl; exact rfl
        refine sq_nil ?_
        refine sq_then ?_
        (refine cq_cond rfl (fun hb => ?_) (fun hb => ?_) <;> (try simp only [decide_eq_true_eq, decide_eq_false_iff_not, beq_iff_eq, beq_eq_false_iff_ne, bne_iff_ne, bne_eq_false_iff_eq, ne_eq, Bool.not_eq_true', Bool.not_eq_false', Bool.and_eq_true, Bool.or_eq_true, Bool.and_eq_false_iff, Bool.or_eq_false_iff] at hb) <;> (try (exfalso; omega)))
        · have hml : i + 1 + m < l.length := by omega
          refine cq_skip ?_
          refine sq_then ?_
          refine cq_seq ?_
          refine cq_block ?_
          refine cq_seq ?_
          refine cq_drawn ?_
          apply dq_g; exact g_load_own_agg (us := [.int _ _, .int _ _]) rfl rfl rfl rfl; exact rfl
          apply dq_g; exact g_move (s := .av _) rfl; exact rfl
          apply dq_g; exact g_move (s := .av (.val (.int _ _))) rfl; exact rfl
          apply dq_g; exact g_index rfl rfl rfl (by omega); exact rfl
          apply dq_g; exact g_load_agg (us := [.int _ _, .int _ _]) rfl rfl rfl rfl; exact rfl
          apply dq_g; exact g_call (hless_c (gp l i) (gp l (i + 1 + m)) (sm _) (sm _)) rfl; exact rfl
          refine dq_v (ga_alloc 13) rfl rfl ?_
          refine dq_s (g_store_agg rfl rfl rfl rfl rfl rfl) ?_
          refine dq_nil tm rfl ?_
          refine sq_then ?_
          refine cq_seq ?_
          refine cq_region ?_
          apply sq_g; exact g_load_own_agg (us := [.int _ _, .int _ _]) rfl rfl rfl rfl; exact rfl
          apply sq_g; exact g_load_own_agg (us := [.int _ _, .int _ _]) rfl rfl rfl rfl; exact rfl
          apply sq_g; exact g_call (hdot_self (sub (gp l i) (gp l (i + 1 + m))) (sub_bd (sm _) (sm _))) rfl; exact rfl
          apply sq_g; exact g_assign (s := .av (.val (.int _ _))) rfl; exact rfl
          refine sq_nil ?_
          refine sq_then ?_
          refine cq_seq ?_
          refine cq_region ?_
          apply sq_g; exact g_move (s := .av (.val (.int _ _))) rfl; exact rfl
          apply sq_g; exact g_move (s := .av (.val (.int _ _))) rfl; exact rfl
          apply sq_g; exact g_cmp rfl rfl rfl; exact rfl
          refine sq_nil ?_
          refine sq_then ?_
          rw [hless_far]
          (refine cq_cond rfl (fun hb => ?_) (fun hb => ?_) <;> (try simp only [decide_eq_true_eq, decide_eq_false_iff_not, beq_iff_eq, beq_eq_false_iff_ne, bne_iff_ne, bne_eq_false_iff_eq, ne_eq, Bool.not_eq_true', Bool.not_eq_false', Bool.and_eq_true, Bool.or_eq_true, Bool.and_eq_false_iff, Bool.or_eq_false_iff] at hb) <;> (try (exfalso; omega)))
          · have e3 : farR l i (farTo l i) (m + 1) = (far (gp l i) (gp l (i + 1 + m)), i, i + 1 + m) := by rw [hs, farS, if_pos (by omega)]
            refine cq_region ?_
            apply sq_g; exact g_move (s := .av (.val (.int _ _))) rfl; exact rfl
            apply sq_g; exact g_move (s := .av (.val (.int _ _))) rfl; exact rfl
            apply sq_g; exact g_move (s := .av (.val (.int _ _))) rfl; exact rfl
            apply sq_g; exact g_build (is := [0, 1]) (xs := [_, _]) (vs := [_, _]) (tb62 _ _) rfl rfl; exact rfl
            apply sq_g; exact g_assign (s := .av (.val (.int _ _))) rfl; exact rfl
            refine sq_s (g_store_agg rfl rfl rfl rfl rfl rfl) ?_
            refine sq_nil ?_
            refine sq_then ?_
            refine cq_region ?_
            apply sq_g; exact g_move (s := .av (.val (.int _ _))) rfl; exact rfl
            apply sq_g; exact g_arith rfl rfl rfl (by omega); exact rfl
            apply sq_g; exact g_assign (s := .av (.val (.int _ _))) rfl; exact rfl
            refine sq_nil ?_
            exact sq_round (m + 1) (by omega) (by omega) (ent ⟨.refl _, .refl _, .int (by rw [e3]), .refl _, .refl _, .refl _, .int (by omega), .refl _, .refl _, .refl _, trivial⟩ ⟨⟨_, rfl, .refl _⟩, ⟨_, rfl, by rw [e3]; exact .refl _⟩, ⟨_, rfl, .refl _⟩, trivial⟩)
          · have e3 : farR l i (farTo l i) (m + 1) = farR l i (farTo l i) m := by rw [hs, farS, if_neg (by omega)]
            refine cq_skip ?_
            refine sq_then ?_
            refine cq_region ?_
            apply sq_g; exact g_move (s := .av (.val (.int _ _))) rfl; exact rfl
            apply sq_g; exact g_arith rfl rfl rfl (by omega); exact rfl
            apply sq_g; exact g_assign (s := .av (.val (.int _ _))) rfl; exact rfl
            refine sq_nil ?_
            exact sq_round (m + 1) (by omega) (by omega) (ent ⟨.refl _, .refl _, .int (by rw [e3]), .refl _, .refl _, .refl _, .int (by omega), .refl _, .refl _, .refl _, trivial⟩ ⟨⟨_, rfl, .refl _⟩, ⟨_, rfl, by rw [e3]; exact .refl _⟩, ⟨_, rfl, .refl _⟩, trivial⟩)
        · have hme : m = l.length - (i + 1) := by omega
          have e3 : farTo l (i + 1) = farR l i (farTo l i) m := by rw [farTo_succ, ← hme]
          refine cq_exit ?_
          refine sq_then ?_
          refine cq_region ?_
          apply sq_g; exact g_arith rfl rfl rfl (by omega); exact rfl
          apply sq_g; exact g_move (s := .av (.val (.int _ _))) rfl; exact rfl
          refine sq_nil ?_
          exact sq_round (i + 1) (by omega) (by omega) (ent ⟨.refl _, .refl _, .int (by rw [e3]), .refl _, .refl _, .refl _, .int (by omega), trivial⟩ ⟨⟨_, rfl, .refl _⟩, ⟨_, rfl, by rw [e3]; exact .refl _⟩, trivial⟩)
      · have hie : i = l.length := by omega
        subst hie
        refine cq_exit ?_
        refine sq_then ?_
        refine cq_seq ?_
        refine cq_drawn ?_
        apply dq_g; exact g_move (s := .av (.val (.int _ _))) rfl; exact rfl
        apply dq_g; exact g_load_own_agg (us := [.int _ _, .int _ _]) rfl rfl rfl rfl; exact rfl
        apply dq_g; exact g_assign (s := .av (.val (.int _ _))) rfl; exact rfl
        refine dq_s (g_store_agg rfl rfl rfl rfl rfl rfl) ?_
        apply dq_g; exact g_assign (s := .av (.val (.int _ _))) rfl; exact rfl
        refine dq_nil tm rfl ?_
        refine sq_then ?_
        refine cq_ret ?_
        exact sq_resN (rvs := [_, _, _]) (τs := [vi (farTo l l.length).1, prv (farTo l l.length), vi 0]) rfl rfl ⟨.tmp rfl, .agg (us := [_, _]) rfl rfl rfl rfl, .tmp rfl, trivial⟩ (by rw [e1, e2])
/-! awake -/
theorem sml6 : Sml Tab6 := fun _ => ⟨by decide, by decide, by decide⟩
theorem awk1 : hullN Tab6 = [0, 1, 3, 4] := by decide
theorem awk2 : errH Tab6 = 0 := by decide
theorem awk3 : locN Tab6 ⟨2, 1⟩ = 1 ∧ errL Tab6 ⟨2, 1⟩ = 0 := by decide
theorem awk4 : locN Tab6 ⟨2, 0⟩ = 0 ∧ errL Tab6 ⟨2, 0⟩ = 0 := by decide
theorem awk5 : extN Tab6 ⟨1, 0⟩ = [1, 3] ∧ errE Tab6 ⟨1, 0⟩ = 0 := by decide
theorem awk6 : (antN Tab6).length = 6 ∧ chk Tab6 = 0 := by decide
theorem awk7 : farN Tab6 = (32, 0, 3) ∧ errF Tab6 = 0 := by decide
theorem awk8 : sepR [⟨0, 0⟩, ⟨0, 5⟩] [⟨1, 0⟩] = (true, ⟨1, 0⟩, 0, 0) := by decide
end Go.Proofs.Ytacepcnbgacipaa
namespace Go.Proofs.Ytacepcnbgacipaa
open Go Go.Vc Go.RowKit
set_option maxHeartbeats 2000000
theorem tq27_2' (a b : Int) (w : World) : (Instr.buildSlice 27 2 #[(0, .int .i64 a), (1, .int .i64 b)]).run Try.prog w = .ok (.slice (some ⟨w.heap.size, 0, none⟩) 2 2) (w.alloc (.cells #[.int .i64 a, .int .i64 b] 3)) := by kernel_rfl
theorem tq27_4 (a b c d : Int) (w : World) : (Instr.buildSlice 27 4 #[(0, .int .i64 a), (1, .int .i64 b), (2, .int .i64 c), (3, .int .i64 d)]).run Try.prog w = .ok (.slice (some ⟨w.heap.size, 0, none⟩) 4 4) (w.alloc (.cells #[.int .i64 a, .int .i64 b, .int .i64 c, .int .i64 d] 3)) := by kernel_rfl
theorem rw13 : ∀ i, i < 2 → ∀ j, j < 1 → ∃ u, [Value.int .i64 1, .int .i64 3][i * 1 + j]? = some u ∧ xf [1, 3] i j = .val u := by
  intro i hi j hj
  match i, hi, j, hj with
  | 0, _, 0, _ | 1, _, 0, _ => exact ⟨_, rfl, rfl⟩
theorem rw0134 : ∀ i, i < 4 → ∀ j, j < 1 → ∃ u, [Value.int .i64 0, .int .i64 1, .int .i64 3, .int .i64 4][i * 1 + j]? = some u ∧ xf [0, 1, 3, 4] i j = .val u := by
  intro i hi j hj
  match i, hi, j, hj with
  | 0, _, 0, _ | 1, _, 0, _ | 2, _, 0, _ | 3, _, 0, _ => exact ⟨_, rfl, rfl⟩
theorem aw1 : CtrA Try.prog 13 [pts Tab6] (tupOf [idx [0, 1, 3, 4], vi 0]) := by have := hull_c Tab6 sml6; rwa [awk1, awk2] at this
theorem aw3 : CtrA Try.prog 15 [pts Tab6, pp ⟨2, 1⟩] (tupOf [vi 1, vi 0]) := by have := loc_c Tab6 ⟨2, 1⟩ sml6; rwa [awk3.1, awk3.2] at this
theorem aw4 : CtrA Try.prog 15 [pts Tab6, pp ⟨2, 0⟩] (tupOf [vi 0, vi 0]) := by have := loc_c Tab6 ⟨2, 0⟩ sml6; rwa [awk4.1, awk4.2] at this
theorem aw5 : CtrA Try.prog 17 [pts Tab6, pp ⟨1, 0⟩] (tupOf [idx [1, 3], vi 0]) := by have := ext_c Tab6 ⟨1, 0⟩ (fun _ => by decide); rwa [awk5.1, awk5.2] at this
theorem aw6 : CtrA Try.prog 20 [pts Tab6] (tupOf [.sl 6 2 (qf (antN Tab6)), vi 0]) := by have := (anti_c Tab6 sml6).roN; rwa [awk6.1, awk6.2] at this
theorem aw7 : CtrA Try.prog 44 [pts Tab6] (tupOf [vi 32, pv 0 3, vi 0]) := by have := fart_c Tab6; rw [awk7.1, awk7.2] at this; exact this
theorem aw8 : CtrA Try.prog 23 [pts [⟨0, 0⟩, ⟨0, 5⟩], pts [⟨1, 0⟩]] (tupOf [vb true, pp ⟨1, 0⟩, vi 0, vi 0]) := by have := sep_c [⟨0, 0⟩, ⟨0, 5⟩] [⟨1, 0⟩]; rw [awk8] at this; exact this
theorem ae4 : CtrA Try.prog 39 [idx [0, 1, 3, 4], idx [0, 1, 3, 4]] (vb true) := equal_c [0, 1, 3, 4] [0, 1, 3, 4] (by decide)
theorem ae2 : CtrA Try.prog 39 [idx [1, 3], idx [1, 3]] (vb true) := equal_c [1, 3] [1, 3] (by decide)
theorem awake_c : CtrA Try.prog 12 [] (vb true) := by
  refine ctrA _ Try.func12 rfl rfl Try.ntmps12 rfl fun w Z => ?_
  simp only [initT, List.map_cons, List.map_nil, Nat.zero_add, Nat.reduceAdd]
  refine cq_seq ?_
  refine cq_region ?_
  apply sq_g; exact g_assign (s := .av (.val (.bool _))) rfl; exact rfl
  refine sq_nil ?_
  refine sq_then ?_
  refine cq_seq ?_
  refine cq_region ?_
  apply sq_g; exact g_call (table_c) rfl; exact rfl
  apply sq_g; exact g_assign (s := .av _) rfl; exact rfl
  refine sq_nil ?_
  refine sq_then ?_
  refine cq_seq ?_
  refine cq_region ?_
  apply sq_g; exact g_move (s := .av _) rfl; exact rfl
  apply sq_g; exact g_call (aw1) rfl; exact rfl
  apply sq_g; exact g_move (s := .av _) rfl; exact rfl
  apply sq_g; exact g_extract rfl (by decide); exact rfl
  apply sq_g; exact g_extract rfl (by decide); exact rfl
  apply sq_g; exact g_assign (s := .av _) rfl; exact rfl
  apply sq_g; exact g_assign (s := .av (.val (.int _ _))) rfl; exact rfl
  refine sq_nil ?_
  refine sq_then ?_
  refine cq_seq ?_
  refine cq_region ?_
  apply sq_g; exact g_move (s := .av _) rfl; exact rfl
  apply sq_g; exact g_call (at_c _ _) rfl; exact rfl
  apply sq_g; exact g_call (aw3) rfl; exact rfl
  apply sq_g; exact g_move (s := .av _) rfl; exact rfl
  apply sq_g; exact g_extract rfl (by decide); exact rfl
  apply sq_g; exact g_extract rfl (by decide); exact rfl
  apply sq_g; exact g_assign (s := .av (.val (.int _ _))) rfl; exact rfl
  apply sq_g; exact g_assign (s := .av (.val (.int _ _))) rfl; exact rfl
  refine sq_nil ?_
  refine sq_then ?_
  refine cq_seq ?_
  refine cq_region ?_
  apply sq_g; exact g_move (s := .av _) rfl; exact rfl
  apply sq_g; exact g_call (at_c _ _) rfl; exact rfl
  apply sq_g; exact g_call (aw4) rfl; exact rfl
  apply sq_g; exact g_move (s := .av _) rfl; exact rfl
  apply sq_g; exact g_extract rfl (by decide); exact rfl
  apply sq_g; exact g_extract rfl (by decide); exact rfl
  apply sq_g; exact g_assign (s := .av (.val (.int _ _))) rfl; exact rfl
  apply sq_g; exact g_assign (s := .av (.val (.int _ _))) rfl; exact rfl
  refine sq_nil ?_
  refine sq_then ?_
  refine cq_seq ?_
  refine cq_region ?_
  apply sq_g; exact g_move (s := .av _) rfl; exact rfl
  apply sq_g; exact g_call (at_c _ _) rfl; exact rfl
  apply sq_g; exact g_call (aw5) rfl; exact rfl
  apply sq_g; exact g_move (s := .av _) rfl; exact rfl
  apply sq_g; exact g_extract rfl (by decide); exact rfl
  apply sq_g; exact g_extract rfl (by decide); exact rfl
  apply sq_g; exact g_assign (s := .av _) rfl; exact rfl
  apply sq_g; exact g_assign (s := .av (.val (.int _ _))) rfl; exact rfl
  refine sq_nil ?_
  refine sq_then ?_
  refine cq_seq ?_
  refine cq_region ?_
  apply sq_g; exact g_move (s := .av _) rfl; exact rfl
  apply sq_g; exact g_call (aw6) rfl; exact rfl
  apply sq_g; exact g_move (s := .av _) rfl; exact rfl
  apply sq_g; exact g_extract rfl (by decide); exact rfl
  apply sq_g; exact g_extract rfl (by decide); exact rfl
  apply sq_g; exact g_assign (s := .av _) rfl; exact rfl
  apply sq_g; exact g_assign (s := .av (.val (.int _ _))) rfl; exact rfl
  refine sq_nil ?_
  refine sq_then ?_
  refine cq_seq ?_
  refine cq_region ?_
  apply sq_g; exact g_move (s := .av _) rfl; exact rfl
  apply sq_g; exact g_call (aw7) rfl; exact rfl
  apply sq_g; exact g_move (s := .av _) rfl; exact rfl
  apply sq_g; exact g_extract rfl (by decide); exact rfl
  apply sq_g; exact g_extract rfl (by decide); exact rfl
  apply sq_g; exact g_extract rfl (by decide); exact rfl
  refine sq_v (f_alloc 10 rfl) rfl ?_
  apply sq_g; exact g_assign (s := .av (.val (.int _ _))) rfl; exact rfl
  refine sq_s (g_store_agg rfl rfl rfl rfl rfl rfl) ?_
  apply sq_g; exact g_assign (s := .av (.val (.int _ _))) rfl; exact rfl
  refine sq_nil ?_
  refine sq_then ?_
  refine cq_seq ?_
  refine cq_region ?_
  apply sq_g; exact g_call (at_c _ _) rfl; exact rfl
  apply sq_g; exact g_call (at_c _ _) rfl; exact rfl
  apply sq_g; exact  g_bslice (is := [0, 1]) (xs := [_, _]) (vs := [_, _]) (us := [_, _, _, _]) (tq22_2 _ _ _ _) rfl rfl rfl (pf2_row ⟨0, 0⟩ ⟨0, 5⟩); exact rfl
  apply sq_g; exact g_call (at_c _ _) rfl; exact rfl
  apply sq_g; exact g_one_pt (tq22 _ _) rfl; exact rfl
  apply sq_g; exact g_call (aw8) rfl; exact rfl
  apply sq_g; exact g_move (s := .av _) rfl; exact rfl
  apply sq_g; exact g_extract rfl (by decide); exact rfl
  apply sq_g; exact g_extract rfl (by decide); exact rfl
  apply sq_g; exact g_extract rfl (by decide); exact rfl
  apply sq_g; exact g_extract rfl (by decide); exact rfl
  refine sq_v (f_alloc 11 rfl) rfl ?_
  apply sq_g; exact g_assign (s := .av (.val (.bool _))) rfl; exact rfl
  refine sq_s (g_store_agg rfl rfl rfl rfl rfl rfl) ?_
  apply sq_g; exact g_assign (s := .av (.val (.int _ _))) rfl; exact rfl
  apply sq_g; exact g_assign (s := .av (.val (.int _ _))) rfl; exact rfl
  refine sq_nil ?_
  refine sq_then ?_
  refine cq_seq ?_
  refine cq_drawn ?_
  apply dq_g; exact g_move (s := .av (.val (.int _ _))) rfl; exact rfl
  apply dq_g; exact g_move (s := .av (.val (.int _ _))) rfl; exact rfl
  apply dq_g; exact g_arith rfl rfl rfl (by omega); exact rfl
  apply dq_g; exact g_move (s := .av (.val (.int _ _))) rfl; exact rfl
  apply dq_g; exact g_arith rfl rfl rfl (by omega); exact rfl
  apply dq_g; exact g_move (s := .av (.val (.int _ _))) rfl; exact rfl
  apply dq_g; exact g_arith rfl rfl rfl (by omega); exact rfl
  apply dq_g; exact g_move (s := .av (.val (.int _ _))) rfl; exact rfl
  apply dq_g; exact g_arith rfl rfl rfl (by omega); exact rfl
  apply dq_g; exact g_move (s := .av (.val (.int _ _))) rfl; exact rfl
  apply dq_g; exact g_arith rfl rfl rfl (by omega); exact rfl
  apply dq_g; exact g_move (s := .av (.val (.int _ _))) rfl; exact rfl
  apply dq_g; exact g_arith rfl rfl rfl (by omega); exact rfl
  apply dq_g; exact g_cmp rfl rfl rfl; exact rfl
  apply dq_g; exact g_move (s := .av (.val (.bool _))) rfl; exact rfl
  apply dq_on; exact g_move (s := .av _) rfl; exact rfl; exact rfl; exact rfl
  apply dq_on; exact  g_bslice (is := [0, 1, 2, 3]) (xs := [_, _, _, _]) (vs := [_, _, _, _]) (us := [_, _, _, _]) (tq27_4 _ _ _ _) rfl rfl rfl rw0134; exact rfl; exact rfl; exact rfl
  apply dq_on; exact g_call (ae4) rfl; exact rfl; exact rfl; exact rfl
  apply dq_g; exact g_pick (s := .av (.val (.bool _))) rfl rfl; exact rfl
  apply dq_g; exact g_move (s := .av (.val (.bool _))) rfl; exact rfl
  apply dq_on; exact g_move (s := .av (.val (.int _ _))) rfl; exact rfl; exact rfl; exact rfl
  apply dq_on; exact g_cmp rfl rfl rfl; exact rfl; exact rfl; exact rfl
  apply dq_g; exact g_pick (s := .av (.val (.bool _))) rfl rfl; exact rfl
  apply dq_g; exact g_move (s := .av (.val (.bool _))) rfl; exact rfl
  apply dq_on; exact g_move (s := .av (.val (.int _ _))) rfl; exact rfl; exact rfl; exact rfl
  apply dq_on; exact g_cmp rfl rfl rfl; exact rfl; exact rfl; exact rfl
  apply dq_g; exact g_pick (s := .av (.val (.bool _))) rfl rfl; exact rfl
  apply dq_g; exact g_move (s := .av (.val (.bool _))) rfl; exact rfl
  apply dq_on; exact g_move (s := .av _) rfl; exact rfl; exact rfl; exact rfl
  apply dq_on; exact  g_bslice (is := [0, 1]) (xs := [_, _]) (vs := [_, _]) (us := [_, _]) (tq27_2' _ _) rfl rfl rfl rw13; exact rfl; exact rfl; exact rfl
  apply dq_on; exact g_call (ae2) rfl; exact rfl; exact rfl; exact rfl
  apply dq_g; exact g_pick (s := .av (.val (.bool _))) rfl rfl; exact rfl
  apply dq_g; exact g_move (s := .av (.val (.bool _))) rfl; exact rfl
  apply dq_on; exact g_move (s := .av _) rfl; exact rfl; exact rfl; exact rfl
  apply dq_on; exact g_len rfl; exact rfl; exact rfl; exact rfl
  apply dq_on; exact g_cmp rfl rfl rfl; exact rfl; exact rfl; exact rfl
  apply dq_g; exact g_pick (s := .av (.val (.bool _))) rfl rfl; exact rfl
  apply dq_g; exact g_move (s := .av (.val (.bool _))) rfl; exact rfl
  apply dq_on; exact g_move (s := .av (.val (.int _ _))) rfl; exact rfl; exact rfl; exact rfl
  apply dq_on; exact g_cmp rfl rfl rfl; exact rfl; exact rfl; exact rfl
  apply dq_g; exact g_pick (s := .av (.val (.bool _))) rfl rfl; exact rfl
  apply dq_g; exact g_move (s := .av (.val (.bool _))) rfl; exact rfl
  apply dq_on; exact g_load_own_agg (us := [.int _ _, .int _ _]) rfl rfl rfl rfl; exact rfl; exact rfl; exact rfl
  apply dq_on; exact g_build (is := [0, 1]) (xs := [_, _]) (vs := [_, _]) (tb62 _ _) rfl rfl; exact rfl; exact rfl; exact rfl
  apply dq_on; exact g_eql (xs := [_, _]) (ys := [_, _]) rfl rfl rfl rfl; exact rfl; exact rfl; exact rfl
  apply dq_g; exact g_pick (s := .av (.val (.bool _))) rfl rfl; exact rfl
  apply dq_g; exact g_move (s := .av (.val (.bool _))) rfl; exact rfl
  apply dq_on; exact g_move (s := .av (.val (.bool _))) rfl; exact rfl; exact rfl; exact rfl
  apply dq_g; exact g_pick (s := .av (.val (.bool _))) rfl rfl; exact rfl
  apply dq_g; exact g_move (s := .av (.val (.bool _))) rfl; exact rfl
  apply dq_on; exact g_load_own_agg (us := [.int _ _, .int _ _]) rfl rfl rfl rfl; exact rfl; exact rfl; exact rfl
  apply dq_on; exact g_call (at_c _ _) rfl; exact rfl; exact rfl; exact rfl
  apply dq_on; exact g_eql (xs := [_, _]) (ys := [_, _]) rfl rfl rfl rfl; exact rfl; exact rfl; exact rfl
  apply dq_g; exact g_pick (s := .av (.val (.bool _))) rfl rfl; exact rfl
  apply dq_g; exact g_move (s := .av (.val (.bool _))) rfl; exact rfl
  apply dq_on; exact g_move (s := .av (.val (.int _ _))) rfl; exact rfl; exact rfl; exact rfl
  apply dq_on; exact g_cmp rfl rfl rfl; exact rfl; exact rfl; exact rfl
  apply dq_g; exact g_pick (s := .av (.val (.bool _))) rfl rfl; exact rfl
  apply dq_g; exact g_assign (s := .av (.val (.bool _))) rfl; exact rfl
  refine dq_nil tm rfl ?_
  refine sq_then ?_
  refine cq_ret ?_
  exact sq_res1 rfl (.tmp rfl) (congrArg vb (by decide))
end Go.Proofs.Ytacepcnbgacipaa
namespace Go.Proofs.Ytacepcnbgacipaa
open Go Go.Vc Go.RowKit
set_option maxHeartbeats 1000000
theorem rsorted_c (l : List Pt) (hn : l.length ≤ 64) : CtrR Try.prog 88 [pts l] 3 1 (srtTo l l.length).length (xf (srtTo l l.length)) [] := by
  refine ctrR _ Try.func88 rfl rfl Try.ntmps88 rfl fun w Z => ?_
  simp only [initT, List.map_cons, List.map_nil, Nat.zero_add, Nat.reduceAdd]
  refine cq_seq ?_
  refine cq_region ?_
  apply sq_g; exact g_assign (s := .av _) rfl; exact rfl
  refine sq_nil ?_
  refine sq_then ?_
  refine cq_seq ?_
  refine cq_region ?_
  apply sq_g; exact g_assign (s := .av _) rfl; exact rfl
  refine sq_nil ?_
  refine sq_then ?_
  refine cq_seq ?_
  refine cq_seq ?_
  refine cq_region ?_
  apply sq_g; exact g_assign (s := .av (.val (.int _ _))) rfl; exact rfl
  refine sq_nil ?_
  refine sq_then ?_
  refine cq_block ?_
  refine cq_loop (γ := Nat) (fun k => [(0, .av (pts l)), (3, .osl 1), (4, .av (vi k))]) (fun k => [(1, .row 3 1 (srtTo l k).length (xf (srtTo l k)))]) (fun k => k ≤ l.length) (fun k => l.length - k) 0 (Nat.zero_le _) ((ent_row (dd := 3) 1 3 1 (xf []) rfl rfl).trans (ent ⟨.refl _, .refl _, .refl _, trivial⟩ ⟨⟨_, rfl, .refl _⟩, trivial⟩)) ?_
  intro k hk
  have hlen := srtTo_len l k
  have hlt := srtTo_lt l k
  refine cq_seq ?_
  refine cq_seq ?_
  refine cq_region ?_
  apply sq_g; exact g_move (s := .av (.val (.int _ _))) rfl; exact rfl
  apply sq_g; exact g_move (s := .av _) rfl; exact rfl
  apply sq_g; exact g_len rfl; exact rfl
  apply sq_g; exact g_cmp rfl rfl rfl; exact rfl
  refine sq_nil ?_
  refine sq_then ?_
  (refine cq_cond rfl (fun hb => ?_) (fun hb => ?_) <;> (try simp only [decide_eq_true_eq, decide_eq_false_iff_not, beq_iff_eq, beq_eq_false_iff_ne, bne_iff_ne, bne_eq_false_iff_eq, ne_eq, Bool.not_eq_true', Bool.not_eq_false', Bool.and_eq_true, Bool.or_eq_true, Bool.and_eq_false_iff, Bool.or_eq_false_iff] at hb) <;> (try (exfalso; omega)))
  · have hkl : k < l.length := by omega
    have hs := srtTo_succ l k
    refine cq_skip ?_
    refine sq_then ?_
    refine cq_seq ?_
    refine cq_block ?_
    refine cq_seq ?_
    refine cq_region ?_
    apply sq_g; exact g_move (s := .osl _) rfl; exact rfl
    apply sq_g; exact g_move (s := .av (.val (.int _ _))) rfl; exact rfl
    apply sq_g; exact g_one_ix (tq27 _) rfl rfl; exact rfl
    refine sq_v (v_push_ix rfl rfl rfl (by omega) rfl) rfl ?_
    apply sq_g; exact g_assign (s := .osl _) rfl; exact rfl
    refine sq_nil ?_
    refine sq_then ?_
    refine cq_seq ?_
    refine cq_region ?_
    apply sq_g; exact g_move (s := .av (.val (.int _ _))) rfl; exact rfl
    apply sq_g; exact g_assign (s := .av (.val (.int _ _))) rfl; exact rfl
    refine sq_nil ?_
    refine sq_then ?_
    refine cq_block ?_
    refine cq_loop (γ := List Nat × Nat) (fun g => [(0, .av (pts l)), (3, .osl 1), (4, .av (vi k)), (5, .av (vi g.2))]) (fun g => [(1, .row 3 1 g.1.length (xf g.1))])
      (fun g => g.1.length = k + 1 ∧ (∀ j, j < g.1.length → gi g.1 j < l.length) ∧ sink (fun i k => bef (gp l i) (gp l k)) 0 g.1 g.2 = srtTo l (k + 1) ∧ g.2 ≤ k) (fun g => g.2) (srtTo l k ++ [k], k) ⟨by simp [hlen], app_all (p := fun x => x < l.length) (fun j hj => by have := hlt j hj; omega) hkl, hs.symm, Nat.le_refl _⟩ (ent ⟨.refl _, .refl _, .refl _, .refl _, trivial⟩ ⟨⟨_, rfl, .refl _⟩, trivial⟩) ?_
    rintro ⟨t, j⟩ ⟨htl, htu, htS, hjk⟩
    simp only at htl htu htS hjk
    dsimp only
    match j, htS, hjk with
    | 0, htS, hjk =>
      refine cq_seq ?_
      refine cq_seq ?_
      refine cq_drawn ?_
      apply dq_g; exact g_move (s := .av (.val (.int _ _))) rfl; exact rfl
      apply dq_g; exact g_cmp rfl rfl rfl; exact rfl
      apply dq_g; exact g_move (s := .av (.val (.bool _))) rfl; exact rfl
      refine dq_off nofun rfl rfl rfl rfl ?_
      refine dq_off nofun rfl rfl rfl rfl ?_
      refine dq_off nofun rfl rfl rfl rfl ?_
      refine dq_off nofun rfl rfl rfl rfl ?_
      refine dq_off nofun rfl rfl rfl rfl ?_
      refine dq_off nofun rfl rfl rfl rfl ?_
      refine dq_off nofun rfl rfl rfl rfl ?_
      refine dq_off nofun rfl rfl rfl rfl ?_
      refine dq_off nofun rfl rfl rfl rfl ?_
      refine dq_off nofun rfl rfl rfl rfl ?_
      refine dq_off nofun rfl rfl rfl rfl ?_
      refine dq_off nofun rfl rfl rfl rfl ?_
      refine dq_off nofun rfl rfl rfl rfl ?_
      refine dq_off nofun rfl rfl rfl rfl ?_
      refine dq_off nofun rfl rfl rfl rfl ?_
      refine dq_off nofun rfl rfl rfl rfl ?_
      apply dq_g; exact g_pick (s := .av (.val (.bool _))) rfl rfl; exact rfl
      refine dq_nil tm rfl ?_
      refine sq_then ?_
      refine cq_cond_f rfl ?_
      refine cq_exit ?_
      refine sq_then ?_
      refine cq_region ?_
      apply sq_g; exact g_move (s := .av (.val (.int _ _))) rfl; exact rfl
      apply sq_g; exact g_arith rfl rfl rfl (by omega); exact rfl
      apply sq_g; exact g_assign (s := .av (.val (.int _ _))) rfl; exact rfl
      refine sq_nil ?_
      exact sq_round (g := k) (k + 1) (by omega) (by omega) (ent ⟨.refl _, .refl _, .int (by simp), trivial⟩ ⟨⟨_, rfl, by rw [← htS]; exact .refl _⟩, trivial⟩)
    | j + 1, htS, hjk =>
      have b1 := htu (j + 1) (by omega)
      have b2 := htu j (by omega)
      refine cq_seq ?_
      refine cq_seq ?_
      refine cq_drawn ?_
      apply dq_g; exact g_move (s := .av (.val (.int _ _))) rfl; exact rfl
      apply dq_g; exact g_cmp rfl rfl rfl; exact rfl
      apply dq_g; exact g_move (s := .av (.val (.bool _))) rfl; exact rfl
      refine dq_split rfl rfl (fun hb => ?_) (fun hb => ?_) <;> (try simp only [decide_eq_true_eq, decide_eq_false_iff_not, beq_iff_eq, beq_eq_false_iff_ne, bne_iff_ne, bne_eq_false_iff_eq, ne_eq, Bool.not_eq_true', Bool.not_eq_false', Bool.and_eq_true, Bool.or_eq_true, Bool.and_eq_false_iff, Bool.or_eq_false_iff] at hb) <;> (try (exfalso; omega))
      apply dq_on; exact g_move (s := .av _) rfl; exact rfl; exact rfl; exact rfl
      apply dq_on; exact g_move (s := .osl _) rfl; exact rfl; exact rfl; exact rfl
      apply dq_on; exact g_move (s := .av (.val (.int _ _))) rfl; exact rfl; exact rfl; exact rfl
      apply dq_on; exact g_index_row rfl rfl rfl rfl (by omega); exact rfl; exact rfl; exact rfl
      apply dq_on; exact g_load_oel (τ := .val (.int _ _)) rfl rfl (by omega) rfl rfl; exact rfl; exact rfl; exact rfl
      apply dq_on; exact g_index rfl rfl rfl (by omega); exact rfl; exact rfl; exact rfl
      apply dq_on; exact g_load_agg (us := [.int _ _, .int _ _]) rfl rfl rfl rfl; exact rfl; exact rfl; exact rfl
      apply dq_on; exact g_move (s := .av _) rfl; exact rfl; exact rfl; exact rfl
      apply dq_on; exact g_move (s := .osl _) rfl; exact rfl; exact rfl; exact rfl
      apply dq_on; exact g_move (s := .av (.val (.int _ _))) rfl; exact rfl; exact rfl; exact rfl
      apply dq_on; exact g_arith rfl rfl rfl (by omega); exact rfl; exact rfl; exact rfl
      apply dq_on; exact  g_index_row (k := j) rfl rfl rfl (by omega) (by omega); exact rfl; exact rfl; exact rfl
      apply dq_on; exact g_load_oel (τ := .val (.int _ _)) rfl rfl (by omega) rfl rfl; exact rfl; exact rfl; exact rfl
      apply dq_on; exact g_index rfl rfl rfl (by omega); exact rfl; exact rfl; exact rfl
      apply dq_on; exact g_load_agg (us := [.int _ _, .int _ _]) rfl rfl rfl rfl; exact rfl; exact rfl; exact rfl
      apply dq_on; exact g_call (bef_c (gp l (gi t (j + 1))) (gp l (gi t j))) rfl; exact rfl; exact rfl; exact rfl
      apply dq_g; exact g_pick (s := .av (.val (.bool _))) rfl rfl; exact rfl
      refine dq_nil tm rfl ?_
      refine sq_then ?_
      (refine cq_cond rfl (fun hb => ?_) (fun hb => ?_) <;> (try simp only [decide_eq_true_eq, decide_eq_false_iff_not, beq_iff_eq, beq_eq_false_iff_ne, bne_iff_ne, bne_eq_false_iff_eq, ne_eq, Bool.not_eq_true', Bool.not_eq_false', Bool.and_eq_true, Bool.or_eq_true, Bool.and_eq_false_iff, Bool.or_eq_false_iff] at hb) <;> (try (exfalso; omega)))
      · have e : sink (fun i k => bef (gp l i) (gp l k)) 0 t (j + 1) = sink (fun i k => bef (gp l i) (gp l k)) 0 (swp t (j + 1) j) j := by
          rw [sink, if_pos (by simp [hb])]
        refine cq_skip ?_
        refine sq_then ?_
        refine cq_seq ?_
        refine cq_block ?_
        refine cq_drawn ?_
        apply dq_g; exact g_move (s := .osl _) rfl; exact rfl
        apply dq_g; exact g_move (s := .av (.val (.int _ _))) rfl; exact rfl
        apply dq_g; exact g_move (s := .osl _) rfl; exact rfl
        apply dq_g; exact g_move (s := .av (.val (.int _ _))) rfl; exact rfl
        apply dq_g; exact g_arith rfl rfl rfl (by omega); exact rfl
        apply dq_g; exact g_move (s := .osl _) rfl; exact rfl
        apply dq_g; exact g_move (s := .av (.val (.int _ _))) rfl; exact rfl
        apply dq_g; exact g_arith rfl rfl rfl (by omega); exact rfl
        apply dq_g; exact  g_index_row (k := j) rfl rfl rfl (by omega) (by omega); exact rfl
        apply dq_g; exact g_load_oel (τ := .val (.int _ _)) rfl rfl (by omega) rfl rfl; exact rfl
        apply dq_g; exact g_move (s := .osl _) rfl; exact rfl
        apply dq_g; exact g_move (s := .av (.val (.int _ _))) rfl; exact rfl
        apply dq_g; exact g_index_row rfl rfl rfl rfl (by omega); exact rfl
        apply dq_g; exact g_load_oel (τ := .val (.int _ _)) rfl rfl (by omega) rfl rfl; exact rfl
        apply dq_g; exact g_index_row rfl rfl rfl rfl (by omega); exact rfl
        refine dq_s (g_store_oel rfl rfl rfl rfl (by omega) rfl) ?_
        apply dq_g; exact  g_index_row (k := j) rfl rfl rfl (by omega) (by omega); exact rfl
        refine dq_s (g_store_oel rfl rfl rfl rfl (by omega) rfl) ?_
        refine dq_nil tm rfl ?_
        refine sq_then ?_
        refine cq_region ?_
        apply sq_g; exact g_move (s := .av (.val (.int _ _))) rfl; exact rfl
        apply sq_g; exact g_arith rfl rfl rfl (by omega); exact rfl
        apply sq_g; exact g_assign (s := .av (.val (.int _ _))) rfl; exact rfl
        refine sq_nil ?_
        exact sq_round (g := (t, j + 1)) (swp t (j + 1) j, j) ⟨by rw [swp_len]; exact htl, swp_all (v := t) (i := j + 1) (j := j) (p := fun x => x < l.length) (by omega) (by omega) htu, e.symm.trans htS, by simp; omega⟩ (by simp) (ent ⟨.refl _, .refl _, .refl _, .int (by simp), trivial⟩ ⟨⟨_, rfl, .row (swp_len _ _ _).symm (xf_swp (by omega) (by omega) (by omega))⟩, trivial⟩)
      · have e : sink (fun i k => bef (gp l i) (gp l k)) 0 t (j + 1) = t := by
          rw [sink, if_neg (by simp [hb])]
        refine cq_exit ?_
        refine sq_then ?_
        refine cq_region ?_
        apply sq_g; exact g_move (s := .av (.val (.int _ _))) rfl; exact rfl
        apply sq_g; exact g_arith rfl rfl rfl (by omega); exact rfl
        apply sq_g; exact g_assign (s := .av (.val (.int _ _))) rfl; exact rfl
        refine sq_nil ?_
        exact sq_round (g := k) (k + 1) (by omega) (by omega) (ent ⟨.refl _, .refl _, .int (by simp), trivial⟩ ⟨⟨_, rfl, by rw [← htS, e]; exact .refl _⟩, trivial⟩)
  · have : k = l.length := by omega
    subst this
    refine cq_exit ?_
    refine sq_then ?_
    refine cq_seq ?_
    refine cq_region ?_
    apply sq_g; exact g_move (s := .osl _) rfl; exact rfl
    apply sq_g; exact g_assign (s := .osl _) rfl; exact rfl
    refine sq_nil ?_
    refine sq_then ?_
    refine cq_ret ?_
    exact sq_retR rfl rfl rfl rfl (fun _ _ _ _ => rfl)
end Go.Proofs.Ytacepcnbgacipaa
namespace Go.Proofs.Ytacepcnbgacipaa
open Go Go.Vc Go.RowKit
set_option maxHeartbeats 1000000
theorem take_gi {v : List Nat} {t i : Nat} (hi : i < t) : gi (v.take t) i = gi v i := by rw [gi_take, if_pos hi]
theorem raround_c (l : List Pt) (v : List Nat) (sm : ∀ i, SmP (gp l i)) (hn : l.length ≤ 64) (h : HullOk l v) : CtrA Try.prog 53 [pts l] (idx v) := by
  refine ctrA _ Try.func53 rfl rfl Try.ntmps53 rfl fun w Z => ?_
  have hsl := srtTo_len l l.length
  have hslt := srtTo_lt l l.length
  simp only [initT, List.map_cons, List.map_nil, Nat.zero_add, Nat.reduceAdd]
  refine cq_seq ?_
  refine cq_region ?_
  apply sq_g; exact g_assign (s := .av _) rfl; exact rfl
  refine sq_nil ?_
  refine sq_then ?_
  refine cq_seq ?_
  refine cq_region ?_
  apply sq_g; exact g_assign (s := .av _) rfl; exact rfl
  refine sq_nil ?_
  refine sq_then ?_
  refine cq_seq ?_
  refine cq_seq ?_
  refine cq_region ?_
  apply sq_g; exact g_move (s := .av _) rfl; exact rfl
  apply sq_g; exact g_call ((rsorted_c l hn).ro) rfl; exact rfl
  apply sq_g; exact g_len rfl; exact rfl
  apply sq_g; exact g_move (s := .av (.val (.int _ _))) rfl; exact rfl
  refine sq_nil ?_
  refine sq_then ?_
  refine cq_block ?_
  refine cq_loop (γ := Nat) (fun k => [(0, .av (pts l)), (3, .osl 1), (10, .av (idx (srtTo l l.length))), (11, .av (vi (srtTo l l.length).length)), (12, .av (vi k))]) (fun k => [(1, .row 3 1 (vsTo l k).length (xf (vsTo l k)))]) (fun k => k ≤ l.length) (fun k => l.length - k) 0 (Nat.zero_le _) ((ent_row (dd := 3) 1 3 1 (xf []) rfl rfl).trans (ent ⟨.refl _, .refl _, .refl _, .refl _, .refl _, trivial⟩ ⟨⟨_, rfl, .refl _⟩, trivial⟩)) ?_
  intro k hk
  have hvl := vsTo_len l k
  refine cq_seq ?_
  refine cq_region ?_
  apply sq_g; exact g_cmp rfl rfl rfl; exact rfl
  refine sq_nil ?_
  refine sq_then ?_
  refine cq_seq ?_
  (refine cq_cond rfl (fun hb => ?_) (fun hb => ?_) <;> (try simp only [decide_eq_true_eq, decide_eq_false_iff_not, beq_iff_eq, beq_eq_false_iff_ne, bne_iff_ne, bne_eq_false_iff_eq, ne_eq, Bool.not_eq_true', Bool.not_eq_false', Bool.and_eq_true, Bool.or_eq_true, Bool.and_eq_false_iff, Bool.or_eq_false_iff] at hb) <;> (try (exfalso; omega)))
  · have hkl : k < l.length := by omega
    have hg := hslt k (by omega)
    have hs := vsTo_succ l hkl
    refine cq_skip ?_
    refine sq_then ?_
    refine cq_seq ?_
    refine cq_block ?_
    refine cq_seq ?_
    refine cq_region ?_
    apply sq_g; exact g_index rfl rfl rfl (by omega); exact rfl
    apply sq_g; exact g_load (τ := .val (.int _ _)) rfl rfl rfl; exact rfl
    apply sq_g; exact g_assign (s := .av (.val (.int _ _))) rfl; exact rfl
    refine sq_nil ?_
    refine sq_then ?_
    refine cq_seq ?_
    refine cq_region ?_
    apply sq_g; exact g_move (s := .av _) rfl; exact rfl
    apply sq_g; exact g_move (s := .av (.val (.int _ _))) rfl; exact rfl
    apply sq_g; exact g_call (vtx_c l (gi (srtTo l l.length) k) sm hn hg) rfl; exact rfl
    refine sq_nil ?_
    refine sq_then ?_

    (refine cq_cond rfl (fun hb => ?_) (fun hb => ?_) <;> (try simp only [decide_eq_true_eq, decide_eq_false_iff_not, beq_iff_eq, beq_eq_false_iff_ne, bne_iff_ne, bne_eq_false_iff_eq, ne_eq, Bool.not_eq_true', Bool.not_eq_false', Bool.and_eq_true, Bool.or_eq_true, Bool.and_eq_false_iff, Bool.or_eq_false_iff] at hb) <;> (try (exfalso; omega)))
    · rw [if_pos hb] at hs
      refine cq_region ?_
      apply sq_g; exact g_move (s := .osl _) rfl; exact rfl
      apply sq_g; exact g_move (s := .av (.val (.int _ _))) rfl; exact rfl
      apply sq_g; exact g_one_ix (tq27 _) rfl rfl; exact rfl
      refine sq_v (v_push_ix rfl rfl rfl (by omega) rfl) rfl ?_
      apply sq_g; exact g_assign (s := .osl _) rfl; exact rfl
      refine sq_nil ?_
      refine sq_then ?_
      refine cq_region ?_
      apply sq_g; exact g_arith rfl rfl rfl (by omega); exact rfl
      apply sq_g; exact g_move (s := .av (.val (.int _ _))) rfl; exact rfl
      refine sq_nil ?_
      exact sq_round (k + 1) (by omega) (by omega) (ent ⟨.refl _, .refl _, .refl _, .refl _, .int (by omega), trivial⟩ ⟨⟨_, rfl, by rw [hs]; exact .refl _⟩, trivial⟩)
    · rw [if_neg (by simp [hb])] at hs
      refine cq_skip ?_
      refine sq_then ?_
      refine cq_region ?_
      apply sq_g; exact g_arith rfl rfl rfl (by omega); exact rfl
      apply sq_g; exact g_move (s := .av (.val (.int _ _))) rfl; exact rfl
      refine sq_nil ?_
      exact sq_round (k + 1) (by omega) (by omega) (ent ⟨.refl _, .refl _, .refl _, .refl _, .int (by omega), trivial⟩ ⟨⟨_, rfl, by rw [hs]; exact .refl _⟩, trivial⟩)
  · have hkl : k = l.length := by omega
    subst hkl
    have hVl := h.len
    have hpos := h.pos
    have hhd : gi (vs l) 0 = gi v 0 := by
      have := h.head
      match hs : vs l, this with
      | x :: t, this => simp at this; simp [gi, this]
    have hVlt : ∀ k, k < (vs l).length → gi (vs l) k < l.length := fun k hk => ((vs_mem l _).1 (by rw [gi_eq hk]; exact List.getElem_mem hk)).1
    have hmemV : ∀ k, k < (vs l).length → gi (vs l) k ∈ vs l := fun k hk => by rw [gi_eq hk]; exact List.getElem_mem hk
    change (vsTo l l.length).length ≤ l.length at hvl
    rw [show vsTo l l.length = vs l from rfl] at hvl ⊢
    refine cq_exit ?_
    refine sq_then ?_
    refine cq_seq ?_
    refine cq_region ?_
    apply sq_g; exact g_move (s := .osl _) rfl; exact rfl
    refine lsq_more (ent_freeze 1 rfl) ?_
    apply sq_g; exact  g_cut3 (h := 1) rfl rfl rfl rfl rfl (by omega); exact rfl
    apply sq_g; exact g_assign (s := .av _) rfl; exact rfl
    refine sq_nil ?_
    refine sq_then ?_
    refine cq_seq ?_
    refine cq_block ?_
    refine cq_loop (γ := Nat) (fun t => match t with | 0 => [(0, .av (pts l)), (3, .av (idx (vs l))), (6, .av (.slc 1 1 (xf (vs l))))] | _ + 1 => [(0, .av (pts l)), (3, .av (idx (vs l))), (6, .osl 2)]) (fun t => match t with | 0 => [] | t + 1 => [(2, .row 3 1 (v.take (t + 2)).length (xf (v.take (t + 2))))]) (fun t => t + 1 ≤ v.length) (fun t => v.length - t) 0 (by omega) (ent ⟨.refl _, .refl _, .refl _, trivial⟩ trivial) ?_
    intro t ht
    match t, ht with
    | 0, ht =>
      dsimp only
      refine cq_seq ?_
      refine cq_seq ?_
      refine cq_region ?_
      apply sq_g; exact g_move (s := .av _) rfl; exact rfl
      apply sq_g; exact  g_len_slc rfl; exact rfl
      apply sq_g; exact g_move (s := .av _) rfl; exact rfl
      apply sq_g; exact g_len rfl; exact rfl
      apply sq_g; exact g_cmp rfl rfl rfl; exact rfl
      refine sq_nil ?_
      refine sq_then ?_
      (refine cq_cond rfl (fun hb => ?_) (fun hb => ?_) <;> (try simp only [decide_eq_true_eq, decide_eq_false_iff_not, beq_iff_eq, beq_eq_false_iff_ne, bne_iff_ne, bne_eq_false_iff_eq, ne_eq, Bool.not_eq_true', Bool.not_eq_false', Bool.and_eq_true, Bool.or_eq_true, Bool.and_eq_false_iff, Bool.or_eq_false_iff] at hb) <;> (try (exfalso; omega)))
      · have ht1 : 0 + 1 < v.length := by omega
        have hnx : ∀ j ∈ vs l, follows l (vs l) (gi v 0) j = decide (j = gi v 1) := fun j hj => h.next sm ht1 hj
        have hl0 := h.lt 0 hpos
        refine cq_skip ?_
        refine sq_then ?_
        refine cq_block ?_
        refine cq_seq ?_
        refine cq_region ?_
        apply sq_g; exact g_move (s := .av _) rfl; exact rfl
        apply sq_g; exact g_move (s := .av _) rfl; exact rfl
        apply sq_g; exact  g_len_slc rfl; exact rfl
        apply sq_g; exact g_arith rfl rfl rfl (by omega); exact rfl
        apply sq_g; exact  g_index_slc (k := 0) rfl rfl rfl (by omega); exact rfl
        apply sq_g; exact g_load (τ := .val (.int _ _)) rfl rfl rfl; exact rfl
        apply sq_g; exact g_assign (s := .av (.val (.int _ _))) rfl; exact rfl
        refine sq_nil ?_
        refine sq_then ?_
        refine cq_seq ?_
        refine cq_region ?_
        apply sq_g; exact g_assign (s := .av (.val (.int _ _))) rfl; exact rfl
        refine sq_nil ?_
        refine sq_then ?_
        refine cq_block ?_
        refine cq_loop (γ := Nat) (fun k => [(0, .av (pts l)), (3, .av (idx (vs l))), (6, .av (.slc 1 1 (xf (vs l)))), (7, .av (vi (gi v 0))), (8, .av (vi k))]) (fun _ => []) (fun k => k ≤ (vs l).length ∧ ∀ k', k' < k → gi (vs l) k' ≠ gi v 1) (fun k => (vs l).length - k) 0 ⟨Nat.zero_le _, by intro k hk; omega⟩ (ent ⟨.refl _, .refl _, .refl _, .int (by simp [hhd]), .refl _, trivial⟩ trivial) ?_
        rintro k ⟨hk, hall⟩
        refine cq_seq ?_
        refine cq_seq ?_
        refine cq_region ?_
        apply sq_g; exact g_move (s := .av (.val (.int _ _))) rfl; exact rfl
        apply sq_g; exact g_move (s := .av _) rfl; exact rfl
        apply sq_g; exact g_len rfl; exact rfl
        apply sq_g; exact g_cmp rfl rfl rfl; exact rfl
        refine sq_nil ?_
        refine sq_then ?_
        (refine cq_cond rfl (fun hb => ?_) (fun hb => ?_) <;> (try simp only [decide_eq_true_eq, decide_eq_false_iff_not, beq_iff_eq, beq_eq_false_iff_ne, bne_iff_ne, bne_eq_false_iff_eq, ne_eq, Bool.not_eq_true', Bool.not_eq_false', Bool.and_eq_true, Bool.or_eq_true, Bool.and_eq_false_iff, Bool.or_eq_false_iff] at hb) <;> (try (exfalso; omega)))
        · have hkl : k < (vs l).length := by omega
          have hb1 := hVlt k hkl
          have hf := hnx _ (hmemV k hkl)
          refine cq_skip ?_
          refine sq_then ?_
          refine cq_seq ?_
          refine cq_block ?_
          refine cq_seq ?_
          refine cq_region ?_
          apply sq_g; exact g_move (s := .av _) rfl; exact rfl
          apply sq_g; exact g_move (s := .av _) rfl; exact rfl
          apply sq_g; exact g_move (s := .av (.val (.int _ _))) rfl; exact rfl
          apply sq_g; exact g_move (s := .av _) rfl; exact rfl
          apply sq_g; exact g_move (s := .av (.val (.int _ _))) rfl; exact rfl
          apply sq_g; exact g_index rfl rfl rfl (by omega); exact rfl
          apply sq_g; exact g_load (τ := .val (.int _ _)) rfl rfl rfl; exact rfl
          apply sq_g; exact g_call (follows_c l (vs l) (gi v 0) (gi (vs l) k) sm hVlt hl0 hb1 (by omega)) rfl; exact rfl
          refine sq_nil ?_
          refine sq_then ?_
          rw [hf]
          (refine cq_cond rfl (fun hb => ?_) (fun hb => ?_) <;> (try simp only [decide_eq_true_eq, decide_eq_false_iff_not, beq_iff_eq, beq_eq_false_iff_ne, bne_iff_ne, bne_eq_false_iff_eq, ne_eq, Bool.not_eq_true', Bool.not_eq_false', Bool.and_eq_true, Bool.or_eq_true, Bool.and_eq_false_iff, Bool.or_eq_false_iff] at hb) <;> (try (exfalso; omega)))
          · refine cq_seq ?_
            refine cq_region ?_
            apply sq_g; exact g_move (s := .av _) rfl; exact rfl
            apply sq_g; exact g_move (s := .av _) rfl; exact rfl
            apply sq_g; exact g_move (s := .av (.val (.int _ _))) rfl; exact rfl
            apply sq_g; exact g_index rfl rfl rfl (by omega); exact rfl
            apply sq_g; exact g_load (τ := .val (.int _ _)) rfl rfl rfl; exact rfl
            apply sq_g; exact g_one_ix (tq27 _) rfl rfl; exact rfl
            refine sq_v (v_append_slc 2 rfl rfl (by omega) (by omega) (by simp only [maxLen]; omega) (by omega) rfl) rfl ?_
            apply sq_g; exact g_assign (s := .osl _) rfl; exact rfl
            refine sq_nil ?_
            refine sq_then ?_
            refine cq_exit ?_
            refine sq_inBlock_other rfl ?_
            refine sq_then_exit ?_
            refine sq_then_exit ?_
            refine sq_inBlock_exit ?_
            refine sq_inBlock ?_
            exact sq_round (g := 0) 1 (by omega) (by omega) (ent ⟨.refl _, .refl _, .refl _, trivial⟩ ⟨⟨_, rfl, .row (by simp; omega) (fun i hi j hj => by
              match i, hi with
              | 0, _ => simp only [rowApp, xf, take_gi (show 0 < 0 + 2 by omega), hhd]; rfl
              | 1, _ => rw [show xf (v.take (0 + 2)) 1 j = vi (gi v 1) from by simp only [xf, take_gi (show 1 < 0 + 2 by omega)], ← hb]; rfl)⟩, trivial⟩)
          · refine cq_skip ?_
            refine sq_then ?_
            refine cq_region ?_
            apply sq_g; exact g_move (s := .av (.val (.int _ _))) rfl; exact rfl
            apply sq_g; exact g_arith rfl rfl rfl (by omega); exact rfl
            apply sq_g; exact g_assign (s := .av (.val (.int _ _))) rfl; exact rfl
            refine sq_nil ?_
            exact sq_round (k + 1) ⟨by omega, lt_step hall hb⟩ (by omega) (ent ⟨.refl _, .refl _, .refl _, .refl _, .int (by omega), trivial⟩ trivial)
        · exfalso
          have hm : gi v 1 ∈ vs l := h.memv.1 (by rw [gi_eq ht1]; exact List.getElem_mem ht1)
          obtain ⟨k', hk', e⟩ := List.getElem_of_mem hm
          exact hall k' (by omega) (by rw [gi_eq hk', e])
      · have hv1 : v.length = 1 := by omega
        refine cq_exit ?_
        refine sq_then ?_
        refine cq_seq ?_
        refine cq_region ?_
        apply sq_g; exact g_move (s := .av _) rfl; exact rfl
        apply sq_g; exact g_assign (s := .av _) rfl; exact rfl
        refine sq_nil ?_
        refine sq_then ?_
        refine cq_ret ?_
        refine sq_ent ((ent_slc 2 rfl).trans (ent (T' := [(2, .av (idx v))]) (O' := []) ⟨SLe.sl hv1.symm (fun i hi j hj => ?_), trivial⟩ trivial)) (sq_res1 rfl (.tmp rfl) rfl)
        obtain rfl : i = 0 := by omega
        simp only [xf, hhd]
    | t' + 1, ht =>
      dsimp only
      have htl : (v.take (t' + 2)).length = t' + 2 := by simp; omega
      refine cq_seq ?_
      refine cq_seq ?_
      refine cq_region ?_
      apply sq_g; exact g_move (s := .osl _) rfl; exact rfl
      apply sq_g; exact g_len_own rfl rfl; exact rfl
      apply sq_g; exact g_move (s := .av _) rfl; exact rfl
      apply sq_g; exact g_len rfl; exact rfl
      apply sq_g; exact g_cmp rfl rfl rfl; exact rfl
      refine sq_nil ?_
      refine sq_then ?_
      (refine cq_cond rfl (fun hb => ?_) (fun hb => ?_) <;> (try simp only [decide_eq_true_eq, decide_eq_false_iff_not, beq_iff_eq, beq_eq_false_iff_ne, bne_iff_ne, bne_eq_false_iff_eq, ne_eq, Bool.not_eq_true', Bool.not_eq_false', Bool.and_eq_true, Bool.or_eq_true, Bool.and_eq_false_iff, Bool.or_eq_false_iff] at hb) <;> (try (exfalso; omega)))
      · have ht1 : t' + 1 + 1 < v.length := by omega
        have hnx : ∀ j ∈ vs l, follows l (vs l) (gi v (t' + 1)) j = decide (j = gi v (t' + 2)) := fun j hj => h.next sm ht1 hj
        have hl0 := h.lt (t' + 1) (by omega)
        have hlast : gi (v.take (t' + 2)) (t' + 1) = gi v (t' + 1) := take_gi (by omega)
        refine cq_skip ?_
        refine sq_then ?_
        refine cq_block ?_
        refine cq_seq ?_
        refine cq_region ?_
        apply sq_g; exact g_move (s := .osl _) rfl; exact rfl
        apply sq_g; exact g_move (s := .osl _) rfl; exact rfl
        apply sq_g; exact g_len_own rfl rfl; exact rfl
        apply sq_g; exact g_arith rfl rfl rfl (by omega); exact rfl
        apply sq_g; exact  g_index_row (k := t' + 1) rfl rfl rfl (by omega) (by omega); exact rfl
        apply sq_g; exact g_load_oel (τ := .val (.int _ _)) rfl rfl (by omega) rfl rfl; exact rfl
        apply sq_g; exact g_assign (s := .av (.val (.int _ _))) rfl; exact rfl
        refine sq_nil ?_
        refine sq_then ?_
        refine cq_seq ?_
        refine cq_region ?_
        apply sq_g; exact g_assign (s := .av (.val (.int _ _))) rfl; exact rfl
        refine sq_nil ?_
        refine sq_then ?_
        refine cq_block ?_
        refine cq_loop (γ := Nat) (fun k => [(0, .av (pts l)), (3, .av (idx (vs l))), (6, .osl 2), (7, .av (vi (gi v (t' + 1)))), (8, .av (vi k))]) (fun _ => [(2, .row 3 1 (v.take (t' + 2)).length (xf (v.take (t' + 2))))]) (fun k => k ≤ (vs l).length ∧ ∀ k', k' < k → gi (vs l) k' ≠ gi v (t' + 2)) (fun k => (vs l).length - k) 0 ⟨Nat.zero_le _, by intro k hk; omega⟩ (ent ⟨.refl _, .refl _, .refl _, .int (by simp [hlast]), .refl _, trivial⟩ ⟨⟨_, rfl, .refl _⟩, trivial⟩) ?_
        rintro k ⟨hk, hall⟩
        refine cq_seq ?_
        refine cq_seq ?_
        refine cq_region ?_
        apply sq_g; exact g_move (s := .av (.val (.int _ _))) rfl; exact rfl
        apply sq_g; exact g_move (s := .av _) rfl; exact rfl
        apply sq_g; exact g_len rfl; exact rfl
        apply sq_g; exact g_cmp rfl rfl rfl; exact rfl
        refine sq_nil ?_
        refine sq_then ?_
        (refine cq_cond rfl (fun hb => ?_) (fun hb => ?_) <;> (try simp only [decide_eq_true_eq, decide_eq_false_iff_not, beq_iff_eq, beq_eq_false_iff_ne, bne_iff_ne, bne_eq_false_iff_eq, ne_eq, Bool.not_eq_true', Bool.not_eq_false', Bool.and_eq_true, Bool.or_eq_true, Bool.and_eq_false_iff, Bool.or_eq_false_iff] at hb) <;> (try (exfalso; omega)))
        · have hkl : k < (vs l).length := by omega
          have hb1 := hVlt k hkl
          have hf := hnx _ (hmemV k hkl)
          refine cq_skip ?_
          refine sq_then ?_
          refine cq_seq ?_
          refine cq_block ?_
          refine cq_seq ?_
          refine cq_region ?_
          apply sq_g; exact g_move (s := .av _) rfl; exact rfl
          apply sq_g; exact g_move (s := .av _) rfl; exact rfl
          apply sq_g; exact g_move (s := .av (.val (.int _ _))) rfl; exact rfl
          apply sq_g; exact g_move (s := .av _) rfl; exact rfl
          apply sq_g; exact g_move (s := .av (.val (.int _ _))) rfl; exact rfl
          apply sq_g; exact g_index rfl rfl rfl (by omega); exact rfl
          apply sq_g; exact g_load (τ := .val (.int _ _)) rfl rfl rfl; exact rfl
          apply sq_g; exact g_call (follows_c l (vs l) (gi v (t' + 1)) (gi (vs l) k) sm hVlt hl0 hb1 (by omega)) rfl; exact rfl
          refine sq_nil ?_
          refine sq_then ?_
          rw [hf]
          (refine cq_cond rfl (fun hb => ?_) (fun hb => ?_) <;> (try simp only [decide_eq_true_eq, decide_eq_false_iff_not, beq_iff_eq, beq_eq_false_iff_ne, bne_iff_ne, bne_eq_false_iff_eq, ne_eq, Bool.not_eq_true', Bool.not_eq_false', Bool.and_eq_true, Bool.or_eq_true, Bool.and_eq_false_iff, Bool.or_eq_false_iff] at hb) <;> (try (exfalso; omega)))
          · have happ : v.take (t' + 3) = v.take (t' + 2) ++ [gi (vs l) k] := by
              rw [List.take_succ_eq_append_getElem (show t' + 2 < v.length by omega), ← gi_eq, hb]
            refine cq_seq ?_
            refine cq_region ?_
            apply sq_g; exact g_move (s := .osl _) rfl; exact rfl
            apply sq_g; exact g_move (s := .av _) rfl; exact rfl
            apply sq_g; exact g_move (s := .av (.val (.int _ _))) rfl; exact rfl
            apply sq_g; exact g_index rfl rfl rfl (by omega); exact rfl
            apply sq_g; exact g_load (τ := .val (.int _ _)) rfl rfl rfl; exact rfl
            apply sq_g; exact g_one_ix (tq27 _) rfl rfl; exact rfl
            refine sq_v (v_push_ix rfl rfl rfl (by omega) rfl) rfl ?_
            apply sq_g; exact g_assign (s := .osl _) rfl; exact rfl
            refine sq_nil ?_
            refine sq_then ?_
            refine cq_exit ?_
            refine sq_inBlock_other rfl ?_
            refine sq_then_exit ?_
            refine sq_then_exit ?_
            refine sq_inBlock_exit ?_
            refine sq_inBlock ?_
            exact sq_round (g := t' + 1) (t' + 2) (by omega) (by omega) (ent ⟨.refl _, .refl _, .refl _, trivial⟩ ⟨⟨_, rfl, by rw [happ]; exact .refl _⟩, trivial⟩)
          · refine cq_skip ?_
            refine sq_then ?_
            refine cq_region ?_
            apply sq_g; exact g_move (s := .av (.val (.int _ _))) rfl; exact rfl
            apply sq_g; exact g_arith rfl rfl rfl (by omega); exact rfl
            apply sq_g; exact g_assign (s := .av (.val (.int _ _))) rfl; exact rfl
            refine sq_nil ?_
            exact sq_round (k + 1) ⟨by omega, lt_step hall hb⟩ (by omega) (ent ⟨.refl _, .refl _, .refl _, .refl _, .int (by omega), trivial⟩ ⟨⟨_, rfl, .refl _⟩, trivial⟩)
        · exfalso
          have hm : gi v (t' + 2) ∈ vs l := h.memv.1 (by rw [gi_eq ht1]; exact List.getElem_mem ht1)
          obtain ⟨k', hk', e⟩ := List.getElem_of_mem hm
          exact hall k' (by omega) (by rw [gi_eq hk', e])
      · have hv1 : v.take (t' + 2) = v := List.take_of_length_le (by omega)
        rw [hv1]
        refine cq_exit ?_
        refine sq_then ?_
        refine cq_seq ?_
        refine cq_region ?_
        apply sq_g; exact g_move (s := .osl _) rfl; exact rfl
        apply sq_g; exact g_assign (s := .osl _) rfl; exact rfl
        refine sq_nil ?_
        refine sq_then ?_
        refine cq_ret ?_
        exact sq_ent (ent_freeze 2 rfl) (sq_res1 rfl (.tmp rfl) rfl)
end Go.Proofs.Ytacepcnbgacipaa
namespace Go.Proofs.Ytacepcnbgacipaa
open Go Go.Vc Go.RowKit
set_option maxHeartbeats 1000000
theorem given_c (l : List Pt) : CtrA Try.prog 52 [pts l] (vi (errH l)) := by
  refine ctrA _ Try.func52 rfl rfl Try.ntmps52 rfl fun w Z => ?_
  simp only [initT, List.map_cons, List.map_nil, Nat.zero_add, Nat.reduceAdd]
  refine cq_seq ?_
  refine cq_region ?_
  apply sq_g; exact g_assign (s := .av (.val (.int _ _))) rfl; exact rfl
  refine sq_nil ?_
  refine sq_then ?_
  refine cq_seq ?_
  refine cq_seq ?_
  refine cq_region ?_
  apply sq_g; exact g_move (s := .av _) rfl; exact rfl
  apply sq_g; exact g_call (rcheck_c l) rfl; exact rfl
  apply sq_g; exact g_assign (s := .av (.val (.int _ _))) rfl; exact rfl
  refine sq_nil ?_
  refine sq_then ?_
  refine cq_seq ?_
  refine cq_region ?_
  apply sq_g; exact g_move (s := .av (.val (.int _ _))) rfl; exact rfl
  apply sq_g; exact g_cmp rfl rfl rfl; exact rfl
  refine sq_nil ?_
  refine sq_then ?_
  (refine cq_cond rfl (fun hb => ?_) (fun hb => ?_) <;> (try simp only [decide_eq_true_eq, decide_eq_false_iff_not, beq_iff_eq, beq_eq_false_iff_ne, bne_iff_ne, bne_eq_false_iff_eq, ne_eq, Bool.not_eq_true', Bool.not_eq_false', Bool.and_eq_true, Bool.or_eq_true, Bool.and_eq_false_iff, Bool.or_eq_false_iff] at hb) <;> (try (exfalso; omega)))
  · refine cq_seq ?_
    refine cq_region ?_
    apply sq_g; exact g_move (s := .av (.val (.int _ _))) rfl; exact rfl
    apply sq_g; exact g_assign (s := .av (.val (.int _ _))) rfl; exact rfl
    refine sq_nil ?_
    refine sq_then ?_
    refine cq_ret ?_
    refine sq_then_ret ?_
    exact sq_res1 rfl (.tmp rfl) (congrArg vi (by simp [errH, hb]))
  · have hb' := hb
    refine cq_skip ?_
    refine sq_then ?_
    refine cq_seq ?_
    refine cq_seq ?_
    refine cq_region ?_
    apply sq_g; exact g_move (s := .av _) rfl; exact rfl
    apply sq_g; exact g_len rfl; exact rfl
    apply sq_g; exact g_cmp rfl rfl rfl; exact rfl
    refine sq_nil ?_
    refine sq_then ?_
    (refine cq_cond rfl (fun hb => ?_) (fun hb => ?_) <;> (try simp only [decide_eq_true_eq, decide_eq_false_iff_not, beq_iff_eq, beq_eq_false_iff_ne, bne_iff_ne, bne_eq_false_iff_eq, ne_eq, Bool.not_eq_true', Bool.not_eq_false', Bool.and_eq_true, Bool.or_eq_true, Bool.and_eq_false_iff, Bool.or_eq_false_iff] at hb) <;> (try (exfalso; omega)))
    · refine cq_seq ?_
      refine cq_region ?_
      apply sq_g; exact g_assign (s := .av (.val (.int _ _))) rfl; exact rfl
      refine sq_nil ?_
      refine sq_then ?_
      refine cq_ret ?_
      refine sq_then_ret ?_
      exact sq_res1 rfl (.tmp rfl) (congrArg vi (by simp [errH, hb', show l.length = 0 by omega]))
    · refine cq_skip ?_
      refine sq_then ?_
      refine cq_seq ?_
      refine cq_region ?_
      apply sq_g; exact g_assign (s := .av (.val (.int _ _))) rfl; exact rfl
      refine sq_nil ?_
      refine sq_then ?_
      refine cq_ret ?_
      exact sq_res1 rfl (.tmp rfl) (congrArg vi (by simp [errH, hb', show l.length ≠ 0 by omega]))
theorem errH_zero {l : List Pt} (h : errH l = 0) : chk l = 0 ∧ 0 < l.length := by
  unfold errH at h
  split at h
  · rename_i h1; exact absurd h h1
  · rename_i h1
    split at h
    · cases h
    · exact ⟨by omega, by omega⟩
theorem rhull_c (l : List Pt) : CtrA Try.prog 14 [pts l] (tupOf [idx (hullN l), vi (errH l)]) := by
  refine ctrA _ Try.func14 rfl rfl Try.ntmps14 rfl fun w Z => ?_
  simp only [initT, List.map_cons, List.map_nil, Nat.zero_add, Nat.reduceAdd]
  refine cq_seq ?_
  refine cq_region ?_
  apply sq_g; exact g_assign (s := .av _) rfl; exact rfl
  apply sq_g; exact g_assign (s := .av (.val (.int _ _))) rfl; exact rfl
  refine sq_nil ?_
  refine sq_then ?_
  refine cq_seq ?_
  refine cq_seq ?_
  refine cq_region ?_
  apply sq_g; exact g_move (s := .av _) rfl; exact rfl
  apply sq_g; exact g_call (given_c l) rfl; exact rfl
  apply sq_g; exact g_assign (s := .av (.val (.int _ _))) rfl; exact rfl
  refine sq_nil ?_
  refine sq_then ?_
  refine cq_seq ?_
  refine cq_region ?_
  apply sq_g; exact g_move (s := .av (.val (.int _ _))) rfl; exact rfl
  apply sq_g; exact g_cmp rfl rfl rfl; exact rfl
  refine sq_nil ?_
  refine sq_then ?_
  (refine cq_cond rfl (fun hb => ?_) (fun hb => ?_) <;> (try simp only [decide_eq_true_eq, decide_eq_false_iff_not, beq_iff_eq, beq_eq_false_iff_ne, bne_iff_ne, bne_eq_false_iff_eq, ne_eq, Bool.not_eq_true', Bool.not_eq_false', Bool.and_eq_true, Bool.or_eq_true, Bool.and_eq_false_iff, Bool.or_eq_false_iff] at hb) <;> (try (exfalso; omega)))
  · have e2 : hullN l = [] := by simp [hullN, hb]
    refine cq_seq ?_
    refine cq_region ?_
    apply sq_g; exact g_move (s := .av (.val (.int _ _))) rfl; exact rfl
    apply sq_g; exact g_assign (s := .av _) rfl; exact rfl
    apply sq_g; exact g_assign (s := .av (.val (.int _ _))) rfl; exact rfl
    refine sq_nil ?_
    refine sq_then ?_
    refine cq_ret ?_
    refine sq_then_ret ?_
    exact sq_ent (ent_nil 2 1 (xf []) rfl) (sq_resN (rvs := [_, _]) (τs := [idx [], vi (errH l)]) rfl rfl ⟨.tmp rfl, .tmp rfl, trivial⟩ (by rw [e2]))
  · obtain ⟨h1, h2⟩ := errH_zero hb
    have e1 := hb
    have e2 : hullN l = arr l := by simp [hullN, hb]
    refine cq_skip ?_
    refine sq_then ?_
    refine cq_seq ?_
    refine cq_region ?_
    apply sq_g; exact g_move (s := .av _) rfl; exact rfl
    apply sq_g; exact g_call (raround_c l (arr l) (chk_sm h1) (chk_len h1) (hull_ok h1 h2)) rfl; exact rfl
    apply sq_g; exact g_assign (s := .av _) rfl; exact rfl
    apply sq_g; exact g_assign (s := .av (.val (.int _ _))) rfl; exact rfl
    refine sq_nil ?_
    refine sq_then ?_
    refine cq_ret ?_
    exact sq_resN (rvs := [_, _]) (τs := [_, _]) rfl rfl ⟨.tmp rfl, .tmp rfl, trivial⟩ (by rw [e1, e2])
def placeV (l : List Pt) (v : List Nat) (p : Pt) : Int := if inH l p = false then -1 else locTo l v p v.length
theorem rplace_c (l : List Pt) (v : List Nat) (p : Pt) (sm : ∀ i, SmP (gp l i)) (sp : SmP p) (hn : l.length ≤ 64) (h : HullOk l v) (hvl : v.length ≤ 1000) : CtrA Try.prog 60 [pts l, pp p] (vi (placeV l v p)) := by
  refine ctrA _ Try.func60 rfl rfl Try.ntmps60 rfl fun w Z => ?_
  simp only [initT, List.map_cons, List.map_nil, Nat.zero_add, Nat.reduceAdd]
  refine cq_seq ?_
  refine cq_region ?_
  apply sq_g; exact g_box_agg rfl; exact rfl
  apply sq_g; exact g_assign (s := .av (.val (.int _ _))) rfl; exact rfl
  refine sq_nil ?_
  refine sq_then ?_
  refine cq_seq ?_
  refine cq_seq ?_
  refine cq_region ?_
  apply sq_g; exact g_move (s := .av _) rfl; exact rfl
  apply sq_g; exact g_load_agg (us := [.int _ _, .int _ _]) rfl rfl rfl rfl; exact rfl
  apply sq_g; exact g_call (inH_c l p sm sp hn) rfl; exact rfl
  apply sq_g; exact g_not rfl; exact rfl
  refine sq_nil ?_
  refine sq_then ?_
  (refine cq_cond rfl (fun hb => ?_) (fun hb => ?_) <;> (try simp only [decide_eq_true_eq, decide_eq_false_iff_not, beq_iff_eq, beq_eq_false_iff_ne, bne_iff_ne, bne_eq_false_iff_eq, ne_eq, Bool.not_eq_true', Bool.not_eq_false', Bool.and_eq_true, Bool.or_eq_true, Bool.and_eq_false_iff, Bool.or_eq_false_iff] at hb) <;> (try (exfalso; omega)))
  · refine cq_seq ?_
    refine cq_region ?_
    apply sq_g; exact g_assign (s := .av (.val (.int _ _))) rfl; exact rfl
    refine sq_nil ?_
    refine sq_then ?_
    refine cq_ret ?_
    refine sq_then_ret ?_
    exact sq_res1 rfl (.tmp rfl) (congrArg vi (by rw [placeV, if_pos hb]))
  · have e1 : placeV l v p = locTo l v p v.length := by rw [placeV, if_neg (by simp [hb])]
    have hne := h.pos
    have hall := h.lt
    refine cq_skip ?_
    refine sq_then ?_
    refine cq_seq ?_
    refine cq_region ?_
    apply sq_g; exact g_move (s := .av _) rfl; exact rfl
    apply sq_g; exact g_call (raround_c l v sm hn h) rfl; exact rfl
    apply sq_g; exact g_assign (s := .av _) rfl; exact rfl
    refine sq_nil ?_
    refine sq_then ?_
    refine cq_seq ?_
    refine cq_seq ?_
    refine cq_region ?_
    apply sq_g; exact g_assign (s := .av (.val (.int _ _))) rfl; exact rfl
    refine sq_nil ?_
    refine sq_then ?_
    refine cq_block ?_
    refine cq_loop (γ := Nat) (fun k => [(0, .av (pts l)), (3, .av (bp p)), (5, .av (idx v)), (6, .av (vi k))]) (fun _ => []) (fun k => k ≤ v.length ∧ ∀ k', k' < k → decide (edg l v p k' = 0) = false) (fun k => v.length - k) 0 ⟨Nat.zero_le _, by intro i hi; omega⟩ (ent ⟨.refl _, .refl _, .refl _, .refl _, trivial⟩ trivial) ?_
    rintro k ⟨hk, hallk⟩
    refine cq_seq ?_
    refine cq_seq ?_
    refine cq_region ?_
    apply sq_g; exact g_move (s := .av (.val (.int _ _))) rfl; exact rfl
    apply sq_g; exact g_move (s := .av _) rfl; exact rfl
    apply sq_g; exact g_len rfl; exact rfl
    apply sq_g; exact g_cmp rfl rfl rfl; exact rfl
    refine sq_nil ?_
    refine sq_then ?_
    (refine cq_cond rfl (fun hb => ?_) (fun hb => ?_) <;> (try simp only [decide_eq_true_eq, decide_eq_false_iff_not, beq_iff_eq, beq_eq_false_iff_ne, bne_iff_ne, bne_eq_false_iff_eq, ne_eq, Bool.not_eq_true', Bool.not_eq_false', Bool.and_eq_true, Bool.or_eq_true, Bool.and_eq_false_iff, Bool.or_eq_false_iff] at hb) <;> (try (exfalso; omega)))
    · have hkl : k < v.length := by omega
      have hm : (k + 1) % v.length < v.length := Nat.mod_lt _ hne
      have hg1 := hall k hkl
      have hg2 := hall _ hm
      have hrem : ((k : Int) + 1) % (v.length : Int) = (((k + 1) % v.length : Nat) : Int) := by simp
      refine cq_skip ?_
      refine sq_then ?_
      refine cq_seq ?_
      refine cq_block ?_
      refine cq_seq ?_
      refine cq_drawn ?_
      apply dq_g; exact g_move (s := .av _) rfl; exact rfl
      apply dq_g; exact g_move (s := .av _) rfl; exact rfl
      apply dq_g; exact g_move (s := .av (.val (.int _ _))) rfl; exact rfl
      apply dq_g; exact g_index rfl rfl rfl (by omega); exact rfl
      apply dq_g; exact g_load (τ := .val (.int _ _)) rfl rfl rfl; exact rfl
      apply dq_g; exact g_index rfl rfl rfl (by omega); exact rfl
      apply dq_g; exact g_load_agg (us := [.int _ _, .int _ _]) rfl rfl rfl rfl; exact rfl
      apply dq_g; exact g_move (s := .av _) rfl; exact rfl
      apply dq_g; exact g_move (s := .av _) rfl; exact rfl
      apply dq_g; exact g_move (s := .av (.val (.int _ _))) rfl; exact rfl
      apply dq_g; exact g_arith rfl rfl rfl (by omega); exact rfl
      apply dq_g; exact g_move (s := .av _) rfl; exact rfl
      apply dq_g; exact g_len rfl; exact rfl
      apply dq_g; exact g_rem rfl rfl (by omega) (by omega); exact rfl
      apply dq_g; exact  g_index (k := (k + 1) % v.length) rfl rfl hrem hm; exact rfl
      apply dq_g; exact g_load (τ := .val (.int _ _)) rfl rfl rfl; exact rfl
      apply dq_g; exact g_index rfl rfl rfl (by omega); exact rfl
      apply dq_g; exact g_load_agg (us := [.int _ _, .int _ _]) rfl rfl rfl rfl; exact rfl
      apply dq_g; exact g_load_agg (us := [.int _ _, .int _ _]) rfl rfl rfl rfl; exact rfl
      apply dq_g; exact g_call (left_c _ _ _ (sm _) (sm _) sp) rfl; exact rfl
      apply dq_g; exact g_cmp rfl rfl rfl; exact rfl
      refine dq_nil tm rfl ?_
      refine sq_then ?_
      (refine cq_cond rfl (fun hb => ?_) (fun hb => ?_) <;> (try simp only [decide_eq_true_eq, decide_eq_false_iff_not, beq_iff_eq, beq_eq_false_iff_ne, bne_iff_ne, bne_eq_false_iff_eq, ne_eq, Bool.not_eq_true', Bool.not_eq_false', Bool.and_eq_true, Bool.or_eq_true, Bool.and_eq_false_iff, Bool.or_eq_false_iff] at hb) <;> (try (exfalso; omega)))
      · have e3 : locTo l v p v.length = 0 := by rw [locTo, if_pos (any_true_of (k := k) hkl (by rw [decide_eq_true_eq]; exact hb))]
        refine cq_seq ?_
        refine cq_region ?_
        apply sq_g; exact g_assign (s := .av (.val (.int _ _))) rfl; exact rfl
        refine sq_nil ?_
        refine sq_then ?_
        refine cq_ret ?_
        refine sq_inBlock_ret ?_
        refine sq_then_ret ?_
        refine sq_then_ret ?_
        refine sq_inBlock_ret ?_
        refine sq_then_ret ?_
        exact sq_res1 rfl (.tmp rfl) (congrArg vi (by rw [e1, e3]))
      · refine cq_skip ?_
        refine sq_then ?_
        refine cq_region ?_
        apply sq_g; exact g_move (s := .av (.val (.int _ _))) rfl; exact rfl
        apply sq_g; exact g_arith rfl rfl rfl (by omega); exact rfl
        apply sq_g; exact g_assign (s := .av (.val (.int _ _))) rfl; exact rfl
        refine sq_nil ?_
        exact sq_round (k + 1) ⟨by omega, lt_step hallk (by rw [decide_eq_false_iff_not]; exact hb)⟩ (by omega) (ent ⟨.refl _, .refl _, .refl _, .int (by omega), trivial⟩ trivial)
    · have hkl : k = v.length := by omega
      subst hkl
      have e3 : locTo l v p v.length = 1 := by rw [locTo, any_false_of hallk]; simp
      refine cq_exit ?_
      refine sq_then ?_
      refine cq_seq ?_
      refine cq_region ?_
      apply sq_g; exact g_assign (s := .av (.val (.int _ _))) rfl; exact rfl
      refine sq_nil ?_
      refine sq_then ?_
      refine cq_ret ?_
      exact sq_res1 rfl (.tmp rfl) (congrArg vi (by rw [e1, e3]))
def rlocN (l : List Pt) (p : Pt) : Int := if errL l p = 0 then placeV l (arr l) p else 0
theorem arr_len' {l : List Pt} (h : chk l = 0) : (arr l).length ≤ 1000 := by
  have := arr_len l
  have := chk_len h
  omega
theorem rloc_c (l : List Pt) (p : Pt) : CtrA Try.prog 16 [pts l, pp p] (tupOf [vi (rlocN l p), vi (errL l p)]) := by
  refine ctrA _ Try.func16 rfl rfl Try.ntmps16 rfl fun w Z => ?_
  simp only [initT, List.map_cons, List.map_nil, Nat.zero_add, Nat.reduceAdd]
  refine cq_seq ?_
  refine cq_region ?_
  apply sq_g; exact g_box_agg rfl; exact rfl
  apply sq_g; exact g_assign (s := .av (.val (.int _ _))) rfl; exact rfl
  apply sq_g; exact g_assign (s := .av (.val (.int _ _))) rfl; exact rfl
  refine sq_nil ?_
  refine sq_then ?_
  refine cq_seq ?_
  refine cq_seq ?_
  refine cq_region ?_
  apply sq_g; exact g_move (s := .av _) rfl; exact rfl
  apply sq_g; exact g_call (rcheck_c l) rfl; exact rfl
  apply sq_g; exact g_assign (s := .av (.val (.int _ _))) rfl; exact rfl
  refine sq_nil ?_
  refine sq_then ?_
  refine cq_seq ?_
  refine cq_region ?_
  apply sq_g; exact g_move (s := .av (.val (.int _ _))) rfl; exact rfl
  apply sq_g; exact g_cmp rfl rfl rfl; exact rfl
  refine sq_nil ?_
  refine sq_then ?_
  (refine cq_cond rfl (fun hb => ?_) (fun hb => ?_) <;> (try simp only [decide_eq_true_eq, decide_eq_false_iff_not, beq_iff_eq, beq_eq_false_iff_ne, bne_iff_ne, bne_eq_false_iff_eq, ne_eq, Bool.not_eq_true', Bool.not_eq_false', Bool.and_eq_true, Bool.or_eq_true, Bool.and_eq_false_iff, Bool.or_eq_false_iff] at hb) <;> (try (exfalso; omega)))
  · have e1 : errL l p = chk l := by simp [errL, hb]
    have e2 : rlocN l p = 0 := by simp [rlocN, e1, hb]
    refine cq_seq ?_
    refine cq_region ?_
    apply sq_g; exact g_move (s := .av (.val (.int _ _))) rfl; exact rfl
    apply sq_g; exact g_assign (s := .av (.val (.int _ _))) rfl; exact rfl
    apply sq_g; exact g_assign (s := .av (.val (.int _ _))) rfl; exact rfl
    refine sq_nil ?_
    refine sq_then ?_
    refine cq_ret ?_
    refine sq_then_ret ?_
    exact sq_resN (rvs := [_, _]) (τs := [_, _]) rfl rfl ⟨.tmp rfl, .tmp rfl, trivial⟩ (by rw [e1, e2])
  · have hb' := hb
    have sm := chk_sm hb
    have hn := chk_len hb
    refine cq_skip ?_
    refine sq_then ?_
    refine cq_seq ?_
    refine cq_seq ?_
    refine cq_region ?_
    apply sq_g; exact g_load_agg (us := [.int _ _, .int _ _]) rfl rfl rfl rfl; exact rfl
    apply sq_g; exact g_call (rright_c p) rfl; exact rfl
    apply sq_g; exact g_not rfl; exact rfl
    refine sq_nil ?_
    refine sq_then ?_
    (refine cq_cond rfl (fun hb => ?_) (fun hb => ?_) <;> (try simp only [decide_eq_true_eq, decide_eq_false_iff_not, beq_iff_eq, beq_eq_false_iff_ne, bne_iff_ne, bne_eq_false_iff_eq, ne_eq, Bool.not_eq_true', Bool.not_eq_false', Bool.and_eq_true, Bool.or_eq_true, Bool.and_eq_false_iff, Bool.or_eq_false_iff] at hb) <;> (try (exfalso; omega)))
    · have e1 : errL l p = 2 := by simp [errL, hb', hb]
      have e2 : rlocN l p = 0 := by simp [rlocN, e1]
      refine cq_seq ?_
      refine cq_region ?_
      apply sq_g; exact g_assign (s := .av (.val (.int _ _))) rfl; exact rfl
      apply sq_g; exact g_assign (s := .av (.val (.int _ _))) rfl; exact rfl
      refine sq_nil ?_
      refine sq_then ?_
      refine cq_ret ?_
      refine sq_then_ret ?_
      exact sq_resN (rvs := [_, _]) (τs := [_, _]) rfl rfl ⟨.tmp rfl, .tmp rfl, trivial⟩ (by rw [e1, e2])
    · have hr := hb
      refine cq_skip ?_
      refine sq_then ?_
      refine cq_seq ?_
      refine cq_seq ?_
      refine cq_region ?_
      apply sq_g; exact g_move (s := .av _) rfl; exact rfl
      apply sq_g; exact g_len rfl; exact rfl
      apply sq_g; exact g_cmp rfl rfl rfl; exact rfl
      refine sq_nil ?_
      refine sq_then ?_
      (refine cq_cond rfl (fun hb => ?_) (fun hb => ?_) <;> (try simp only [decide_eq_true_eq, decide_eq_false_iff_not, beq_iff_eq, beq_eq_false_iff_ne, bne_iff_ne, bne_eq_false_iff_eq, ne_eq, Bool.not_eq_true', Bool.not_eq_false', Bool.and_eq_true, Bool.or_eq_true, Bool.and_eq_false_iff, Bool.or_eq_false_iff] at hb) <;> (try (exfalso; omega)))
      · have e1 : errL l p = 13 := by simp [errL, hb', hr, show l.length = 0 by omega]
        have e2 : rlocN l p = 0 := by simp [rlocN, e1]
        refine cq_seq ?_
        refine cq_region ?_
        apply sq_g; exact g_assign (s := .av (.val (.int _ _))) rfl; exact rfl
        apply sq_g; exact g_assign (s := .av (.val (.int _ _))) rfl; exact rfl
        refine sq_nil ?_
        refine sq_then ?_
        refine cq_ret ?_
        refine sq_then_ret ?_
        exact sq_resN (rvs := [_, _]) (τs := [_, _]) rfl rfl ⟨.tmp rfl, .tmp rfl, trivial⟩ (by rw [e1, e2])
      · have e1 : errL l p = 0 := by simp [errL, hb', hr, show l.length ≠ 0 by omega]
        have e2 : rlocN l p = placeV l (arr l) p := by simp [rlocN, e1]
        refine cq_skip ?_
        refine sq_then ?_
        refine cq_seq ?_
        refine cq_region ?_
        apply sq_g; exact g_move (s := .av _) rfl; exact rfl
        apply sq_g; exact g_load_agg (us := [.int _ _, .int _ _]) rfl rfl rfl rfl; exact rfl
        apply sq_g; exact g_call (rplace_c l (arr l) p sm (right_sm hr) hn (hull_ok hb' (by omega)) (arr_len' hb')) rfl; exact rfl
        apply sq_g; exact g_assign (s := .av (.val (.int _ _))) rfl; exact rfl
        apply sq_g; exact g_assign (s := .av (.val (.int _ _))) rfl; exact rfl
        refine sq_nil ?_
        refine sq_then ?_
        refine cq_ret ?_
        exact sq_resN (rvs := [_, _]) (τs := [_, _]) rfl rfl ⟨.tmp rfl, .tmp rfl, trivial⟩ (by rw [e1, e2])
theorem rext_c (l : List Pt) (d : Pt) : CtrA Try.prog 18 [pts l, pp d] (tupOf [idx (extN l d), vi (errE l d)]) := by
  refine ctrA _ Try.func18 rfl rfl Try.ntmps18 rfl fun w Z => ?_
  simp only [initT, List.map_cons, List.map_nil, Nat.zero_add, Nat.reduceAdd]
  refine cq_seq ?_
  refine cq_region ?_
  apply sq_g; exact g_box_agg rfl; exact rfl
  apply sq_g; exact g_assign (s := .av _) rfl; exact rfl
  apply sq_g; exact g_assign (s := .av (.val (.int _ _))) rfl; exact rfl
  refine sq_nil ?_
  refine sq_then ?_
  refine cq_seq ?_
  refine cq_seq ?_
  refine cq_region ?_
  apply sq_g; exact g_move (s := .av _) rfl; exact rfl
  apply sq_g; exact g_call (rcheck_c l) rfl; exact rfl
  apply sq_g; exact g_assign (s := .av (.val (.int _ _))) rfl; exact rfl
  refine sq_nil ?_
  refine sq_then ?_
  refine cq_seq ?_
  refine cq_region ?_
  apply sq_g; exact g_move (s := .av (.val (.int _ _))) rfl; exact rfl
  apply sq_g; exact g_cmp rfl rfl rfl; exact rfl
  refine sq_nil ?_
  refine sq_then ?_
  (refine cq_cond rfl (fun hb => ?_) (fun hb => ?_) <;> (try simp only [decide_eq_true_eq, decide_eq_false_iff_not, beq_iff_eq, beq_eq_false_iff_ne, bne_iff_ne, bne_eq_false_iff_eq, ne_eq, Bool.not_eq_true', Bool.not_eq_false', Bool.and_eq_true, Bool.or_eq_true, Bool.and_eq_false_iff, Bool.or_eq_false_iff] at hb) <;> (try (exfalso; omega)))
  · have e1 : errE l d = chk l := by simp [errE, hb]
    have e2 : extN l d = [] := by simp [extN, e1, hb]
    refine cq_seq ?_
    refine cq_region ?_
    apply sq_g; exact g_move (s := .av (.val (.int _ _))) rfl; exact rfl
    apply sq_g; exact g_assign (s := .av _) rfl; exact rfl
    apply sq_g; exact g_assign (s := .av (.val (.int _ _))) rfl; exact rfl
    refine sq_nil ?_
    refine sq_then ?_
    refine cq_ret ?_
    refine sq_then_ret ?_
    exact sq_ent (ent_nil 4 1 (xf []) rfl) (sq_resN (rvs := [_, _]) (τs := [idx [], vi (chk l)]) rfl rfl ⟨.tmp rfl, .tmp rfl, trivial⟩ (by rw [e1, e2]))
  · have hb' := hb
    have sm := chk_sm hb
    have hn := chk_len hb
    refine cq_skip ?_
    refine sq_then ?_
    refine cq_seq ?_
    refine cq_seq ?_
    refine cq_region ?_
    apply sq_g; exact g_load_agg (us := [.int _ _, .int _ _]) rfl rfl rfl rfl; exact rfl
    apply sq_g; exact g_call (rright_c d) rfl; exact rfl
    apply sq_g; exact g_not rfl; exact rfl
    refine sq_nil ?_
    refine sq_then ?_
    (refine cq_cond rfl (fun hb => ?_) (fun hb => ?_) <;> (try simp only [decide_eq_true_eq, decide_eq_false_iff_not, beq_iff_eq, beq_eq_false_iff_ne, bne_iff_ne, bne_eq_false_iff_eq, ne_eq, Bool.not_eq_true', Bool.not_eq_false', Bool.and_eq_true, Bool.or_eq_true, Bool.and_eq_false_iff, Bool.or_eq_false_iff] at hb) <;> (try (exfalso; omega)))
    · have e1 : errE l d = 2 := by simp [errE, hb', hb]
      have e2 : extN l d = [] := by simp [extN, e1]
      refine cq_seq ?_
      refine cq_region ?_
      apply sq_g; exact g_assign (s := .av _) rfl; exact rfl
      apply sq_g; exact g_assign (s := .av (.val (.int _ _))) rfl; exact rfl
      refine sq_nil ?_
      refine sq_then ?_
      refine cq_ret ?_
      refine sq_then_ret ?_
      exact sq_ent (ent_nil 4 1 (xf []) rfl) (sq_resN (rvs := [_, _]) (τs := [idx [], vi 2]) rfl rfl ⟨.tmp rfl, .tmp rfl, trivial⟩ (by rw [e1, e2]))
    · have hr := hb
      have sp := right_sm hr
      refine cq_skip ?_
      refine sq_then ?_
      refine cq_seq ?_
      refine cq_seq ?_
      refine cq_region ?_
      apply sq_g; exact g_move (s := .av _) rfl; exact rfl
      apply sq_g; exact g_len rfl; exact rfl
      apply sq_g; exact g_cmp rfl rfl rfl; exact rfl
      refine sq_nil ?_
      refine sq_then ?_
      (refine cq_cond rfl (fun hb => ?_) (fun hb => ?_) <;> (try simp only [decide_eq_true_eq, decide_eq_false_iff_not, beq_iff_eq, beq_eq_false_iff_ne, bne_iff_ne, bne_eq_false_iff_eq, ne_eq, Bool.not_eq_true', Bool.not_eq_false', Bool.and_eq_true, Bool.or_eq_true, Bool.and_eq_false_iff, Bool.or_eq_false_iff] at hb) <;> (try (exfalso; omega)))
      · have e1 : errE l d = 13 := by simp [errE, hb', hr, show l.length = 0 by omega]
        have e2 : extN l d = [] := by simp [extN, e1]
        refine cq_seq ?_
        refine cq_region ?_
        apply sq_g; exact g_assign (s := .av _) rfl; exact rfl
        apply sq_g; exact g_assign (s := .av (.val (.int _ _))) rfl; exact rfl
        refine sq_nil ?_
        refine sq_then ?_
        refine cq_ret ?_
        refine sq_then_ret ?_
        exact sq_ent (ent_nil 4 1 (xf []) rfl) (sq_resN (rvs := [_, _]) (τs := [idx [], vi 13]) rfl rfl ⟨.tmp rfl, .tmp rfl, trivial⟩ (by rw [e1, e2]))
      · have h0 : l.length ≠ 0 := by omega
        refine cq_skip ?_
        refine sq_then ?_
        refine cq_seq ?_
        refine cq_seq ?_
        refine cq_region ?_
        apply sq_g; exact g_load_agg (us := [.int _ _, .int _ _]) rfl rfl rfl rfl; exact rfl
        apply sq_g; exact  g_build (is := []) (xs := []) (vs := []) tb24_0 rfl rfl; exact rfl
        apply sq_g; exact g_eql (xs := [_, _]) (ys := [_, _]) rfl rfl rfl rfl; exact rfl
        refine sq_nil ?_
        refine sq_then ?_
        rw [pt0]
        (refine cq_cond rfl (fun hb => ?_) (fun hb => ?_) <;> (try simp only [decide_eq_true_eq, decide_eq_false_iff_not, beq_iff_eq, beq_eq_false_iff_ne, bne_iff_ne, bne_eq_false_iff_eq, ne_eq, Bool.not_eq_true', Bool.not_eq_false', Bool.and_eq_true, Bool.or_eq_true, Bool.and_eq_false_iff, Bool.or_eq_false_iff] at hb) <;> (try (exfalso; omega)))
        · have e1 : errE l d = 10 := by rw [hb] at hr ⊢; simp [errE, hb', hr, h0]
          have e2 : extN l d = [] := by simp [extN, e1]
          refine cq_seq ?_
          refine cq_region ?_
          apply sq_g; exact g_assign (s := .av _) rfl; exact rfl
          apply sq_g; exact g_assign (s := .av (.val (.int _ _))) rfl; exact rfl
          refine sq_nil ?_
          refine sq_then ?_
          refine cq_ret ?_
          refine sq_then_ret ?_
          exact sq_ent (ent_nil 4 1 (xf []) rfl) (sq_resN (rvs := [_, _]) (τs := [idx [], vi 10]) rfl rfl ⟨.tmp rfl, .tmp rfl, trivial⟩ (by rw [e1, e2]))
        · have e1 : errE l d = 0 := by simp [errE, hb', hr, h0, hb]
          have e2 : extN l d = tops l d := by simp [extN, e1]
          refine cq_skip ?_
          refine sq_then ?_
          refine cq_seq ?_
          refine cq_region ?_
          apply sq_g; exact g_move (s := .av _) rfl; exact rfl
          apply sq_g; exact g_load_agg (us := [.int _ _, .int _ _]) rfl rfl rfl rfl; exact rfl
          apply sq_g; exact g_call ((rtops_c l d sm sp.bd (by omega) hn).ro) rfl; exact rfl
          apply sq_g; exact g_assign (s := .av _) rfl; exact rfl
          apply sq_g; exact g_assign (s := .av (.val (.int _ _))) rfl; exact rfl
          refine sq_nil ?_
          refine sq_then ?_
          refine cq_ret ?_
          exact sq_resN (rvs := [_, _]) (τs := [_, _]) rfl rfl ⟨.tmp rfl, .tmp rfl, trivial⟩ (by rw [e1, e2]; rfl)
end Go.Proofs.Ytacepcnbgacipaa
namespace Go.Proofs.Ytacepcnbgacipaa
open Go Go.Vc Go.RowKit
set_option maxHeartbeats 1000000
/-! The program's location is the reference's. -/
theorem edg_G (l : List Pt) (v : List Nat) (p : Pt) (k : Nat) : edg l v p k = edgG l v p k := rfl
theorem two_len {l : List Pt} {S : List Nat} {p0 pm : Nat} {lo up : List Nat} (T : Two l S lo up p0 pm) : 2 ≤ (lo.tail.reverse ++ up.tail.reverse).length := by
  have h1 := T.len1
  have h2 := T.len2
  simp; omega
/-- Three cases of a hull. -/
theorem arr_cases {l : List Pt} (h : chk l = 0) (h0 : 0 < l.length) :
    (∃ x, arr l = [x] ∧ ∀ i, i < l.length → gp l i = gp l x) ∨ (∃ S lo up p0 pm, SOk l S ∧ Two l S lo up p0 pm ∧ S.head? = some p0 ∧ arr l = lo.tail.reverse ++ up.tail.reverse) := by
  have hS := s_ok h h0
  obtain ⟨x, hx, _⟩ := hS.cover 0 h0
  rcases Nat.lt_or_ge (cpt l (ordN l)).length 2 with h2 | h2
  · left
    have e : arr l = cpt l (ordN l) := by rw [arr, if_pos (by omega)]
    rw [e]
    match hc : cpt l (ordN l), h2, hx, hS with
    | [s], _, _, hS =>
      refine ⟨s, rfl, fun i hi => ?_⟩
      obtain ⟨y, hy, e, _⟩ := hS.cover i hi
      simp at hy; subst hy; exact e.symm
    | [], _, hx, _ => simp at hx
  · right
    obtain ⟨p0, pm, hp, _, T⟩ := two_of hS.sm hS.inc h2
    exact ⟨_, _, _, p0, pm, hS, T, hp, arr_two h2⟩
theorem dot_zero_r (a b : Pt) : dot a (sub b b) = 0 := by simp only [dot, sub]; grind
theorem dot_zero_l (a b : Pt) : dot (sub b b) a = 0 := by simp only [dot, sub]; grind
theorem seg_of_line {a b p : Pt} (sa : SmP a) (sb : SmP b) (sp : SmP p) (h : crs a b p = 0) (h1 : 0 ≤ lf 1000000 1 a p) (h2 : 0 ≤ lf 1000000 1 p b) : dot (sub a p) (sub b p) ≤ 0 := by
  by_cases z : lf 1000000 1 p b = 0
  · have := k_inj sp sb z
    subst this
    rw [dot_zero_r]; exact Int.le_refl 0
  · have h5 := par_id 1000000 1 a b p h
    have h6 := dot_sq (sub b p)
    have h7 : lf 1000000 1 p a ≤ 0 := by rw [lf_anti]; omega
    rcases Int.lt_or_le 0 (dot (sub a p) (sub b p)) with hx | hx
    · have m1 := pos_mul (show 0 < lf 1000000 1 p b by omega) hx
      have m2 := np_mul h7 h6
      omega
    · exact hx
theorem loc_eq {l : List Pt} {p : Pt} (h : chk l = 0) (h0 : 0 < l.length) (sp : SmP p) : locV l p = placeV l (arr l) p := by
  have H := hull_ok h h0
  have sm := chk_sm h
  rcases arr_cases h h0 with ⟨x, e, hx⟩ | ⟨S, lo, up, p0, pm, hS, T, hp0, e⟩
  · have hxl : x < l.length := by have := H.lt 0 (by rw [e]; simp); rw [e] at this; exact this
    have hin : inH l p = true ↔ gp l x = p := by
      constructor
      · intro hi
        have k1 := inH_half 1000000 1 (gp l x) hi (fun i hi => by rw [hx i hi, lf_self]; exact Int.le_refl 0)
        have k2 := inH_half (-1000000) (-1) (gp l x) hi (fun i hi => by rw [hx i hi, lf_self]; exact Int.le_refl 0)
        exact k_inj (sm x) sp (by simp only [lf] at k1 k2 ⊢; omega)
      · exact inH_eq hxl
    have hl : locV l p = loc2 (gp l x) (gp l x) p := by rw [locV, e]; rfl
    have ht : locTo l [x] p 1 = 0 := by
      rw [locTo, if_pos (any_true_of (k := 0) (by omega) (by rw [decide_eq_true_eq]; simp [edg, gi, crs_same]))]
    rw [hl, e, placeV]
    by_cases hq : gp l x = p
    · rw [if_neg (by simp [hin.2 hq]), show [x].length = 1 from rfl, ht, loc2, if_pos ⟨crs_same _ _, by rw [hq, dot_zero_r]; exact Int.le_refl 0⟩]
    · have hn : inH l p = false := by
        cases hi : inH l p with
        | false => rfl
        | true => exact absurd (hin.1 hi) hq
      rw [if_pos hn, loc2, if_neg (fun hh => hq (btw_self ((btw_iff _ _ _).2 ⟨crs_same _ _, hh.2⟩)))]
  · have h2 : 2 ≤ (arr l).length := by rw [e]; exact two_len T
    have hfst : gi (arr l) 0 = p0 := by
      have := H.fst
      rw [← hS.head, hp0] at this
      exact (Option.some.inj this).symm
    generalize hv : arr l = v at *
    by_cases h3 : v.length = 2
    · -- two vertices
      have hpm : pm ∈ v := H.memv.2 ((vs_mem l pm).2 ⟨hS.lt pm T.memM, hS.vtx_of T.memM T.supM⟩)
      have hne : pm ≠ p0 := fun e' => by
        have h1 := T.len1
        have hn := inc_nodup T.ilo.inc
        obtain ⟨a, b, t, el⟩ : ∃ a b t, lo = a :: b :: t := by
          match lo, h1 with
          | a :: b :: t, _ => exact ⟨a, b, t, rfl⟩
        have k1 := T.loH
        have k2 := T.loL
        rw [el] at k1 k2 hn
        simp at k1
        rw [List.getLast?_cons_cons] at k2
        have k3 : p0 ∈ b :: t := List.mem_of_getLast? k2
        rw [← e', ← k1] at k3
        exact (List.nodup_cons.1 hn).1 k3
      have hv1 : gi v 1 = pm := by
        match v, h3, hpm, hfst with
        | [a, b], _, hpm, hfst =>
          simp [gi] at hfst ⊢
          simp at hpm
          rcases hpm with hpm | hpm
          · exact absurd (hpm.trans hfst) hne
          · exact hpm.symm
      have e0 : ∀ q, crs (gp l p0) (gp l pm) q = edgG l v q 0 := fun q => by unfold edgG; rw [h3, hfst]; rw [show (0 + 1) % 2 = 1 from rfl, hv1]
      have e1 : ∀ q, crs (gp l pm) (gp l p0) q = edgG l v q 1 := fun q => by unfold edgG; rw [h3, hv1]; rw [show (1 + 1) % 2 = 0 from rfl, hfst]
      have hL : locV l p = loc2 (gp l p0) (gp l pm) p := by rw [locV, hv, if_pos (by omega), hfst, h3, show 2 - 1 = 1 from rfl, hv1]
      have hmin : ∀ i, i < l.length → 0 ≤ lf 1000000 1 (gp l p0) (gp l i) := fun i hi => by
        obtain ⟨x, hx, ex, _⟩ := hS.cover i hi
        rw [← ex]; exact T.p0m x hx
      have hmax : ∀ i, i < l.length → 0 ≤ lf (-1000000) (-1) (gp l pm) (gp l i) := fun i hi => by
        obtain ⟨x, hx, ex, _⟩ := hS.cover i hi
        have := T.pmm x hx
        rw [← ex]; simp only [lf] at this ⊢; omega
      have hin : inH l p = true ↔ (crs (gp l p0) (gp l pm) p = 0 ∧ dot (sub (gp l p0) p) (sub (gp l pm) p) ≤ 0) := by
        constructor
        · intro hi
          have ed := inH_edge H (by omega) hi
          have a0 := ed 0 (by omega)
          have a1 := ed 1 (by omega)
          rw [← e0] at a0
          rw [← e1, crs_flip] at a1
          have z : crs (gp l p0) (gp l pm) p = 0 := by omega
          refine ⟨z, seg_of_line (sm _) (sm _) sp z (inH_half _ _ _ hi hmin) ?_⟩
          have := inH_half _ _ _ hi hmax
          simp only [lf] at this ⊢; omega
        · intro hh
          exact inH_seg (hS.lt p0 T.mem0) (hS.lt pm T.memM) ((btw_iff _ _ _).2 hh)
      rw [hL, placeV]
      by_cases hq : crs (gp l p0) (gp l pm) p = 0 ∧ dot (sub (gp l p0) p) (sub (gp l pm) p) ≤ 0
      · rw [loc2, if_pos hq, if_neg (by simp [hin.2 hq]), locTo, if_pos (any_true_of (k := 0) (by omega) (by rw [decide_eq_true_eq, edg_G, ← e0]; exact hq.1))]
      · have hn : inH l p = false := by
          cases hi : inH l p with
          | false => rfl
          | true => exact absurd (hin.1 hi) hq
        rw [loc2, if_neg hq, if_pos hn]
    · have h3' : 3 ≤ v.length := by omega
      rw [locV, hv, if_neg (by omega), placeV]
      cases hi : inH l p with
      | true =>
        have ed := inH_edge H (by omega) hi
        rw [any_false_of (fun k hk => by rw [decide_eq_false_iff_not]; have := ed k hk; rw [edg_G]; omega)]
        simp
      | false =>
        have : ((List.range v.length).any fun k => decide (edg l v p k < 0)) = true := by
          cases hq : (List.range v.length).any fun k => decide (edg l v p k < 0) with
          | true => rfl
          | false =>
            rw [List.any_eq_false] at hq
            have := loc_two hS T hp0 e h3' sp (fun k hk => by
              have := hq k (List.mem_range.2 hk)
              rw [decide_eq_true_eq, edg_G] at this; omega)
            rw [hi] at this; cases this
        rw [this]; simp
end Go.Proofs.Ytacepcnbgacipaa
namespace Go.Proofs.Ytacepcnbgacipaa
open Go Go.Vc Go.RowKit
set_option maxHeartbeats 1000000
theorem nd_bound {v : List Nat} {n : Nat} (h : v.Nodup) (hl : ∀ x ∈ v, x < n) : v.length ≤ n := by
  have := h.length_le_of_subset (l₂ := List.range n) (fun x hx => List.mem_range.2 (hl x hx))
  simpa using this
theorem arr_nil : arr [] = [] := by decide
theorem sml_of {l : List Pt} (h : chk l = 0 → l.length ≤ 12) : Sml l := by
  intro hc
  have hn := h hc
  by_cases h0 : l.length = 0
  · have : l = [] := List.length_eq_zero_iff.1 h0
    subst this
    rw [arr_nil]
    exact ⟨by simp, by simp, fun k hk => by simp at hk⟩
  · have H := hull_ok hc (by omega)
    refine ⟨by omega, ?_, H.lt⟩
    have := nd_bound H.nd (n := l.length) (fun x hx => by
      obtain ⟨k, hk, e⟩ := List.getElem_of_mem hx
      rw [← e, ← gi_eq hk]; exact H.lt k hk)
    omega
theorem rlocN_eq (l : List Pt) (p : Pt) : rlocN l p = locN l p := by
  unfold rlocN locN
  by_cases h : errL l p = 0
  · rw [if_pos h, if_pos h]
    unfold errL at h
    by_cases h1 : chk l = 0
    · rw [if_neg (by omega)] at h
      by_cases h2 : rightB p = false
      · rw [if_pos h2] at h; cases h
      · rw [if_neg h2] at h
        by_cases h3 : l.length = 0
        · rw [if_pos h3] at h; cases h
        · exact (loc_eq h1 (by omega) (right_sm (by simpa using h2))).symm
    · rw [if_pos h1] at h; omega
  · rw [if_neg h, if_neg h]
theorem same_r (v : List Nat) (hn : v.length ≤ 1000) : CtrA Try.prog 19 [idx v, idx v] (vb true) := by
  have := same_c v v hn
  rwa [decide_eq_true rfl] at this
theorem fewB_chk {l : List Pt} (h : l.length ≤ 8 ∨ 64 < l.length ∧ l.length < 128) (hc : chk l = 0) : l.length ≤ 8 := by
  have := chk_len hc
  omega
theorem hullN_len {l : List Pt} (hs : Sml l) : (hullN l).length ≤ 1000 := by
  unfold hullN
  split
  · rename_i h
    have := (hs (errH_zero h).1).2.1
    omega
  · simp
theorem extN_len {l : List Pt} {d : Pt} (hn : chk l = 0 → l.length ≤ 64) : (extN l d).length ≤ 1000 := by
  unfold extN
  split
  · rename_i h
    unfold errE at h
    by_cases h1 : chk l = 0
    · have := topsTo_len l d l.length
      have := hn h1
      unfold tops; omega
    · rw [if_pos h1] at h; omega
  · simp
theorem finds_c (l : List Pt) (p : Pt) : CtrA Try.prog 3 [pts l, pp p] (vb true) := by
  refine ctrA _ Try.func3 rfl rfl Try.ntmps3 rfl fun w Z => ?_
  simp only [initT, List.map_cons, List.map_nil, Nat.zero_add, Nat.reduceAdd]
  refine cq_seq ?_
  refine cq_region ?_
  apply sq_g; exact g_box_agg rfl; exact rfl
  apply sq_g; exact g_assign (s := .av (.val (.bool _))) rfl; exact rfl
  refine sq_nil ?_
  refine sq_then ?_
  refine cq_seq ?_
  refine cq_seq ?_
  refine cq_region ?_
  apply sq_g; exact g_move (s := .av _) rfl; exact rfl
  apply sq_g; exact g_call (few_c l) rfl; exact rfl
  apply sq_g; exact g_not rfl; exact rfl
  refine sq_nil ?_
  refine sq_then ?_
  (refine cq_cond rfl (fun hb => ?_) (fun hb => ?_) <;> (try simp only [decide_eq_true_eq, decide_eq_false_iff_not, beq_iff_eq, beq_eq_false_iff_ne, bne_iff_ne, bne_eq_false_iff_eq, ne_eq, Bool.not_eq_true', Bool.not_eq_false', Bool.and_eq_true, Bool.or_eq_true, Bool.and_eq_false_iff, Bool.or_eq_false_iff] at hb) <;> (try (exfalso; omega)))
  · refine cq_seq ?_
    refine cq_region ?_
    apply sq_g; exact g_call (awake_c) rfl; exact rfl
    apply sq_g; exact g_assign (s := .av (.val (.bool _))) rfl; exact rfl
    refine sq_nil ?_
    refine sq_then ?_
    refine cq_ret ?_
    refine sq_then_ret ?_
    exact sq_res1 rfl (.tmp rfl) rfl
  · have hs : Sml l := sml_of (fun hc => by have := fewB_chk hb hc; omega)
    have hl := rloc_c l p
    rw [rlocN_eq] at hl
    focus
      refine cq_skip ?_
      refine sq_then ?_
      refine cq_seq ?_
      refine cq_region ?_
      apply sq_g; exact g_move (s := .av _) rfl; exact rfl
      apply sq_g; exact g_call (hull_c l hs) rfl; exact rfl
      apply sq_g; exact g_move (s := .av _) rfl; exact rfl
      apply sq_g; exact g_extractT rfl rfl; exact rfl
      apply sq_g; exact g_extractT rfl rfl; exact rfl
      apply sq_g; exact g_assign (s := .av _) rfl; exact rfl
      apply sq_g; exact g_assign (s := .av (.val (.int _ _))) rfl; exact rfl
      refine sq_nil ?_
      refine sq_then ?_
      refine cq_seq ?_
      refine cq_region ?_
      apply sq_g; exact g_move (s := .av _) rfl; exact rfl
      apply sq_g; exact g_call (rhull_c l) rfl; exact rfl
      apply sq_g; exact g_move (s := .av _) rfl; exact rfl
      apply sq_g; exact g_extractT rfl rfl; exact rfl
      apply sq_g; exact g_extractT rfl rfl; exact rfl
      apply sq_g; exact g_assign (s := .av _) rfl; exact rfl
      apply sq_g; exact g_assign (s := .av (.val (.int _ _))) rfl; exact rfl
      refine sq_nil ?_
      refine sq_then ?_
      refine cq_seq ?_
      refine cq_region ?_
      apply sq_g; exact g_move (s := .av _) rfl; exact rfl
      apply sq_g; exact g_load_agg (us := [.int _ _, .int _ _]) rfl rfl rfl rfl; exact rfl
      apply sq_g; exact g_call (loc_c l p hs) rfl; exact rfl
      apply sq_g; exact g_move (s := .av _) rfl; exact rfl
      apply sq_g; exact g_extractT rfl rfl; exact rfl
      apply sq_g; exact g_extractT rfl rfl; exact rfl
      apply sq_g; exact g_assign (s := .av (.val (.int _ _))) rfl; exact rfl
      apply sq_g; exact g_assign (s := .av (.val (.int _ _))) rfl; exact rfl
      refine sq_nil ?_
      refine sq_then ?_
      refine cq_seq ?_
      refine cq_region ?_
      apply sq_g; exact g_move (s := .av _) rfl; exact rfl
      apply sq_g; exact g_load_agg (us := [.int _ _, .int _ _]) rfl rfl rfl rfl; exact rfl
      apply sq_g; exact g_call (hl) rfl; exact rfl
      apply sq_g; exact g_move (s := .av _) rfl; exact rfl
      apply sq_g; exact g_extractT rfl rfl; exact rfl
      apply sq_g; exact g_extractT rfl rfl; exact rfl
      apply sq_g; exact g_assign (s := .av (.val (.int _ _))) rfl; exact rfl
      apply sq_g; exact g_assign (s := .av (.val (.int _ _))) rfl; exact rfl
      refine sq_nil ?_
      refine sq_then ?_
      refine cq_seq ?_
      refine cq_region ?_
      apply sq_g; exact g_move (s := .av _) rfl; exact rfl
      apply sq_g; exact g_load_agg (us := [.int _ _, .int _ _]) rfl rfl rfl rfl; exact rfl
      apply sq_g; exact g_call (ext_c l p chk_len) rfl; exact rfl
      apply sq_g; exact g_move (s := .av _) rfl; exact rfl
      apply sq_g; exact g_extractT rfl rfl; exact rfl
      apply sq_g; exact g_extractT rfl rfl; exact rfl
      apply sq_g; exact g_assign (s := .av _) rfl; exact rfl
      apply sq_g; exact g_assign (s := .av (.val (.int _ _))) rfl; exact rfl
      refine sq_nil ?_
      refine sq_then ?_
      refine cq_seq ?_
      refine cq_region ?_
      apply sq_g; exact g_move (s := .av _) rfl; exact rfl
      apply sq_g; exact g_load_agg (us := [.int _ _, .int _ _]) rfl rfl rfl rfl; exact rfl
      apply sq_g; exact g_call (rext_c l p) rfl; exact rfl
      apply sq_g; exact g_move (s := .av _) rfl; exact rfl
      apply sq_g; exact g_extractT rfl rfl; exact rfl
      apply sq_g; exact g_extractT rfl rfl; exact rfl
      apply sq_g; exact g_assign (s := .av _) rfl; exact rfl
      apply sq_g; exact g_assign (s := .av (.val (.int _ _))) rfl; exact rfl
      refine sq_nil ?_
      refine sq_then ?_
      refine cq_seq ?_
      refine cq_region ?_
      apply sq_g; exact g_call (awake_c) rfl; exact rfl
      apply sq_g; exact g_move (s := .av (.val (.bool _))) rfl; exact rfl
      apply sq_on; exact g_move (s := .av _) rfl; exact rfl; exact rfl; exact rfl
      apply sq_on; exact g_move (s := .av _) rfl; exact rfl; exact rfl; exact rfl
      apply sq_on; exact g_call (same_r (hullN l) (hullN_len hs)) rfl; exact rfl; exact rfl; exact rfl
      apply sq_g; exact g_pick (s := .av (.val (.bool _))) rfl rfl; exact rfl
      apply sq_g; exact g_move (s := .av (.val (.bool _))) rfl; exact rfl
      apply sq_on; exact g_move (s := .av (.val (.int _ _))) rfl; exact rfl; exact rfl; exact rfl
      apply sq_on; exact g_move (s := .av (.val (.int _ _))) rfl; exact rfl; exact rfl; exact rfl
      apply sq_on; exact g_cmp rfl rfl rfl; exact rfl; exact rfl; exact rfl
      apply sq_g; exact g_pick (s := .av (.val (.bool _))) rfl rfl; exact rfl
      apply sq_g; exact g_move (s := .av (.val (.bool _))) rfl; exact rfl
      refine sq_split rfl rfl (fun hb => ?_) (fun hb => ?_) <;> (try simp only [decide_eq_true_eq, decide_eq_false_iff_not, beq_iff_eq, beq_eq_false_iff_ne, bne_iff_ne, bne_eq_false_iff_eq, ne_eq, Bool.not_eq_true', Bool.not_eq_false', Bool.and_eq_true, Bool.or_eq_true, Bool.and_eq_false_iff, Bool.or_eq_false_iff] at hb) <;> (try (exfalso; omega))
      apply sq_on; exact g_move (s := .av (.val (.int _ _))) rfl; exact rfl; exact rfl; exact rfl
      apply sq_on; exact g_move (s := .av (.val (.int _ _))) rfl; exact rfl; exact rfl; exact rfl
      apply sq_on; exact g_cmp rfl rfl rfl; exact rfl; exact rfl; exact rfl
      apply sq_g; exact g_pick (s := .av (.val (.bool _))) rfl rfl; exact rfl
      apply sq_g; exact g_move (s := .av (.val (.bool _))) rfl; exact rfl
      refine sq_split rfl rfl (fun hb => ?_) (fun hb => ?_) <;> (try simp only [decide_eq_true_eq, decide_eq_false_iff_not, beq_iff_eq, beq_eq_false_iff_ne, bne_iff_ne, bne_eq_false_iff_eq, ne_eq, Bool.not_eq_true', Bool.not_eq_false', Bool.and_eq_true, Bool.or_eq_true, Bool.and_eq_false_iff, Bool.or_eq_false_iff] at hb) <;> (try (exfalso; omega))
      apply sq_on; exact g_move (s := .av (.val (.int _ _))) rfl; exact rfl; exact rfl; exact rfl
      apply sq_on; exact g_move (s := .av (.val (.int _ _))) rfl; exact rfl; exact rfl; exact rfl
      apply sq_on; exact g_cmp rfl rfl rfl; exact rfl; exact rfl; exact rfl
      apply sq_g; exact g_pick (s := .av (.val (.bool _))) rfl rfl; exact rfl
      apply sq_g; exact g_move (s := .av (.val (.bool _))) rfl; exact rfl
      refine sq_split rfl rfl (fun hb => ?_) (fun hb => ?_) <;> (try simp only [decide_eq_true_eq, decide_eq_false_iff_not, beq_iff_eq, beq_eq_false_iff_ne, bne_iff_ne, bne_eq_false_iff_eq, ne_eq, Bool.not_eq_true', Bool.not_eq_false', Bool.and_eq_true, Bool.or_eq_true, Bool.and_eq_false_iff, Bool.or_eq_false_iff] at hb) <;> (try (exfalso; omega))
      apply sq_on; exact g_move (s := .av _) rfl; exact rfl; exact rfl; exact rfl
      apply sq_on; exact g_move (s := .av _) rfl; exact rfl; exact rfl; exact rfl
      apply sq_on; exact g_call (same_r (extN l p) (extN_len chk_len)) rfl; exact rfl; exact rfl; exact rfl
      apply sq_g; exact g_pick (s := .av (.val (.bool _))) rfl rfl; exact rfl
      apply sq_g; exact g_move (s := .av (.val (.bool _))) rfl; exact rfl
      apply sq_on; exact g_move (s := .av (.val (.int _ _))) rfl; exact rfl; exact rfl; exact rfl
      apply sq_on; exact g_move (s := .av (.val (.int _ _))) rfl; exact rfl; exact rfl; exact rfl
      apply sq_on; exact g_cmp rfl rfl rfl; exact rfl; exact rfl; exact rfl
      apply sq_g; exact g_pick (s := .av (.val (.bool _))) rfl rfl; exact rfl
      apply sq_g; exact g_assign (s := .av (.val (.bool _))) rfl; exact rfl
      refine sq_nil ?_
      refine sq_then ?_
      refine cq_ret ?_
      rotate_left
      refine sq_off rfl rfl rfl rfl ?_
      refine sq_off rfl rfl rfl rfl ?_
      refine sq_off rfl rfl rfl rfl ?_
      apply sq_g; exact g_pick (s := .av (.val (.bool _))) rfl rfl; exact rfl
      apply sq_g; exact g_move (s := .av (.val (.bool _))) rfl; exact rfl
      refine sq_off rfl rfl rfl rfl ?_
      refine sq_off rfl rfl rfl rfl ?_
      refine sq_off rfl rfl rfl rfl ?_
      apply sq_g; exact g_pick (s := .av (.val (.bool _))) rfl rfl; exact rfl
      apply sq_g; exact g_assign (s := .av (.val (.bool _))) rfl; exact rfl
      refine sq_nil ?_
      refine sq_then ?_
      refine cq_ret ?_
      rotate_left
      refine sq_off rfl rfl rfl rfl ?_
      refine sq_off rfl rfl rfl rfl ?_
      refine sq_off rfl rfl rfl rfl ?_
      apply sq_g; exact g_pick (s := .av (.val (.bool _))) rfl rfl; exact rfl
      apply sq_g; exact g_move (s := .av (.val (.bool _))) rfl; exact rfl
      refine sq_off rfl rfl rfl rfl ?_
      refine sq_off rfl rfl rfl rfl ?_
      refine sq_off rfl rfl rfl rfl ?_
      apply sq_g; exact g_pick (s := .av (.val (.bool _))) rfl rfl; exact rfl
      apply sq_g; exact g_move (s := .av (.val (.bool _))) rfl; exact rfl
      refine sq_off rfl rfl rfl rfl ?_
      refine sq_off rfl rfl rfl rfl ?_
      refine sq_off rfl rfl rfl rfl ?_
      apply sq_g; exact g_pick (s := .av (.val (.bool _))) rfl rfl; exact rfl
      apply sq_g; exact g_assign (s := .av (.val (.bool _))) rfl; exact rfl
      refine sq_nil ?_
      refine sq_then ?_
      refine cq_ret ?_
      rotate_left
      refine sq_off rfl rfl rfl rfl ?_
      refine sq_off rfl rfl rfl rfl ?_
      refine sq_off rfl rfl rfl rfl ?_
      apply sq_g; exact g_pick (s := .av (.val (.bool _))) rfl rfl; exact rfl
      apply sq_g; exact g_move (s := .av (.val (.bool _))) rfl; exact rfl
      refine sq_off rfl rfl rfl rfl ?_
      refine sq_off rfl rfl rfl rfl ?_
      refine sq_off rfl rfl rfl rfl ?_
      apply sq_g; exact g_pick (s := .av (.val (.bool _))) rfl rfl; exact rfl
      apply sq_g; exact g_move (s := .av (.val (.bool _))) rfl; exact rfl
      refine sq_off rfl rfl rfl rfl ?_
      refine sq_off rfl rfl rfl rfl ?_
      refine sq_off rfl rfl rfl rfl ?_
      apply sq_g; exact g_pick (s := .av (.val (.bool _))) rfl rfl; exact rfl
      apply sq_g; exact g_move (s := .av (.val (.bool _))) rfl; exact rfl
      refine sq_off rfl rfl rfl rfl ?_
      refine sq_off rfl rfl rfl rfl ?_
      refine sq_off rfl rfl rfl rfl ?_
      apply sq_g; exact g_pick (s := .av (.val (.bool _))) rfl rfl; exact rfl
      apply sq_g; exact g_assign (s := .av (.val (.bool _))) rfl; exact rfl
      refine sq_nil ?_
      refine sq_then ?_
      refine cq_ret ?_
      rotate_left
    all_goals first | exact absurd trivial hb | exact sq_res1 rfl (.tmp rfl) (congrArg vb (by simp))
end Go.Proofs.Ytacepcnbgacipaa
