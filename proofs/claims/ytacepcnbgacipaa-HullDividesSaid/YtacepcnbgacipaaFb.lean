/- A part of the proof that the law returns true at every input and that the input reads behind the call as it read before; this part states nothing of its own that needs a condition of the input. -/
import Derived.Test.YtacepcnbgacipaaW
import Derived.Test.YtacepcnbgacipaaGeo
import Derived.Test.YtacepcnbgacipaaFa
set_option linter.unusedVariables false
set_option linter.unusedSimpArgs false
namespace Go.Proofs.Ytacepcnbgacipaa
open Go Go.Vc Go.RowKit
set_option maxHeartbeats 1000000
instance : StrTy Try.prog 9 := ⟨by kernel_rfl⟩
instance : IntTy Try.prog 138 .u64 := ⟨by kernel_rfl⟩
theorem lessi_c (a b : Int) : CtrA Try.prog 122 [vi a, vi b] (vb (decide (a < b))) := by
  refine ctrA _ Try.func122 rfl rfl Try.ntmps122 rfl fun w Z => ?_
  simp only [initT, List.map_cons, List.map_nil, Nat.zero_add, Nat.reduceAdd]
  refine cq_seq ?_
  refine cq_region ?_
  apply sq_g; exact g_assign (s := .av (.val (.bool _))) rfl; exact rfl
  refine sq_nil ?_
  refine sq_then ?_
  refine cq_seq ?_
  refine cq_region ?_
  apply sq_g; exact g_move (s := .av (.val (.int _ _))) rfl; exact rfl
  apply sq_g; exact g_call (nan_c _) rfl; exact rfl
  apply sq_g; exact g_move (s := .av (.val (.bool _))) rfl; exact rfl
  refine sq_off rfl rfl rfl rfl ?_
  refine sq_off rfl rfl rfl rfl ?_
  refine sq_off rfl rfl rfl rfl ?_
  apply sq_g; exact g_pick (s := .av (.val (.bool _))) rfl rfl; exact rfl
  apply sq_g; exact g_move (s := .av (.val (.bool _))) rfl; exact rfl
  apply sq_on; exact g_move (s := .av (.val (.int _ _))) rfl; exact rfl; exact rfl; exact rfl
  apply sq_on; exact g_move (s := .av (.val (.int _ _))) rfl; exact rfl; exact rfl; exact rfl
  apply sq_on; exact g_cmp rfl rfl rfl; exact rfl; exact rfl; exact rfl
  apply sq_g; exact g_pick (s := .av (.val (.bool _))) rfl rfl; exact rfl
  apply sq_g; exact g_assign (s := .av (.val (.bool _))) rfl; exact rfl
  refine sq_nil ?_
  refine sq_then ?_
  refine cq_ret ?_
  all_goals (refine sq_res1 rfl (.tmp rfl) (congrArg vb ?_); simp)
theorem isorto_c (v : List Nat) (a b : Nat) (hab : a ≤ b) (hb' : b ≤ v.length) (hn : v.length ≤ 1000) :
    CtrW Try.prog 116 [vi a, vi b] 3 1 v.length (xf v) v.length (xf (isortR (fun i k => decide (i < k)) a b v (a + 1))) false := by
  refine ctrW _ Try.func116 rfl rfl Try.ntmps116 rfl fun w Z v0 => ?_
  simp only [initT, List.map_cons, List.map_nil, Nat.zero_add, Nat.reduceAdd]
  refine cq_seq ?_
  refine cq_region ?_
  apply sq_g; exact g_move (s := .av (.val (.int _ _))) rfl; exact rfl
  apply sq_g; exact g_arith rfl rfl rfl (by omega); exact rfl
  apply sq_g; exact g_assign (s := .av (.val (.int _ _))) rfl; exact rfl
  refine sq_nil ?_
  refine sq_then ?_
  refine cq_block ?_
  refine cq_loop (γ := List Nat × Nat) (fun g => [(0, .osl 0), (1, .av (vi a)), (2, .av (vi b)), (6, .av (vi g.2))]) (fun g => [(0, .row 3 1 g.1.length (xf g.1))])
    (fun g => g.1.length = v.length ∧ isortR (fun i k => decide (i < k)) a b g.1 g.2 = isortR (fun i k => decide (i < k)) a b v (a + 1) ∧ a < g.2 ∧ g.2 ≤ b + 1) (fun g => b + 1 - g.2) (v, a + 1) ⟨rfl, rfl, by simp, by simp; omega⟩ (ent ⟨.refl _, .refl _, .refl _, .int (by simp), trivial⟩ ⟨⟨_, rfl, .refl _⟩, trivial⟩) ?_
  rintro ⟨u, i⟩ ⟨hl, hS, hai, hib⟩
  simp only at hl hS hai hib
  refine cq_seq ?_
  refine cq_seq ?_
  refine cq_region ?_
  apply sq_g; exact g_move (s := .av (.val (.int _ _))) rfl; exact rfl
  apply sq_g; exact g_move (s := .av (.val (.int _ _))) rfl; exact rfl
  apply sq_g; exact g_cmp rfl rfl rfl; exact rfl
  refine sq_nil ?_
  refine sq_then ?_
  (refine cq_cond rfl (fun hb => ?_) (fun hb => ?_) <;> (try simp only [decide_eq_true_eq, decide_eq_false_iff_not, beq_iff_eq, beq_eq_false_iff_ne, bne_iff_ne, bne_eq_false_iff_eq, ne_eq, Bool.not_eq_true', Bool.not_eq_false', Bool.and_eq_true, Bool.or_eq_true, Bool.and_eq_false_iff, Bool.or_eq_false_iff] at hb) <;> (try (exfalso; omega)))
  · refine cq_skip ?_
    refine sq_then ?_
    refine cq_seq ?_
    refine cq_block ?_
    refine cq_seq ?_
    refine cq_region ?_
    apply sq_g; exact g_move (s := .av (.val (.int _ _))) rfl; exact rfl
    apply sq_g; exact g_assign (s := .av (.val (.int _ _))) rfl; exact rfl
    refine sq_nil ?_
    refine sq_then ?_
    refine cq_block ?_
    refine cq_loop (γ := List Nat × Nat) (fun g => [(0, .osl 0), (1, .av (vi a)), (2, .av (vi b)), (6, .av (vi i)), (7, .av (vi g.2))]) (fun g => [(0, .row 3 1 g.1.length (xf g.1))])
      (fun g => g.1.length = v.length ∧ sink (fun i k => decide (i < k)) a g.1 g.2 = sink (fun i k => decide (i < k)) a u i ∧ a ≤ g.2 ∧ g.2 < v.length) (fun g => g.2) (u, i) ⟨hl, rfl, by simp; omega, by simp; omega⟩ (ent ⟨.refl _, .refl _, .refl _, .refl _, .refl _, trivial⟩ ⟨⟨_, rfl, .refl _⟩, trivial⟩) ?_
    rintro ⟨t, j⟩ ⟨htl, htS, haj, hjn⟩
    simp only at htl htS haj hjn
    dsimp only
    match j, htS, haj, hjn with
    | 0, htS, haj, hjn =>
      refine cq_seq ?_
      refine cq_seq ?_
      refine cq_drawn ?_
      apply dq_g; exact g_move (s := .av (.val (.int _ _))) rfl; exact rfl
      apply dq_g; exact g_move (s := .av (.val (.int _ _))) rfl; exact rfl
      apply dq_g; exact g_cmp rfl rfl rfl; exact rfl
      apply dq_g; exact g_move (s := .av (.val (.bool _))) rfl; exact rfl
      refine dq_off nofun rfl rfl rfl rfl ?_
      refine dq_off nofun rfl rfl rfl rfl ?_
      refine dq_off nofun rfl rfl rfl rfl ?_
      refine dq_off nofun rfl rfl rfl rfl ?_
      refine dq_off nofun rfl rfl rfl rfl ?_
      refine dq_off nofun rfl rfl rfl rfl ?_
      refine dq_off nofun rfl rfl rfl rfl ?_
      refine dq_off nofun rfl rfl rfl rfl ?_
      refine dq_off nofun rfl rfl rfl rfl ?_
      refine dq_off nofun rfl rfl rfl rfl ?_
      apply dq_g; exact g_pick (s := .av (.val (.bool _))) rfl rfl; exact rfl
      refine dq_nil tm rfl ?_
      refine sq_then ?_
      refine cq_cond_f rfl ?_
      refine cq_exit ?_
      refine sq_then ?_
      refine cq_region ?_
      apply sq_g; exact g_move (s := .av (.val (.int _ _))) rfl; exact rfl
      apply sq_g; exact g_arith rfl rfl rfl (by omega); exact rfl
      apply sq_g; exact g_assign (s := .av (.val (.int _ _))) rfl; exact rfl
      refine sq_nil ?_
      exact sq_round (g := (u, i)) (t, i + 1) ⟨htl, (by rw [← hS, isortR_step (v := u) (i := i) (by omega), ← htS]; rfl : isortR (fun i k => decide (i < k)) a b t (i + 1) = _), by simp; omega, by simp; omega⟩ (by simp; omega) (ent ⟨.refl _, .refl _, .refl _, .int (by simp), trivial⟩ ⟨⟨_, rfl, .refl _⟩, trivial⟩)
    | j + 1, htS, haj, hjn =>
      focus
        refine cq_seq ?_
        refine cq_seq ?_
        refine cq_drawn ?_
        apply dq_g; exact g_move (s := .av (.val (.int _ _))) rfl; exact rfl
        apply dq_g; exact g_move (s := .av (.val (.int _ _))) rfl; exact rfl
        apply dq_g; exact g_cmp rfl rfl rfl; exact rfl
        apply dq_g; exact g_move (s := .av (.val (.bool _))) rfl; exact rfl
        refine dq_split rfl rfl (fun hb => ?_) (fun hb => ?_) <;> (try simp only [decide_eq_true_eq, decide_eq_false_iff_not, beq_iff_eq, beq_eq_false_iff_ne, bne_iff_ne, bne_eq_false_iff_eq, ne_eq, Bool.not_eq_true', Bool.not_eq_false', Bool.and_eq_true, Bool.or_eq_true, Bool.and_eq_false_iff, Bool.or_eq_false_iff] at hb) <;> (try (exfalso; omega))
        apply dq_on; exact g_move (s := .osl _) rfl; exact rfl; exact rfl; exact rfl
        apply dq_on; exact g_move (s := .av (.val (.int _ _))) rfl; exact rfl; exact rfl; exact rfl
        apply dq_on; exact g_index_row rfl rfl rfl rfl (by omega); exact rfl; exact rfl; exact rfl
        apply dq_on; exact g_load_oel (τ := .val (.int _ _)) rfl rfl (by omega) rfl rfl; exact rfl; exact rfl; exact rfl
        apply dq_on; exact g_move (s := .osl _) rfl; exact rfl; exact rfl; exact rfl
        apply dq_on; exact g_move (s := .av (.val (.int _ _))) rfl; exact rfl; exact rfl; exact rfl
        apply dq_on; exact g_arith rfl rfl rfl (by omega); exact rfl; exact rfl; exact rfl
        apply dq_on; exact  g_index_row (k := j) rfl rfl rfl (by omega) (by omega); exact rfl; exact rfl; exact rfl
        apply dq_on; exact g_load_oel (τ := .val (.int _ _)) rfl rfl (by omega) rfl rfl; exact rfl; exact rfl; exact rfl
        apply dq_on; exact g_call (lessi_c _ _) rfl; exact rfl; exact rfl; exact rfl
        apply dq_g; exact g_pick (s := .av (.val (.bool _))) rfl rfl; exact rfl
        refine dq_nil tm rfl ?_
        refine sq_then ?_
        rotate_left
        refine dq_off nofun rfl rfl rfl rfl ?_
        refine dq_off nofun rfl rfl rfl rfl ?_
        refine dq_off nofun rfl rfl rfl rfl ?_
        refine dq_off nofun rfl rfl rfl rfl ?_
        refine dq_off nofun rfl rfl rfl rfl ?_
        refine dq_off nofun rfl rfl rfl rfl ?_
        refine dq_off nofun rfl rfl rfl rfl ?_
        refine dq_off nofun rfl rfl rfl rfl ?_
        refine dq_off nofun rfl rfl rfl rfl ?_
        refine dq_off nofun rfl rfl rfl rfl ?_
        apply dq_g; exact g_pick (s := .av (.val (.bool _))) rfl rfl; exact rfl
        refine dq_nil tm rfl ?_
        refine sq_then ?_
        refine cq_cond_f rfl ?_
        refine cq_exit ?_
        refine sq_then ?_
        refine cq_region ?_
        apply sq_g; exact g_move (s := .av (.val (.int _ _))) rfl; exact rfl
        apply sq_g; exact g_arith rfl rfl rfl (by omega); exact rfl
        apply sq_g; exact g_assign (s := .av (.val (.int _ _))) rfl; exact rfl
        refine sq_nil ?_
        rotate_left
      · have haj' := hb
        (refine cq_cond rfl (fun hb => ?_) (fun hb => ?_) <;> (try simp only [decide_eq_true_eq, decide_eq_false_iff_not, beq_iff_eq, beq_eq_false_iff_ne, bne_iff_ne, bne_eq_false_iff_eq, ne_eq, Bool.not_eq_true', Bool.not_eq_false', Bool.and_eq_true, Bool.or_eq_true, Bool.and_eq_false_iff, Bool.or_eq_false_iff] at hb) <;> (try (exfalso; omega)))
        · refine cq_skip ?_
          refine sq_then ?_
          refine cq_seq ?_
          refine cq_block ?_
          refine cq_drawn ?_
          apply dq_g; exact g_move (s := .osl _) rfl; exact rfl
          apply dq_g; exact g_move (s := .av (.val (.int _ _))) rfl; exact rfl
          apply dq_g; exact g_move (s := .osl _) rfl; exact rfl
          apply dq_g; exact g_move (s := .av (.val (.int _ _))) rfl; exact rfl
          apply dq_g; exact g_arith rfl rfl rfl (by omega); exact rfl
          apply dq_g; exact g_move (s := .osl _) rfl; exact rfl
          apply dq_g; exact g_move (s := .av (.val (.int _ _))) rfl; exact rfl
          apply dq_g; exact g_arith rfl rfl rfl (by omega); exact rfl
          apply dq_g; exact  g_index_row (k := j) rfl rfl rfl (by omega) (by omega); exact rfl
          apply dq_g; exact g_load_oel (τ := .val (.int _ _)) rfl rfl (by omega) rfl rfl; exact rfl
          apply dq_g; exact g_move (s := .osl _) rfl; exact rfl
          apply dq_g; exact g_move (s := .av (.val (.int _ _))) rfl; exact rfl
          apply dq_g; exact g_index_row rfl rfl rfl rfl (by omega); exact rfl
          apply dq_g; exact g_load_oel (τ := .val (.int _ _)) rfl rfl (by omega) rfl rfl; exact rfl
          apply dq_g; exact g_index_row rfl rfl rfl rfl (by omega); exact rfl
          refine dq_s (g_store_oel rfl rfl rfl rfl (by omega) rfl) ?_
          apply dq_g; exact  g_index_row (k := j) rfl rfl rfl (by omega) (by omega); exact rfl
          refine dq_s (g_store_oel rfl rfl rfl rfl (by omega) rfl) ?_
          refine dq_nil tm rfl ?_
          refine sq_then ?_
          refine cq_region ?_
          apply sq_g; exact g_move (s := .av (.val (.int _ _))) rfl; exact rfl
          apply sq_g; exact g_arith rfl rfl rfl (by omega); exact rfl
          apply sq_g; exact g_assign (s := .av (.val (.int _ _))) rfl; exact rfl
          refine sq_nil ?_
          have e : sink (fun i k => decide (i < k)) a t (j + 1) = sink (fun i k => decide (i < k)) a (swp t (j + 1) j) j := by
            rw [sink, if_pos (by simp [hb]; omega)]
          exact sq_round (g := (t, j + 1)) (swp t (j + 1) j, j) ⟨by rw [swp_len]; exact htl, (e.symm.trans htS), by simp; omega, by simp; omega⟩ (by simp) (ent ⟨.refl _, .refl _, .refl _, .refl _, .int (by simp), trivial⟩ ⟨⟨_, rfl, .row (swp_len _ _ _).symm (xf_swp (by omega) (by omega) (by omega))⟩, trivial⟩)
        · refine cq_exit ?_
          refine sq_then ?_
          refine cq_region ?_
          apply sq_g; exact g_move (s := .av (.val (.int _ _))) rfl; exact rfl
          apply sq_g; exact g_arith rfl rfl rfl (by omega); exact rfl
          apply sq_g; exact g_assign (s := .av (.val (.int _ _))) rfl; exact rfl
          refine sq_nil ?_
          have e : sink (fun i k => decide (i < k)) a t (j + 1) = t := by
            rw [sink, if_neg (by simp; omega)]
          exact sq_round (g := (u, i)) (t, i + 1) ⟨htl, (by rw [← hS, isortR_step (v := u) (i := i) (by omega), ← htS, e] : isortR (fun i k => decide (i < k)) a b t (i + 1) = _), by simp; omega, by simp; omega⟩ (by simp; omega) (ent ⟨.refl _, .refl _, .refl _, .int (by simp), trivial⟩ ⟨⟨_, rfl, .refl _⟩, trivial⟩)
      · have e : sink (fun i k => decide (i < k)) a t (j + 1) = t := by
          rw [sink, if_neg (by simp; omega)]
        exact sq_round (g := (u, i)) (t, i + 1) ⟨htl, (by rw [← hS, isortR_step (v := u) (i := i) (by omega), ← htS, e] : isortR (fun i k => decide (i < k)) a b t (i + 1) = _), by simp; omega, by simp; omega⟩ (by simp; omega) (ent ⟨.refl _, .refl _, .refl _, .int (by simp), trivial⟩ ⟨⟨_, rfl, .refl _⟩, trivial⟩)
  · refine cq_exit ?_
    refine sq_then_exit ?_
    refine sq_then_exit ?_
    refine sq_inBlock_exit ?_
    exact sq_retW rfl rfl rfl hl (fun _ _ _ _ => by rw [← hS, isortR_end (by omega)])
end Go.Proofs.Ytacepcnbgacipaa
namespace Go.Proofs.Ytacepcnbgacipaa
open Go Go.Vc Go.RowKit
set_option maxHeartbeats 1000000
theorem u64_small {n : Nat} (h : n ≤ 12) : IntKind.u64.wrap (n : Int) = n := by
  match n, h with
  | 0, _ | 1, _ | 2, _ | 3, _ | 4, _ | 5, _ | 6, _ | 7, _ | 8, _ | 9, _ | 10, _ | 11, _ | 12, _ => decide
theorem u8_small {n : Nat} (h : n ≤ 12) : IntKind.u8.wrap (n : Int) = n := by
  match n, h with
  | 0, _ | 1, _ | 2, _ | 3, _ | 4, _ | 5, _ | 6, _ | 7, _ | 8, _ | 9, _ | 10, _ | 11, _ | 12, _ => decide
theorem len64_c (n : Nat) (hn : n ≤ 12) : CtrA Try.prog 126 [.val (.int .u64 n)] .any := by
  refine ctrA _ Try.func126 rfl rfl Try.ntmps126 rfl fun w Z => ?_
  simp only [initT, List.map_cons, List.map_nil, Nat.zero_add, Nat.reduceAdd]
  refine cq_seq ?_
  refine cq_region ?_
  apply sq_g; exact g_assign (s := .av (.val (.int _ _))) rfl; exact rfl
  refine sq_nil ?_
  refine sq_then ?_
  refine cq_seq ?_
  refine cq_seq ?_
  refine cq_region ?_
  apply sq_g; exact g_move (s := .av (.val (.int _ _))) rfl; exact rfl
  apply sq_g; exact g_cmp rfl rfl rfl; exact rfl
  refine sq_nil ?_
  refine sq_then ?_
  (refine cq_cond rfl (fun hb => ?_) (fun hb => ?_) <;> (try simp only [decide_eq_true_eq, decide_eq_false_iff_not, beq_iff_eq, beq_eq_false_iff_ne, bne_iff_ne, bne_eq_false_iff_eq, ne_eq, Bool.not_eq_true', Bool.not_eq_false', Bool.and_eq_true, Bool.or_eq_true, Bool.and_eq_false_iff, Bool.or_eq_false_iff] at hb) <;> (try (exfalso; omega)))
  refine cq_skip ?_
  refine sq_then ?_
  refine cq_seq ?_
  refine cq_seq ?_
  refine cq_region ?_
  apply sq_g; exact g_move (s := .av (.val (.int _ _))) rfl; exact rfl
  apply sq_g; exact g_cmp rfl rfl rfl; exact rfl
  refine sq_nil ?_
  refine sq_then ?_
  (refine cq_cond rfl (fun hb => ?_) (fun hb => ?_) <;> (try simp only [decide_eq_true_eq, decide_eq_false_iff_not, beq_iff_eq, beq_eq_false_iff_ne, bne_iff_ne, bne_eq_false_iff_eq, ne_eq, Bool.not_eq_true', Bool.not_eq_false', Bool.and_eq_true, Bool.or_eq_true, Bool.and_eq_false_iff, Bool.or_eq_false_iff] at hb) <;> (try (exfalso; omega)))
  refine cq_skip ?_
  refine sq_then ?_
  refine cq_seq ?_
  refine cq_seq ?_
  refine cq_region ?_
  apply sq_g; exact g_move (s := .av (.val (.int _ _))) rfl; exact rfl
  apply sq_g; exact g_cmp rfl rfl rfl; exact rfl
  refine sq_nil ?_
  refine sq_then ?_
  (refine cq_cond rfl (fun hb => ?_) (fun hb => ?_) <;> (try simp only [decide_eq_true_eq, decide_eq_false_iff_not, beq_iff_eq, beq_eq_false_iff_ne, bne_iff_ne, bne_eq_false_iff_eq, ne_eq, Bool.not_eq_true', Bool.not_eq_false', Bool.and_eq_true, Bool.or_eq_true, Bool.and_eq_false_iff, Bool.or_eq_false_iff] at hb) <;> (try (exfalso; omega)))
  refine cq_skip ?_
  refine sq_then ?_
  refine cq_seq ?_
  refine cq_region ?_
  apply sq_g; exact g_move (s := .av (.val (.int _ _))) rfl; exact rfl
  apply sq_g; exact g_move (s := .av (.val (.int _ _))) rfl; exact rfl
  apply sq_g; exact  g_conv rfl (u8_small hn); exact rfl
  apply sq_g; exact  g_sindex (k := n) rfl rfl rfl (Nat.lt_of_le_of_lt hn (lt_of_blt (by kernel_rfl))); exact rfl
  apply sq_g; exact g_conv rfl rfl; exact rfl
  apply sq_g; exact g_arith_w rfl rfl rfl; exact rfl
  apply sq_g; exact g_assign (s := .av (.val (.int _ _))) rfl; exact rfl
  refine sq_nil ?_
  refine sq_then ?_
  refine cq_ret ?_
  exact sq_resA rfl (.tmp rfl)
theorem blen_c (n : Nat) (hn : n ≤ 12) : CtrA Try.prog 110 [.val (.int .u64 n)] .any := by
  refine ctrA _ Try.func110 rfl rfl Try.ntmps110 rfl fun w Z => ?_
  simp only [initT, List.map_cons, List.map_nil, Nat.zero_add, Nat.reduceAdd]
  refine cq_seq ?_
  refine cq_region ?_
  apply sq_g; exact g_assign (s := .av (.val (.int _ _))) rfl; exact rfl
  refine sq_nil ?_
  refine sq_then ?_
  refine cq_seq ?_
  refine cq_cond_cf ?_
  refine cq_skip ?_
  refine sq_then ?_
  refine cq_seq ?_
  refine cq_region ?_
  apply sq_g; exact g_move (s := .av (.val (.int _ _))) rfl; exact rfl
  apply sq_g; exact g_call (len64_c n hn) rfl; exact rfl
  apply sq_g; exact g_assign (s := .av _) rfl; exact rfl
  refine sq_nil ?_
  refine sq_then ?_
  refine cq_ret ?_
  exact sq_resA rfl (.tmp rfl)
theorem pdq_c (v : List Nat) (hn : v.length ≤ 12) :
    CtrW Try.prog 109 [vi 0, vi v.length, .any] 3 1 v.length (xf v) v.length (xf (isortR (fun i k => decide (i < k)) 0 v.length v 1)) false := by
  refine ctrW _ Try.func109 rfl rfl Try.ntmps109 rfl fun w Z v0 => ?_
  simp only [initT, List.map_cons, List.map_nil, Nat.zero_add, Nat.reduceAdd]
  refine cq_seq ?_
  refine cq_region ?_
  apply sq_g; exact g_assign (s := .av (.val (.bool _))) rfl; exact rfl
  refine sq_nil ?_
  refine sq_then ?_
  refine cq_seq ?_
  refine cq_region ?_
  apply sq_g; exact g_assign (s := .av (.val (.bool _))) rfl; exact rfl
  refine sq_nil ?_
  refine sq_then ?_
  refine cq_block ?_
  refine cq_loop (γ := Unit) (fun _ => [(0, .osl 0), (1, .av (vi 0)), (2, .av (vi v.length))]) (fun _ => [(0, .row 3 1 v.length (xf v))]) (fun _ => True) (fun _ => 0) () trivial (ent ⟨.refl _, .refl _, .refl _, trivial⟩ ⟨⟨_, rfl, .refl _⟩, trivial⟩) ?_
  intro _ _
  refine cq_block ?_
  refine cq_seq ?_
  refine cq_region ?_
  apply sq_g; exact g_move (s := .av (.val (.int _ _))) rfl; exact rfl
  apply sq_g; exact g_move (s := .av (.val (.int _ _))) rfl; exact rfl
  apply sq_g; exact g_arith rfl rfl rfl (by omega); exact rfl
  apply sq_g; exact g_assign (s := .av (.val (.int _ _))) rfl; exact rfl
  refine sq_nil ?_
  refine sq_then ?_
  refine cq_seq ?_
  refine cq_seq ?_
  refine cq_region ?_
  apply sq_g; exact g_move (s := .av (.val (.int _ _))) rfl; exact rfl
  apply sq_g; exact g_cmp rfl rfl rfl; exact rfl
  refine sq_nil ?_
  refine sq_then ?_
  (refine cq_cond rfl (fun hb => ?_) (fun hb => ?_) <;> (try simp only [decide_eq_true_eq, decide_eq_false_iff_not, beq_iff_eq, beq_eq_false_iff_ne, bne_iff_ne, bne_eq_false_iff_eq, ne_eq, Bool.not_eq_true', Bool.not_eq_false', Bool.and_eq_true, Bool.or_eq_true, Bool.and_eq_false_iff, Bool.or_eq_false_iff] at hb) <;> (try (exfalso; omega)))
  refine cq_seq ?_
  refine cq_region ?_
  apply sq_g; exact g_move (s := .osl _) rfl; exact rfl
  apply sq_g; exact g_move (s := .av (.val (.int _ _))) rfl; exact rfl
  apply sq_g; exact g_move (s := .av (.val (.int _ _))) rfl; exact rfl
  refine sq_v (v_call_w (isorto_c v 0 v.length (by omega) (by omega) (by omega)) rfl rfl rfl) rfl ?_
  refine sq_nil ?_
  refine sq_then ?_
  refine cq_ret ?_
  refine sq_then_ret ?_
  refine sq_inBlock_ret ?_
  refine sq_then_ret ?_
  refine sq_inBlock_ret ?_
  exact sq_retW rfl rfl rfl rfl (fun _ _ _ _ => rfl)
theorem sort_c (v : List Nat) (hn : v.length ≤ 12) :
    CtrW Try.prog 93 [] 3 1 v.length (xf v) v.length (xf (isortR (fun i k => decide (i < k)) 0 v.length v 1)) false := by
  refine ctrW _ Try.func93 rfl rfl Try.ntmps93 rfl fun w Z v0 => ?_
  simp only [initT, List.map_cons, List.map_nil, Nat.zero_add, Nat.reduceAdd]
  refine cq_seq ?_
  refine cq_region ?_
  apply sq_g; exact g_move (s := .osl _) rfl; exact rfl
  apply sq_g; exact g_len_own rfl rfl; exact rfl
  apply sq_g; exact g_assign (s := .av (.val (.int _ _))) rfl; exact rfl
  refine sq_nil ?_
  refine sq_then ?_
  refine cq_region ?_
  apply sq_g; exact g_move (s := .osl _) rfl; exact rfl
  apply sq_g; exact g_move (s := .av (.val (.int _ _))) rfl; exact rfl
  apply sq_g; exact g_move (s := .av (.val (.int _ _))) rfl; exact rfl
  apply sq_g; exact  g_conv rfl (u64_small hn); exact rfl
  apply sq_g; exact g_call (blen_c v.length hn) rfl; exact rfl
  refine sq_v (v_call_w (pdq_c v hn) rfl rfl rfl) rfl ?_
  refine sq_nil ?_
  exact sq_retW rfl rfl rfl rfl (fun _ _ _ _ => rfl)
end Go.Proofs.Ytacepcnbgacipaa
namespace Go.Proofs.Ytacepcnbgacipaa
open Go Go.Vc Go.RowKit
set_option maxHeartbeats 1000000
abbrev vxs (v : List Nat) : List (List Value) := v.map fun i : Nat => [Value.int .i64 (i : Int)]
abbrev Vix (x : List Value) : Prop := ∃ n : Nat, x = [Value.int .i64 n]
theorem vals_c (v : List Nat) (hn : v.length ≤ 1000) : CtrI Try.prog 94 [.ptr 1 (fun _ => .sl v.length 1 (xf v))] Vix (vxs v) false := by
  refine ctrI0 _ Try.func94 rfl rfl Try.ntmps94 rfl fun l J Jx ZI W0 p a cp Y hp hs S => ?_
  simp only [initT, List.map_cons, List.map_nil, Nat.zero_add, Nat.reduceAdd]
  refine cq_know 1 rfl hp S.z ?_
  refine cq_seq ?_
  refine cq_region ?_
  apply sq_g; exact g_load rfl rfl rfl; exact rfl
  apply sq_g; exact g_len_nil rfl; exact rfl
  apply sq_g; exact g_move (s := .av (.val (.int _ _))) rfl; exact rfl
  refine sq_nil ?_
  refine sq_then ?_
  refine cq_block ?_
  refine cq_loopI0 Y (γ := Nat) (fun k => [(0, .av (.val (.func (.yield l) #[] #[]))), (5, .av (.val (.slice a v.length cp))), (6, .av (vi v.length)), (7, .av (vi k))]) (fun k => (vxs v).take k) (fun k => k ≤ v.length) (fun k => v.length - k) 0 (by simpa using S) (Nat.zero_le _) (ent ⟨.refl _, .refl _, .refl _, .refl _, trivial⟩ trivial) ?_
  intro k hk w S' T' hT'
  dsimp only [valsT] at hT'
  subst hT'
  refine cq_seq ?_
  refine cq_region ?_
  apply sq_g; exact g_cmp rfl rfl rfl; exact rfl
  refine sq_nil ?_
  refine sq_then ?_
  refine cq_seq ?_
  (refine cq_cond rfl (fun hb => ?_) (fun hb => ?_) <;> (try simp only [decide_eq_true_eq, decide_eq_false_iff_not, beq_iff_eq, beq_eq_false_iff_ne, bne_iff_ne, bne_eq_false_iff_eq, ne_eq, Bool.not_eq_true', Bool.not_eq_false', Bool.and_eq_true, Bool.or_eq_true, Bool.and_eq_false_iff, Bool.or_eq_false_iff] at hb) <;> (try (exfalso; omega)))
  · have hkl : k < v.length := by omega
    have hpre : (vxs v).take k ++ [[Value.int .i64 (gi v k)]] = (vxs v).take (k + 1) := by
      rw [List.take_succ_eq_append_getElem (by simpa using hkl)]
      simp [gi, hkl]
    refine cq_skip ?_
    refine sq_then ?_
    refine cq_seq ?_
    refine cq_block ?_
    refine cq_seq ?_
    refine cq_region ?_
    apply sq_g; exact  g_index_know (k := k) (S'.know _ _ hs) S'.z rfl rfl rfl (by omega); exact rfl
    apply sq_g; exact g_load (τ := .val (.int _ _)) rfl rfl rfl; exact rfl
    apply sq_g; exact g_assign (s := .av (.val (.int _ _))) rfl; exact rfl
    refine sq_nil ?_
    refine sq_then ?_
    refine cq_seq ?_
    refine cq_region ?_
    apply sq_g; exact g_move (s := .av _) rfl; exact rfl
    apply sq_g; exact g_move (s := .av (.val (.int _ _))) rfl; exact rfl
    refine sq_yield0 Y S' [.int .i64 (gi v k)] ⟨_, rfl⟩ (by simp; omega) rfl rfl rfl (fun w' S'' T' hT' => ?_) (fun w' hx T' hT' => ?_)
    · dsimp only [valsT] at hT'
      subst hT'
      rw [hpre] at S''
      apply sq_g; exact g_not rfl; exact rfl
      refine sq_nil ?_
      refine sq_then ?_
      refine cq_cond_f rfl ?_
      refine cq_skip ?_
      refine sq_then ?_
      refine cq_region ?_
      apply sq_g; exact g_arith rfl rfl rfl (by omega); exact rfl
      apply sq_g; exact g_move (s := .av (.val (.int _ _))) rfl; exact rfl
      refine sq_nil ?_
      exact sq_roundI0 Y (g := k) (k + 1) S'' (by omega) (by omega) (ent ⟨.refl _, .refl _, .refl _, .int (by omega), trivial⟩ trivial)
    · dsimp only [valsT] at hT'
      subst hT'
      rw [hpre] at hx
      apply sq_g; exact g_not rfl; exact rfl
      refine sq_nil ?_
      refine sq_then ?_
      refine cq_cond_t rfl ?_
      refine cq_ret ?_
      refine sq_inBlock_ret ?_
      refine sq_then_ret ?_
      refine sq_then_ret ?_
      refine sq_inBlock_ret ?_
      exact sq_retI0x Y rfl k (by simpa using hkl) hx
  · have : k = v.length := by omega
    subst this
    have e : (vxs v).take v.length = vxs v := List.take_of_length_le (by simp)
    rw [e] at S'
    refine cq_exit ?_
    refine sq_then_exit ?_
    refine sq_then_exit ?_
    refine sq_inBlock_exit ?_
    exact sq_retI0 Y rfl S'
end Go.Proofs.Ytacepcnbgacipaa
namespace Go.Proofs.Ytacepcnbgacipaa
open Go Go.Vc Go.RowKit
set_option maxHeartbeats 1000000
def ixN (x : List Value) : Nat := match x with | [.int _ n] => n.toNat | _ => 0
def ixL (pre : List (List Value)) : List Nat := pre.map ixN
theorem ixL_app (pre : List (List Value)) (n : Nat) : ixL (pre ++ [[.int .i64 n]]) = ixL pre ++ [n] := by simp [ixL, ixN]
theorem ixL_len (pre : List (List Value)) : (ixL pre).length = pre.length := by simp [ixL]
theorem ixL_vxs (v : List Nat) : ixL (vxs v) = v := by
  simp only [ixL, vxs, List.map_map]
  conv => rhs; rw [← List.map_id v]
  exact List.map_congr_left fun a _ => by simp [ixN]
abbrev vcl (v : List Nat) : AV := .clo 94 1 (fun i => [AV.ptr 1 (fun _ => idx v)].getD i .any)
theorem aseq_c (v : List Nat) (hn : v.length ≤ 1000) : CtrR Try.prog 108 [.val (.slice none 0 0), vcl v] 3 1 v.length (xf v) [] := by
  refine ctrRM _ Try.func108 rfl rfl Try.ntmps108 rfl fun w Z => ?_
  simp only [initT, List.map_cons, List.map_nil, Nat.zero_add, Nat.reduceAdd]
  refine cq_seq ?_
  refine cq_region ?_
  refine sq_v (f_box_own 2 rfl rfl rfl) rfl ?_
  apply sq_g; exact g_assign (s := .av _) rfl; exact rfl
  refine sq_nil ?_
  refine sq_then ?_
  refine cq_seq ?_
  refine cq_seq ?_
  refine cq_region ?_
  apply sq_g; exact g_move (s := .av _) rfl; exact rfl
  refine sq_nil ?_
  refine sq_then ?_
  refine cq_block ?_
  refine cq_more (ent_rowc (r := 2) (off := 0) 5 3 1 (xf []) rfl rfl rfl) ?_
  refine cq_range (own := false) (V := Vix) (xs := vxs v) rfl (vals_c v hn) [5, 7, 8, 9, 10, 11] [(2, .own 2 0), (6, .av (vcl v))] (fun pre => [(5, .row 3 1 (ixL pre).length (xf (ixL pre))), (2, .cells [.osl 5])]) (fun _ => True) (fun _ _ => []) (fun _ _ => False)
    (fun x => [(5, .av (.val (x.getD 0 undef)))]) (ent ⟨.refl _, .refl _, trivial⟩ ⟨⟨_, rfl, .refl _⟩, ⟨_, rfl, .refl _⟩, trivial⟩) trivial rfl rfl rfl (by simp) (fun x ⟨n, e⟩ => by rw [e]; rfl) (fun x => rfl) (fun x => rfl) (fun h => by cases h) (fun _ x => rfl) ?_ ?_ ?_ (fun _ _ _ _ _ _ h => h.elim)
  · rintro l a0 w0 Z0 keep pre x ⟨n, rfl⟩ _
    simp only [psT, List.cons_append, List.nil_append, Array.toList]
    refine cq_region ?_
    apply sq_g; exact g_assign (s := .av (.val (.int _ _))) rfl; exact rfl
    refine sq_nil ?_
    exact sq_ass (ent ⟨.refl _, .refl _, .refl _, trivial⟩ ⟨⟨_, rfl, .refl _⟩, ⟨_, rfl, .refl _⟩, trivial⟩)
  · rintro l a0 w0 Z0 keep pre x ⟨n, rfl⟩ _ hlen
    have hl : (ixL pre).length ≤ 1000 := by rw [ixL_len]; simp at hlen; omega
    refine cq_block ?_
    refine cq_region ?_
    apply sq_g; exact g_load_own rfl rfl rfl; exact rfl
    apply sq_g; exact g_move (s := .av (.val (.int _ _))) rfl; exact rfl
    apply sq_g; exact g_one_ix (tq27 _) rfl rfl; exact rfl
    refine sq_v (v_push_ix rfl rfl rfl (by omega) rfl) rfl ?_
    refine sq_s (g_store_osl (q := 5) rfl rfl rfl rfl rfl) ?_
    refine sq_nil ?_
    refine sq_inBlock ?_
    exact sq_rnd trivial (ent ⟨.refl _, .refl _, trivial⟩ ⟨⟨_, rfl, by rw [ixL_app]; exact .refl _⟩, ⟨_, rfl, .refl _⟩, trivial⟩)
  · intro D w2 hA _
    rw [ixL_vxs]
    refine sq_then ?_
    refine cq_seq ?_
    refine cq_region ?_
    apply sq_g; exact g_load_own rfl rfl rfl; exact rfl
    apply sq_g; exact g_assign (s := .osl _) rfl; exact rfl
    refine sq_nil ?_
    refine sq_then ?_
    refine cq_ret ?_
    exact sq_after hA (sq_retR rfl rfl rfl rfl (fun _ _ _ _ => rfl))
end Go.Proofs.Ytacepcnbgacipaa
namespace Go.Proofs.Ytacepcnbgacipaa
open Go Go.Vc Go.RowKit
set_option maxHeartbeats 1000000
theorem coll_c (v : List Nat) (hn : v.length ≤ 1000) : CtrR Try.prog 92 [vcl v] 3 1 v.length (xf v) [] := by
  refine ctrR _ Try.func92 rfl rfl Try.ntmps92 rfl fun w Z => ?_
  simp only [initT, List.map_cons, List.map_nil, Nat.zero_add, Nat.reduceAdd]
  refine cq_seq ?_
  refine cq_region ?_
  apply sq_g; exact g_assign (s := .av _) rfl; exact rfl
  refine sq_nil ?_
  refine sq_then ?_
  refine cq_seq ?_
  refine cq_region ?_
  apply sq_g; exact g_move (s := .av _) rfl; exact rfl
  refine sq_v (f_call_row 1 (aseq_c v hn) rfl rfl) rfl ?_
  apply sq_g; exact g_assign (s := .osl _) rfl; exact rfl
  refine sq_nil ?_
  refine sq_then ?_
  refine cq_ret ?_
  exact sq_retR rfl rfl rfl rfl (fun _ _ _ _ => rfl)
theorem valsf_c (v : List Nat) : CtrA Try.prog 64 [idx v] (vcl v) := by
  refine ctrA _ Try.func64 rfl rfl Try.ntmps64 rfl fun w Z => ?_
  simp only [initT, List.map_cons, List.map_nil, Nat.zero_add, Nat.reduceAdd]
  refine cq_seq ?_
  refine cq_region ?_
  apply sq_g; exact g_box rfl rfl; exact rfl
  apply sq_g; exact g_assign (s := .av _) rfl; exact rfl
  refine sq_nil ?_
  refine sq_then ?_
  refine cq_seq ?_
  refine cq_region ?_
  apply sq_g; exact g_makeFunc (τs := [_]) rfl; exact rfl
  apply sq_g; exact g_assign (s := .av _) rfl; exact rfl
  refine sq_nil ?_
  refine sq_then ?_
  refine cq_ret ?_
  exact sq_res1 rfl (.tmp rfl) rfl
theorem sorted_c (v : List Nat) (hn : v.length ≤ 12) : CtrR Try.prog 63 [vcl v] 3 1 (srtN v).length (xf (srtN v)) [] := by
  refine ctrR _ Try.func63 rfl rfl Try.ntmps63 rfl fun w Z => ?_
  simp only [initT, List.map_cons, List.map_nil, Nat.zero_add, Nat.reduceAdd]
  refine cq_seq ?_
  refine cq_region ?_
  apply sq_g; exact g_assign (s := .av _) rfl; exact rfl
  refine sq_nil ?_
  refine sq_then ?_
  refine cq_seq ?_
  refine cq_region ?_
  apply sq_g; exact g_move (s := .av _) rfl; exact rfl
  refine sq_v (f_call_row 1 (coll_c v (by omega)) rfl rfl) rfl ?_
  apply sq_g; exact g_assign (s := .osl _) rfl; exact rfl
  refine sq_nil ?_
  refine sq_then ?_
  refine cq_seq ?_
  refine cq_region ?_
  apply sq_g; exact g_move (s := .osl _) rfl; exact rfl
  refine sq_v (v_call_w (sort_c v hn) rfl rfl rfl) rfl ?_
  refine sq_nil ?_
  refine sq_then ?_
  refine cq_seq ?_
  refine cq_region ?_
  apply sq_g; exact g_move (s := .osl _) rfl; exact rfl
  apply sq_g; exact g_assign (s := .osl _) rfl; exact rfl
  refine sq_nil ?_
  refine sq_then ?_
  refine cq_ret ?_
  exact sq_retR rfl rfl rfl (srtN_len v).symm (fun _ _ _ _ => rfl)
theorem tb106 (a b c e : Int) : Try.prog.built 106 [(0, .agg #[.int .i64 a, .int .i64 b]), (1, .agg #[.int .i64 c, .int .i64 e])] = some #[.int .i64 a, .int .i64 b, .int .i64 c, .int .i64 e] := by kernel_rfl
theorem nrms_c (a b : Pt) (h1 : SmP a) (h2 : SmP b) : CtrA Try.prog 95 [pp a, pp b] (.val (.agg #[.int .i64 (nrm a b).x, .int .i64 (nrm a b).y, .int .i64 (nrn a b).x, .int .i64 (nrn a b).y])) := by
  refine ctrA _ Try.func95 rfl rfl Try.ntmps95 rfl fun w Z => ?_
  have hb1 := sub_bd h2 h1
  simp only [initT, List.map_cons, List.map_nil, Nat.zero_add, Nat.reduceAdd]
  refine cq_seq ?_
  refine cq_region ?_
  apply sq_g; exact g_box_agg rfl; exact rfl
  apply sq_g; exact g_box_agg rfl; exact rfl
  refine sq_v (f_alloc 10 rfl) rfl ?_
  refine sq_nil ?_
  refine sq_then ?_
  refine cq_seq ?_
  refine cq_region ?_
  apply sq_g; exact g_load_agg (us := [.int _ _, .int _ _]) rfl rfl rfl rfl; exact rfl
  apply sq_g; exact g_load_agg (us := [.int _ _, .int _ _]) rfl rfl rfl rfl; exact rfl
  apply sq_g; exact g_call (hless_c _ _ h2 h1) rfl; exact rfl
  refine sq_v (f_alloc 11 rfl) rfl ?_
  refine sq_s (g_store_agg rfl rfl rfl rfl rfl rfl) ?_
  refine sq_nil ?_
  refine sq_then ?_
  refine cq_seq ?_
  refine cq_region ?_
  apply sq_g; exact g_field_own rfl; exact rfl
  apply sq_g; exact g_load_own (s := .av (.val (.int _ _))) rfl rfl rfl; exact rfl
  apply sq_g; exact g_neg rfl (by omega); exact rfl
  apply sq_g; exact g_field_own rfl; exact rfl
  apply sq_g; exact g_load_own (s := .av (.val (.int _ _))) rfl rfl rfl; exact rfl
  apply sq_g; exact g_build (is := [0, 1]) (xs := [_, _]) (vs := [_, _]) (tb24 _ _) rfl rfl; exact rfl
  apply sq_g; exact g_field_own rfl; exact rfl
  apply sq_g; exact g_load_own (s := .av (.val (.int _ _))) rfl rfl rfl; exact rfl
  apply sq_g; exact g_field_own rfl; exact rfl
  apply sq_g; exact g_load_own (s := .av (.val (.int _ _))) rfl rfl rfl; exact rfl
  apply sq_g; exact g_neg rfl (by omega); exact rfl
  apply sq_g; exact g_build (is := [0, 1]) (xs := [_, _]) (vs := [_, _]) (tb24 _ _) rfl rfl; exact rfl
  apply sq_g; exact  g_build (is := [0, 1]) (xs := [_, _]) (vs := [_, _]) (tb106 _ _ _ _) rfl rfl; exact rfl
  refine sq_s (g_store_agg rfl rfl rfl rfl rfl rfl) ?_
  refine sq_nil ?_
  refine sq_then ?_
  refine cq_ret ?_
  exact sq_res1 rfl (.agg (us := [_, _, _, _]) rfl rfl rfl rfl) rfl
end Go.Proofs.Ytacepcnbgacipaa
namespace Go.Proofs.Ytacepcnbgacipaa
open Go Go.Vc Go.RowKit
set_option maxHeartbeats 1000000
abbrev cp (p : Pt) : Res := .cells [.av (vi p.x), .av (vi p.y)]
theorem pt_list (p q : Pt) : [p.x, p.y] = [q.x, q.y] ↔ p = q := by cases p; cases q; simp
theorem tq22_2 (a b c e : Int) (w : World) : (Instr.buildSlice 22 2 #[(0, .agg #[.int .i64 a, .int .i64 b]), (1, .agg #[.int .i64 c, .int .i64 e])]).run Try.prog w = .ok (.slice (some ⟨w.heap.size, 0, none⟩) 2 2) (w.alloc (.cells #[.int .i64 a, .int .i64 b, .int .i64 c, .int .i64 e] 24)) := by kernel_rfl
theorem ai106_0 (a b c e : Int) (w : World) : (Instr.index 106 (.agg #[.int .i64 a, .int .i64 b, .int .i64 c, .int .i64 e]) (.int .i64 0)).run Try.prog w = .ok (.agg #[.int .i64 a, .int .i64 b]) w := by kernel_rfl
theorem ai106_1 (a b c e : Int) (w : World) : (Instr.index 106 (.agg #[.int .i64 a, .int .i64 b, .int .i64 c, .int .i64 e]) (.int .i64 1)).run Try.prog w = .ok (.agg #[.int .i64 c, .int .i64 e]) w := by kernel_rfl
theorem pf2_row (a b : Pt) : ∀ i, i < 2 → ∀ j, j < 2 → ∃ u, [Value.int .i64 a.x, .int .i64 a.y, .int .i64 b.x, .int .i64 b.y][i * 2 + j]? = some u ∧ pf [a, b] i j = .val u
  | 0, _, 0, _ => ⟨_, rfl, rfl⟩
  | 0, _, 1, _ => ⟨_, rfl, rfl⟩
  | 1, _, 0, _ => ⟨_, rfl, rfl⟩
  | 1, _, 1, _ => ⟨_, rfl, rfl⟩
theorem nk_ai (e p : Pt) (k : Nat) (hk : k < 2) (w : World) : (Instr.index 106 (.agg #[.int .i64 (nrm e p).x, .int .i64 (nrm e p).y, .int .i64 (nrn e p).x, .int .i64 (nrn e p).y]) (.int .i64 k)).run Try.prog w = .ok (.agg #[.int .i64 (nk e p k).x, .int .i64 (nk e p k).y]) w := by
  match k, hk with
  | 0, _ => exact ai106_0 _ _ _ _ w
  | 1, _ => exact ai106_1 _ _ _ _ w
theorem nk_bd {e p : Pt} (h1 : SmP e) (h2 : SmP p) (k : Nat) : BdP (nk e p k) := by
  unfold nk; split
  · exact nrm_bd h1 h2
  · exact nrn_bd h1 h2
theorem opp_c (v : List Pt) (a b : Pt) (hv : ∀ i, SmP (gp v i)) (ha : SmP a) (hb' : SmP b) (h0 : 0 < v.length) (hn : v.length ≤ 64) : CtrA Try.prog 65 [pts v, pp a, pp b] (vb (opp v a b)) := by
  refine ctrA _ Try.func65 rfl rfl Try.ntmps65 rfl fun w Z => ?_
  have hab : ∀ i, i < 2 → SmP (gp [a, b] i) := fun i hi => by
    match i, hi with
    | 0, _ => exact ha
    | 1, _ => exact hb'
  simp only [initT, List.map_cons, List.map_nil, Nat.zero_add, Nat.reduceAdd]
  refine cq_seq ?_
  refine cq_region ?_
  apply sq_g; exact g_box_agg rfl; exact rfl
  apply sq_g; exact g_box_agg rfl; exact rfl
  apply sq_g; exact g_assign (s := .av (.val (.bool _))) rfl; exact rfl
  refine sq_nil ?_
  refine sq_then ?_
  refine cq_seq ?_
  refine cq_seq ?_
  refine cq_region ?_
  apply sq_g; exact g_load_agg (us := [.int _ _, .int _ _]) rfl rfl rfl rfl; exact rfl
  apply sq_g; exact g_load_agg (us := [.int _ _, .int _ _]) rfl rfl rfl rfl; exact rfl
  apply sq_g; exact  g_bslice (is := [0, 1]) (xs := [_, _]) (vs := [_, _]) (us := [_, _, _, _]) (tq22_2 _ _ _ _) rfl rfl rfl (pf2_row _ _); exact rfl
  apply sq_g; exact g_len rfl; exact rfl
  apply sq_g; exact g_move (s := .av (.val (.int _ _))) rfl; exact rfl
  refine sq_nil ?_
  refine sq_then ?_
  refine cq_block ?_
  refine cq_loop (γ := Nat) (fun i => [(0, .av (pts v)), (4, .av (bp a)), (5, .av (bp b)), (15, .av (pts [a, b])), (16, .av (vi 2)), (17, .av (vi i))]) (fun _ => []) (fun i => i ≤ 2 ∧ ∀ i', i' < i → ((List.range v.length).any fun j => (List.range 2).any fun k => opq v a b i' j k) = false) (fun i => 2 - i) 0 ⟨Nat.zero_le _, by intro i hi; omega⟩ (ent ⟨.refl _, .refl _, .refl _, .refl _, .refl _, .refl _, trivial⟩ trivial) ?_
  rintro i ⟨hi, halli⟩
  refine cq_seq ?_
  refine cq_region ?_
  apply sq_g; exact g_cmp rfl rfl rfl; exact rfl
  refine sq_nil ?_
  refine sq_then ?_
  refine cq_seq ?_
  (refine cq_cond rfl (fun hb => ?_) (fun hb => ?_) <;> (try simp only [decide_eq_true_eq, decide_eq_false_iff_not, beq_iff_eq, beq_eq_false_iff_ne, bne_iff_ne, bne_eq_false_iff_eq, ne_eq, Bool.not_eq_true', Bool.not_eq_false', Bool.and_eq_true, Bool.or_eq_true, Bool.and_eq_false_iff, Bool.or_eq_false_iff] at hb) <;> (try (exfalso; omega)))
  · have hi2 : i < [a, b].length := by simp; omega
    have hei := hab i (by omega)
    refine cq_skip ?_
    refine sq_then ?_
    refine cq_seq ?_
    refine cq_block ?_
    refine cq_seq ?_
    refine cq_region ?_
    apply sq_g; exact g_index rfl rfl rfl (by omega); exact rfl
    apply sq_g; exact g_load_agg (us := [.int _ _, .int _ _]) rfl rfl rfl rfl; exact rfl
    refine sq_v (f_alloc 10 rfl) rfl ?_
    refine sq_s (g_store_agg rfl rfl rfl rfl rfl rfl) ?_
    refine sq_nil ?_
    refine sq_then ?_
    refine cq_seq ?_
    refine cq_region ?_
    apply sq_g; exact g_move (s := .av _) rfl; exact rfl
    apply sq_g; exact g_len rfl; exact rfl
    apply sq_g; exact g_move (s := .av (.val (.int _ _))) rfl; exact rfl
    refine sq_nil ?_
    refine sq_then ?_
    refine cq_block ?_
    refine cq_loop (γ := Nat) (fun j => [(0, .av (pts v)), (4, .av (bp a)), (5, .av (bp b)), (8, .own 10 0), (15, .av (pts [a, b])), (16, .av (vi 2)), (17, .av (vi i)), (21, .av (pts v)), (22, .av (vi v.length)), (23, .av (vi j))]) (fun _ => [(10, cp (gp [a, b] i))]) (fun j => j ≤ v.length ∧ ∀ j', j' < j → ((List.range 2).any fun k => opq v a b i j' k) = false) (fun j => v.length - j) 0 ⟨Nat.zero_le _, by intro i hi; omega⟩ (ent ⟨.refl _, .refl _, .refl _, .refl _, .refl _, .refl _, .refl _, .refl _, .refl _, .refl _, trivial⟩ ⟨⟨_, rfl, .refl _⟩, trivial⟩) ?_
    rintro j ⟨hj, hallj⟩
    refine cq_seq ?_
    refine cq_region ?_
    apply sq_g; exact g_cmp rfl rfl rfl; exact rfl
    refine sq_nil ?_
    refine sq_then ?_
    refine cq_seq ?_
    (refine cq_cond rfl (fun hb => ?_) (fun hb => ?_) <;> (try simp only [decide_eq_true_eq, decide_eq_false_iff_not, beq_iff_eq, beq_eq_false_iff_ne, bne_iff_ne, bne_eq_false_iff_eq, ne_eq, Bool.not_eq_true', Bool.not_eq_false', Bool.and_eq_true, Bool.or_eq_true, Bool.and_eq_false_iff, Bool.or_eq_false_iff] at hb) <;> (try (exfalso; omega)))
    · have hpj := hv j
      refine cq_skip ?_
      refine sq_then ?_
      refine cq_seq ?_
      refine cq_block ?_
      refine cq_seq ?_
      refine cq_region ?_
      apply sq_g; exact g_index rfl rfl rfl (by omega); exact rfl
      apply sq_g; exact g_load_agg (us := [.int _ _, .int _ _]) rfl rfl rfl rfl; exact rfl
      refine sq_v (f_alloc 11 rfl) rfl ?_
      refine sq_s (g_store_agg rfl rfl rfl rfl rfl rfl) ?_
      refine sq_nil ?_
      refine sq_then ?_
      refine cq_seq ?_
      refine cq_region ?_
      apply sq_g; exact g_load_own_agg (us := [.int _ _, .int _ _]) rfl rfl rfl rfl; exact rfl
      apply sq_g; exact g_load_own_agg (us := [.int _ _, .int _ _]) rfl rfl rfl rfl; exact rfl
      apply sq_g; exact g_call (nrms_c _ _ hei hpj) rfl; exact rfl
      apply sq_g; exact g_move (s := .av (.val (.int _ _))) rfl; exact rfl
      refine sq_nil ?_
      refine sq_then ?_
      refine cq_block ?_
      refine cq_loop (γ := Nat) (fun k => [(0, .av (pts v)), (4, .av (bp a)), (5, .av (bp b)), (8, .own 10 0), (10, .own 11 0), (15, .av (pts [a, b])), (16, .av (vi 2)), (17, .av (vi i)), (21, .av (pts v)), (22, .av (vi v.length)), (23, .av (vi j)), (29, .av (.val (.agg #[.int .i64 (nrm (gp [a, b] i) (gp v j)).x, .int .i64 (nrm (gp [a, b] i) (gp v j)).y, .int .i64 (nrn (gp [a, b] i) (gp v j)).x, .int .i64 (nrn (gp [a, b] i) (gp v j)).y]))), (30, .av (vi k))]) (fun _ => [(10, cp (gp [a, b] i)), (11, cp (gp v j))])
        (fun k => k ≤ 2 ∧ ∀ k', k' < k → opq v a b i j k' = false) (fun k => 2 - k) 0 ⟨Nat.zero_le _, by intro i hi; omega⟩ (ent ⟨.refl _, .refl _, .refl _, .refl _, .refl _, .refl _, .refl _, .refl _, .refl _, .refl _, .refl _, .refl _, .refl _, trivial⟩ ⟨⟨_, rfl, .refl _⟩, ⟨_, rfl, .refl _⟩, trivial⟩) ?_
      rintro k ⟨hk, hallk⟩
      refine cq_seq ?_
      refine cq_region ?_
      apply sq_g; exact g_cmp rfl rfl rfl; exact rfl
      refine sq_nil ?_
      refine sq_then ?_
      refine cq_seq ?_
      (refine cq_cond rfl (fun hb => ?_) (fun hb => ?_) <;> (try simp only [decide_eq_true_eq, decide_eq_false_iff_not, beq_iff_eq, beq_eq_false_iff_ne, bne_iff_ne, bne_eq_false_iff_eq, ne_eq, Bool.not_eq_true', Bool.not_eq_false', Bool.and_eq_true, Bool.or_eq_true, Bool.and_eq_false_iff, Bool.or_eq_false_iff] at hb) <;> (try (exfalso; omega)))
      · have hd := nk_bd hei hpj k
        generalize hdd : nk (gp [a, b] i) (gp v j) k = dd at hd
        have hx : ∀ w, (Instr.index 106 (.agg #[.int .i64 (nrm (gp [a, b] i) (gp v j)).x, .int .i64 (nrm (gp [a, b] i) (gp v j)).y, .int .i64 (nrn (gp [a, b] i) (gp v j)).x, .int .i64 (nrn (gp [a, b] i) (gp v j)).y]) (.int .i64 k)).run Try.prog w = .ok (.agg #[.int .i64 dd.x, .int .i64 dd.y]) w := fun w => by
          rw [← hdd]; exact nk_ai _ _ k (by omega) w
        have hb1 : -4500000000000000000 ≤ dot b dd ∧ dot b dd ≤ 4500000000000000000 := dot_bd hb'.bd hd
        have hq : opq v a b i j k = (decide (gp v j ≠ gp [a, b] i) && (decide (top v dd = dot a dd) && decide (top v (neg dd) = -dot b dd))) := by rw [opq, opd, hdd]
        focus
          refine cq_skip ?_
          refine sq_then ?_
          refine cq_seq ?_
          refine cq_block ?_
          refine cq_seq ?_
          refine cq_region ?_
          apply sq_g; exact  g_aindex hx rfl rfl; exact rfl
          refine sq_v (f_alloc 12 rfl) rfl ?_
          refine sq_s (g_store_agg rfl rfl rfl rfl rfl rfl) ?_
          refine sq_nil ?_
          refine sq_then ?_
          refine cq_seq ?_
          refine cq_drawn ?_
          apply dq_g; exact g_load_own_agg (us := [.int _ _, .int _ _]) rfl rfl rfl rfl; exact rfl
          apply dq_g; exact g_load_own_agg (us := [.int _ _, .int _ _]) rfl rfl rfl rfl; exact rfl
          apply dq_g; exact g_neq (xs := [_, _]) (ys := [_, _]) rfl rfl rfl rfl; exact rfl
          apply dq_g; exact g_move (s := .av (.val (.bool _))) rfl; exact rfl
          refine dq_split rfl rfl (fun hb => ?_) (fun hb => ?_) <;> (try simp only [decide_eq_true_eq, decide_eq_false_iff_not, beq_iff_eq, beq_eq_false_iff_ne, bne_iff_ne, bne_eq_false_iff_eq, ne_eq, Bool.not_eq_true', Bool.not_eq_false', Bool.and_eq_true, Bool.or_eq_true, Bool.and_eq_false_iff, Bool.or_eq_false_iff] at hb) <;> (try (exfalso; omega))
          apply dq_on; exact g_move (s := .av _) rfl; exact rfl; exact rfl; exact rfl
          apply dq_on; exact g_load_own_agg (us := [.int _ _, .int _ _]) rfl rfl rfl rfl; exact rfl; exact rfl; exact rfl
          apply dq_on; exact g_call (htop_c v dd hv hd h0 hn) rfl; exact rfl; exact rfl; exact rfl
          apply dq_on; exact g_load_agg (us := [.int _ _, .int _ _]) rfl rfl rfl rfl; exact rfl; exact rfl; exact rfl
          apply dq_on; exact g_load_own_agg (us := [.int _ _, .int _ _]) rfl rfl rfl rfl; exact rfl; exact rfl; exact rfl
          apply dq_on; exact g_call (hdot_c a dd ha.bd hd) rfl; exact rfl; exact rfl; exact rfl
          apply dq_on; exact g_cmp rfl rfl rfl; exact rfl; exact rfl; exact rfl
          apply dq_g; exact g_pick (s := .av (.val (.bool _))) rfl rfl; exact rfl
          apply dq_g; exact g_move (s := .av (.val (.bool _))) rfl; exact rfl
          refine dq_split rfl rfl (fun hb => ?_) (fun hb => ?_) <;> (try simp only [decide_eq_true_eq, decide_eq_false_iff_not, beq_iff_eq, beq_eq_false_iff_ne, bne_iff_ne, bne_eq_false_iff_eq, ne_eq, Bool.not_eq_true', Bool.not_eq_false', Bool.and_eq_true, Bool.or_eq_true, Bool.and_eq_false_iff, Bool.or_eq_false_iff] at hb) <;> (try (exfalso; omega))
          apply dq_on; exact g_move (s := .av _) rfl; exact rfl; exact rfl; exact rfl
          apply dq_on; exact g_field_own rfl; exact rfl; exact rfl; exact rfl
          apply dq_on; exact g_load_own (s := .av (.val (.int _ _))) rfl rfl rfl; exact rfl; exact rfl; exact rfl
          apply dq_on; exact g_neg rfl (by omega); exact rfl; exact rfl; exact rfl
          apply dq_on; exact g_field_own rfl; exact rfl; exact rfl; exact rfl
          apply dq_on; exact g_load_own (s := .av (.val (.int _ _))) rfl rfl rfl; exact rfl; exact rfl; exact rfl
          apply dq_on; exact g_neg rfl (by omega); exact rfl; exact rfl; exact rfl
          apply dq_on; exact g_build (is := [0, 1]) (xs := [_, _]) (vs := [_, _]) (tb24 _ _) rfl rfl; exact rfl; exact rfl; exact rfl
          apply dq_on; exact g_call (htop_c v (neg dd) hv (neg_bd hd) h0 hn) rfl; exact rfl; exact rfl; exact rfl
          apply dq_on; exact g_load_agg (us := [.int _ _, .int _ _]) rfl rfl rfl rfl; exact rfl; exact rfl; exact rfl
          apply dq_on; exact g_load_own_agg (us := [.int _ _, .int _ _]) rfl rfl rfl rfl; exact rfl; exact rfl; exact rfl
          apply dq_on; exact g_call (hdot_c b dd hb'.bd hd) rfl; exact rfl; exact rfl; exact rfl
          apply dq_on; exact g_neg rfl (by omega); exact rfl; exact rfl; exact rfl
          apply dq_on; exact g_cmp rfl rfl rfl; exact rfl; exact rfl; exact rfl
          apply dq_g; exact g_pick (s := .av (.val (.bool _))) rfl rfl; exact rfl
          refine dq_nil tm rfl ?_
          refine sq_then ?_
          rotate_left
          refine dq_off nofun rfl rfl rfl rfl ?_
          refine dq_off nofun rfl rfl rfl rfl ?_
          refine dq_off nofun rfl rfl rfl rfl ?_
          refine dq_off nofun rfl rfl rfl rfl ?_
          refine dq_off nofun rfl rfl rfl rfl ?_
          refine dq_off nofun rfl rfl rfl rfl ?_
          refine dq_off nofun rfl rfl rfl rfl ?_
          refine dq_off nofun rfl rfl rfl rfl ?_
          refine dq_off nofun rfl rfl rfl rfl ?_
          refine dq_off nofun rfl rfl rfl rfl ?_
          refine dq_off nofun rfl rfl rfl rfl ?_
          refine dq_off nofun rfl rfl rfl rfl ?_
          refine dq_off nofun rfl rfl rfl rfl ?_
          refine dq_off nofun rfl rfl rfl rfl ?_
          apply dq_g; exact g_pick (s := .av (.val (.bool _))) rfl rfl; exact rfl
          refine dq_nil tm rfl ?_
          refine sq_then ?_
          refine cq_cond_f rfl ?_
          refine cq_skip ?_
          refine sq_then ?_
          refine cq_region ?_
          apply sq_g; exact g_arith rfl rfl rfl (by omega); exact rfl
          apply sq_g; exact g_move (s := .av (.val (.int _ _))) rfl; exact rfl
          refine sq_nil ?_
          rotate_left
          refine dq_off nofun rfl rfl rfl rfl ?_
          refine dq_off nofun rfl rfl rfl rfl ?_
          refine dq_off nofun rfl rfl rfl rfl ?_
          refine dq_off nofun rfl rfl rfl rfl ?_
          refine dq_off nofun rfl rfl rfl rfl ?_
          refine dq_off nofun rfl rfl rfl rfl ?_
          refine dq_off nofun rfl rfl rfl rfl ?_
          apply dq_g; exact g_pick (s := .av (.val (.bool _))) rfl rfl; exact rfl
          apply dq_g; exact g_move (s := .av (.val (.bool _))) rfl; exact rfl
          refine dq_off nofun rfl rfl rfl rfl ?_
          refine dq_off nofun rfl rfl rfl rfl ?_
          refine dq_off nofun rfl rfl rfl rfl ?_
          refine dq_off nofun rfl rfl rfl rfl ?_
          refine dq_off nofun rfl rfl rfl rfl ?_
          refine dq_off nofun rfl rfl rfl rfl ?_
          refine dq_off nofun rfl rfl rfl rfl ?_
          refine dq_off nofun rfl rfl rfl rfl ?_
          refine dq_off nofun rfl rfl rfl rfl ?_
          refine dq_off nofun rfl rfl rfl rfl ?_
          refine dq_off nofun rfl rfl rfl rfl ?_
          refine dq_off nofun rfl rfl rfl rfl ?_
          refine dq_off nofun rfl rfl rfl rfl ?_
          refine dq_off nofun rfl rfl rfl rfl ?_
          apply dq_g; exact g_pick (s := .av (.val (.bool _))) rfl rfl; exact rfl
          refine dq_nil tm rfl ?_
          refine sq_then ?_
          refine cq_cond_f rfl ?_
          refine cq_skip ?_
          refine sq_then ?_
          refine cq_region ?_
          apply sq_g; exact g_arith rfl rfl rfl (by omega); exact rfl
          apply sq_g; exact g_move (s := .av (.val (.int _ _))) rfl; exact rfl
          refine sq_nil ?_
          rotate_left
        · (refine cq_cond rfl (fun hb => ?_) (fun hb => ?_) <;> (try simp only [decide_eq_true_eq, decide_eq_false_iff_not, beq_iff_eq, beq_eq_false_iff_ne, bne_iff_ne, bne_eq_false_iff_eq, ne_eq, Bool.not_eq_true', Bool.not_eq_false', Bool.and_eq_true, Bool.or_eq_true, Bool.and_eq_false_iff, Bool.or_eq_false_iff] at hb) <;> (try (exfalso; omega)))
          · rename_i he ht
            rw [pt_list] at he
            refine cq_seq ?_
            refine cq_region ?_
            apply sq_g; exact g_assign (s := .av (.val (.bool _))) rfl; exact rfl
            refine sq_nil ?_
            refine sq_then ?_
            refine cq_ret ?_
            refine sq_inBlock_ret ?_
            refine sq_then_ret ?_
            refine sq_then_ret ?_
            refine sq_inBlock_ret ?_
            refine sq_inBlock_ret ?_
            refine sq_then_ret ?_
            refine sq_then_ret ?_
            refine sq_inBlock_ret ?_
            refine sq_inBlock_ret ?_
            refine sq_then_ret ?_
            refine sq_then_ret ?_
            refine sq_inBlock_ret ?_
            refine sq_then_ret ?_
            refine sq_res1 rfl (.tmp rfl) (congrArg vb ?_)
            exact (any_true_of (k := i) (by omega) (any_true_of (k := j) (by omega) (any_true_of (k := k) (by omega) (by rw [hq]; simp [he, ht, hb])))).symm
          · rename_i he ht
            refine cq_skip ?_
            refine sq_then ?_
            refine cq_region ?_
            apply sq_g; exact g_arith rfl rfl rfl (by omega); exact rfl
            apply sq_g; exact g_move (s := .av (.val (.int _ _))) rfl; exact rfl
            refine sq_nil ?_
            exact sq_round (k + 1) ⟨by omega, lt_step hallk (by rw [hq]; simp [hb])⟩ (by omega) (ent ⟨.refl _, .refl _, .refl _, .refl _, .refl _, .refl _, .refl _, .refl _, .refl _, .refl _, .refl _, .refl _, .int (by omega), trivial⟩ ⟨⟨_, rfl, .refl _⟩, ⟨_, rfl, .refl _⟩, trivial⟩)
        · exact sq_round (k + 1) ⟨by omega, lt_step hallk (by rw [hq]; simp [hb])⟩ (by omega) (ent ⟨.refl _, .refl _, .refl _, .refl _, .refl _, .refl _, .refl _, .refl _, .refl _, .refl _, .refl _, .refl _, .int (by omega), trivial⟩ ⟨⟨_, rfl, .refl _⟩, ⟨_, rfl, .refl _⟩, trivial⟩)
        · rw [pt_list] at hb
          exact sq_round (k + 1) ⟨by omega, lt_step hallk (by rw [hq]; simp [hb])⟩ (by omega) (ent ⟨.refl _, .refl _, .refl _, .refl _, .refl _, .refl _, .refl _, .refl _, .refl _, .refl _, .refl _, .refl _, .int (by omega), trivial⟩ ⟨⟨_, rfl, .refl _⟩, ⟨_, rfl, .refl _⟩, trivial⟩)
      · refine cq_exit ?_
        refine sq_then ?_
        refine cq_region ?_
        apply sq_g; exact g_arith rfl rfl rfl (by omega); exact rfl
        apply sq_g; exact g_move (s := .av (.val (.int _ _))) rfl; exact rfl
        refine sq_nil ?_
        exact sq_round (j + 1) ⟨by omega, lt_step hallj (any_false_of (fun k' hk' => hallk k' (by omega)))⟩ (by omega) (ent ⟨.refl _, .refl _, .refl _, .refl _, .refl _, .refl _, .refl _, .refl _, .refl _, .int (by omega), trivial⟩ ⟨⟨_, rfl, .refl _⟩, trivial⟩)
    · refine cq_exit ?_
      refine sq_then ?_
      refine cq_region ?_
      apply sq_g; exact g_arith rfl rfl rfl (by omega); exact rfl
      apply sq_g; exact g_move (s := .av (.val (.int _ _))) rfl; exact rfl
      refine sq_nil ?_
      exact sq_round (i + 1) ⟨by omega, lt_step halli (any_false_of (fun k' hk' => hallj k' (by omega)))⟩ (by omega) (ent ⟨.refl _, .refl _, .refl _, .refl _, .refl _, .int (by omega), trivial⟩ trivial)
  · refine cq_exit ?_
    refine sq_then ?_
    refine cq_seq ?_
    refine cq_region ?_
    apply sq_g; exact g_assign (s := .av (.val (.bool _))) rfl; exact rfl
    refine sq_nil ?_
    refine sq_then ?_
    refine cq_ret ?_
    exact sq_res1 rfl (.tmp rfl) (congrArg vb (any_false_of (fun k' hk' => halli k' (by omega))).symm)
end Go.Proofs.Ytacepcnbgacipaa
namespace Go.Proofs.Ytacepcnbgacipaa
open Go Go.Vc Go.RowKit
set_option maxHeartbeats 1000000
def antN (l : List Pt) : List (Nat × Nat) := if chk l = 0 then ant l else []
theorem arr_ne (l : List Pt) (h : chk l = 0) (h0 : 0 < l.length) : 0 < (arr l).length := by
  have ho : 0 < (ordN l).length := by unfold ordN; rw [if_pos h, ordI, isortR_len]; simpa using h0
  unfold arr
  split
  · unfold cpt
    match hm : (ordN l).length, ho with
    | m + 1, _ =>
      have key : ∀ m, m + 1 ≤ (ordN l).length → 0 < (cptTo l (ordN l) (m + 1)).length := by
        intro m
        induction m with
        | zero => intro _; simp [cptTo, cptP]
        | succ m ih => intro hm; rw [cptTo_succ]; split
                       · simp
                       · exact ih (by omega)
      exact key m (by omega)
  · rename_i h2
    have := chain_pos l (cpt l (ordN l)) (by omega)
    simp; omega
theorem arr_len (l : List Pt) : (arr l).length ≤ 2 * l.length := by
  have h1 := ordN_len l
  have h2 := cptTo_len l (ordN l) (ordN l).length
  have h3 := chain_le l (cpt l (ordN l))
  have h4 := chain_le l (cpt l (ordN l)).reverse
  unfold cpt at *
  unfold arr
  split
  · unfold cpt; omega
  · simp [cpt] at *; omega
theorem pick_snoc (l : List Pt) (v : List Nat) {k : Nat} (h : k < v.length) : pick l (v.take (k + 1)) = pick l (v.take k) ++ [gp l (gi v k)] := by
  rw [List.take_succ_eq_append_getElem h, pick, List.map_append, gi_eq h]; rfl
theorem anti_c (l : List Pt) (hn : chk l = 0 → l.length ≤ 19 ∧ (arr l).length ≤ 12 ∧ ∀ k, k < (arr l).length → gi (arr l) k < l.length) : CtrR Try.prog 20 [pts l] 62 2 (antN l).length (qf (antN l)) [vi (chk l)] := by
  refine ctrR _ Try.func20 rfl rfl Try.ntmps20 rfl fun w Z => ?_
  simp only [initT, List.map_cons, List.map_nil, Nat.zero_add, Nat.reduceAdd]
  refine cq_seq ?_
  refine cq_region ?_
  apply sq_g; exact g_assign (s := .av _) rfl; exact rfl
  apply sq_g; exact g_assign (s := .av (.val (.int _ _))) rfl; exact rfl
  refine sq_nil ?_
  refine sq_then ?_
  refine cq_seq ?_
  refine cq_seq ?_
  refine cq_region ?_
  apply sq_g; exact g_move (s := .av _) rfl; exact rfl
  apply sq_g; exact g_call (check_c l) rfl; exact rfl
  apply sq_g; exact g_assign (s := .av (.val (.int _ _))) rfl; exact rfl
  refine sq_nil ?_
  refine sq_then ?_
  refine cq_seq ?_
  refine cq_region ?_
  apply sq_g; exact g_move (s := .av (.val (.int _ _))) rfl; exact rfl
  apply sq_g; exact g_cmp rfl rfl rfl; exact rfl
  refine sq_nil ?_
  refine sq_then ?_
  (refine cq_cond rfl (fun hb => ?_) (fun hb => ?_) <;> (try simp only [decide_eq_true_eq, decide_eq_false_iff_not, beq_iff_eq, beq_eq_false_iff_ne, bne_iff_ne, bne_eq_false_iff_eq, ne_eq, Bool.not_eq_true', Bool.not_eq_false', Bool.and_eq_true, Bool.or_eq_true, Bool.and_eq_false_iff, Bool.or_eq_false_iff] at hb) <;> (try (exfalso; omega)))
  · refine cq_seq ?_
    refine cq_region ?_
    apply sq_g; exact g_move (s := .av (.val (.int _ _))) rfl; exact rfl
    apply sq_g; exact g_assign (s := .av _) rfl; exact rfl
    apply sq_g; exact g_assign (s := .av (.val (.int _ _))) rfl; exact rfl
    refine sq_nil ?_
    refine sq_then ?_
    refine cq_ret ?_
    refine sq_then_ret ?_
    exact sq_retRN_nil rfl rfl (by simp [antN, hb]) (τs := [vi (chk l)]) ⟨.tmp rfl, trivial⟩ rfl
  · have hb' : chk l = 0 := hb
    obtain ⟨hn1, hn2, hall⟩ := hn hb'
    have sm := chk_sm hb'
    have hsl := srtN_len (arr l)
    have hall' := srtN_all (v := arr l) (p := fun x => x < l.length) hall
    have hfin : antN l = antTo l (srtN (arr l)) (srtN (arr l)).length := by simp [antN, hb', ant]
    refine cq_skip ?_
    refine sq_then ?_
    refine cq_seq ?_
    refine cq_region ?_
    apply sq_g; exact g_move (s := .av _) rfl; exact rfl
    apply sq_g; exact g_call ((around_c l hn1).ro) rfl; exact rfl
    apply sq_g; exact g_call (valsf_c (arr l)) rfl; exact rfl
    apply sq_g; exact g_call ((sorted_c (arr l) hn2).ro) rfl; exact rfl
    apply sq_g; exact g_assign (s := .av _) rfl; exact rfl
    refine sq_nil ?_
    refine sq_then ?_
    refine cq_seq ?_
    refine cq_region ?_
    apply sq_g; exact g_assign (s := .av _) rfl; exact rfl
    refine sq_nil ?_
    refine sq_then ?_
    refine cq_seq ?_
    refine cq_seq ?_
    refine cq_region ?_
    apply sq_g; exact g_move (s := .av _) rfl; exact rfl
    apply sq_g; exact g_len rfl; exact rfl
    apply sq_g; exact g_move (s := .av (.val (.int _ _))) rfl; exact rfl
    refine sq_nil ?_
    refine sq_then ?_
    refine cq_block ?_
    generalize hat : srtN (arr l) = at' at *
    refine cq_loop (γ := Nat) (fun k => [(0, .av (pts l)), (5, .av (idx at')), (6, .osl 2), (23, .av (idx at')), (24, .av (vi at'.length)), (25, .av (vi k))]) (fun k => [(2, .row 24 2 (pick l (at'.take k)).length (pf (pick l (at'.take k))))]) (fun k => k ≤ at'.length) (fun k => at'.length - k) 0 (Nat.zero_le _) ((ent_row (dd := 6) 2 24 2 (pf []) rfl rfl).trans (ent ⟨.refl _, .refl _, .refl _, .refl _, .refl _, .refl _, trivial⟩ ⟨⟨_, rfl, .refl _⟩, trivial⟩)) ?_
    intro k hk
    have hpl : (pick l (at'.take k)).length ≤ 12 := by rw [pick_len]; simp; omega
    refine cq_seq ?_
    refine cq_region ?_
    apply sq_g; exact g_cmp rfl rfl rfl; exact rfl
    refine sq_nil ?_
    refine sq_then ?_
    refine cq_seq ?_
    (refine cq_cond rfl (fun hb => ?_) (fun hb => ?_) <;> (try simp only [decide_eq_true_eq, decide_eq_false_iff_not, beq_iff_eq, beq_eq_false_iff_ne, bne_iff_ne, bne_eq_false_iff_eq, ne_eq, Bool.not_eq_true', Bool.not_eq_false', Bool.and_eq_true, Bool.or_eq_true, Bool.and_eq_false_iff, Bool.or_eq_false_iff] at hb) <;> (try (exfalso; omega)))
    · have hkl : k < at'.length := by omega
      have hg := hall' k hkl
      refine cq_skip ?_
      refine sq_then ?_
      refine cq_seq ?_
      refine cq_block ?_
      refine cq_seq ?_
      refine cq_region ?_
      apply sq_g; exact g_index rfl rfl rfl (by omega); exact rfl
      apply sq_g; exact g_load (τ := .val (.int _ _)) rfl rfl rfl; exact rfl
      apply sq_g; exact g_assign (s := .av (.val (.int _ _))) rfl; exact rfl
      refine sq_nil ?_
      refine sq_then ?_
      refine cq_region ?_
      apply sq_g; exact g_move (s := .osl _) rfl; exact rfl
      apply sq_g; exact g_move (s := .av _) rfl; exact rfl
      apply sq_g; exact g_move (s := .av (.val (.int _ _))) rfl; exact rfl
      apply sq_g; exact g_index rfl rfl rfl (by omega); exact rfl
      apply sq_g; exact g_load_agg (us := [.int _ _, .int _ _]) rfl rfl rfl rfl; exact rfl
      apply sq_g; exact g_one_pt (tq22 _ _) rfl; exact rfl
      refine sq_v (v_push_pt rfl rfl rfl (by omega) rfl) rfl ?_
      apply sq_g; exact g_assign (s := .osl _) rfl; exact rfl
      refine sq_nil ?_
      refine sq_then ?_
      refine cq_region ?_
      apply sq_g; exact g_arith rfl rfl rfl (by omega); exact rfl
      apply sq_g; exact g_move (s := .av (.val (.int _ _))) rfl; exact rfl
      refine sq_nil ?_
      exact sq_round (k + 1) (by omega) (by omega) (ent ⟨.refl _, .refl _, .refl _, .refl _, .refl _, .int (by omega), trivial⟩ ⟨⟨_, rfl, by rw [pick_snoc l at' hkl]; exact .refl _⟩, trivial⟩)
    · have : k = at'.length := by omega
      subst this
      rw [List.take_length]
      have hv : ∀ i, SmP (gp (pick l at') i) := by
        refine all_gp (q := SmP) (fun p hp => ?_) SmP_d
        simp only [pick, List.mem_map] at hp
        obtain ⟨i, _, rfl⟩ := hp
        exact sm i
      have hvl : (pick l at').length = at'.length := pick_len _ _
      refine cq_exit ?_
      refine sq_then ?_
      refine cq_seq ?_
      refine cq_region ?_
      apply sq_g; exact g_assign (s := .av _) rfl; exact rfl
      refine sq_nil ?_
      refine sq_then ?_
      refine cq_seq ?_
      refine cq_seq ?_
      refine cq_region ?_
      apply sq_g; exact g_move (s := .av _) rfl; exact rfl
      apply sq_g; exact g_len rfl; exact rfl
      apply sq_g; exact g_move (s := .av (.val (.int _ _))) rfl; exact rfl
      refine sq_nil ?_
      refine sq_then ?_
      refine cq_block ?_
      refine cq_loop (γ := Nat) (fun i => [(0, .av (pts l)), (5, .av (idx at')), (6, .av (pts (pick l at'))), (9, .osl 3), (37, .av (idx at')), (38, .av (vi at'.length)), (39, .av (vi i))]) (fun i => [(3, .row 62 2 (antTo l at' i).length (qf (antTo l at' i)))]) (fun i => i ≤ at'.length) (fun i => at'.length - i) 0 (Nat.zero_le _) (((ent_row (dd := 9) 3 62 2 (qf []) rfl rfl).trans (ent_freeze 2 rfl)).trans (ent ⟨.refl _, .refl _, .refl _, .refl _, .refl _, .refl _, .refl _, trivial⟩ ⟨⟨_, rfl, .refl _⟩, trivial⟩)) ?_
      intro i hi
      refine cq_seq ?_
      refine cq_region ?_
      apply sq_g; exact g_cmp rfl rfl rfl; exact rfl
      refine sq_nil ?_
      refine sq_then ?_
      refine cq_seq ?_
      (refine cq_cond rfl (fun hb => ?_) (fun hb => ?_) <;> (try simp only [decide_eq_true_eq, decide_eq_false_iff_not, beq_iff_eq, beq_eq_false_iff_ne, bne_iff_ne, bne_eq_false_iff_eq, ne_eq, Bool.not_eq_true', Bool.not_eq_false', Bool.and_eq_true, Bool.or_eq_true, Bool.and_eq_false_iff, Bool.or_eq_false_iff] at hb) <;> (try (exfalso; omega)))
      · have hil : i < at'.length := by omega
        have hgi := hall' i hil
        have hl1 := antTo_len l at' i
        have hl2 : i * at'.length ≤ 12 * 12 := Nat.mul_le_mul (by omega) (by omega)
        refine cq_skip ?_
        refine sq_then ?_
        refine cq_seq ?_
        refine cq_block ?_
        refine cq_seq ?_
        refine cq_region ?_
        apply sq_g; exact g_move (s := .av (.val (.int _ _))) rfl; exact rfl
        apply sq_g; exact g_index rfl rfl rfl (by omega); exact rfl
        apply sq_g; exact g_load (τ := .val (.int _ _)) rfl rfl rfl; exact rfl
        apply sq_g; exact g_assign (s := .av (.val (.int _ _))) rfl; exact rfl
        apply sq_g; exact g_assign (s := .av (.val (.int _ _))) rfl; exact rfl
        refine sq_nil ?_
        refine sq_then ?_
        refine cq_seq ?_
        refine cq_region ?_
        apply sq_g; exact g_move (s := .av _) rfl; exact rfl
        apply sq_g; exact g_move (s := .av (.val (.int _ _))) rfl; exact rfl
        apply sq_g; exact g_arith rfl rfl rfl (by omega); exact rfl
        apply sq_g; exact  g_slice (l := i + 1) (h := at'.length) rfl ⟨_, _, rfl, by omega⟩ rfl (by omega) (by omega); exact rfl
        apply sq_g; exact g_len rfl; exact rfl
        apply sq_g; exact g_move (s := .av (.val (.int _ _))) rfl; exact rfl
        refine sq_nil ?_
        refine sq_then ?_
        refine cq_block ?_
        refine cq_loop (γ := Nat) (fun m => [(0, .av (pts l)), (5, .av (idx at')), (6, .av (pts (pick l at'))), (9, .osl 3), (10, .av (vi i)), (11, .av (vi (gi at' i))), (37, .av (idx at')), (38, .av (vi at'.length)), (39, .av (vi i)), (47, .av (.sl (at'.length - (i + 1)) 1 (fun k => xf at' (i + 1 + k)))), (48, .av (vi ((at'.length - (i + 1) : Nat) : Int))), (49, .av (vi m))]) (fun m => [(3, .row 62 2 (antTo l at' i ++ antR l at' i m).length (qf (antTo l at' i ++ antR l at' i m)))]) (fun m => m ≤ at'.length - (i + 1)) (fun m => at'.length - m) 0 (Nat.zero_le _) (ent ⟨.refl _, .refl _, .refl _, .refl _, .refl _, .refl _, .refl _, .refl _, .refl _, .refl _, .refl _, .refl _, trivial⟩ ⟨⟨_, rfl, by rw [show antR l at' i 0 = [] from rfl, List.append_nil]; exact .refl _⟩, trivial⟩) ?_
        intro m hm
        have hl3 := antR_len l at' i m
        have hl4 : (antTo l at' i ++ antR l at' i m).length ≤ 1000 := by rw [List.length_append]; omega
        refine cq_seq ?_
        refine cq_region ?_
        apply sq_g; exact g_cmp rfl rfl rfl; exact rfl
        refine sq_nil ?_
        refine sq_then ?_
        refine cq_seq ?_
        (refine cq_cond rfl (fun hb => ?_) (fun hb => ?_) <;> (try simp only [decide_eq_true_eq, decide_eq_false_iff_not, beq_iff_eq, beq_eq_false_iff_ne, bne_iff_ne, bne_eq_false_iff_eq, ne_eq, Bool.not_eq_true', Bool.not_eq_false', Bool.and_eq_true, Bool.or_eq_true, Bool.and_eq_false_iff, Bool.or_eq_false_iff] at hb) <;> (try (exfalso; omega)))
        · have hml : i + 1 + m < at'.length := by omega
          have hgm := hall' _ hml
          refine cq_skip ?_
          refine sq_then ?_
          refine cq_seq ?_
          refine cq_block ?_
          refine cq_seq ?_
          refine cq_region ?_
          apply sq_g; exact g_index rfl rfl rfl (by omega); exact rfl
          apply sq_g; exact g_load (τ := .val (.int _ _)) rfl rfl rfl; exact rfl
          apply sq_g; exact g_assign (s := .av (.val (.int _ _))) rfl; exact rfl
          refine sq_nil ?_
          refine sq_then ?_
          refine cq_seq ?_
          refine cq_drawn ?_
          apply dq_g; exact g_move (s := .av _) rfl; exact rfl
          apply dq_g; exact g_move (s := .av _) rfl; exact rfl
          apply dq_g; exact g_move (s := .av (.val (.int _ _))) rfl; exact rfl
          apply dq_g; exact g_index rfl rfl rfl (by omega); exact rfl
          apply dq_g; exact g_load_agg (us := [.int _ _, .int _ _]) rfl rfl rfl rfl; exact rfl
          apply dq_g; exact g_move (s := .av _) rfl; exact rfl
          apply dq_g; exact g_move (s := .av (.val (.int _ _))) rfl; exact rfl
          apply dq_g; exact g_index rfl rfl rfl (by omega); exact rfl
          apply dq_g; exact g_load_agg (us := [.int _ _, .int _ _]) rfl rfl rfl rfl; exact rfl
          apply dq_g; exact g_call (opp_c (pick l at') (gp l (gi at' i)) (gp l (gi at' (i + 1 + m))) hv (sm _) (sm _) (by omega) (by omega)) rfl; exact rfl
          refine dq_nil tm rfl ?_
          refine sq_then ?_
          have hs := antR_succ l at' i m
          (refine cq_cond rfl (fun hb => ?_) (fun hb => ?_) <;> (try simp only [decide_eq_true_eq, decide_eq_false_iff_not, beq_iff_eq, beq_eq_false_iff_ne, bne_iff_ne, bne_eq_false_iff_eq, ne_eq, Bool.not_eq_true', Bool.not_eq_false', Bool.and_eq_true, Bool.or_eq_true, Bool.and_eq_false_iff, Bool.or_eq_false_iff] at hb) <;> (try (exfalso; omega)))
          · have e : antTo l at' i ++ antR l at' i (m + 1) = (antTo l at' i ++ antR l at' i m) ++ [(gi at' i, gi at' (i + 1 + m))] := by
              rw [hs, antQ, if_pos hb, List.append_assoc]
            refine cq_region ?_
            apply sq_g; exact g_move (s := .osl _) rfl; exact rfl
            apply sq_g; exact g_move (s := .av (.val (.int _ _))) rfl; exact rfl
            apply sq_g; exact g_move (s := .av (.val (.int _ _))) rfl; exact rfl
            apply sq_g; exact g_build (is := [0, 1]) (xs := [_, _]) (vs := [_, _]) (tb62 _ _) rfl rfl; exact rfl
            apply sq_g; exact g_one_pr (tq41 _ _) rfl rfl rfl; exact rfl
            refine sq_v (v_push_pr rfl rfl rfl (by omega) rfl) rfl ?_
            apply sq_g; exact g_assign (s := .osl _) rfl; exact rfl
            refine sq_nil ?_
            refine sq_then ?_
            refine cq_region ?_
            apply sq_g; exact g_arith rfl rfl rfl (by omega); exact rfl
            apply sq_g; exact g_move (s := .av (.val (.int _ _))) rfl; exact rfl
            refine sq_nil ?_
            exact sq_round (m + 1) (by omega) (by omega) (ent ⟨.refl _, .refl _, .refl _, .refl _, .refl _, .refl _, .refl _, .refl _, .refl _, .refl _, .refl _, .int (by omega), trivial⟩ ⟨⟨_, rfl, by rw [e]; exact .refl _⟩, trivial⟩)
          · have e : antR l at' i (m + 1) = antR l at' i m := by
              rw [hs, antQ, if_neg (by simp [hb]), List.append_nil]
            refine cq_skip ?_
            refine sq_then ?_
            refine cq_region ?_
            apply sq_g; exact g_arith rfl rfl rfl (by omega); exact rfl
            apply sq_g; exact g_move (s := .av (.val (.int _ _))) rfl; exact rfl
            refine sq_nil ?_
            exact sq_round (m + 1) (by omega) (by omega) (ent ⟨.refl _, .refl _, .refl _, .refl _, .refl _, .refl _, .refl _, .refl _, .refl _, .refl _, .refl _, .int (by omega), trivial⟩ ⟨⟨_, rfl, by rw [e]; exact .refl _⟩, trivial⟩)
        · have hme : m = at'.length - (i + 1) := by omega
          refine cq_exit ?_
          refine sq_then ?_
          refine cq_region ?_
          apply sq_g; exact g_arith rfl rfl rfl (by omega); exact rfl
          apply sq_g; exact g_move (s := .av (.val (.int _ _))) rfl; exact rfl
          refine sq_nil ?_
          exact sq_round (i + 1) (by omega) (by omega) (ent ⟨.refl _, .refl _, .refl _, .refl _, .refl _, .refl _, .int (by omega), trivial⟩ ⟨⟨_, rfl, by rw [antTo_succ, ← hme]; exact .refl _⟩, trivial⟩)
      · have : i = at'.length := by omega
        subst this
        refine cq_exit ?_
        refine sq_then ?_
        refine cq_seq ?_
        refine cq_region ?_
        apply sq_g; exact g_move (s := .osl _) rfl; exact rfl
        apply sq_g; exact g_assign (s := .osl _) rfl; exact rfl
        apply sq_g; exact g_assign (s := .av (.val (.int _ _))) rfl; exact rfl
        refine sq_nil ?_
        refine sq_then ?_
        refine cq_ret ?_
        exact sq_retRN rfl rfl rfl (by rw [hfin]) (fun _ _ _ _ => by rw [hfin]) (τs := [vi (chk l)]) ⟨by rw [hb']; exact .tmp rfl, trivial⟩ rfl
end Go.Proofs.Ytacepcnbgacipaa
namespace Go.Proofs.Ytacepcnbgacipaa
open Go Go.Vc Go.RowKit
set_option maxHeartbeats 1000000
theorem tq86 (vs : List Value) (w : World) (hl : vs.length = 2) (h1 : ∀ v ∈ vs, v.oneCell' = true) : (Instr.buildSlice 86 2 (List.zip [0, 1] vs).toArray).run Try.prog w = .ok (.slice (some ⟨w.heap.size, 0, none⟩) 2 2) (w.alloc (.cells vs.toArray 22)) := by
  match vs, hl with
  | [u, v], _ =>
    have e1 := cells_one (h1 u (by simp))
    have e2 := cells_one (h1 v (by simp))
    have hz : Try.prog.info? 22 = some ((Try.prog.info? 22).getD default) := by kernel_rfl
    have hs : (sizeOf 22).run Try.prog w = .ok 1 w := by kernel_rfl
    have hu : Try.prog.underlying 86 = some (.slice 22) := by kernel_rfl
    have hzero : (zeroValue 22).run Try.prog w = .ok (.slice none 0 0) w := by kernel_rfl
    have hr : Array.map (fun x => (Value.slice none 0 0).cells[x % (Value.slice none 0 0).cells.size]!) (Array.range 2) = #[.slice none 0 0, .slice none 0 0] := by kernel_rfl
    simp [Instr.buildSlice, hr, Instr.fill, e1, e2, newRow]
/-! The directions that are tried. -/
def ll (a b : List Pt) (i : Nat) : List Pt := [a, b].getD i []
def wAr (a b : List Pt) (i j : Nat) : List Pt := (List.range j).map fun j => sub (gp b j) (gp a i)
def wA (a b : List Pt) (i : Nat) : List Pt := (List.range i).flatMap fun i => wAr a b i b.length
def wNr (l : List Pt) (i m : Nat) : List Pt := (List.range m).flatMap fun k => [nrm (gp l i) (gp l (i + 1 + k)), nrn (gp l i) (gp l (i + 1 + k))]
def wN (l : List Pt) (i : Nat) : List Pt := (List.range i).flatMap fun i => wNr l i (l.length - (i + 1))
def wL (a b : List Pt) (k : Nat) : List Pt := (List.range k).flatMap fun k => wN (ll a b k) (ll a b k).length
def ways (a b : List Pt) : List Pt := wA a b a.length ++ wL a b 2
theorem wAr_succ (a b : List Pt) (i j : Nat) : wAr a b i (j + 1) = wAr a b i j ++ [sub (gp b j) (gp a i)] := by simp [wAr, List.range_succ]
theorem wA_succ (a b : List Pt) (i : Nat) : wA a b (i + 1) = wA a b i ++ wAr a b i b.length := by simp [wA, List.range_succ, List.flatMap_append]
theorem wNr_succ (l : List Pt) (i m : Nat) : wNr l i (m + 1) = wNr l i m ++ [nrm (gp l i) (gp l (i + 1 + m)), nrn (gp l i) (gp l (i + 1 + m))] := by simp [wNr, List.range_succ, List.flatMap_append]
theorem wN_succ (l : List Pt) (i : Nat) : wN l (i + 1) = wN l i ++ wNr l i (l.length - (i + 1)) := by simp [wN, List.range_succ, List.flatMap_append]
theorem wL_succ (a b : List Pt) (k : Nat) : wL a b (k + 1) = wL a b k ++ wN (ll a b k) (ll a b k).length := by simp [wL, List.range_succ, List.flatMap_append]
theorem flat_pre {α : Type} (f : Nat → List α) {i n : Nat} (h : i < n) {l : List α} (hl : l <+: f i) : (List.range i).flatMap f ++ l <+: (List.range n).flatMap f := by
  obtain ⟨t, ht⟩ := hl
  have : ∀ m, ∃ s, (List.range (i + 1 + m)).flatMap f = (List.range i).flatMap f ++ (l ++ t) ++ s := by
    intro m
    induction m with
    | zero => exact ⟨[], by simp [List.range_succ, List.flatMap_append, ht]⟩
    | succ m ih =>
      obtain ⟨s, hs⟩ := ih
      exact ⟨s ++ f (i + 1 + m), by rw [show i + 1 + (m + 1) = (i + 1 + m) + 1 from rfl, List.range_succ, List.flatMap_append, hs]; simp⟩
  obtain ⟨s, hs⟩ := this (n - (i + 1))
  rw [show i + 1 + (n - (i + 1)) = n from by omega] at hs
  exact ⟨t ++ s, by rw [hs]; simp⟩
theorem map_pre {α : Type} (f : Nat → α) {i n : Nat} (h : i ≤ n) : (List.range i).map f <+: (List.range n).map f := by
  refine ⟨((List.range n).map f).drop i, ?_⟩
  have := List.take_append_drop i ((List.range n).map f)
  rw [← List.map_take, List.take_range, Nat.min_eq_left h] at this
  exact this
theorem wA_pre {a b : List Pt} {i j : Nat} (hi : i < a.length) (hj : j ≤ b.length) : wA a b i ++ wAr a b i j <+: ways a b :=
  (flat_pre _ hi (map_pre _ hj)).trans (List.prefix_append _ _)
theorem wN_pre {l : List Pt} {i m : Nat} (hi : i < l.length) (hm : m ≤ l.length - (i + 1)) {r : List Pt} (hr : r <+: wNr l i (l.length - (i + 1))) : wN l i ++ r <+: wN l l.length := flat_pre _ hi hr
theorem wL_pre {a b : List Pt} {k : Nat} (hk : k < 2) {r : List Pt} (hr : r <+: wN (ll a b k) (ll a b k).length) : wA a b a.length ++ (wL a b k ++ r) <+: ways a b :=
  (List.prefix_append_right_inj _).2 (flat_pre _ hk hr)
theorem wNr_pre {l : List Pt} {i m n : Nat} (h : m < n) {r : List Pt} (hr : r <+: [nrm (gp l i) (gp l (i + 1 + m)), nrn (gp l i) (gp l (i + 1 + m))]) : wNr l i m ++ r <+: wNr l i n := flat_pre _ h hr
def encP (d : Pt) : List Value := [.agg #[.int .i64 d.x, .int .i64 d.y]]
def encW (l : List Pt) : List (List Value) := l.map encP
theorem encW_app (l : List Pt) (d : Pt) : encW l ++ [encP d] = encW (l ++ [d]) := by simp [encW]
theorem encW_len (l : List Pt) : (encW l).length = l.length := by simp [encW]
theorem pre_take {l : List Pt} {d : Pt} {w : List Pt} (h : l ++ [d] <+: w) : l.length < w.length ∧ encW (l ++ [d]) = (encW w).take (l.length + 1) := by
  obtain ⟨t, rfl⟩ := h
  refine ⟨by simp, ?_⟩
  rw [encW, encW, List.map_append (l₁ := l ++ [d]), List.take_append_of_le_length (by simp), List.take_of_length_le (by simp)]
abbrev Vpt (x : List Value) : Prop := ∃ d : Pt, BdP d ∧ x = encP d
end Go.Proofs.Ytacepcnbgacipaa
namespace Go.Proofs.Ytacepcnbgacipaa
open Go Go.Vc Go.RowKit
set_option maxHeartbeats 1000000
abbrev yv (l : Nat) : AV := .val (.func (.yield l) #[] #[])
theorem way_c (a b : List Pt) (ha : ∀ i, SmP (gp a i)) (hb' : ∀ i, SmP (gp b i)) (hna : a.length ≤ 64) (hnb : b.length ≤ 64) : CtrI Try.prog 97 [.ptr 1 (fun _ => pts a), .ptr 1 (fun _ => pts b)] Vpt (encW (ways a b)) true := by
  refine ctrI _ Try.func97 rfl rfl Try.ntmps97 rfl fun l J Jx ZI b0 Y w Z S => ?_
  simp only [initT, List.map_cons, List.map_nil, Nat.zero_add, Nat.reduceAdd]
  refine cq_seq ?_
  refine cq_seq ?_
  refine cq_region ?_
  apply sq_g; exact g_load rfl rfl rfl; exact rfl
  apply sq_g; exact g_len rfl; exact rfl
  apply sq_g; exact g_move (s := .av (.val (.int _ _))) rfl; exact rfl
  refine sq_nil ?_
  refine sq_then ?_
  refine cq_block ?_
  refine cq_loopI Y (γ := Nat) (fun i => [(0, .av (yv l)), (1, .av (lp a)), (2, .av (lp b)), (15, .av (pts a)), (16, .av (vi a.length)), (17, .av (vi i))]) (fun i => encW (wA a b i)) (fun i => i ≤ a.length) (fun i => a.length - i) 0 S (Nat.zero_le _) (ent ⟨.refl _, .refl _, .refl _, .refl _, .refl _, .refl _, trivial⟩ trivial) ?_
  intro i hi w Z S
  refine cq_seq ?_
  refine cq_region ?_
  apply sq_g; exact g_cmp rfl rfl rfl; exact rfl
  refine sq_nil ?_
  refine sq_then ?_
  refine cq_seq ?_
  (refine cq_cond rfl (fun hb => ?_) (fun hb => ?_) <;> (try simp only [decide_eq_true_eq, decide_eq_false_iff_not, beq_iff_eq, beq_eq_false_iff_ne, bne_iff_ne, bne_eq_false_iff_eq, ne_eq, Bool.not_eq_true', Bool.not_eq_false', Bool.and_eq_true, Bool.or_eq_true, Bool.and_eq_false_iff, Bool.or_eq_false_iff] at hb) <;> (try (exfalso; omega)))
  · have hil : i < a.length := by omega
    refine cq_skip ?_
    refine sq_then ?_
    refine cq_seq ?_
    refine cq_block ?_
    refine cq_seq ?_
    refine cq_region ?_
    apply sq_g; exact g_index rfl rfl rfl (by omega); exact rfl
    apply sq_g; exact g_load_agg (us := [.int _ _, .int _ _]) rfl rfl rfl rfl; exact rfl
    refine sq_v (f_alloc 10 rfl) rfl ?_
    refine sq_s (g_store_agg rfl rfl rfl rfl rfl rfl) ?_
    refine sq_nil ?_
    refine sq_then ?_
    refine cq_seq ?_
    refine cq_region ?_
    apply sq_g; exact g_load rfl rfl rfl; exact rfl
    apply sq_g; exact g_len rfl; exact rfl
    apply sq_g; exact g_move (s := .av (.val (.int _ _))) rfl; exact rfl
    refine sq_nil ?_
    refine sq_then ?_
    refine cq_block ?_
    refine cq_loopI Y (γ := Nat) (fun j => [(0, .av (yv l)), (1, .av (lp a)), (2, .av (lp b)), (5, .av (bp (gp a i))), (15, .av (pts a)), (16, .av (vi a.length)), (17, .av (vi i)), (21, .av (pts b)), (22, .av (vi b.length)), (23, .av (vi j))]) (fun j => encW (wA a b i ++ wAr a b i j)) (fun j => j ≤ b.length) (fun j => b.length - j) 0 (by rw [show wAr a b i 0 = [] from rfl, List.append_nil]; exact S) (Nat.zero_le _) ((ent_freezec 5 10 (fun k => .val ([Go.Value.int .i64 (gp a i).x, .int .i64 (gp a i).y].getD k Go.undef)) rfl rfl rfl).trans (ent ⟨.refl _, .refl _, .refl _, .refl _, .refl _, .refl _, .refl _, .refl _, .refl _, .refl _, trivial⟩ trivial)) ?_
    intro j hj w Z S
    refine cq_seq ?_
    refine cq_region ?_
    apply sq_g; exact g_cmp rfl rfl rfl; exact rfl
    refine sq_nil ?_
    refine sq_then ?_
    refine cq_seq ?_
    (refine cq_cond rfl (fun hb => ?_) (fun hb => ?_) <;> (try simp only [decide_eq_true_eq, decide_eq_false_iff_not, beq_iff_eq, beq_eq_false_iff_ne, bne_iff_ne, bne_eq_false_iff_eq, ne_eq, Bool.not_eq_true', Bool.not_eq_false', Bool.and_eq_true, Bool.or_eq_true, Bool.and_eq_false_iff, Bool.or_eq_false_iff] at hb) <;> (try (exfalso; omega)))
    · have hjl : j < b.length := by omega
      have hp : (wA a b i ++ wAr a b i j) ++ [sub (gp b j) (gp a i)] <+: ways a b := by
        rw [List.append_assoc, ← wAr_succ]; exact wA_pre hil hjl
      obtain ⟨hpl, hpt⟩ := pre_take hp
      refine cq_skip ?_
      refine sq_then ?_
      refine cq_seq ?_
      refine cq_block ?_
      refine cq_seq ?_
      refine cq_region ?_
      apply sq_g; exact g_index rfl rfl rfl (by omega); exact rfl
      apply sq_g; exact g_load_agg (us := [.int _ _, .int _ _]) rfl rfl rfl rfl; exact rfl
      refine sq_v (f_alloc 10 rfl) rfl ?_
      refine sq_s (g_store_agg rfl rfl rfl rfl rfl rfl) ?_
      refine sq_nil ?_
      refine sq_then ?_
      refine cq_seq ?_
      refine cq_region ?_
      apply sq_g; exact g_move (s := .av _) rfl; exact rfl
      apply sq_g; exact g_load_own_agg (us := [.int _ _, .int _ _]) rfl rfl rfl rfl; exact rfl
      apply sq_g; exact g_load_agg (us := [.int _ _, .int _ _]) rfl rfl rfl rfl; exact rfl
      apply sq_g; exact g_call (hless_c (gp b j) (gp a i) (hb' j) (ha i)) rfl; exact rfl
      refine lsq_more ent_drop ?_
      refine sq_yield Y S (encP (sub (gp b j) (gp a i))) ⟨_, sub_bd (hb' j) (ha i), rfl⟩ (by rw [encW_len, encW_len]; exact hpl) rfl rfl rfl (fun w' Z' S' => ?_) (fun w' hx T' hT' => ?_)
      · rw [encW_app, List.append_assoc, ← wAr_succ] at S'
        apply sq_g; exact g_not rfl; exact rfl
        refine sq_nil ?_
        refine sq_then ?_
        refine cq_cond_f rfl ?_
        refine cq_skip ?_
        refine sq_then ?_
        refine cq_region ?_
        apply sq_g; exact g_arith rfl rfl rfl (by omega); exact rfl
        apply sq_g; exact g_move (s := .av (.val (.int _ _))) rfl; exact rfl
        refine sq_nil ?_
        exact sq_roundI Y (g := j) (j + 1) S' (by omega) (by omega) (ent ⟨.refl _, .refl _, .refl _, .refl _, .refl _, .refl _, .refl _, .refl _, .refl _, .int (by omega), trivial⟩ trivial)
      · dsimp only [valsT] at hT'
        subst hT'
        rw [encW_app, hpt] at hx
        apply sq_g; exact g_not rfl; exact rfl
        refine sq_nil ?_
        refine sq_then ?_
        refine cq_cond_t rfl ?_
        refine cq_ret ?_
        refine sq_inBlock_ret ?_
        refine sq_then_ret ?_
        refine sq_then_ret ?_
        refine sq_inBlock_ret ?_
        refine sq_inBlock_ret ?_
        refine sq_then_ret ?_
        refine sq_then_ret ?_
        refine sq_inBlock_ret ?_
        refine sq_then_ret ?_
        exact sq_retIx Y rfl _ (by rw [encW_len]; exact hpl) hx
    · have hjl : j = b.length := by omega
      subst hjl
      rw [← wA_succ] at S
      refine cq_exit ?_
      refine sq_then ?_
      refine cq_region ?_
      apply sq_g; exact g_arith rfl rfl rfl (by omega); exact rfl
      apply sq_g; exact g_move (s := .av (.val (.int _ _))) rfl; exact rfl
      refine sq_nil ?_
      exact sq_roundI Y (g := i) (i + 1) S (by omega) (by omega) (ent ⟨.refl _, .refl _, .refl _, .refl _, .refl _, .int (by omega), trivial⟩ trivial)
  · have hil : i = a.length := by omega
    subst hil
    refine cq_exit ?_
    refine sq_then ?_
    refine cq_seq ?_
    refine cq_region ?_
    apply sq_g; exact g_load rfl rfl rfl; exact rfl
    apply sq_g; exact g_load rfl rfl rfl; exact rfl
    apply sq_g; exact  g_bslice_av (is := [0, 1]) (xs := [_, _]) (τs := [pts a, pts b]) (fun vs w h1 h2 => tq86 vs w h1 h2) rfl rfl rfl rfl rfl; exact rfl
    apply sq_g; exact g_len rfl; exact rfl
    apply sq_g; exact g_move (s := .av (.val (.int _ _))) rfl; exact rfl
    refine sq_nil ?_
    refine sq_then ?_
    refine cq_block ?_
    refine cq_loopI Y (γ := Nat) (fun k => [(0, .av (yv l)), (37, .av (.sl 2 1 (fun i _ => [pts a, pts b].getD i .any))), (38, .av (vi 2)), (39, .av (vi k))]) (fun k => encW (wA a b a.length ++ wL a b k)) (fun k => k ≤ 2) (fun k => 2 - k) 0 (by rw [show wL a b 0 = [] from rfl, List.append_nil]; exact S) (Nat.zero_le _) (ent ⟨.refl _, .refl _, .refl _, .refl _, trivial⟩ trivial) ?_
    intro k hk w Z S
    refine cq_seq ?_
    refine cq_region ?_
    apply sq_g; exact g_cmp rfl rfl rfl; exact rfl
    refine sq_nil ?_
    refine sq_then ?_
    refine cq_seq ?_
    (refine cq_cond rfl (fun hb => ?_) (fun hb => ?_) <;> (try simp only [decide_eq_true_eq, decide_eq_false_iff_not, beq_iff_eq, beq_eq_false_iff_ne, bne_iff_ne, bne_eq_false_iff_eq, ne_eq, Bool.not_eq_true', Bool.not_eq_false', Bool.and_eq_true, Bool.or_eq_true, Bool.and_eq_false_iff, Bool.or_eq_false_iff] at hb) <;> (try (exfalso; omega)))
    · have hk2 : k < 2 := by omega
      have hL : [pts a, pts b].getD k .any = pts (ll a b k) := by
        match k, hk2 with
        | 0, _ => rfl
        | 1, _ => rfl
      have hLs : ∀ i, SmP (gp (ll a b k) i) := by
        match k, hk2 with
        | 0, _ => exact ha
        | 1, _ => exact hb'
      have hLn : (ll a b k).length ≤ 64 := by
        match k, hk2 with
        | 0, _ => exact hna
        | 1, _ => exact hnb
      generalize hLd : ll a b k = L at *
      refine cq_skip ?_
      refine sq_then ?_
      refine cq_seq ?_
      refine cq_block ?_
      refine cq_seq ?_
      refine cq_region ?_
      apply sq_g; exact g_index rfl rfl rfl (by omega); exact rfl
      apply sq_g; exact  g_load (τ := pts L) rfl rfl hL; exact rfl
      apply sq_g; exact g_assign (s := .av _) rfl; exact rfl
      refine sq_nil ?_
      refine sq_then ?_
      refine cq_seq ?_
      refine cq_region ?_
      apply sq_g; exact g_move (s := .av _) rfl; exact rfl
      apply sq_g; exact g_len rfl; exact rfl
      apply sq_g; exact g_move (s := .av (.val (.int _ _))) rfl; exact rfl
      refine sq_nil ?_
      refine sq_then ?_
      refine cq_block ?_
      refine cq_loopI Y (γ := Nat) (fun i => [(0, .av (yv l)), (9, .av (pts L)), (37, .av (.sl 2 1 (fun i _ => [pts a, pts b].getD i .any))), (38, .av (vi 2)), (39, .av (vi k)), (43, .av (pts L)), (44, .av (vi L.length)), (45, .av (vi i))]) (fun i => encW (wA a b a.length ++ (wL a b k ++ wN L i))) (fun i => i ≤ L.length) (fun i => L.length - i) 0 (by rw [show wN L 0 = [] from rfl, List.append_nil]; exact S) (Nat.zero_le _) (ent ⟨.refl _, .refl _, .refl _, .refl _, .refl _, .refl _, .refl _, .refl _, trivial⟩ trivial) ?_
      intro i hi w Z S
      refine cq_seq ?_
      refine cq_region ?_
      apply sq_g; exact g_cmp rfl rfl rfl; exact rfl
      refine sq_nil ?_
      refine sq_then ?_
      refine cq_seq ?_
      (refine cq_cond rfl (fun hb => ?_) (fun hb => ?_) <;> (try simp only [decide_eq_true_eq, decide_eq_false_iff_not, beq_iff_eq, beq_eq_false_iff_ne, bne_iff_ne, bne_eq_false_iff_eq, ne_eq, Bool.not_eq_true', Bool.not_eq_false', Bool.and_eq_true, Bool.or_eq_true, Bool.and_eq_false_iff, Bool.or_eq_false_iff] at hb) <;> (try (exfalso; omega)))
      · have hil : i < L.length := by omega
        refine cq_skip ?_
        refine sq_then ?_
        refine cq_seq ?_
        refine cq_block ?_
        refine cq_seq ?_
        refine cq_region ?_
        apply sq_g; exact g_move (s := .av (.val (.int _ _))) rfl; exact rfl
        apply sq_g; exact g_index rfl rfl rfl (by omega); exact rfl
        apply sq_g; exact g_load_agg (us := [.int _ _, .int _ _]) rfl rfl rfl rfl; exact rfl
        refine sq_v (f_alloc 10 rfl) rfl ?_
        apply sq_g; exact g_assign (s := .av (.val (.int _ _))) rfl; exact rfl
        refine sq_s (g_store_agg rfl rfl rfl rfl rfl rfl) ?_
        refine sq_nil ?_
        refine sq_then ?_
        refine cq_seq ?_
        refine cq_region ?_
        apply sq_g; exact g_move (s := .av _) rfl; exact rfl
        apply sq_g; exact g_move (s := .av (.val (.int _ _))) rfl; exact rfl
        apply sq_g; exact g_arith rfl rfl rfl (by omega); exact rfl
        apply sq_g; exact  g_slice (l := i + 1) (h := L.length) rfl ⟨_, _, rfl, by omega⟩ rfl (by omega) (by omega); exact rfl
        apply sq_g; exact g_len rfl; exact rfl
        apply sq_g; exact g_move (s := .av (.val (.int _ _))) rfl; exact rfl
        refine sq_nil ?_
        refine sq_then ?_
        refine cq_block ?_
        refine cq_loopI Y (γ := Nat) (fun m => [(0, .av (yv l)), (9, .av (pts L)), (10, .av (vi i)), (11, .av (bp (gp L i))), (37, .av (.sl 2 1 (fun i _ => [pts a, pts b].getD i .any))), (38, .av (vi 2)), (39, .av (vi k)), (43, .av (pts L)), (44, .av (vi L.length)), (45, .av (vi i)), (53, .av (.sl (L.length - (i + 1)) 2 (fun k => pf L (i + 1 + k)))), (54, .av (vi ((L.length - (i + 1) : Nat) : Int))), (55, .av (vi m))]) (fun m => encW (wA a b a.length ++ (wL a b k ++ (wN L i ++ wNr L i m)))) (fun m => m ≤ L.length - (i + 1)) (fun m => L.length - m) 0 (by rw [show wNr L i 0 = [] from rfl, List.append_nil]; exact S) (Nat.zero_le _) ((ent_freezec 11 10 (fun k => .val ([Go.Value.int .i64 (gp L i).x, .int .i64 (gp L i).y].getD k Go.undef)) rfl rfl rfl).trans (ent ⟨.refl _, .refl _, .refl _, .refl _, .refl _, .refl _, .refl _, .refl _, .refl _, .refl _, .refl _, .refl _, .refl _, trivial⟩ trivial)) ?_
        intro m hm w Z S
        refine cq_seq ?_
        refine cq_region ?_
        apply sq_g; exact g_cmp rfl rfl rfl; exact rfl
        refine sq_nil ?_
        refine sq_then ?_
        refine cq_seq ?_
        (refine cq_cond rfl (fun hb => ?_) (fun hb => ?_) <;> (try simp only [decide_eq_true_eq, decide_eq_false_iff_not, beq_iff_eq, beq_eq_false_iff_ne, bne_iff_ne, bne_eq_false_iff_eq, ne_eq, Bool.not_eq_true', Bool.not_eq_false', Bool.and_eq_true, Bool.or_eq_true, Bool.and_eq_false_iff, Bool.or_eq_false_iff] at hb) <;> (try (exfalso; omega)))
        · have hml : m < L.length - (i + 1) := by omega
          have e2 : wNr L i (m + 1) = wNr L i m ++ ([nrm (gp L i) (gp L (i + 1 + m))] ++ [nrn (gp L i) (gp L (i + 1 + m))]) := wNr_succ L i m
          have hp : ∀ r, r <+: [nrm (gp L i) (gp L (i + 1 + m)), nrn (gp L i) (gp L (i + 1 + m))] → wA a b a.length ++ (wL a b k ++ (wN L i ++ (wNr L i m ++ r))) <+: ways a b := fun r hr =>
            wL_pre hk2 (by rw [hLd]; exact wN_pre hil (m := m) (by omega) (wNr_pre hml hr))
          have p1 := hp [nrm (gp L i) (gp L (i + 1 + m))] (List.prefix_append _ [nrn (gp L i) (gp L (i + 1 + m))])
          have p2 := hp ([nrm (gp L i) (gp L (i + 1 + m))] ++ [nrn (gp L i) (gp L (i + 1 + m))]) (List.prefix_refl _)
          rw [← List.append_assoc (wN L i), ← List.append_assoc (wL a b k), ← List.append_assoc (wA a b a.length)] at p1
          rw [← List.append_assoc (wNr L i m), ← List.append_assoc (wN L i), ← List.append_assoc (wL a b k), ← List.append_assoc (wA a b a.length)] at p2
          obtain ⟨q1, q2⟩ := pre_take p1
          obtain ⟨q3, q4⟩ := pre_take p2
          have hj1 := hLs i
          have hj2 := hLs (i + 1 + m)
          refine cq_skip ?_
          refine sq_then ?_
          refine cq_seq ?_
          refine cq_block ?_
          refine cq_seq ?_
          refine cq_region ?_
          apply sq_g; exact g_index rfl rfl rfl (by omega); exact rfl
          apply sq_g; exact g_load_agg (us := [.int _ _, .int _ _]) rfl rfl rfl rfl; exact rfl
          refine sq_v (f_alloc 10 rfl) rfl ?_
          refine sq_s (g_store_agg rfl rfl rfl rfl rfl rfl) ?_
          refine sq_nil ?_
          refine sq_then ?_
          refine cq_seq ?_
          refine cq_region ?_
          apply sq_g; exact g_load_agg (us := [.int _ _, .int _ _]) rfl rfl rfl rfl; exact rfl
          apply sq_g; exact g_load_own_agg (us := [.int _ _, .int _ _]) rfl rfl rfl rfl; exact rfl
          apply sq_g; exact g_call (nrms_c (gp L i) (gp L (i + 1 + m)) (hLs _) (hLs _)) rfl; exact rfl
          refine sq_v (f_alloc 11 rfl) rfl ?_
          refine sq_s (g_store_agg rfl rfl rfl rfl rfl rfl) ?_
          refine sq_nil ?_
          refine sq_then ?_
          refine cq_seq ?_
          refine cq_region ?_
          apply sq_g; exact g_move (s := .av _) rfl; exact rfl
          apply sq_g; exact g_index_own rfl rfl rfl (by decide); exact rfl
          apply sq_g; exact g_load_own_agg (us := [.int _ _, .int _ _]) rfl rfl rfl rfl; exact rfl
          refine lsq_more ((ent_freezec 14 11 (fun k => .val ([Go.Value.int .i64 (nrm (gp L i) (gp L (i + 1 + m))).x, .int .i64 (nrm (gp L i) (gp L (i + 1 + m))).y, .int .i64 (nrn (gp L i) (gp L (i + 1 + m))).x, .int .i64 (nrn (gp L i) (gp L (i + 1 + m))).y].getD k Go.undef)) rfl rfl rfl).trans ent_drop) ?_
          refine sq_yield Y S (encP (nrm (gp L i) (gp L (i + 1 + m)))) ⟨_, nrm_bd hj1 hj2, rfl⟩ (by rw [encW_len, encW_len]; exact q1) rfl rfl rfl (fun w' Z' S' => ?_) (fun w' hx T' hT' => ?_)
          · rw [encW_app, List.append_assoc, List.append_assoc, List.append_assoc] at S'
            apply sq_g; exact g_not rfl; exact rfl
            apply sq_g; exact g_move (s := .av (.val (.bool _))) rfl; exact rfl
            apply sq_on; exact g_move (s := .av _) rfl; exact rfl; exact rfl; exact rfl
            apply sq_on; exact g_index_arr rfl rfl rfl (by decide) rfl; exact rfl; exact rfl; exact rfl
            apply sq_on; exact g_load_agg (us := [.int _ _, .int _ _]) rfl rfl rfl rfl; exact rfl; exact rfl; exact rfl
            refine sq_yield_on Y S' (encP (nrn (gp L i) (gp L (i + 1 + m)))) ⟨_, nrn_bd hj1 hj2, rfl⟩ (by rw [encW_len, encW_len]; exact q3) rfl rfl rfl rfl rfl (fun w' Z' S' => ?_) (fun w' hx T' hT' => ?_)
            · rw [encW_app, List.append_assoc, List.append_assoc, List.append_assoc, List.append_assoc, ← e2] at S'
              apply sq_on; exact g_not rfl; exact rfl; exact rfl; exact rfl
              apply sq_g; exact g_pick (s := .av (.val (.bool _))) rfl rfl; exact rfl
              refine sq_nil ?_
              refine sq_then ?_
              refine cq_cond_f rfl ?_
              refine cq_skip ?_
              refine sq_then ?_
              refine cq_region ?_
              apply sq_g; exact g_arith rfl rfl rfl (by omega); exact rfl
              apply sq_g; exact g_move (s := .av (.val (.int _ _))) rfl; exact rfl
              refine sq_nil ?_
              exact sq_roundI Y (g := m) (m + 1) S' (by omega) (by omega) (ent ⟨.refl _, .refl _, .refl _, .refl _, .refl _, .refl _, .refl _, .refl _, .refl _, .refl _, .refl _, .refl _, .int (by omega), trivial⟩ trivial)
            · dsimp only [valsT] at hT'
              subst hT'
              rw [encW_app, q4] at hx
              apply sq_on; exact g_not rfl; exact rfl; exact rfl; exact rfl
              apply sq_g; exact g_pick (s := .av (.val (.bool _))) rfl rfl; exact rfl
              refine sq_nil ?_
              refine sq_then ?_
              refine cq_cond_t rfl ?_
              refine cq_ret ?_
              refine sq_inBlock_ret ?_
              refine sq_then_ret ?_
              refine sq_then_ret ?_
              refine sq_inBlock_ret ?_
              refine sq_inBlock_ret ?_
              refine sq_then_ret ?_
              refine sq_then_ret ?_
              refine sq_inBlock_ret ?_
              refine sq_inBlock_ret ?_
              refine sq_then_ret ?_
              refine sq_then_ret ?_
              refine sq_inBlock_ret ?_
              exact sq_retIx Y rfl _ (by rw [encW_len]; exact q3) hx
          · dsimp only [valsT] at hT'
            subst hT'
            rw [encW_app, q2] at hx
            apply sq_g; exact g_not rfl; exact rfl
            apply sq_g; exact g_move (s := .av (.val (.bool _))) rfl; exact rfl
            refine sq_off rfl rfl rfl rfl ?_
            refine sq_off rfl rfl rfl rfl ?_
            refine sq_off rfl rfl rfl rfl ?_
            refine sq_off rfl rfl rfl rfl ?_
            refine sq_off rfl rfl rfl rfl ?_
            apply sq_g; exact g_pick (s := .av (.val (.bool _))) rfl rfl; exact rfl
            refine sq_nil ?_
            refine sq_then ?_
            refine cq_cond_t rfl ?_
            refine cq_ret ?_
            refine sq_inBlock_ret ?_
            refine sq_then_ret ?_
            refine sq_then_ret ?_
            refine sq_inBlock_ret ?_
            refine sq_inBlock_ret ?_
            refine sq_then_ret ?_
            refine sq_then_ret ?_
            refine sq_inBlock_ret ?_
            refine sq_inBlock_ret ?_
            refine sq_then_ret ?_
            refine sq_then_ret ?_
            refine sq_inBlock_ret ?_
            exact sq_retIx Y rfl _ (by rw [encW_len]; exact q1) hx
        · have hme : m = L.length - (i + 1) := by omega
          rw [hme, ← wN_succ] at S
          refine cq_exit ?_
          refine sq_then ?_
          refine cq_region ?_
          apply sq_g; exact g_arith rfl rfl rfl (by omega); exact rfl
          apply sq_g; exact g_move (s := .av (.val (.int _ _))) rfl; exact rfl
          refine sq_nil ?_
          exact sq_roundI Y (g := i) (i + 1) S (by omega) (by omega) (ent ⟨.refl _, .refl _, .refl _, .refl _, .refl _, .refl _, .refl _, .int (by omega), trivial⟩ trivial)
      · have hie : i = L.length := by omega
        rw [hie] at S
        have e3 : wL a b (k + 1) = wL a b k ++ wN L L.length := by rw [wL_succ, hLd]
        rw [← e3] at S
        refine cq_exit ?_
        refine sq_then ?_
        refine cq_region ?_
        apply sq_g; exact g_arith rfl rfl rfl (by omega); exact rfl
        apply sq_g; exact g_move (s := .av (.val (.int _ _))) rfl; exact rfl
        refine sq_nil ?_
        exact sq_roundI Y (g := k) (k + 1) S (by omega) (by omega) (ent ⟨.refl _, .refl _, .refl _, .int (by omega), trivial⟩ trivial)
    · have hke : k = 2 := by omega
      rw [hke] at S
      refine cq_exit ?_
      refine sq_then_exit ?_
      refine sq_then_exit ?_
      refine sq_inBlock_exit ?_
      exact sq_retI' Y rfl S
end Go.Proofs.Ytacepcnbgacipaa
namespace Go.Proofs.Ytacepcnbgacipaa
open Go Go.Vc Go.RowKit
set_option maxHeartbeats 1000000
theorem chk_len {l : List Pt} (h : chk l = 0) : l.length ≤ 64 := by
  unfold chk at h; split at h
  · cases h
  · omega
abbrev sepT (b : Bool) (d : Pt) (m e : Int) : AV := tupOf [vb b, pp d, vi m, vi e]
def sepR (a b : List Pt) : Bool × Pt × Int × Int :=
  if chk a ≠ 0 then (false, ⟨0, 0⟩, 0, chk a) else if chk b ≠ 0 then (false, ⟨0, 0⟩, 0, chk b) else if a.length = 0 ∨ b.length = 0 then (false, ⟨0, 0⟩, 0, 13) else
  match (ways a b).find? (splits a b) with | some d => (true, d, top a d, 0) | none => (false, ⟨0, 0⟩, 0, 0)
abbrev sepA (r : Bool × Pt × Int × Int) : AV := sepT r.1 r.2.1 r.2.2.1 r.2.2.2
def iV : Value → Int | .int _ n => n | _ => 0
def decP (x : List Value) : Pt := match x with | [.agg cs] => ⟨iV (cs.getD 0 undef), iV (cs.getD 1 undef)⟩ | _ => ⟨0, 0⟩
theorem decP_enc (d : Pt) : decP (encP d) = d := rfl
def lastV (pre : List (List Value)) : Pt := decP (pre.getLast?.getD [])
theorem lastV_app (pre : List (List Value)) (d : Pt) : lastV (pre ++ [encP d]) = d := by simp [lastV, decP_enc]
theorem tb24_0 : Try.prog.built 24 [] = some #[.int .i64 0, .int .i64 0] := by kernel_rfl
abbrev sepO (b : Bool) (d : Pt) (m e : Int) : Go.Vc.Own := [(10, .cells [.av (vb b)]), (11, cp d), (12, .cells [.av (vi m)]), (13, .cells [.av (vi e)])]
abbrev wcl (a b : List Pt) : AV := .clo 97 2 (fun i => [lp a, lp b].getD i .any)
theorem wayf_c (a b : List Pt) : CtrA Try.prog 67 [pts a, pts b] (wcl a b) := by
  refine ctrA _ Try.func67 rfl rfl Try.ntmps67 rfl fun w Z => ?_
  simp only [initT, List.map_cons, List.map_nil, Nat.zero_add, Nat.reduceAdd]
  refine cq_seq ?_
  refine cq_region ?_
  apply sq_g; exact g_box rfl rfl; exact rfl
  apply sq_g; exact g_box rfl rfl; exact rfl
  apply sq_g; exact g_assign (s := .av _) rfl; exact rfl
  refine sq_nil ?_
  refine sq_then ?_
  refine cq_seq ?_
  refine cq_region ?_
  apply sq_g; exact g_makeFunc (τs := [_, _]) rfl; exact rfl
  apply sq_g; exact g_assign (s := .av _) rfl; exact rfl
  refine sq_nil ?_
  refine sq_then ?_
  refine cq_ret ?_
  exact sq_res1 rfl (.tmp rfl) rfl
theorem sep_c (a b : List Pt) : CtrA Try.prog 23 [pts a, pts b] (sepA (sepR a b)) := by
  refine ctrAM _ Try.func23 rfl rfl Try.ntmps23 rfl fun w Z => ?_
  simp only [initT, List.map_cons, List.map_nil, Nat.zero_add, Nat.reduceAdd]
  refine cq_seq ?_
  refine cq_region ?_
  apply sq_g; exact g_box rfl rfl; exact rfl
  apply sq_g; exact g_box rfl rfl; exact rfl
  refine sq_v (f_alloc 10 rfl) rfl ?_
  refine sq_v (f_alloc 11 rfl) rfl ?_
  refine sq_v (f_alloc 12 rfl) rfl ?_
  refine sq_v (f_alloc 13 rfl) rfl ?_
  refine sq_nil ?_
  refine sq_then ?_
  refine cq_seq ?_
  refine cq_seq ?_
  refine cq_region ?_
  apply sq_g; exact g_load rfl rfl rfl; exact rfl
  apply sq_g; exact g_load rfl rfl rfl; exact rfl
  apply sq_g; exact  g_bslice_av (is := [0, 1]) (xs := [_, _]) (τs := [pts a, pts b]) (fun vs w h1 h2 => tq86 vs w h1 h2) rfl rfl rfl rfl rfl; exact rfl
  apply sq_g; exact g_len rfl; exact rfl
  apply sq_g; exact g_move (s := .av (.val (.int _ _))) rfl; exact rfl
  refine sq_nil ?_
  refine sq_then ?_
  refine cq_block ?_
  refine cq_loop (γ := Nat) (fun k => [(2, .av (lp a)), (3, .av (lp b)), (4, .own 10 0), (5, .own 11 0), (6, .own 12 0), (7, .own 13 0), (15, .av (.sl 2 1 (fun i _ => [pts a, pts b].getD i .any))), (16, .av (vi 2)), (17, .av (vi k))]) (fun _ => sepO false ⟨0, 0⟩ 0 0) (fun k => k ≤ 2 ∧ ∀ i, i < k → chk (ll a b i) = 0) (fun k => 2 - k) 0 ⟨Nat.zero_le _, by intro i hi; omega⟩ (ent ⟨.refl _, .refl _, .refl _, .refl _, .refl _, .refl _, .refl _, .refl _, .refl _, trivial⟩ ⟨⟨_, rfl, .refl _⟩, ⟨_, rfl, .refl _⟩, ⟨_, rfl, .refl _⟩, ⟨_, rfl, .refl _⟩, trivial⟩) ?_
  rintro k ⟨hk, hall⟩
  refine cq_seq ?_
  refine cq_region ?_
  apply sq_g; exact g_cmp rfl rfl rfl; exact rfl
  refine sq_nil ?_
  refine sq_then ?_
  refine cq_seq ?_
  (refine cq_cond rfl (fun hb => ?_) (fun hb => ?_) <;> (try simp only [decide_eq_true_eq, decide_eq_false_iff_not, beq_iff_eq, beq_eq_false_iff_ne, bne_iff_ne, bne_eq_false_iff_eq, ne_eq, Bool.not_eq_true', Bool.not_eq_false', Bool.and_eq_true, Bool.or_eq_true, Bool.and_eq_false_iff, Bool.or_eq_false_iff] at hb) <;> (try (exfalso; omega)))
  · have hk2 : k < 2 := by omega
    have hL : [pts a, pts b].getD k .any = pts (ll a b k) := by
      match k, hk2 with
      | 0, _ => rfl
      | 1, _ => rfl
    refine cq_skip ?_
    refine sq_then ?_
    refine cq_seq ?_
    refine cq_block ?_
    refine cq_seq ?_
    refine cq_region ?_
    apply sq_g; exact g_index rfl rfl rfl (by omega); exact rfl
    apply sq_g; exact  g_load (τ := pts (ll a b k)) rfl rfl hL; exact rfl
    apply sq_g; exact g_assign (s := .av _) rfl; exact rfl
    refine sq_nil ?_
    refine sq_then ?_
    refine cq_seq ?_
    refine cq_region ?_
    apply sq_g; exact g_move (s := .av _) rfl; exact rfl
    apply sq_g; exact g_call (check_c (ll a b k)) rfl; exact rfl
    apply sq_g; exact g_assign (s := .av (.val (.int _ _))) rfl; exact rfl
    refine sq_nil ?_
    refine sq_then ?_
    refine cq_seq ?_
    refine cq_region ?_
    apply sq_g; exact g_move (s := .av (.val (.int _ _))) rfl; exact rfl
    apply sq_g; exact g_cmp rfl rfl rfl; exact rfl
    refine sq_nil ?_
    refine sq_then ?_
    (refine cq_cond rfl (fun hb => ?_) (fun hb => ?_) <;> (try simp only [decide_eq_true_eq, decide_eq_false_iff_not, beq_iff_eq, beq_eq_false_iff_ne, bne_iff_ne, bne_eq_false_iff_eq, ne_eq, Bool.not_eq_true', Bool.not_eq_false', Bool.and_eq_true, Bool.or_eq_true, Bool.and_eq_false_iff, Bool.or_eq_false_iff] at hb) <;> (try (exfalso; omega)))
    · refine cq_seq ?_
      refine cq_region ?_
      apply sq_g; exact  g_build (is := []) (xs := []) (vs := []) tb24_0 rfl rfl; exact rfl
      apply sq_g; exact g_move (s := .av (.val (.int _ _))) rfl; exact rfl
      refine sq_s (g_store' rfl rfl rfl rfl rfl rfl) ?_
      refine sq_s (g_store_agg rfl rfl rfl rfl rfl rfl) ?_
      refine sq_s (g_store' rfl rfl rfl rfl rfl rfl) ?_
      refine sq_s (g_store' rfl rfl rfl rfl rfl rfl) ?_
      refine sq_nil ?_
      refine sq_then ?_
      refine cq_ret ?_
      refine sq_inBlock_ret ?_
      refine sq_then_ret ?_
      refine sq_then_ret ?_
      refine sq_inBlock_ret ?_
      refine sq_then_ret ?_
      refine sq_m (sq_resN (rvs := [_, _, _, _]) (τs := [vb false, pp ⟨0, 0⟩, vi 0, vi (chk (ll a b k))]) rfl rfl ⟨.cell rfl rfl rfl, .agg (us := [_, _]) rfl rfl rfl rfl, .cell rfl rfl rfl, .cell rfl rfl rfl, trivial⟩ ?_)
      match k, hk2, hall, hb with
      | 0, _, _, hb => simp [sepA, sepR, show chk a ≠ 0 from hb]; rfl
      | 1, _, hall, hb => simp [sepA, sepR, show chk a = 0 from hall 0 (by omega), show chk b ≠ 0 from hb]; rfl
    · refine cq_skip ?_
      refine sq_then ?_
      refine cq_region ?_
      apply sq_g; exact g_arith rfl rfl rfl (by omega); exact rfl
      apply sq_g; exact g_move (s := .av (.val (.int _ _))) rfl; exact rfl
      refine sq_nil ?_
      exact sq_round (k + 1) ⟨by omega, lt_step hall hb⟩ (by omega) (ent ⟨.refl _, .refl _, .refl _, .refl _, .refl _, .refl _, .refl _, .refl _, .int (by omega), trivial⟩ ⟨⟨_, rfl, .refl _⟩, ⟨_, rfl, .refl _⟩, ⟨_, rfl, .refl _⟩, ⟨_, rfl, .refl _⟩, trivial⟩)
  · have hk2 : k = 2 := by omega
    subst hk2
    have ca : chk a = 0 := hall 0 (by omega)
    have cb : chk b = 0 := hall 1 (by omega)
    focus
      refine cq_exit ?_
      refine sq_then ?_
      refine cq_seq ?_
      refine cq_seq ?_
      refine cq_region ?_
      apply sq_g; exact g_load rfl rfl rfl; exact rfl
      apply sq_g; exact g_len rfl; exact rfl
      apply sq_g; exact g_cmp rfl rfl rfl; exact rfl
      apply sq_g; exact g_move (s := .av (.val (.bool _))) rfl; exact rfl
      refine sq_split rfl rfl (fun hb => ?_) (fun hb => ?_) <;> (try simp only [decide_eq_true_eq, decide_eq_false_iff_not, beq_iff_eq, beq_eq_false_iff_ne, bne_iff_ne, bne_eq_false_iff_eq, ne_eq, Bool.not_eq_true', Bool.not_eq_false', Bool.and_eq_true, Bool.or_eq_true, Bool.and_eq_false_iff, Bool.or_eq_false_iff] at hb) <;> (try (exfalso; omega))
      refine sq_off rfl rfl rfl rfl ?_
      refine sq_off rfl rfl rfl rfl ?_
      refine sq_off rfl rfl rfl rfl ?_
      apply sq_g; exact g_pick (s := .av (.val (.bool _))) rfl rfl; exact rfl
      refine sq_nil ?_
      refine sq_then ?_
      refine cq_cond_t rfl ?_
      refine cq_seq ?_
      refine cq_region ?_
      apply sq_g; exact  g_build (is := []) (xs := []) (vs := []) tb24_0 rfl rfl; exact rfl
      refine sq_s (g_store' rfl rfl rfl rfl rfl rfl) ?_
      refine sq_s (g_store_agg rfl rfl rfl rfl rfl rfl) ?_
      refine sq_s (g_store' rfl rfl rfl rfl rfl rfl) ?_
      refine sq_s (g_store' rfl rfl rfl rfl rfl rfl) ?_
      refine sq_nil ?_
      refine sq_then ?_
      refine cq_ret ?_
      refine sq_then_ret ?_
      rotate_left
      apply sq_on; exact g_load rfl rfl rfl; exact rfl; exact rfl; exact rfl
      apply sq_on; exact g_len rfl; exact rfl; exact rfl; exact rfl
      apply sq_on; exact g_cmp rfl rfl rfl; exact rfl; exact rfl; exact rfl
      apply sq_g; exact g_pick (s := .av (.val (.bool _))) rfl rfl; exact rfl
      refine sq_nil ?_
      refine sq_then ?_
      rotate_left
    · refine sq_m (sq_resN (rvs := [_, _, _, _]) (τs := [vb false, pp ⟨0, 0⟩, vi 0, vi 13]) rfl rfl ⟨.cell rfl rfl rfl, .agg (us := [_, _]) rfl rfl rfl rfl, .cell rfl rfl rfl, .cell rfl rfl rfl, trivial⟩ ?_)
      simp [sepA, sepR, ca, cb, show a.length = 0 by omega]
    · (refine cq_cond rfl (fun hb => ?_) (fun hb => ?_) <;> (try simp only [decide_eq_true_eq, decide_eq_false_iff_not, beq_iff_eq, beq_eq_false_iff_ne, bne_iff_ne, bne_eq_false_iff_eq, ne_eq, Bool.not_eq_true', Bool.not_eq_false', Bool.and_eq_true, Bool.or_eq_true, Bool.and_eq_false_iff, Bool.or_eq_false_iff] at hb) <;> (try (exfalso; omega)))
      · refine cq_seq ?_
        refine cq_region ?_
        apply sq_g; exact  g_build (is := []) (xs := []) (vs := []) tb24_0 rfl rfl; exact rfl
        refine sq_s (g_store' rfl rfl rfl rfl rfl rfl) ?_
        refine sq_s (g_store_agg rfl rfl rfl rfl rfl rfl) ?_
        refine sq_s (g_store' rfl rfl rfl rfl rfl rfl) ?_
        refine sq_s (g_store' rfl rfl rfl rfl rfl rfl) ?_
        refine sq_nil ?_
        refine sq_then ?_
        refine cq_ret ?_
        refine sq_then_ret ?_
        refine sq_m (sq_resN (rvs := [_, _, _, _]) (τs := [vb false, pp ⟨0, 0⟩, vi 0, vi 13]) rfl rfl ⟨.cell rfl rfl rfl, .agg (us := [_, _]) rfl rfl rfl rfl, .cell rfl rfl rfl, .cell rfl rfl rfl, trivial⟩ ?_)
        simp [sepA, sepR, ca, cb, show b.length = 0 by omega]
      · have h0a : 0 < a.length := by omega
        have h0b : 0 < b.length := by omega
        have sa := chk_sm ca
        have sb := chk_sm cb
        have na := chk_len ca
        have nb := chk_len cb
        refine cq_skip ?_
        refine sq_then ?_
        refine cq_seq ?_
        refine cq_seq ?_
        refine cq_region ?_
        apply sq_g; exact g_load rfl rfl rfl; exact rfl
        apply sq_g; exact g_load rfl rfl rfl; exact rfl
        apply sq_g; exact g_call (wayf_c a b) rfl; exact rfl
        refine sq_nil ?_
        refine sq_then ?_
        refine cq_block ?_
        refine cq_range (own := true) (V := Vpt) (xs := encW (ways a b)) rfl (way_c a b sa sb na nb) [11, 12, 40, 41, 42, 43, 44, 45, 46, 47, 48, 49, 50, 51, 52, 53, 54, 55, 56, 57] [(2, .av (lp a)), (3, .av (lp b)), (4, .own 10 0), (5, .own 11 0), (6, .own 12 0), (7, .own 13 0), (39, .av (wcl a b))] (fun _ => sepO false ⟨0, 0⟩ 0 0)
          (fun pre => ∀ x ∈ pre, splits a b (decP x) = false) (fun pre _ => sepO true (lastV pre) (top a (lastV pre)) 0) (fun pre c => c = .ret ∧ ∃ l d, pre = l ++ [encP d] ∧ (∀ x ∈ l, splits a b (decP x) = false) ∧ splits a b d = true)
          (fun x => [(11, .av (bp (decP x)))]) (ent ⟨.refl _, .refl _, .refl _, .refl _, .refl _, .refl _, .refl _, trivial⟩ ⟨⟨_, rfl, .refl _⟩, ⟨_, rfl, .refl _⟩, ⟨_, rfl, .refl _⟩, ⟨_, rfl, .refl _⟩, trivial⟩) (by simp) rfl rfl rfl (by simp) (fun x ⟨d, _, e⟩ => by rw [e]; rfl) (fun x => rfl) (fun x => rfl) (fun _ pre => ⟨rfl, fun r => Iff.rfl⟩) (fun h => by cases h) ?_ ?_ ?_ ?_
        · rintro l a0 w0 Z0 keep pre x ⟨d, hd, rfl⟩ hφ
          simp only [psT, encP, List.cons_append, List.nil_append, Array.toList]
          refine cq_region ?_
          refine sq_v (f_alloc 14 rfl) rfl ?_
          refine sq_s (g_store_agg rfl rfl rfl rfl rfl rfl) ?_
          refine sq_nil ?_
          exact sq_ass ((ent_freezec 11 14 (fun k => .val ([Go.Value.int .i64 d.x, .int .i64 d.y].getD k Go.undef)) rfl rfl rfl).trans (ent ⟨.refl _, .refl _, .refl _, .refl _, .refl _, .refl _, .refl _, .refl _, trivial⟩ ⟨⟨_, rfl, .refl _⟩, ⟨_, rfl, .refl _⟩, ⟨_, rfl, .refl _⟩, ⟨_, rfl, .refl _⟩, trivial⟩))
        · rintro l a0 w0 Z0 keep pre x ⟨d, hd, rfl⟩ hφ hlen
          have h1 : -4500000000000000000 ≤ top b (neg d) ∧ top b (neg d) ≤ 4500000000000000000 := top_bd sb (neg_bd hd) b.length
          simp only [List.cons_append, List.nil_append, decP_enc]
          refine cq_block ?_
          refine cq_seq ?_
          refine cq_region ?_
          apply sq_g; exact g_load rfl rfl rfl; exact rfl
          apply sq_g; exact g_load_agg (us := [.int _ _, .int _ _]) rfl rfl rfl rfl; exact rfl
          apply sq_g; exact g_call (htop_c a d sa hd h0a na) rfl; exact rfl
          apply sq_g; exact g_assign (s := .av (.val (.int _ _))) rfl; exact rfl
          refine sq_nil ?_
          refine sq_then ?_
          refine cq_seq ?_
          refine cq_region ?_
          apply sq_g; exact g_move (s := .av (.val (.int _ _))) rfl; exact rfl
          apply sq_g; exact g_load rfl rfl rfl; exact rfl
          apply sq_g; exact g_field rfl; exact rfl
          apply sq_g; exact g_load (τ := .val (.int _ _)) rfl rfl rfl; exact rfl
          apply sq_g; exact g_neg rfl (by omega); exact rfl
          apply sq_g; exact g_field rfl; exact rfl
          apply sq_g; exact g_load (τ := .val (.int _ _)) rfl rfl rfl; exact rfl
          apply sq_g; exact g_neg rfl (by omega); exact rfl
          apply sq_g; exact g_build (is := [0, 1]) (xs := [_, _]) (vs := [_, _]) (tb24 _ _) rfl rfl; exact rfl
          apply sq_g; exact g_call (htop_c b (neg d) sb (neg_bd hd) h0b nb) rfl; exact rfl
          apply sq_g; exact g_neg rfl (by omega); exact rfl
          apply sq_g; exact g_cmp rfl rfl rfl; exact rfl
          refine sq_nil ?_
          refine sq_then ?_
          (refine cq_cond rfl (fun hb => ?_) (fun hb => ?_) <;> (try simp only [decide_eq_true_eq, decide_eq_false_iff_not, beq_iff_eq, beq_eq_false_iff_ne, bne_iff_ne, bne_eq_false_iff_eq, ne_eq, Bool.not_eq_true', Bool.not_eq_false', Bool.and_eq_true, Bool.or_eq_true, Bool.and_eq_false_iff, Bool.or_eq_false_iff] at hb) <;> (try (exfalso; omega)))
          · refine cq_seq ?_
            refine cq_drawn ?_
            apply dq_g; exact g_load_agg (us := [.int _ _, .int _ _]) rfl rfl rfl rfl; exact rfl
            apply dq_g; exact g_move (s := .av (.val (.int _ _))) rfl; exact rfl
            refine dq_s (g_store' rfl rfl rfl rfl rfl rfl) ?_
            refine dq_s (g_store_agg rfl rfl rfl rfl rfl rfl) ?_
            refine dq_s (g_store' rfl rfl rfl rfl rfl rfl) ?_
            refine dq_s (g_store' rfl rfl rfl rfl rfl rfl) ?_
            refine dq_nil tm rfl ?_
            refine sq_then ?_
            refine cq_ret ?_
            refine sq_inBlock_ret ?_
            exact sq_rnd_ret ⟨rfl, pre, d, rfl, hφ, by simp [splits]; omega⟩ (ent ⟨.refl _, .refl _, .refl _, .refl _, .refl _, .refl _, .refl _, trivial⟩ ⟨⟨_, rfl, .refl _⟩, ⟨_, rfl, by rw [lastV_app]; exact .refl _⟩, ⟨_, rfl, by rw [lastV_app]; exact .refl _⟩, ⟨_, rfl, .refl _⟩, trivial⟩)
          · refine cq_skip ?_
            refine sq_inBlock ?_
            exact sq_rnd (by
              intro x hx
              rcases List.mem_append.1 hx with hx | hx
              · exact hφ x hx
              · simp only [List.mem_singleton] at hx
                subst hx
                rw [decP_enc]; simp [splits]; omega) (ent ⟨.refl _, .refl _, .refl _, .refl _, .refl _, .refl _, .refl _, trivial⟩ ⟨⟨_, rfl, .refl _⟩, ⟨_, rfl, .refl _⟩, ⟨_, rfl, .refl _⟩, ⟨_, rfl, .refl _⟩, trivial⟩)
        · intro D w2 hA hφ
          refine sq_then ?_
          refine cq_seq ?_
          refine cq_region ?_
          apply sq_g; exact  g_build (is := []) (xs := []) (vs := []) tb24_0 rfl rfl; exact rfl
          refine sq_s (g_store' rfl rfl rfl rfl rfl rfl) ?_
          refine sq_s (g_store_agg rfl rfl rfl rfl rfl rfl) ?_
          refine sq_s (g_store' rfl rfl rfl rfl rfl rfl) ?_
          refine sq_s (g_store' rfl rfl rfl rfl rfl rfl) ?_
          refine sq_nil ?_
          refine sq_then ?_
          refine cq_ret ?_
          refine sq_after hA (sq_resN (rvs := [_, _, _, _]) (τs := [vb false, pp ⟨0, 0⟩, vi 0, vi 0]) rfl rfl ⟨.cell rfl rfl rfl, .agg (us := [_, _]) rfl rfl rfl rfl, .cell rfl rfl rfl, .cell rfl rfl rfl, trivial⟩ ?_)
          have hf : (ways a b).find? (splits a b) = none := by
            rw [List.find?_eq_none]
            intro d hd
            have := hφ (encP d) (List.mem_map_of_mem hd)
            rw [decP_enc] at this
            simp [this]
          simp [sepA, sepR, ca, cb, show a.length ≠ 0 by omega, show b.length ≠ 0 by omega, hf]
        · rintro D w2 k c hA hk ⟨rfl, l, d, he, hφ, hs⟩
          refine .inl ⟨rfl, ?_⟩
          obtain ⟨q, hq⟩ : ∃ q, ways a b = (ways a b).take k ++ d :: q := by
            have h1 : encW ((ways a b).take (k + 1)) = l ++ [encP d] := by rw [← he, encW, encW, List.map_take]
            have hk' : k < (ways a b).length := by simpa [encW] using hk
            rw [List.take_succ_eq_append_getElem hk'] at h1
            simp only [encW, List.map_append, List.map_cons, List.map_nil] at h1
            have h2 := (List.append_inj' h1 rfl).2
            have h3 : (ways a b)[k] = d := by
              have := congrArg (fun l => decP (l.getD 0 [])) h2
              simpa [decP_enc] using this
            refine ⟨(ways a b).drop (k + 1), ?_⟩
            rw [← h3, ← List.drop_eq_getElem_cons hk', List.take_append_drop]
          have hf : (ways a b).find? (splits a b) = some d := by
            rw [hq, List.find?_append, List.find?_cons_of_pos hs]
            have : ((ways a b).take k).find? (splits a b) = none := by
              rw [List.find?_eq_none]
              intro x hx
              have hk' : k < (ways a b).length := by simpa [encW] using hk
              have h1 : encW ((ways a b).take (k + 1)) = l ++ [encP d] := by rw [← he, encW, encW, List.map_take]
              rw [List.take_succ_eq_append_getElem hk'] at h1
              simp only [encW, List.map_append, List.map_cons, List.map_nil] at h1
              have h2 := (List.append_inj' h1 rfl).1
              have := hφ (encP x) (by rw [← h2]; exact List.mem_map_of_mem hx)
              rw [decP_enc] at this
              simp [this]
            rw [this]; rfl
          rw [he, lastV_app]
          refine sq_inBlock_ret ?_
          refine sq_then_ret ?_
          refine sq_after hA (sq_resN (rvs := [_, _, _, _]) (τs := [vb true, pp d, vi (top a d), vi 0]) rfl rfl ⟨.cell rfl rfl rfl, .agg (us := [_, _]) rfl rfl rfl rfl, .cell rfl rfl rfl, .cell rfl rfl rfl, trivial⟩ ?_)
          simp [sepA, sepR, ca, cb, show a.length ≠ 0 by omega, show b.length ≠ 0 by omega, hf]
end Go.Proofs.Ytacepcnbgacipaa
