/- A part of the proof that the law returns true at every input and that the input reads behind the call as it read before; this part states nothing of its own that needs a condition of the input. -/
import Derived.Test.YtacepcnbgacipaaFe
set_option linter.unusedVariables false
set_option linter.unusedSimpArgs false
namespace Go.Proofs.Ytacepcnbgacipaa
open Go Go.Vc Go.RowKit
set_option maxHeartbeats 4000000
/-! KDQ -/
def fcq (l : List Pt) (i j a b : Nat) : Bool := !([(gp l a).x, (gp l a).y] == [(gp l b).x, (gp l b).y]) && ((holds (tops l (nrm (gp l a) (gp l b))) i && holds (tops l (nrn (gp l a) (gp l b))) j) || (holds (tops l (nrn (gp l a) (gp l b))) i && holds (tops l (nrm (gp l a) (gp l b))) j))
def fac (l : List Pt) (i j : Nat) : Bool := (List.range l.length).any fun a => (List.range a).any fun b => fcq l i j a b
theorem neq_pt (p q : Pt) : ([p.x, p.y] == [q.x, q.y]) = decide (p = q) := by
  rw [Bool.eq_iff_iff, beq_iff_eq, decide_eq_true_eq, pt_list]
theorem fac_true {l : List Pt} {i j a b : Nat} (ha : a < l.length) (hb : b < a) (h : fcq l i j a b = true) : true = fac l i j := by
  symm
  unfold fac
  rw [List.any_eq_true]
  refine ⟨a, List.mem_range.2 ha, ?_⟩
  rw [List.any_eq_true]
  exact ⟨b, List.mem_range.2 hb, h⟩
theorem any_false {n : Nat} {p : Nat → Bool} (h : ∀ k, k < n → p k = false) : (List.range n).any p = false := by
  rw [List.any_eq_false]
  intro x hx
  rw [h x (List.mem_range.1 hx)]; simp
theorem fac_c (l : List Pt) (i j : Nat) (sm : ∀ i, SmP (gp l i)) (h0 : 0 < l.length) (hn : l.length ≤ 64) : CtrA Try.prog 96 [pts l, vi i, vi j] (vb (fac l i j)) := by
  refine ctrA _ Try.func96 rfl rfl Try.ntmps96 rfl fun w Z => ?_
  simp only [initT, List.map_cons, List.map_nil, Nat.zero_add, Nat.reduceAdd]
  refine cq_seq ?_
  refine cq_region ?_
  apply sq_g; exact g_assign (s := .av (.val (.bool _))) rfl; exact rfl
  refine sq_nil ?_
  refine sq_then ?_
  refine cq_seq ?_
  refine cq_seq ?_
  refine cq_region ?_
  apply sq_g; exact g_assign (s := .av (.val (.int _ _))) rfl; exact rfl
  refine sq_nil ?_
  refine sq_then ?_
  refine cq_block ?_
  refine cq_loop (γ := Nat) (fun a => [(0, .av (pts l)), (1, .av (vi i)), (2, .av (vi j)), (7, .av (vi a))]) (fun _ => []) (fun a => a ≤ l.length ∧ ∀ a', a' < a → (List.range a').any (fun b => fcq l i j a' b) = false) (fun a => l.length - a) 0 ⟨Nat.zero_le _, by omega⟩ (ent ⟨.refl _, .refl _, .refl _, .refl _, trivial⟩ trivial) ?_
  rintro a ⟨ha, hall⟩
  refine cq_seq ?_
  refine cq_seq ?_
  refine cq_region ?_
  apply sq_g; exact g_move (s := .av (.val (.int _ _))) rfl; exact rfl
  apply sq_g; exact g_move (s := .av _) rfl; exact rfl
  apply sq_g; exact g_len rfl; exact rfl
  apply sq_g; exact g_cmp rfl rfl rfl; exact rfl
  refine sq_nil ?_
  refine sq_then ?_
  (refine cq_cond rfl (fun hb => ?_) (fun hb => ?_) <;> (try simp only [decide_eq_true_eq, decide_eq_false_iff_not, beq_iff_eq, beq_eq_false_iff_ne, bne_iff_ne, bne_eq_false_iff_eq, ne_eq, Bool.not_eq_true', Bool.not_eq_false', Bool.and_eq_true, Bool.or_eq_true, Bool.and_eq_false_iff, Bool.or_eq_false_iff] at hb) <;> (try (exfalso; omega)))
  · have hal : a < l.length := by omega
    refine cq_skip ?_
    refine sq_then ?_
    refine cq_seq ?_
    refine cq_block ?_
    refine cq_seq ?_
    refine cq_region ?_
    apply sq_g; exact g_assign (s := .av (.val (.int _ _))) rfl; exact rfl
    refine sq_nil ?_
    refine sq_then ?_
    refine cq_block ?_
    refine cq_loop (γ := Nat) (fun b => [(0, .av (pts l)), (1, .av (vi i)), (2, .av (vi j)), (7, .av (vi a)), (8, .av (vi b))]) (fun _ => []) (fun b => b ≤ a ∧ ∀ b', b' < b → fcq l i j a b' = false) (fun b => a - b) 0 ⟨Nat.zero_le _, by omega⟩ (ent ⟨.refl _, .refl _, .refl _, .refl _, .refl _, trivial⟩ trivial) ?_
    rintro b ⟨hb1, hall2⟩
    refine cq_seq ?_
    refine cq_seq ?_
    refine cq_region ?_
    apply sq_g; exact g_move (s := .av (.val (.int _ _))) rfl; exact rfl
    apply sq_g; exact g_move (s := .av (.val (.int _ _))) rfl; exact rfl
    apply sq_g; exact g_cmp rfl rfl rfl; exact rfl
    refine sq_nil ?_
    refine sq_then ?_
    (refine cq_cond rfl (fun hb => ?_) (fun hb => ?_) <;> (try simp only [decide_eq_true_eq, decide_eq_false_iff_not, beq_iff_eq, beq_eq_false_iff_ne, bne_iff_ne, bne_eq_false_iff_eq, ne_eq, Bool.not_eq_true', Bool.not_eq_false', Bool.and_eq_true, Bool.or_eq_true, Bool.and_eq_false_iff, Bool.or_eq_false_iff] at hb) <;> (try (exfalso; omega)))
    · have hba : b < a := by omega
      have hbl : b < l.length := by omega
      have c1 : CtrA Try.prog 98 [pp (gp l a), pp (gp l b)] (.sl 2 2 (pf [nrm (gp l a) (gp l b), nrn (gp l a) (gp l b)])) := norm_c (gp l a) (gp l b) (sm a) (sm b)
      have d1 := (rtops_c l (nrm (gp l a) (gp l b)) sm (nrm_bd (sm a) (sm b)) h0 hn).ro
      have d2 := (rtops_c l (nrn (gp l a) (gp l b)) sm (nrn_bd (sm a) (sm b)) h0 hn).ro
      have t1 := topsTo_len l (nrm (gp l a) (gp l b)) l.length
      have t2 := topsTo_len l (nrn (gp l a) (gp l b)) l.length
      have e1 := holds_c (tops l (nrm (gp l a) (gp l b))) i (by unfold tops; omega)
      have e2 := holds_c (tops l (nrn (gp l a) (gp l b))) j (by unfold tops; omega)
      have e3 := holds_c (tops l (nrn (gp l a) (gp l b))) i (by unfold tops; omega)
      have e4 := holds_c (tops l (nrm (gp l a) (gp l b))) j (by unfold tops; omega)
      focus
        refine cq_skip ?_
        refine sq_then ?_
        refine cq_seq ?_
        refine cq_block ?_
        refine cq_seq ?_
        refine cq_drawn ?_
        apply dq_g; exact g_move (s := .av _) rfl; exact rfl
        apply dq_g; exact g_move (s := .av (.val (.int _ _))) rfl; exact rfl
        apply dq_g; exact g_index rfl rfl rfl (by omega); exact rfl
        apply dq_g; exact g_load_agg (us := [.int _ _, .int _ _]) rfl rfl rfl rfl; exact rfl
        apply dq_g; exact g_move (s := .av _) rfl; exact rfl
        apply dq_g; exact g_move (s := .av (.val (.int _ _))) rfl; exact rfl
        apply dq_g; exact g_index rfl rfl rfl (by omega); exact rfl
        apply dq_g; exact g_load_agg (us := [.int _ _, .int _ _]) rfl rfl rfl rfl; exact rfl
        apply dq_g; exact g_call (c1) rfl; exact rfl
        apply dq_g; exact g_assign (s := .av _) rfl; exact rfl
        refine dq_nil tm (by kernel_rfl) ?_
        refine sq_then ?_
        refine cq_seq ?_
        refine cq_drawn ?_
        apply dq_g; exact g_move (s := .av _) rfl; exact rfl
        apply dq_g; exact g_move (s := .av (.val (.int _ _))) rfl; exact rfl
        apply dq_g; exact g_index rfl rfl rfl (by omega); exact rfl
        apply dq_g; exact g_load_agg (us := [.int _ _, .int _ _]) rfl rfl rfl rfl; exact rfl
        apply dq_g; exact g_move (s := .av _) rfl; exact rfl
        apply dq_g; exact g_move (s := .av (.val (.int _ _))) rfl; exact rfl
        apply dq_g; exact g_index rfl rfl rfl (by omega); exact rfl
        apply dq_g; exact g_load_agg (us := [.int _ _, .int _ _]) rfl rfl rfl rfl; exact rfl
        apply dq_g; exact g_neq (xs := [_, _]) (ys := [_, _]) rfl rfl rfl rfl; exact rfl
        apply dq_g; exact g_move (s := .av (.val (.bool _))) rfl; exact rfl
        refine dq_split rfl rfl (fun hb => ?_) (fun hb => ?_) <;> (try simp only [decide_eq_true_eq, decide_eq_false_iff_not, beq_iff_eq, beq_eq_false_iff_ne, bne_iff_ne, bne_eq_false_iff_eq, ne_eq, Bool.not_eq_true', Bool.not_eq_false', Bool.and_eq_true, Bool.or_eq_true, Bool.and_eq_false_iff, Bool.or_eq_false_iff] at hb) <;> (try (exfalso; omega))
        apply dq_on; exact g_move (s := .av _) rfl; exact rfl; exact rfl; exact rfl
        apply dq_on; exact g_move (s := .av _) rfl; exact rfl; exact rfl; exact rfl
        apply dq_on; exact g_index rfl rfl (Int.toNat_of_nonneg (by omega)).symm (by omega); exact rfl; exact rfl; exact rfl
        apply dq_on; exact g_load_agg (us := [.int _ _, .int _ _]) rfl rfl rfl rfl; exact rfl; exact rfl; exact rfl
        apply dq_on; exact g_call (d1) rfl; exact rfl; exact rfl; exact rfl
        apply dq_on; exact g_move (s := .av (.val (.int _ _))) rfl; exact rfl; exact rfl; exact rfl
        apply dq_on; exact g_call (e1) rfl; exact rfl; exact rfl; exact rfl
        apply dq_on; exact g_move (s := .av (.val (.bool _))) rfl; exact rfl; exact rfl; exact rfl
        refine dq_split rfl rfl (fun hb => ?_) (fun hb => ?_) <;> (try simp only [decide_eq_true_eq, decide_eq_false_iff_not, beq_iff_eq, beq_eq_false_iff_ne, bne_iff_ne, bne_eq_false_iff_eq, ne_eq, Bool.not_eq_true', Bool.not_eq_false', Bool.and_eq_true, Bool.or_eq_true, Bool.and_eq_false_iff, Bool.or_eq_false_iff] at hb) <;> (try (exfalso; omega))
        apply dq_on; exact g_move (s := .av _) rfl; exact rfl; exact rfl; exact rfl
        apply dq_on; exact g_move (s := .av _) rfl; exact rfl; exact rfl; exact rfl
        apply dq_on; exact g_index rfl rfl (Int.toNat_of_nonneg (by omega)).symm (by omega); exact rfl; exact rfl; exact rfl
        apply dq_on; exact g_load_agg (us := [.int _ _, .int _ _]) rfl rfl rfl rfl; exact rfl; exact rfl; exact rfl
        apply dq_on; exact g_call (d2) rfl; exact rfl; exact rfl; exact rfl
        apply dq_on; exact g_move (s := .av (.val (.int _ _))) rfl; exact rfl; exact rfl; exact rfl
        apply dq_on; exact g_call (e2) rfl; exact rfl; exact rfl; exact rfl
        apply dq_on; exact g_pick (s := .av (.val (.bool _))) rfl rfl; exact rfl; exact rfl; exact rfl
        apply dq_on; exact g_move (s := .av (.val (.bool _))) rfl; exact rfl; exact rfl; exact rfl
        refine dq_split rfl rfl (fun hb => ?_) (fun hb => ?_) <;> (try simp only [decide_eq_true_eq, decide_eq_false_iff_not, beq_iff_eq, beq_eq_false_iff_ne, bne_iff_ne, bne_eq_false_iff_eq, ne_eq, Bool.not_eq_true', Bool.not_eq_false', Bool.and_eq_true, Bool.or_eq_true, Bool.and_eq_false_iff, Bool.or_eq_false_iff] at hb) <;> (try (exfalso; omega))
        refine dq_off nofun rfl rfl rfl rfl ?_
        refine dq_off nofun rfl rfl rfl rfl ?_
        refine dq_off nofun rfl rfl rfl rfl ?_
        refine dq_off nofun rfl rfl rfl rfl ?_
        refine dq_off nofun rfl rfl rfl rfl ?_
        refine dq_off nofun rfl rfl rfl rfl ?_
        refine dq_off nofun rfl rfl rfl rfl ?_
        refine dq_off nofun rfl rfl rfl rfl ?_
        refine dq_offu nofun rfl rfl rfl ?_
        refine dq_offu nofun rfl rfl rfl ?_
        refine dq_offu nofun rfl rfl rfl ?_
        refine dq_offu nofun rfl rfl rfl ?_
        refine dq_offu nofun rfl rfl rfl ?_
        refine dq_offu nofun rfl rfl rfl ?_
        refine dq_offu nofun rfl rfl rfl ?_
        refine dq_off nofun rfl rfl rfl rfl ?_
        apply dq_on; exact g_pick (s := .av (.val (.bool _))) rfl rfl; exact rfl; exact rfl; exact rfl
        apply dq_g; exact g_pick (s := .av (.val (.bool _))) rfl rfl; exact rfl
        refine dq_nil tm (by kernel_rfl) ?_
        refine sq_then ?_
        refine cq_cond_t rfl ?_
        refine cq_seq ?_
        refine cq_region ?_
        apply sq_g; exact g_assign (s := .av (.val (.bool _))) rfl; exact rfl
        refine sq_nil ?_
        refine sq_then ?_
        refine cq_ret ?_
        refine sq_inBlock_ret ?_
        refine sq_then_ret ?_
        refine sq_then_ret ?_
        refine sq_inBlock_ret ?_
        refine sq_inBlock_ret ?_
        refine sq_then_ret ?_
        refine sq_then_ret ?_
        refine sq_inBlock_ret ?_
        refine sq_then_ret ?_
        rotate_left
        apply dq_on; exact g_move (s := .av _) rfl; exact rfl; exact rfl; exact rfl
        apply dq_on; exact g_move (s := .av _) rfl; exact rfl; exact rfl; exact rfl
        apply dq_on; exact g_index rfl rfl (Int.toNat_of_nonneg (by omega)).symm (by omega); exact rfl; exact rfl; exact rfl
        apply dq_on; exact g_load_agg (us := [.int _ _, .int _ _]) rfl rfl rfl rfl; exact rfl; exact rfl; exact rfl
        apply dq_on; exact g_call (d2) rfl; exact rfl; exact rfl; exact rfl
        apply dq_on; exact g_move (s := .av (.val (.int _ _))) rfl; exact rfl; exact rfl; exact rfl
        apply dq_on; exact g_call (e3) rfl; exact rfl; exact rfl; exact rfl
        apply dq_on; exact g_move (s := .av (.val (.bool _))) rfl; exact rfl; exact rfl; exact rfl
        refine dq_split rfl rfl (fun hb => ?_) (fun hb => ?_) <;> (try simp only [decide_eq_true_eq, decide_eq_false_iff_not, beq_iff_eq, beq_eq_false_iff_ne, bne_iff_ne, bne_eq_false_iff_eq, ne_eq, Bool.not_eq_true', Bool.not_eq_false', Bool.and_eq_true, Bool.or_eq_true, Bool.and_eq_false_iff, Bool.or_eq_false_iff] at hb) <;> (try (exfalso; omega))
        apply dq_on; exact g_move (s := .av _) rfl; exact rfl; exact rfl; exact rfl
        apply dq_on; exact g_move (s := .av _) rfl; exact rfl; exact rfl; exact rfl
        apply dq_on; exact g_index rfl rfl (Int.toNat_of_nonneg (by omega)).symm (by omega); exact rfl; exact rfl; exact rfl
        apply dq_on; exact g_load_agg (us := [.int _ _, .int _ _]) rfl rfl rfl rfl; exact rfl; exact rfl; exact rfl
        apply dq_on; exact g_call (d1) rfl; exact rfl; exact rfl; exact rfl
        apply dq_on; exact g_move (s := .av (.val (.int _ _))) rfl; exact rfl; exact rfl; exact rfl
        apply dq_on; exact g_call (e4) rfl; exact rfl; exact rfl; exact rfl
        apply dq_on; exact g_pick (s := .av (.val (.bool _))) rfl rfl; exact rfl; exact rfl; exact rfl
        apply dq_on; exact g_pick (s := .av (.val (.bool _))) rfl rfl; exact rfl; exact rfl; exact rfl
        apply dq_g; exact g_pick (s := .av (.val (.bool _))) rfl rfl; exact rfl
        refine dq_nil tm (by kernel_rfl) ?_
        refine sq_then ?_
        rotate_left
        refine dq_off nofun rfl rfl rfl rfl ?_
        refine dq_off nofun rfl rfl rfl rfl ?_
        refine dq_off nofun rfl rfl rfl rfl ?_
        refine dq_off nofun rfl rfl rfl rfl ?_
        refine dq_off nofun rfl rfl rfl rfl ?_
        refine dq_off nofun rfl rfl rfl rfl ?_
        refine dq_off nofun rfl rfl rfl rfl ?_
        apply dq_on; exact g_pick (s := .av (.val (.bool _))) rfl rfl; exact rfl; exact rfl; exact rfl
        apply dq_on; exact g_pick (s := .av (.val (.bool _))) rfl rfl; exact rfl; exact rfl; exact rfl
        apply dq_g; exact g_pick (s := .av (.val (.bool _))) rfl rfl; exact rfl
        refine dq_nil tm (by kernel_rfl) ?_
        refine sq_then ?_
        refine cq_cond_f rfl ?_
        refine cq_skip ?_
        refine sq_then ?_
        refine cq_region ?_
        apply sq_g; exact g_move (s := .av (.val (.int _ _))) rfl; exact rfl
        apply sq_g; exact g_arith rfl rfl rfl (by omega); exact rfl
        apply sq_g; exact g_assign (s := .av (.val (.int _ _))) rfl; exact rfl
        refine sq_nil ?_
        rotate_left
        refine dq_off nofun rfl rfl rfl rfl ?_
        refine dq_off nofun rfl rfl rfl rfl ?_
        refine dq_off nofun rfl rfl rfl rfl ?_
        refine dq_off nofun rfl rfl rfl rfl ?_
        refine dq_off nofun rfl rfl rfl rfl ?_
        refine dq_off nofun rfl rfl rfl rfl ?_
        refine dq_off nofun rfl rfl rfl rfl ?_
        apply dq_on; exact g_pick (s := .av (.val (.bool _))) rfl rfl; exact rfl; exact rfl; exact rfl
        apply dq_on; exact g_move (s := .av (.val (.bool _))) rfl; exact rfl; exact rfl; exact rfl
        apply dq_on; exact g_move (s := .av _) rfl; exact rfl; exact rfl; exact rfl
        apply dq_on; exact g_move (s := .av _) rfl; exact rfl; exact rfl; exact rfl
        apply dq_on; exact g_index rfl rfl (Int.toNat_of_nonneg (by omega)).symm (by omega); exact rfl; exact rfl; exact rfl
        apply dq_on; exact g_load_agg (us := [.int _ _, .int _ _]) rfl rfl rfl rfl; exact rfl; exact rfl; exact rfl
        apply dq_on; exact g_call (d2) rfl; exact rfl; exact rfl; exact rfl
        apply dq_on; exact g_move (s := .av (.val (.int _ _))) rfl; exact rfl; exact rfl; exact rfl
        apply dq_on; exact g_call (e3) rfl; exact rfl; exact rfl; exact rfl
        apply dq_on; exact g_move (s := .av (.val (.bool _))) rfl; exact rfl; exact rfl; exact rfl
        refine dq_split rfl rfl (fun hb => ?_) (fun hb => ?_) <;> (try simp only [decide_eq_true_eq, decide_eq_false_iff_not, beq_iff_eq, beq_eq_false_iff_ne, bne_iff_ne, bne_eq_false_iff_eq, ne_eq, Bool.not_eq_true', Bool.not_eq_false', Bool.and_eq_true, Bool.or_eq_true, Bool.and_eq_false_iff, Bool.or_eq_false_iff] at hb) <;> (try (exfalso; omega))
        apply dq_on; exact g_move (s := .av _) rfl; exact rfl; exact rfl; exact rfl
        apply dq_on; exact g_move (s := .av _) rfl; exact rfl; exact rfl; exact rfl
        apply dq_on; exact g_index rfl rfl (Int.toNat_of_nonneg (by omega)).symm (by omega); exact rfl; exact rfl; exact rfl
        apply dq_on; exact g_load_agg (us := [.int _ _, .int _ _]) rfl rfl rfl rfl; exact rfl; exact rfl; exact rfl
        apply dq_on; exact g_call (d1) rfl; exact rfl; exact rfl; exact rfl
        apply dq_on; exact g_move (s := .av (.val (.int _ _))) rfl; exact rfl; exact rfl; exact rfl
        apply dq_on; exact g_call (e4) rfl; exact rfl; exact rfl; exact rfl
        apply dq_on; exact g_pick (s := .av (.val (.bool _))) rfl rfl; exact rfl; exact rfl; exact rfl
        apply dq_on; exact g_pick (s := .av (.val (.bool _))) rfl rfl; exact rfl; exact rfl; exact rfl
        apply dq_g; exact g_pick (s := .av (.val (.bool _))) rfl rfl; exact rfl
        refine dq_nil tm (by kernel_rfl) ?_
        refine sq_then ?_
        rotate_left
        refine dq_off nofun rfl rfl rfl rfl ?_
        refine dq_off nofun rfl rfl rfl rfl ?_
        refine dq_off nofun rfl rfl rfl rfl ?_
        refine dq_off nofun rfl rfl rfl rfl ?_
        refine dq_off nofun rfl rfl rfl rfl ?_
        refine dq_off nofun rfl rfl rfl rfl ?_
        refine dq_off nofun rfl rfl rfl rfl ?_
        apply dq_on; exact g_pick (s := .av (.val (.bool _))) rfl rfl; exact rfl; exact rfl; exact rfl
        apply dq_on; exact g_pick (s := .av (.val (.bool _))) rfl rfl; exact rfl; exact rfl; exact rfl
        apply dq_g; exact g_pick (s := .av (.val (.bool _))) rfl rfl; exact rfl
        refine dq_nil tm (by kernel_rfl) ?_
        refine sq_then ?_
        refine cq_cond_f rfl ?_
        refine cq_skip ?_
        refine sq_then ?_
        refine cq_region ?_
        apply sq_g; exact g_move (s := .av (.val (.int _ _))) rfl; exact rfl
        apply sq_g; exact g_arith rfl rfl rfl (by omega); exact rfl
        apply sq_g; exact g_assign (s := .av (.val (.int _ _))) rfl; exact rfl
        refine sq_nil ?_
        rotate_left
        refine dq_off nofun rfl rfl rfl rfl ?_
        refine dq_off nofun rfl rfl rfl rfl ?_
        refine dq_off nofun rfl rfl rfl rfl ?_
        refine dq_off nofun rfl rfl rfl rfl ?_
        refine dq_off nofun rfl rfl rfl rfl ?_
        refine dq_off nofun rfl rfl rfl rfl ?_
        refine dq_off nofun rfl rfl rfl rfl ?_
        refine dq_off nofun rfl rfl rfl rfl ?_
        refine dq_offu nofun rfl rfl rfl ?_
        refine dq_offu nofun rfl rfl rfl ?_
        refine dq_offu nofun rfl rfl rfl ?_
        refine dq_offu nofun rfl rfl rfl ?_
        refine dq_offu nofun rfl rfl rfl ?_
        refine dq_offu nofun rfl rfl rfl ?_
        refine dq_offu nofun rfl rfl rfl ?_
        refine dq_off nofun rfl rfl rfl rfl ?_
        refine dq_off nofun rfl rfl rfl rfl ?_
        refine dq_offu nofun rfl rfl rfl ?_
        refine dq_offu nofun rfl rfl rfl ?_
        refine dq_offu nofun rfl rfl rfl ?_
        refine dq_offu nofun rfl rfl rfl ?_
        refine dq_offu nofun rfl rfl rfl ?_
        refine dq_offu nofun rfl rfl rfl ?_
        refine dq_offu nofun rfl rfl rfl ?_
        refine dq_offu nofun rfl rfl rfl ?_
        refine dq_offu nofun rfl rfl rfl ?_
        refine dq_offu nofun rfl rfl rfl ?_
        refine dq_offu nofun rfl rfl rfl ?_
        refine dq_offu nofun rfl rfl rfl ?_
        refine dq_offu nofun rfl rfl rfl ?_
        refine dq_offu nofun rfl rfl rfl ?_
        refine dq_offu nofun rfl rfl rfl ?_
        refine dq_offu nofun rfl rfl rfl ?_
        refine dq_off nofun rfl rfl rfl rfl ?_
        apply dq_g; exact g_pick (s := .av (.val (.bool _))) rfl rfl; exact rfl
        refine dq_nil tm (by kernel_rfl) ?_
        refine sq_then ?_
        refine cq_cond_f rfl ?_
        refine cq_skip ?_
        refine sq_then ?_
        refine cq_region ?_
        apply sq_g; exact g_move (s := .av (.val (.int _ _))) rfl; exact rfl
        apply sq_g; exact g_arith rfl rfl rfl (by omega); exact rfl
        apply sq_g; exact g_assign (s := .av (.val (.int _ _))) rfl; exact rfl
        refine sq_nil ?_
        rotate_left
      · exact sq_res1 rfl (.tmp rfl) (congrArg vb (fac_true (i := i) (j := j) hal hba (by have hne := ‹¬ [(gp l a).x, (gp l a).y] = [(gp l b).x, (gp l b).y]›; simp only [List.cons.injEq, and_true] at hne; unfold fcq; simp [*]; omega)))
      · (refine cq_cond rfl (fun hb => ?_) (fun hb => ?_) <;> (try simp only [decide_eq_true_eq, decide_eq_false_iff_not, beq_iff_eq, beq_eq_false_iff_ne, bne_iff_ne, bne_eq_false_iff_eq, ne_eq, Bool.not_eq_true', Bool.not_eq_false', Bool.and_eq_true, Bool.or_eq_true, Bool.and_eq_false_iff, Bool.or_eq_false_iff] at hb) <;> (try (exfalso; omega)))
        · refine cq_seq ?_
          refine cq_region ?_
          apply sq_g; exact g_assign (s := .av (.val (.bool _))) rfl; exact rfl
          refine sq_nil ?_
          refine sq_then ?_
          refine cq_ret ?_
          refine sq_inBlock_ret ?_
          refine sq_then_ret ?_
          refine sq_then_ret ?_
          refine sq_inBlock_ret ?_
          refine sq_inBlock_ret ?_
          refine sq_then_ret ?_
          refine sq_then_ret ?_
          refine sq_inBlock_ret ?_
          refine sq_then_ret ?_
          exact sq_res1 rfl (.tmp rfl) (congrArg vb (fac_true (i := i) (j := j) hal hba (by have hne := ‹¬ [(gp l a).x, (gp l a).y] = [(gp l b).x, (gp l b).y]›; simp only [List.cons.injEq, and_true] at hne; unfold fcq; simp [*]; omega)))
        · refine cq_skip ?_
          refine sq_then ?_
          refine cq_region ?_
          apply sq_g; exact g_move (s := .av (.val (.int _ _))) rfl; exact rfl
          apply sq_g; exact g_arith rfl rfl rfl (by omega); exact rfl
          apply sq_g; exact g_assign (s := .av (.val (.int _ _))) rfl; exact rfl
          refine sq_nil ?_
          exact sq_round (b + 1) ⟨by omega, lt_step hall2 (by unfold fcq; simp [*])⟩ (by omega) (ent ⟨.refl _, .refl _, .refl _, .refl _, .int (by omega), trivial⟩ trivial)
      · exact sq_round (b + 1) ⟨by omega, lt_step hall2 (by unfold fcq; simp [*])⟩ (by omega) (ent ⟨.refl _, .refl _, .refl _, .refl _, .int (by omega), trivial⟩ trivial)
      · (refine cq_cond rfl (fun hb => ?_) (fun hb => ?_) <;> (try simp only [decide_eq_true_eq, decide_eq_false_iff_not, beq_iff_eq, beq_eq_false_iff_ne, bne_iff_ne, bne_eq_false_iff_eq, ne_eq, Bool.not_eq_true', Bool.not_eq_false', Bool.and_eq_true, Bool.or_eq_true, Bool.and_eq_false_iff, Bool.or_eq_false_iff] at hb) <;> (try (exfalso; omega)))
        · refine cq_seq ?_
          refine cq_region ?_
          apply sq_g; exact g_assign (s := .av (.val (.bool _))) rfl; exact rfl
          refine sq_nil ?_
          refine sq_then ?_
          refine cq_ret ?_
          refine sq_inBlock_ret ?_
          refine sq_then_ret ?_
          refine sq_then_ret ?_
          refine sq_inBlock_ret ?_
          refine sq_inBlock_ret ?_
          refine sq_then_ret ?_
          refine sq_then_ret ?_
          refine sq_inBlock_ret ?_
          refine sq_then_ret ?_
          exact sq_res1 rfl (.tmp rfl) (congrArg vb (fac_true (i := i) (j := j) hal hba (by have hne := ‹¬ [(gp l a).x, (gp l a).y] = [(gp l b).x, (gp l b).y]›; simp only [List.cons.injEq, and_true] at hne; unfold fcq; simp [*]; omega)))
        · refine cq_skip ?_
          refine sq_then ?_
          refine cq_region ?_
          apply sq_g; exact g_move (s := .av (.val (.int _ _))) rfl; exact rfl
          apply sq_g; exact g_arith rfl rfl rfl (by omega); exact rfl
          apply sq_g; exact g_assign (s := .av (.val (.int _ _))) rfl; exact rfl
          refine sq_nil ?_
          exact sq_round (b + 1) ⟨by omega, lt_step hall2 (by unfold fcq; simp [*])⟩ (by omega) (ent ⟨.refl _, .refl _, .refl _, .refl _, .int (by omega), trivial⟩ trivial)
      · exact sq_round (b + 1) ⟨by omega, lt_step hall2 (by unfold fcq; simp [*])⟩ (by omega) (ent ⟨.refl _, .refl _, .refl _, .refl _, .int (by omega), trivial⟩ trivial)
      · exact sq_round (b + 1) ⟨by omega, lt_step hall2 (by unfold fcq; simp [*])⟩ (by omega) (ent ⟨.refl _, .refl _, .refl _, .refl _, .int (by omega), trivial⟩ trivial)
    · have : b = a := by omega
      subst this
      refine cq_exit ?_
      refine sq_then ?_
      refine cq_region ?_
      apply sq_g; exact g_move (s := .av (.val (.int _ _))) rfl; exact rfl
      apply sq_g; exact g_arith rfl rfl rfl (by omega); exact rfl
      apply sq_g; exact g_assign (s := .av (.val (.int _ _))) rfl; exact rfl
      refine sq_nil ?_
      exact sq_round (b + 1) ⟨by omega, lt_step hall (any_false hall2)⟩ (by omega) (ent ⟨.refl _, .refl _, .refl _, .int (by omega), trivial⟩ trivial)
  · have : a = l.length := by omega
    subst this
    refine cq_exit ?_
    refine sq_then ?_
    refine cq_seq ?_
    refine cq_region ?_
    apply sq_g; exact g_assign (s := .av (.val (.bool _))) rfl; exact rfl
    refine sq_nil ?_
    refine sq_then ?_
    refine cq_ret ?_
    exact sq_res1 rfl (.tmp rfl) (congrArg vb (any_false hall).symm)
end Go.Proofs.Ytacepcnbgacipaa
namespace Go.Proofs.Ytacepcnbgacipaa
open Go Go.Vc Go.RowKit
set_option maxHeartbeats 4000000
/-! KDQ -/
def prB (l : List Pt) (i j : Nat) : Bool := vtx l i && (vtx l j && fac l i j)
def prQ (l : List Pt) (i j : Nat) : List (Nat × Nat) := if prB l i j = true then [(i, j)] else []
def prR (l : List Pt) (i m : Nat) : List (Nat × Nat) := (List.range m).flatMap fun k => prQ l i (i + 1 + k)
def prTo (l : List Pt) (m : Nat) : List (Nat × Nat) := (List.range m).flatMap fun i => prR l i (l.length - (i + 1))
def rpr (l : List Pt) : List (Nat × Nat) := prTo l l.length
theorem prR_succ (l : List Pt) (i m : Nat) : prR l i (m + 1) = prR l i m ++ prQ l i (i + 1 + m) := by simp [prR, List.range_succ, List.flatMap_append]
theorem prTo_succ (l : List Pt) (m : Nat) : prTo l (m + 1) = prTo l m ++ prR l m (l.length - (m + 1)) := by simp [prTo, List.range_succ, List.flatMap_append]
theorem prQ_len (l : List Pt) (i j : Nat) : (prQ l i j).length ≤ 1 := by unfold prQ; split <;> simp
theorem prR_len (l : List Pt) (i m : Nat) : (prR l i m).length ≤ m * 1 := flat_len _ 1 m (fun _ _ => prQ_len l _ _)
theorem prTo_len (l : List Pt) (hn : l.length ≤ 64) (m : Nat) : (prTo l m).length ≤ m * 64 := flat_len _ 64 m (fun i _ => by have := prR_len l i (l.length - (i + 1)); omega)
theorem rpairs_c (l : List Pt) (sm : ∀ i, SmP (gp l i)) (hn : l.length ≤ 64) : CtrR Try.prog 66 [pts l] 62 2 (rpr l).length (qf (rpr l)) [] := by
  refine ctrR _ Try.func66 rfl rfl Try.ntmps66 rfl fun w Z => ?_
  simp only [initT, List.map_cons, List.map_nil, Nat.zero_add, Nat.reduceAdd]
  refine cq_seq ?_
  refine cq_region ?_
  apply sq_g; exact g_assign (s := .av _) rfl; exact rfl
  refine sq_nil ?_
  refine sq_then ?_
  refine cq_seq ?_
  refine cq_region ?_
  apply sq_g; exact g_assign (s := .av _) rfl; exact rfl
  refine sq_nil ?_
  refine sq_then ?_
  refine cq_seq ?_
  refine cq_seq ?_
  refine cq_region ?_
  apply sq_g; exact g_assign (s := .av (.val (.int _ _))) rfl; exact rfl
  refine sq_nil ?_
  refine sq_then ?_
  refine cq_block ?_
  refine cq_loop (γ := Nat) (fun i => [(0, .av (pts l)), (3, .osl 0), (4, .av (vi i))]) (fun i => [(0, .row 62 2 (prTo l i).length (qf (prTo l i)))]) (fun i => i ≤ l.length) (fun i => l.length - i) 0 (Nat.zero_le _) ((ent_row (dd := 3) 0 62 2 (qf []) rfl rfl).trans (ent ⟨.refl _, .refl _, .refl _, trivial⟩ ⟨⟨_, rfl, .refl _⟩, trivial⟩)) ?_
  intro i hi
  refine cq_seq ?_
  refine cq_seq ?_
  refine cq_region ?_
  apply sq_g; exact g_move (s := .av (.val (.int _ _))) rfl; exact rfl
  apply sq_g; exact g_move (s := .av _) rfl; exact rfl
  apply sq_g; exact g_len rfl; exact rfl
  apply sq_g; exact g_cmp rfl rfl rfl; exact rfl
  refine sq_nil ?_
  refine sq_then ?_
  (refine cq_cond rfl (fun hb => ?_) (fun hb => ?_) <;> (try simp only [decide_eq_true_eq, decide_eq_false_iff_not, beq_iff_eq, beq_eq_false_iff_ne, bne_iff_ne, bne_eq_false_iff_eq, ne_eq, Bool.not_eq_true', Bool.not_eq_false', Bool.and_eq_true, Bool.or_eq_true, Bool.and_eq_false_iff, Bool.or_eq_false_iff] at hb) <;> (try (exfalso; omega)))
  · have hil : i < l.length := by omega
    refine cq_skip ?_
    refine sq_then ?_
    refine cq_seq ?_
    refine cq_block ?_
    refine cq_seq ?_
    refine cq_region ?_
    apply sq_g; exact g_move (s := .av (.val (.int _ _))) rfl; exact rfl
    apply sq_g; exact g_arith rfl rfl rfl (by omega); exact rfl
    apply sq_g; exact g_assign (s := .av (.val (.int _ _))) rfl; exact rfl
    refine sq_nil ?_
    refine sq_then ?_
    refine cq_block ?_
    refine cq_loop (γ := Nat) (fun m => [(0, .av (pts l)), (3, .osl 0), (4, .av (vi i)), (5, .av (vi ((i + 1 + m : Nat) : Int)))]) (fun m => [(0, .row 62 2 (prTo l i ++ prR l i m).length (qf (prTo l i ++ prR l i m)))]) (fun m => m ≤ l.length - (i + 1)) (fun m => l.length - m) 0 (Nat.zero_le _) (ent ⟨.refl _, .refl _, .refl _, .int (by omega), trivial⟩ ⟨⟨_, rfl, by rw [show prR l i 0 = [] from rfl, List.append_nil]; exact .refl _⟩, trivial⟩) ?_
    intro m hm
    have hl1 := prTo_len l hn i
    have hl2 := prR_len l i m
    have hl3 : (prTo l i ++ prR l i m).length ≤ 1000000 := by rw [List.length_append]; omega
    refine cq_seq ?_
    refine cq_seq ?_
    refine cq_region ?_
    apply sq_g; exact g_move (s := .av (.val (.int _ _))) rfl; exact rfl
    apply sq_g; exact g_move (s := .av _) rfl; exact rfl
    apply sq_g; exact g_len rfl; exact rfl
    apply sq_g; exact g_cmp rfl rfl rfl; exact rfl
    refine sq_nil ?_
    refine sq_then ?_
    (refine cq_cond rfl (fun hb => ?_) (fun hb => ?_) <;> (try simp only [decide_eq_true_eq, decide_eq_false_iff_not, beq_iff_eq, beq_eq_false_iff_ne, bne_iff_ne, bne_eq_false_iff_eq, ne_eq, Bool.not_eq_true', Bool.not_eq_false', Bool.and_eq_true, Bool.or_eq_true, Bool.and_eq_false_iff, Bool.or_eq_false_iff] at hb) <;> (try (exfalso; omega)))
    · have hml : i + 1 + m < l.length := by omega
      have hs := prR_succ l i m
      have v1 := vtx_c l i sm hn hil
      have v2 := vtx_c l (i + 1 + m) sm hn hml
      have f1 := fac_c l i (i + 1 + m) sm (by omega) hn
      focus
        refine cq_skip ?_
        refine sq_then ?_
        refine cq_seq ?_
        refine cq_block ?_
        refine cq_seq ?_
        refine cq_region ?_
        apply sq_g; exact g_move (s := .av _) rfl; exact rfl
        apply sq_g; exact g_move (s := .av (.val (.int _ _))) rfl; exact rfl
        apply sq_g; exact g_call (v1) rfl; exact rfl
        apply sq_g; exact g_move (s := .av (.val (.bool _))) rfl; exact rfl
        refine sq_split rfl rfl (fun hb => ?_) (fun hb => ?_) <;> (try simp only [decide_eq_true_eq, decide_eq_false_iff_not, beq_iff_eq, beq_eq_false_iff_ne, bne_iff_ne, bne_eq_false_iff_eq, ne_eq, Bool.not_eq_true', Bool.not_eq_false', Bool.and_eq_true, Bool.or_eq_true, Bool.and_eq_false_iff, Bool.or_eq_false_iff] at hb) <;> (try (exfalso; omega))
        apply sq_on; exact g_move (s := .av _) rfl; exact rfl; exact rfl; exact rfl
        apply sq_on; exact g_move (s := .av (.val (.int _ _))) rfl; exact rfl; exact rfl; exact rfl
        apply sq_on; exact g_call (v2) rfl; exact rfl; exact rfl; exact rfl
        apply sq_g; exact g_pick (s := .av (.val (.bool _))) rfl rfl; exact rfl
        apply sq_g; exact g_move (s := .av (.val (.bool _))) rfl; exact rfl
        refine sq_split rfl rfl (fun hb => ?_) (fun hb => ?_) <;> (try simp only [decide_eq_true_eq, decide_eq_false_iff_not, beq_iff_eq, beq_eq_false_iff_ne, bne_iff_ne, bne_eq_false_iff_eq, ne_eq, Bool.not_eq_true', Bool.not_eq_false', Bool.and_eq_true, Bool.or_eq_true, Bool.and_eq_false_iff, Bool.or_eq_false_iff] at hb) <;> (try (exfalso; omega))
        apply sq_on; exact g_move (s := .av _) rfl; exact rfl; exact rfl; exact rfl
        apply sq_on; exact g_move (s := .av (.val (.int _ _))) rfl; exact rfl; exact rfl; exact rfl
        apply sq_on; exact g_move (s := .av (.val (.int _ _))) rfl; exact rfl; exact rfl; exact rfl
        apply sq_on; exact g_call (f1) rfl; exact rfl; exact rfl; exact rfl
        apply sq_g; exact g_pick (s := .av (.val (.bool _))) rfl rfl; exact rfl
        refine sq_nil ?_
        refine sq_then ?_
        rotate_left
        refine sq_off rfl rfl rfl rfl ?_
        refine sq_off rfl rfl rfl rfl ?_
        refine sq_off rfl rfl rfl rfl ?_
        refine sq_off rfl rfl rfl rfl ?_
        apply sq_g; exact g_pick (s := .av (.val (.bool _))) rfl rfl; exact rfl
        refine sq_nil ?_
        refine sq_then ?_
        refine cq_cond_f rfl ?_
        refine cq_skip ?_
        refine sq_then ?_
        refine cq_region ?_
        apply sq_g; exact g_move (s := .av (.val (.int _ _))) rfl; exact rfl
        apply sq_g; exact g_arith rfl rfl rfl (by omega); exact rfl
        apply sq_g; exact g_assign (s := .av (.val (.int _ _))) rfl; exact rfl
        refine sq_nil ?_
        rotate_left
        refine sq_off rfl rfl rfl rfl ?_
        refine sq_off rfl rfl rfl rfl ?_
        refine sq_off rfl rfl rfl rfl ?_
        apply sq_g; exact g_pick (s := .av (.val (.bool _))) rfl rfl; exact rfl
        apply sq_g; exact g_move (s := .av (.val (.bool _))) rfl; exact rfl
        refine sq_off rfl rfl rfl rfl ?_
        refine sq_off rfl rfl rfl rfl ?_
        refine sq_off rfl rfl rfl rfl ?_
        refine sq_off rfl rfl rfl rfl ?_
        apply sq_g; exact g_pick (s := .av (.val (.bool _))) rfl rfl; exact rfl
        refine sq_nil ?_
        refine sq_then ?_
        refine cq_cond_f rfl ?_
        refine cq_skip ?_
        refine sq_then ?_
        refine cq_region ?_
        apply sq_g; exact g_move (s := .av (.val (.int _ _))) rfl; exact rfl
        apply sq_g; exact g_arith rfl rfl rfl (by omega); exact rfl
        apply sq_g; exact g_assign (s := .av (.val (.int _ _))) rfl; exact rfl
        refine sq_nil ?_
        rotate_left
      · (refine cq_cond rfl (fun hb => ?_) (fun hb => ?_) <;> (try simp only [decide_eq_true_eq, decide_eq_false_iff_not, beq_iff_eq, beq_eq_false_iff_ne, bne_iff_ne, bne_eq_false_iff_eq, ne_eq, Bool.not_eq_true', Bool.not_eq_false', Bool.and_eq_true, Bool.or_eq_true, Bool.and_eq_false_iff, Bool.or_eq_false_iff] at hb) <;> (try (exfalso; omega)))
        · have he : prTo l i ++ prR l i (m + 1) = (prTo l i ++ prR l i m) ++ [(i, i + 1 + m)] := by
            rw [hs, prQ, if_pos (by unfold prB; simp [*]), List.append_assoc]
          refine cq_region ?_
          apply sq_g; exact g_move (s := .osl _) rfl; exact rfl
          apply sq_g; exact g_move (s := .av (.val (.int _ _))) rfl; exact rfl
          apply sq_g; exact g_move (s := .av (.val (.int _ _))) rfl; exact rfl
          apply sq_g; exact g_build (is := [0, 1]) (xs := [_, _]) (vs := [_, _]) (tb62 _ _) rfl rfl; exact rfl
          apply sq_g; exact g_one_pr (tq41 _ _) rfl rfl rfl; exact rfl
          refine sq_v (v_push_pr rfl rfl rfl (by omega) rfl) rfl ?_
          apply sq_g; exact g_assign (s := .osl _) rfl; exact rfl
          refine sq_nil ?_
          refine sq_then ?_
          refine cq_region ?_
          apply sq_g; exact g_move (s := .av (.val (.int _ _))) rfl; exact rfl
          apply sq_g; exact g_arith rfl rfl rfl (by omega); exact rfl
          apply sq_g; exact g_assign (s := .av (.val (.int _ _))) rfl; exact rfl
          refine sq_nil ?_
          exact sq_round (m + 1) (by omega) (by omega) (ent ⟨.refl _, .refl _, .refl _, .int (by omega), trivial⟩ ⟨⟨_, rfl, by rw [he]; exact .refl _⟩, trivial⟩)
        · refine cq_skip ?_
          refine sq_then ?_
          refine cq_region ?_
          apply sq_g; exact g_move (s := .av (.val (.int _ _))) rfl; exact rfl
          apply sq_g; exact g_arith rfl rfl rfl (by omega); exact rfl
          apply sq_g; exact g_assign (s := .av (.val (.int _ _))) rfl; exact rfl
          refine sq_nil ?_
          have he : prTo l i ++ prR l i (m + 1) = prTo l i ++ prR l i m := by
            rw [hs, prQ, if_neg (by unfold prB; simp [*]), List.append_nil]
          exact sq_round (m + 1) (by omega) (by omega) (ent ⟨.refl _, .refl _, .refl _, .int (by omega), trivial⟩ ⟨⟨_, rfl, by rw [he]; exact .refl _⟩, trivial⟩)
      · have he : prTo l i ++ prR l i (m + 1) = prTo l i ++ prR l i m := by
          rw [hs, prQ, if_neg (by unfold prB; simp [*]), List.append_nil]
        exact sq_round (m + 1) (by omega) (by omega) (ent ⟨.refl _, .refl _, .refl _, .int (by omega), trivial⟩ ⟨⟨_, rfl, by rw [he]; exact .refl _⟩, trivial⟩)
      · have he : prTo l i ++ prR l i (m + 1) = prTo l i ++ prR l i m := by
          rw [hs, prQ, if_neg (by unfold prB; simp [*]), List.append_nil]
        exact sq_round (m + 1) (by omega) (by omega) (ent ⟨.refl _, .refl _, .refl _, .int (by omega), trivial⟩ ⟨⟨_, rfl, by rw [he]; exact .refl _⟩, trivial⟩)
    · have hml : m = l.length - (i + 1) := by omega
      subst hml
      refine cq_exit ?_
      refine sq_then ?_
      refine cq_region ?_
      apply sq_g; exact g_move (s := .av (.val (.int _ _))) rfl; exact rfl
      apply sq_g; exact g_arith rfl rfl rfl (by omega); exact rfl
      apply sq_g; exact g_assign (s := .av (.val (.int _ _))) rfl; exact rfl
      refine sq_nil ?_
      exact sq_round (i + 1) (by omega) (by omega) (ent ⟨.refl _, .refl _, .int (by omega), trivial⟩ ⟨⟨_, rfl, by rw [prTo_succ]; exact .refl _⟩, trivial⟩)
  · have hil : i = l.length := by omega
    subst hil
    refine cq_exit ?_
    refine sq_then ?_
    refine cq_seq ?_
    refine cq_region ?_
    apply sq_g; exact g_move (s := .osl _) rfl; exact rfl
    apply sq_g; exact g_assign (s := .osl _) rfl; exact rfl
    refine sq_nil ?_
    refine sq_then ?_
    refine cq_ret ?_
    exact sq_retR rfl rfl rfl rfl (fun _ _ _ _ => rfl)
def rprN (l : List Pt) : List (Nat × Nat) := if chk l = 0 then rpr l else []
theorem ranti_c (l : List Pt) : CtrA Try.prog 21 [pts l] (tupOf [prs (rprN l), vi (chk l)]) := by
  refine ctrA _ Try.func21 rfl rfl Try.ntmps21 rfl fun w Z => ?_
  simp only [initT, List.map_cons, List.map_nil, Nat.zero_add, Nat.reduceAdd]
  refine cq_seq ?_
  refine cq_region ?_
  apply sq_g; exact g_assign (s := .av _) rfl; exact rfl
  apply sq_g; exact g_assign (s := .av (.val (.int _ _))) rfl; exact rfl
  refine sq_nil ?_
  refine sq_then ?_
  refine cq_seq ?_
  refine cq_seq ?_
  refine cq_region ?_
  apply sq_g; exact g_move (s := .av _) rfl; exact rfl
  apply sq_g; exact g_call (rcheck_c l) rfl; exact rfl
  apply sq_g; exact g_assign (s := .av (.val (.int _ _))) rfl; exact rfl
  refine sq_nil ?_
  refine sq_then ?_
  refine cq_seq ?_
  refine cq_region ?_
  apply sq_g; exact g_move (s := .av (.val (.int _ _))) rfl; exact rfl
  apply sq_g; exact g_cmp rfl rfl rfl; exact rfl
  refine sq_nil ?_
  refine sq_then ?_
  (refine cq_cond rfl (fun hb => ?_) (fun hb => ?_) <;> (try simp only [decide_eq_true_eq, decide_eq_false_iff_not, beq_iff_eq, beq_eq_false_iff_ne, bne_iff_ne, bne_eq_false_iff_eq, ne_eq, Bool.not_eq_true', Bool.not_eq_false', Bool.and_eq_true, Bool.or_eq_true, Bool.and_eq_false_iff, Bool.or_eq_false_iff] at hb) <;> (try (exfalso; omega)))
  · have e1 : rprN l = [] := by simp [rprN, hb]
    refine cq_seq ?_
    refine cq_region ?_
    apply sq_g; exact g_move (s := .av (.val (.int _ _))) rfl; exact rfl
    apply sq_g; exact g_assign (s := .av _) rfl; exact rfl
    apply sq_g; exact g_assign (s := .av (.val (.int _ _))) rfl; exact rfl
    refine sq_nil ?_
    refine sq_then ?_
    refine cq_ret ?_
    refine sq_then_ret ?_
    exact sq_ent (ent_nil 2 2 (qf []) rfl) (sq_resN (rvs := [_, _]) (τs := [prs [], vi (chk l)]) rfl rfl ⟨.tmp rfl, .tmp rfl, trivial⟩ (by rw [e1]))
  · have hc : chk l = 0 := by simpa using hb
    have e1 : rprN l = rpr l := by simp [rprN, hc]
    refine cq_skip ?_
    refine sq_then ?_
    refine cq_seq ?_
    refine cq_region ?_
    apply sq_g; exact g_move (s := .av _) rfl; exact rfl
    apply sq_g; exact g_call ((rpairs_c l (chk_sm hc) (chk_len hc)).ro) rfl; exact rfl
    apply sq_g; exact g_assign (s := .av _) rfl; exact rfl
    apply sq_g; exact g_assign (s := .av (.val (.int _ _))) rfl; exact rfl
    refine sq_nil ?_
    refine sq_then ?_
    refine cq_ret ?_
    exact sq_resN (rvs := [_, _]) (τs := [_, _]) rfl rfl ⟨.tmp rfl, .tmp rfl, trivial⟩ (by rw [e1, hc]; rfl)
theorem faces_c (hF : ∀ l : List Pt, chk l = 0 → l.length ≤ 8 → ant l = rpr l) (l : List Pt) : CtrA Try.prog 4 [pts l] (vb true) := by
  refine ctrA _ Try.func4 rfl rfl Try.ntmps4 rfl fun w Z => ?_
  simp only [initT, List.map_cons, List.map_nil, Nat.zero_add, Nat.reduceAdd]
  refine cq_seq ?_
  refine cq_region ?_
  apply sq_g; exact g_assign (s := .av (.val (.bool _))) rfl; exact rfl
  refine sq_nil ?_
  refine sq_then ?_
  refine cq_seq ?_
  refine cq_seq ?_
  refine cq_region ?_
  apply sq_g; exact g_move (s := .av _) rfl; exact rfl
  apply sq_g; exact g_call (few_c l) rfl; exact rfl
  apply sq_g; exact g_not rfl; exact rfl
  refine sq_nil ?_
  refine sq_then ?_
  (refine cq_cond rfl (fun hb => ?_) (fun hb => ?_) <;> (try simp only [decide_eq_true_eq, decide_eq_false_iff_not, beq_iff_eq, beq_eq_false_iff_ne, bne_iff_ne, bne_eq_false_iff_eq, ne_eq, Bool.not_eq_true', Bool.not_eq_false', Bool.and_eq_true, Bool.or_eq_true, Bool.and_eq_false_iff, Bool.or_eq_false_iff] at hb) <;> (try (exfalso; omega)))
  · refine cq_seq ?_
    refine cq_region ?_
    apply sq_g; exact g_call (awake_c) rfl; exact rfl
    apply sq_g; exact g_assign (s := .av (.val (.bool _))) rfl; exact rfl
    refine sq_nil ?_
    refine sq_then ?_
    refine cq_ret ?_
    refine sq_then_ret ?_
    exact sq_res1 rfl (.tmp rfl) rfl
  · have hs : Sml l := sml_of (fun hc => by have := fewB_chk hb hc; omega)
    have ha := (anti_c l (fun hc => ⟨(hs hc).1, (hs hc).2.1, (hs hc).2.2⟩)).roN
    have hr := ranti_c l
    have he : rprN l = antN l := by
      unfold rprN antN
      by_cases hc : chk l = 0
      · rw [if_pos hc, if_pos hc, hF l hc (fewB_chk hb hc)]
      · rw [if_neg hc, if_neg hc]
    have hlen : (antN l).length ≤ 10000 := by
      rw [← he]; unfold rprN
      split
      · rename_i hc
        have := prTo_len l (chk_len hc) l.length
        have := chk_len hc
        unfold rpr; omega
      · simp
    rw [he] at hr
    have hsp := samep_c (antN l) (antN l) hlen
    rw [decide_eq_true rfl] at hsp
    clear he
    refine cq_skip ?_
    refine sq_then ?_
    refine cq_seq ?_
    refine cq_region ?_
    apply sq_g; exact g_move (s := .av _) rfl; exact rfl
    apply sq_g; exact g_call (ha) rfl; exact rfl
    apply sq_g; exact g_move (s := .av _) rfl; exact rfl
    apply sq_g; exact g_extractT rfl rfl; exact rfl
    apply sq_g; exact g_extractT rfl rfl; exact rfl
    apply sq_g; exact g_assign (s := .av _) rfl; exact rfl
    apply sq_g; exact g_assign (s := .av (.val (.int _ _))) rfl; exact rfl
    refine sq_nil ?_
    refine sq_then ?_
    refine cq_seq ?_
    refine cq_region ?_
    apply sq_g; exact g_move (s := .av _) rfl; exact rfl
    apply sq_g; exact g_call (hr) rfl; exact rfl
    apply sq_g; exact g_move (s := .av _) rfl; exact rfl
    apply sq_g; exact g_extractT rfl rfl; exact rfl
    apply sq_g; exact g_extractT rfl rfl; exact rfl
    apply sq_g; exact g_assign (s := .av _) rfl; exact rfl
    apply sq_g; exact g_assign (s := .av (.val (.int _ _))) rfl; exact rfl
    refine sq_nil ?_
    refine sq_then ?_
    refine cq_seq ?_
    refine cq_region ?_
    apply sq_g; exact g_call (awake_c) rfl; exact rfl
    apply sq_g; exact g_move (s := .av (.val (.bool _))) rfl; exact rfl
    apply sq_on; exact g_move (s := .av _) rfl; exact rfl; exact rfl; exact rfl
    apply sq_on; exact g_move (s := .av _) rfl; exact rfl; exact rfl; exact rfl
    apply sq_on; exact g_call (hsp) rfl; exact rfl; exact rfl; exact rfl
    apply sq_g; exact g_pick (s := .av (.val (.bool _))) rfl rfl; exact rfl
    apply sq_g; exact g_move (s := .av (.val (.bool _))) rfl; exact rfl
    apply sq_on; exact g_move (s := .av (.val (.int _ _))) rfl; exact rfl; exact rfl; exact rfl
    apply sq_on; exact g_move (s := .av (.val (.int _ _))) rfl; exact rfl; exact rfl; exact rfl
    apply sq_on; exact g_cmp rfl rfl rfl; exact rfl; exact rfl; exact rfl
    apply sq_g; exact g_pick (s := .av (.val (.bool _))) rfl rfl; exact rfl
    apply sq_g; exact g_assign (s := .av (.val (.bool _))) rfl; exact rfl
    refine sq_nil ?_
    refine sq_then ?_
    refine cq_ret ?_
    all_goals first | exact absurd trivial hb | exact sq_res1 rfl (.tmp rfl) (congrArg vb (by simp))
end Go.Proofs.Ytacepcnbgacipaa
