/- A part of the proof that the law returns true at every input and that the input reads behind the call as it read before; this part states nothing of its own that needs a condition of the input. -/
import Derived.Test.YtacepcnbgacipaaFc
import Derived.Test.YtacepcnbgacipaaFg
import Derived.Test.YtacepcnbgacipaaFh
set_option linter.unusedVariables false
set_option linter.unusedSimpArgs false
namespace Go.Proofs.Ytacepcnbgacipaa
open Go Go.Vc Go.RowKit
set_option maxHeartbeats 2000000
/-! KDQ -/
def ixB (p : Nat → Bool) (n : Nat) : Int := match (List.range n).find? p with | some k => (k : Int) | none => -1
theorem ixB_hit {p : Nat → Bool} {n k : Nat} (hk : k < n) (hall : ∀ j, j < k → p j = false) (h : p k = true) : ixB p n = (k : Int) := by
  have : (List.range n).find? p = some k := by
    rw [List.find?_range_eq_some]
    exact ⟨h, by simpa using hk, fun j hj => by simp [hall j hj]⟩
  unfold ixB; rw [this]
theorem ixB_no {p : Nat → Bool} {n : Nat} (hall : ∀ j, j < n → p j = false) : ixB p n = -1 := by
  have : (List.range n).find? p = none := by
    rw [List.find?_eq_none]
    intro x hx
    simp [hall x (List.mem_range.1 hx)]
  unfold ixB; rw [this]
theorem index_c (v : List Nat) (n : Nat) (hn : v.length ≤ 10000) : CtrA Try.prog 76 [idx v, vi n] (vi (ixB (fun k => decide (n = gi v k)) v.length)) := by
  refine ctrA _ Try.func76 rfl rfl Try.ntmps76 rfl fun w Z => ?_
  simp only [initT, List.map_cons, List.map_nil, Nat.zero_add, Nat.reduceAdd]
  refine cq_seq ?_
  refine cq_region ?_
  apply sq_g; exact g_assign (s := .av (.val (.int _ _))) rfl; exact rfl
  refine sq_nil ?_
  refine sq_then ?_
  refine cq_seq ?_
  refine cq_seq ?_
  refine cq_region ?_
  apply sq_g; exact g_move (s := .av _) rfl; exact rfl
  apply sq_g; exact g_len rfl; exact rfl
  apply sq_g; exact g_move (s := .av (.val (.int _ _))) rfl; exact rfl
  refine sq_nil ?_
  refine sq_then ?_
  refine cq_block ?_
  refine cq_loop (γ := Nat) (fun k => [(0, .av (idx v)), (1, .av (vi n)), (6, .av (idx v)), (7, .av (vi v.length)), (8, .av (vi k))]) (fun _ => []) (fun k => k ≤ v.length ∧ ∀ j, j < k → decide (n = gi v j) = false) (fun k => v.length - k) 0 ⟨Nat.zero_le _, by omega⟩ (ent ⟨.refl _, .refl _, .refl _, .refl _, .refl _, trivial⟩ trivial) ?_
  rintro k ⟨hk, hall⟩
  refine cq_seq ?_
  refine cq_region ?_
  apply sq_g; exact g_cmp rfl rfl rfl; exact rfl
  refine sq_nil ?_
  refine sq_then ?_
  refine cq_seq ?_
  (refine cq_cond rfl (fun hb => ?_) (fun hb => ?_) <;> (try simp only [decide_eq_true_eq, decide_eq_false_iff_not, beq_iff_eq, beq_eq_false_iff_ne, bne_iff_ne, bne_eq_false_iff_eq, ne_eq, Bool.not_eq_true', Bool.not_eq_false', Bool.and_eq_true, Bool.or_eq_true, Bool.and_eq_false_iff, Bool.or_eq_false_iff] at hb) <;> (try (exfalso; omega)))
  · have hkl : k < v.length := by omega
    refine cq_skip ?_
    refine sq_then ?_
    refine cq_seq ?_
    refine cq_block ?_
    refine cq_seq ?_
    refine cq_region ?_
    apply sq_g; exact g_move (s := .av (.val (.int _ _))) rfl; exact rfl
    apply sq_g; exact g_assign (s := .av (.val (.int _ _))) rfl; exact rfl
    refine sq_nil ?_
    refine sq_then ?_
    refine cq_seq ?_
    refine cq_region ?_
    apply sq_g; exact g_move (s := .av (.val (.int _ _))) rfl; exact rfl
    apply sq_g; exact g_move (s := .av _) rfl; exact rfl
    apply sq_g; exact g_move (s := .av (.val (.int _ _))) rfl; exact rfl
    apply sq_g; exact g_index rfl rfl rfl (by omega); exact rfl
    apply sq_g; exact g_load (τ := .val (.int _ _)) rfl rfl rfl; exact rfl
    apply sq_g; exact g_cmp rfl rfl rfl; exact rfl
    refine sq_nil ?_
    refine sq_then ?_
    (refine cq_cond rfl (fun hb => ?_) (fun hb => ?_) <;> (try simp only [decide_eq_true_eq, decide_eq_false_iff_not, beq_iff_eq, beq_eq_false_iff_ne, bne_iff_ne, bne_eq_false_iff_eq, ne_eq, Bool.not_eq_true', Bool.not_eq_false', Bool.and_eq_true, Bool.or_eq_true, Bool.and_eq_false_iff, Bool.or_eq_false_iff] at hb) <;> (try (exfalso; omega)))
    · have e1 := ixB_hit (p := fun k => decide (n = gi v k)) hkl hall (decide_eq_true (by omega))
      refine cq_seq ?_
      refine cq_region ?_
      apply sq_g; exact g_move (s := .av (.val (.int _ _))) rfl; exact rfl
      apply sq_g; exact g_assign (s := .av (.val (.int _ _))) rfl; exact rfl
      refine sq_nil ?_
      refine sq_then ?_
      refine cq_ret ?_
      refine sq_inBlock_ret ?_
      refine sq_then_ret ?_
      refine sq_then_ret ?_
      refine sq_inBlock_ret ?_
      refine sq_then_ret ?_
      exact sq_res1 rfl (.tmp rfl) (by rw [e1])
    · refine cq_skip ?_
      refine sq_then ?_
      refine cq_region ?_
      apply sq_g; exact g_arith rfl rfl rfl (by omega); exact rfl
      apply sq_g; exact g_move (s := .av (.val (.int _ _))) rfl; exact rfl
      refine sq_nil ?_
      exact sq_round (k + 1) ⟨by omega, lt_step hall (decide_eq_false (by omega))⟩ (by omega) (ent ⟨.refl _, .refl _, .refl _, .refl _, .int (by omega), trivial⟩ trivial)
  · have hkl : k = v.length := by omega
    subst hkl
    have e1 := ixB_no (p := fun k => decide (n = gi v k)) hall
    refine cq_exit ?_
    refine sq_then ?_
    refine cq_seq ?_
    refine cq_region ?_
    apply sq_g; exact g_assign (s := .av (.val (.int _ _))) rfl; exact rfl
    refine sq_nil ?_
    refine sq_then ?_
    refine cq_ret ?_
    exact sq_res1 rfl (.tmp rfl) (by rw [e1])
theorem contains_c (v : List Nat) (n : Nat) (hn : v.length ≤ 10000) : CtrA Try.prog 41 [idx v, vi n] (vb (decide (0 ≤ ixB (fun k => decide (n = gi v k)) v.length))) := by
  refine ctrA _ Try.func41 rfl rfl Try.ntmps41 rfl fun w Z => ?_
  simp only [initT, List.map_cons, List.map_nil, Nat.zero_add, Nat.reduceAdd]
  refine cq_seq ?_
  refine cq_region ?_
  apply sq_g; exact g_assign (s := .av (.val (.bool _))) rfl; exact rfl
  refine sq_nil ?_
  refine sq_then ?_
  refine cq_seq ?_
  refine cq_region ?_
  apply sq_g; exact g_move (s := .av _) rfl; exact rfl
  apply sq_g; exact g_move (s := .av (.val (.int _ _))) rfl; exact rfl
  apply sq_g; exact g_call (index_c v n hn) rfl; exact rfl
  apply sq_g; exact g_cmp rfl rfl rfl; exact rfl
  apply sq_g; exact g_assign (s := .av (.val (.bool _))) rfl; exact rfl
  refine sq_nil ?_
  refine sq_then ?_
  refine cq_ret ?_
  exact sq_res1 rfl (.tmp rfl) rfl
end Go.Proofs.Ytacepcnbgacipaa
namespace Go.Proofs.Ytacepcnbgacipaa
open Go Go.Vc Go.RowKit
set_option maxHeartbeats 2000000
/-! KDQ -/
def bigB (p : Pt) : Bool := decide (p.x < -9000 ∨ 9000 < p.x ∨ p.y < -9000 ∨ 9000 < p.y)
theorem big_c (p : Pt) : CtrA Try.prog 37 [pp p] (vb (bigB p)) := by
  refine ctrA _ Try.func37 rfl rfl Try.ntmps37 rfl fun w Z => ?_
  simp only [initT, List.map_cons, List.map_nil, Nat.zero_add, Nat.reduceAdd]
  focus
    refine cq_seq ?_
    refine cq_region ?_
    apply sq_g; exact g_box_agg rfl; exact rfl
    apply sq_g; exact g_assign (s := .av (.val (.bool _))) rfl; exact rfl
    refine sq_nil ?_
    refine sq_then ?_
    refine cq_seq ?_
    refine cq_region ?_
    apply sq_g; exact g_field rfl; exact rfl
    apply sq_g; exact g_load (τ := .val (.int _ _)) rfl rfl rfl; exact rfl
    apply sq_g; exact g_cmp rfl rfl rfl; exact rfl
    apply sq_g; exact g_move (s := .av (.val (.bool _))) rfl; exact rfl
    refine sq_split rfl rfl (fun hb => ?_) (fun hb => ?_) <;> (try simp only [decide_eq_true_eq, decide_eq_false_iff_not, beq_iff_eq, beq_eq_false_iff_ne, bne_iff_ne, bne_eq_false_iff_eq, ne_eq, Bool.not_eq_true', Bool.not_eq_false', Bool.and_eq_true, Bool.or_eq_true, Bool.and_eq_false_iff, Bool.or_eq_false_iff] at hb) <;> (try (exfalso; omega))
    refine sq_off rfl rfl rfl rfl ?_
    refine sq_off rfl rfl rfl rfl ?_
    refine sq_off rfl rfl rfl rfl ?_
    apply sq_g; exact g_pick (s := .av (.val (.bool _))) rfl rfl; exact rfl
    apply sq_g; exact g_move (s := .av (.val (.bool _))) rfl; exact rfl
    refine sq_off rfl rfl rfl rfl ?_
    refine sq_off rfl rfl rfl rfl ?_
    refine sq_off rfl rfl rfl rfl ?_
    apply sq_g; exact g_pick (s := .av (.val (.bool _))) rfl rfl; exact rfl
    apply sq_g; exact g_move (s := .av (.val (.bool _))) rfl; exact rfl
    refine sq_off rfl rfl rfl rfl ?_
    refine sq_off rfl rfl rfl rfl ?_
    refine sq_off rfl rfl rfl rfl ?_
    apply sq_g; exact g_pick (s := .av (.val (.bool _))) rfl rfl; exact rfl
    apply sq_g; exact g_assign (s := .av (.val (.bool _))) rfl; exact rfl
    refine sq_nil ?_
    refine sq_then ?_
    refine cq_ret ?_
    rotate_left
    apply sq_on; exact g_field rfl; exact rfl; exact rfl; exact rfl
    apply sq_on; exact g_load (τ := .val (.int _ _)) rfl rfl rfl; exact rfl; exact rfl; exact rfl
    apply sq_on; exact g_cmp rfl rfl rfl; exact rfl; exact rfl; exact rfl
    apply sq_g; exact g_pick (s := .av (.val (.bool _))) rfl rfl; exact rfl
    apply sq_g; exact g_move (s := .av (.val (.bool _))) rfl; exact rfl
    refine sq_split rfl rfl (fun hb => ?_) (fun hb => ?_) <;> (try simp only [decide_eq_true_eq, decide_eq_false_iff_not, beq_iff_eq, beq_eq_false_iff_ne, bne_iff_ne, bne_eq_false_iff_eq, ne_eq, Bool.not_eq_true', Bool.not_eq_false', Bool.and_eq_true, Bool.or_eq_true, Bool.and_eq_false_iff, Bool.or_eq_false_iff] at hb) <;> (try (exfalso; omega))
    refine sq_off rfl rfl rfl rfl ?_
    refine sq_off rfl rfl rfl rfl ?_
    refine sq_off rfl rfl rfl rfl ?_
    apply sq_g; exact g_pick (s := .av (.val (.bool _))) rfl rfl; exact rfl
    apply sq_g; exact g_move (s := .av (.val (.bool _))) rfl; exact rfl
    refine sq_off rfl rfl rfl rfl ?_
    refine sq_off rfl rfl rfl rfl ?_
    refine sq_off rfl rfl rfl rfl ?_
    apply sq_g; exact g_pick (s := .av (.val (.bool _))) rfl rfl; exact rfl
    apply sq_g; exact g_assign (s := .av (.val (.bool _))) rfl; exact rfl
    refine sq_nil ?_
    refine sq_then ?_
    refine cq_ret ?_
    rotate_left
    apply sq_on; exact g_field rfl; exact rfl; exact rfl; exact rfl
    apply sq_on; exact g_load (τ := .val (.int _ _)) rfl rfl rfl; exact rfl; exact rfl; exact rfl
    apply sq_on; exact g_cmp rfl rfl rfl; exact rfl; exact rfl; exact rfl
    apply sq_g; exact g_pick (s := .av (.val (.bool _))) rfl rfl; exact rfl
    apply sq_g; exact g_move (s := .av (.val (.bool _))) rfl; exact rfl
    refine sq_split rfl rfl (fun hb => ?_) (fun hb => ?_) <;> (try simp only [decide_eq_true_eq, decide_eq_false_iff_not, beq_iff_eq, beq_eq_false_iff_ne, bne_iff_ne, bne_eq_false_iff_eq, ne_eq, Bool.not_eq_true', Bool.not_eq_false', Bool.and_eq_true, Bool.or_eq_true, Bool.and_eq_false_iff, Bool.or_eq_false_iff] at hb) <;> (try (exfalso; omega))
    refine sq_off rfl rfl rfl rfl ?_
    refine sq_off rfl rfl rfl rfl ?_
    refine sq_off rfl rfl rfl rfl ?_
    apply sq_g; exact g_pick (s := .av (.val (.bool _))) rfl rfl; exact rfl
    apply sq_g; exact g_assign (s := .av (.val (.bool _))) rfl; exact rfl
    refine sq_nil ?_
    refine sq_then ?_
    refine cq_ret ?_
    rotate_left
    apply sq_on; exact g_field rfl; exact rfl; exact rfl; exact rfl
    apply sq_on; exact g_load (τ := .val (.int _ _)) rfl rfl rfl; exact rfl; exact rfl; exact rfl
    apply sq_on; exact g_cmp rfl rfl rfl; exact rfl; exact rfl; exact rfl
    apply sq_g; exact g_pick (s := .av (.val (.bool _))) rfl rfl; exact rfl
    apply sq_g; exact g_assign (s := .av (.val (.bool _))) rfl; exact rfl
    refine sq_nil ?_
    refine sq_then ?_
    refine cq_ret ?_
    rotate_left
  all_goals (refine sq_res1 rfl (.tmp rfl) (congrArg vb ?_); unfold bigB; rw [Bool.eq_iff_iff]; simp; try omega)
theorem indexf_c (l : List Pt) (hn : l.length ≤ 10000) : CtrA Try.prog 71 [pts l, .val (.func (.func 37) #[] #[])] (vi (ixB (fun k => bigB (gp l k)) l.length)) := by
  refine ctrA _ Try.func71 rfl rfl Try.ntmps71 rfl fun w Z => ?_
  simp only [initT, List.map_cons, List.map_nil, Nat.zero_add, Nat.reduceAdd]
  refine cq_seq ?_
  refine cq_region ?_
  apply sq_g; exact g_assign (s := .av (.val (.int _ _))) rfl; exact rfl
  refine sq_nil ?_
  refine sq_then ?_
  refine cq_seq ?_
  refine cq_seq ?_
  refine cq_region ?_
  apply sq_g; exact g_move (s := .av _) rfl; exact rfl
  apply sq_g; exact g_len rfl; exact rfl
  apply sq_g; exact g_move (s := .av (.val (.int _ _))) rfl; exact rfl
  refine sq_nil ?_
  refine sq_then ?_
  refine cq_block ?_
  refine cq_loop (γ := Nat) (fun k => [(0, .av (pts l)), (1, .av (.val (.func (.func 37) #[] #[]))), (6, .av (pts l)), (7, .av (vi l.length)), (8, .av (vi k))]) (fun _ => []) (fun k => k ≤ l.length ∧ ∀ j, j < k → bigB (gp l j) = false) (fun k => l.length - k) 0 ⟨Nat.zero_le _, by omega⟩ (ent ⟨.refl _, .refl _, .refl _, .refl _, .refl _, trivial⟩ trivial) ?_
  rintro k ⟨hk, hall⟩
  refine cq_seq ?_
  refine cq_region ?_
  apply sq_g; exact g_cmp rfl rfl rfl; exact rfl
  refine sq_nil ?_
  refine sq_then ?_
  refine cq_seq ?_
  (refine cq_cond rfl (fun hb => ?_) (fun hb => ?_) <;> (try simp only [decide_eq_true_eq, decide_eq_false_iff_not, beq_iff_eq, beq_eq_false_iff_ne, bne_iff_ne, bne_eq_false_iff_eq, ne_eq, Bool.not_eq_true', Bool.not_eq_false', Bool.and_eq_true, Bool.or_eq_true, Bool.and_eq_false_iff, Bool.or_eq_false_iff] at hb) <;> (try (exfalso; omega)))
  · have hkl : k < l.length := by omega
    refine cq_skip ?_
    refine sq_then ?_
    refine cq_seq ?_
    refine cq_block ?_
    refine cq_seq ?_
    refine cq_region ?_
    apply sq_g; exact g_move (s := .av (.val (.int _ _))) rfl; exact rfl
    apply sq_g; exact g_assign (s := .av (.val (.int _ _))) rfl; exact rfl
    refine sq_nil ?_
    refine sq_then ?_
    refine cq_seq ?_
    refine cq_region ?_
    apply sq_g; exact g_move (s := .av _) rfl; exact rfl
    apply sq_g; exact g_move (s := .av _) rfl; exact rfl
    apply sq_g; exact g_move (s := .av (.val (.int _ _))) rfl; exact rfl
    apply sq_g; exact g_index rfl rfl rfl (by omega); exact rfl
    apply sq_g; exact g_load_agg (us := [.int _ _, .int _ _]) rfl rfl rfl rfl; exact rfl
    apply sq_g; exact g_callv (big_c (gp l k)) rfl rfl; exact rfl
    refine sq_nil ?_
    refine sq_then ?_
    (refine cq_cond rfl (fun hb => ?_) (fun hb => ?_) <;> (try simp only [decide_eq_true_eq, decide_eq_false_iff_not, beq_iff_eq, beq_eq_false_iff_ne, bne_iff_ne, bne_eq_false_iff_eq, ne_eq, Bool.not_eq_true', Bool.not_eq_false', Bool.and_eq_true, Bool.or_eq_true, Bool.and_eq_false_iff, Bool.or_eq_false_iff] at hb) <;> (try (exfalso; omega)))
    · have e1 := ixB_hit (p := fun k => bigB (gp l k)) hkl hall hb
      refine cq_seq ?_
      refine cq_region ?_
      apply sq_g; exact g_move (s := .av (.val (.int _ _))) rfl; exact rfl
      apply sq_g; exact g_assign (s := .av (.val (.int _ _))) rfl; exact rfl
      refine sq_nil ?_
      refine sq_then ?_
      refine cq_ret ?_
      refine sq_inBlock_ret ?_
      refine sq_then_ret ?_
      refine sq_then_ret ?_
      refine sq_inBlock_ret ?_
      refine sq_then_ret ?_
      exact sq_res1 rfl (.tmp rfl) (by rw [e1])
    · refine cq_skip ?_
      refine sq_then ?_
      refine cq_region ?_
      apply sq_g; exact g_arith rfl rfl rfl (by omega); exact rfl
      apply sq_g; exact g_move (s := .av (.val (.int _ _))) rfl; exact rfl
      refine sq_nil ?_
      exact sq_round (k + 1) ⟨by omega, lt_step hall (by simpa using hb)⟩ (by omega) (ent ⟨.refl _, .refl _, .refl _, .refl _, .int (by omega), trivial⟩ trivial)
  · have hkl : k = l.length := by omega
    subst hkl
    have e1 := ixB_no (p := fun k => bigB (gp l k)) hall
    refine cq_exit ?_
    refine sq_then ?_
    refine cq_seq ?_
    refine cq_region ?_
    apply sq_g; exact g_assign (s := .av (.val (.int _ _))) rfl; exact rfl
    refine sq_nil ?_
    refine sq_then ?_
    refine cq_ret ?_
    exact sq_res1 rfl (.tmp rfl) (by rw [e1])
theorem containsf_c (l : List Pt) (hn : l.length ≤ 10000) : CtrA Try.prog 27 [pts l, .val (.func (.func 37) #[] #[])] (vb (decide (0 ≤ ixB (fun k => bigB (gp l k)) l.length))) := by
  refine ctrA _ Try.func27 rfl rfl Try.ntmps27 rfl fun w Z => ?_
  simp only [initT, List.map_cons, List.map_nil, Nat.zero_add, Nat.reduceAdd]
  refine cq_seq ?_
  refine cq_region ?_
  apply sq_g; exact g_assign (s := .av (.val (.bool _))) rfl; exact rfl
  refine sq_nil ?_
  refine sq_then ?_
  refine cq_seq ?_
  refine cq_region ?_
  apply sq_g; exact g_move (s := .av _) rfl; exact rfl
  apply sq_g; exact g_move (s := .av _) rfl; exact rfl
  apply sq_g; exact g_call (indexf_c l hn) rfl; exact rfl
  apply sq_g; exact g_cmp rfl rfl rfl; exact rfl
  apply sq_g; exact g_assign (s := .av (.val (.bool _))) rfl; exact rfl
  refine sq_nil ?_
  refine sq_then ?_
  refine cq_ret ?_
  exact sq_res1 rfl (.tmp rfl) rfl
end Go.Proofs.Ytacepcnbgacipaa
namespace Go.Proofs.Ytacepcnbgacipaa
open Go Go.Vc Go.RowKit
set_option maxHeartbeats 2000000
/-! KDQ -/
abbrev ppr (p : Nat × Nat) : AV := pv (p.1 : Int) (p.2 : Int)
def eqp (p q : Nat × Nat) : Bool := [(p.1 : Int), (p.2 : Int)] == [(q.1 : Int), (q.2 : Int)]
theorem index2_c (q : List (Nat × Nat)) (p : Nat × Nat) (hn : q.length ≤ 10000) : CtrA Try.prog 77 [prs q, ppr p] (vi (ixB (fun k => eqp p (gq q k)) q.length)) := by
  refine ctrA _ Try.func77 rfl rfl Try.ntmps77 rfl fun w Z => ?_
  simp only [initT, List.map_cons, List.map_nil, Nat.zero_add, Nat.reduceAdd]
  refine cq_seq ?_
  refine cq_region ?_
  apply sq_g; exact g_box_agg rfl; exact rfl
  apply sq_g; exact g_assign (s := .av (.val (.int _ _))) rfl; exact rfl
  refine sq_nil ?_
  refine sq_then ?_
  refine cq_seq ?_
  refine cq_seq ?_
  refine cq_region ?_
  apply sq_g; exact g_move (s := .av _) rfl; exact rfl
  apply sq_g; exact g_len rfl; exact rfl
  apply sq_g; exact g_move (s := .av (.val (.int _ _))) rfl; exact rfl
  refine sq_nil ?_
  refine sq_then ?_
  refine cq_block ?_
  refine cq_loop (γ := Nat) (fun k => [(0, .av (prs q)), (3, .av (.ptr 2 (fun k => .val ([Go.Value.int .i64 (p.1 : Int), .int .i64 (p.2 : Int)].getD k Go.undef)))), (6, .av (prs q)), (7, .av (vi q.length)), (8, .av (vi k))]) (fun _ => []) (fun k => k ≤ q.length ∧ ∀ j, j < k → eqp p (gq q j) = false) (fun k => q.length - k) 0 ⟨Nat.zero_le _, by omega⟩ (ent ⟨.refl _, .refl _, .refl _, .refl _, .refl _, trivial⟩ trivial) ?_
  rintro k ⟨hk, hall⟩
  refine cq_seq ?_
  refine cq_region ?_
  apply sq_g; exact g_cmp rfl rfl rfl; exact rfl
  refine sq_nil ?_
  refine sq_then ?_
  refine cq_seq ?_
  (refine cq_cond rfl (fun hb => ?_) (fun hb => ?_) <;> (try simp only [decide_eq_true_eq, decide_eq_false_iff_not, beq_iff_eq, beq_eq_false_iff_ne, bne_iff_ne, bne_eq_false_iff_eq, ne_eq, Bool.not_eq_true', Bool.not_eq_false', Bool.and_eq_true, Bool.or_eq_true, Bool.and_eq_false_iff, Bool.or_eq_false_iff] at hb) <;> (try (exfalso; omega)))
  · have hkl : k < q.length := by omega
    refine cq_skip ?_
    refine sq_then ?_
    refine cq_seq ?_
    refine cq_block ?_
    refine cq_seq ?_
    refine cq_region ?_
    apply sq_g; exact g_move (s := .av (.val (.int _ _))) rfl; exact rfl
    apply sq_g; exact g_assign (s := .av (.val (.int _ _))) rfl; exact rfl
    refine sq_nil ?_
    refine sq_then ?_
    refine cq_seq ?_
    refine cq_drawn ?_
    apply dq_g; exact g_load_agg (us := [.int _ _, .int _ _]) rfl rfl rfl rfl; exact rfl
    apply dq_g; exact g_move (s := .av _) rfl; exact rfl
    apply dq_g; exact g_move (s := .av (.val (.int _ _))) rfl; exact rfl
    apply dq_g; exact g_index rfl rfl rfl (by omega); exact rfl
    apply dq_g; exact g_load_agg (us := [.int _ _, .int _ _]) rfl rfl rfl rfl; exact rfl
    apply dq_g; exact g_eql (xs := [_, _]) (ys := [_, _]) rfl rfl rfl rfl; exact rfl
    refine dq_nil tm (by kernel_rfl) ?_
    refine sq_then ?_
    refine cq_cond rfl (fun hb => ?_) (fun hb => ?_)
    · have e1 := ixB_hit (p := fun k => eqp p (gq q k)) hkl hall hb
      refine cq_seq ?_
      refine cq_region ?_
      apply sq_g; exact g_move (s := .av (.val (.int _ _))) rfl; exact rfl
      apply sq_g; exact g_assign (s := .av (.val (.int _ _))) rfl; exact rfl
      refine sq_nil ?_
      refine sq_then ?_
      refine cq_ret ?_
      refine sq_inBlock_ret ?_
      refine sq_then_ret ?_
      refine sq_then_ret ?_
      refine sq_inBlock_ret ?_
      refine sq_then_ret ?_
      exact sq_res1 rfl (.tmp rfl) (by rw [e1])
    · refine cq_skip ?_
      refine sq_then ?_
      refine cq_region ?_
      apply sq_g; exact g_arith rfl rfl rfl (by omega); exact rfl
      apply sq_g; exact g_move (s := .av (.val (.int _ _))) rfl; exact rfl
      refine sq_nil ?_
      exact sq_round (k + 1) ⟨by omega, lt_step hall hb⟩ (by omega) (ent ⟨.refl _, .refl _, .refl _, .refl _, .int (by omega), trivial⟩ trivial)
  · have hkl : k = q.length := by omega
    subst hkl
    have e1 := ixB_no (p := fun k => eqp p (gq q k)) hall
    refine cq_exit ?_
    refine sq_then ?_
    refine cq_seq ?_
    refine cq_region ?_
    apply sq_g; exact g_assign (s := .av (.val (.int _ _))) rfl; exact rfl
    refine sq_nil ?_
    refine sq_then ?_
    refine cq_ret ?_
    exact sq_res1 rfl (.tmp rfl) (by rw [e1])
theorem contains2_c (q : List (Nat × Nat)) (p : Nat × Nat) (hn : q.length ≤ 10000) : CtrA Try.prog 43 [prs q, ppr p] (vb (decide (0 ≤ ixB (fun k => eqp p (gq q k)) q.length))) := by
  refine ctrA _ Try.func43 rfl rfl Try.ntmps43 rfl fun w Z => ?_
  simp only [initT, List.map_cons, List.map_nil, Nat.zero_add, Nat.reduceAdd]
  refine cq_seq ?_
  refine cq_region ?_
  apply sq_g; exact g_box_agg rfl; exact rfl
  apply sq_g; exact g_assign (s := .av (.val (.bool _))) rfl; exact rfl
  refine sq_nil ?_
  refine sq_then ?_
  refine cq_seq ?_
  refine cq_region ?_
  apply sq_g; exact g_move (s := .av _) rfl; exact rfl
  apply sq_g; exact g_load_agg (us := [.int _ _, .int _ _]) rfl rfl rfl rfl; exact rfl
  apply sq_g; exact g_call (index2_c q p hn) rfl; exact rfl
  apply sq_g; exact g_cmp rfl rfl rfl; exact rfl
  apply sq_g; exact g_assign (s := .av (.val (.bool _))) rfl; exact rfl
  refine sq_nil ?_
  refine sq_then ?_
  refine cq_ret ?_
  exact sq_res1 rfl (.tmp rfl) rfl
end Go.Proofs.Ytacepcnbgacipaa
namespace Go.Proofs.Ytacepcnbgacipaa
open Go Go.Vc
/-- Any direction in which the two face each other. -/
theorem opp_of_dir {l v : List Pt} (h : VOk l v) {i j ki kj : Nat} (hi : i < l.length) (hj : j < l.length) (hki : ki < v.length) (hkj : kj < v.length) (ei : gp v ki = gp l i) (ej : gp v kj = gp l j) (hne : gp l i ≠ gp l j)
    {d0 : Pt} (hd : d0 ≠ ⟨0, 0⟩) (hu1 : Up l d0 (gp l i)) (hu2 : Up l (neg d0) (gp l j)) : opp v (gp l i) (gp l j) = true := by
  have hv : ∀ k, SmP (gp v k) := by
    refine all_gp (q := SmP) (fun p hp => ?_) SmP_d
    obtain ⟨k, hk, rfl⟩ := List.getElem_of_mem hp
    obtain ⟨x, _, e⟩ := h.sub k hk
    rw [← gp_eq hk, ← e]; exact h.sm x
  rw [opp_iff h ⟨ki, hki, ei⟩ ⟨kj, hkj, ej⟩ (h.sm i) (h.sm j) hv]
  -- what must not fall behind
  let C : List Pt := ((List.range v.length).filter (fun q => decide (gp v q ≠ gp l i))).map (fun q => sub (gp l i) (gp v q)) ++ ((List.range v.length).filter (fun q => decide (gp v q ≠ gp l j))).map (fun q => sub (gp v q) (gp l j))
  have hCm : ∀ c, c ∈ C ↔ (∃ q, q < v.length ∧ gp v q ≠ gp l i ∧ sub (gp l i) (gp v q) = c) ∨ (∃ q, q < v.length ∧ gp v q ≠ gp l j ∧ sub (gp v q) (gp l j) = c) := by
    intro c
    simp only [C, List.mem_append, List.mem_map, List.mem_filter, List.mem_range, decide_eq_true_eq, and_assoc]
  have hne' : C ≠ [] := by
    have : sub (gp l i) (gp v kj) ∈ C := (hCm _).2 (.inl ⟨kj, hkj, by rw [ej]; exact fun e => hne e.symm, rfl⟩)
    exact List.ne_nil_of_mem this
  have hpos : ∀ c ∈ C, 0 ≤ dot c d0 := by
    intro c hc
    rcases (hCm c).1 hc with ⟨q, hq, _, rfl⟩ | ⟨q, hq, _, rfl⟩
    · obtain ⟨x, hx, e⟩ := h.sub q hq
      rw [dot_sub, ← e]; have := hu1 x hx; omega
    · obtain ⟨x, hx, e⟩ := h.sub q hq
      rw [dot_sub, ← e]; have := hu2 x hx; rw [dot_neg, dot_neg] at this; omega
  have hz : ∀ c ∈ C, c ≠ ⟨0, 0⟩ := by
    intro c hc
    rcases (hCm c).1 hc with ⟨q, hq, k, rfl⟩ | ⟨q, hq, k, rfl⟩
    · exact sub_ne (fun e => k e.symm)
    · exact sub_ne k
  obtain ⟨c, hc, hs⟩ := coneX hd hne' hpos hz
  have up : ∀ s, BdP s → s ≠ ⟨0, 0⟩ → (∀ c' ∈ C, 0 ≤ dot c' s) → Fac l (gp l i) (gp l j) s := by
    intro s hsb hs0 hall
    refine ⟨(h.up hs0 hsb).1 fun q hq => ?_, (h.up (neg_ne hs0) (neg_bd hsb)).1 fun q hq => ?_⟩
    · by_cases e : gp v q = gp l i
      · rw [e]; exact Int.le_refl _
      · have := hall _ ((hCm _).2 (.inl ⟨q, hq, e, rfl⟩))
        rw [dot_sub] at this; omega
    · by_cases e : gp v q = gp l j
      · rw [e]; exact Int.le_refl _
      · have := hall _ ((hCm _).2 (.inr ⟨q, hq, e, rfl⟩))
        rw [dot_sub] at this; rw [dot_neg, dot_neg]; omega
  rcases (hCm c).1 hc with ⟨q, hq, k, rfl⟩ | ⟨q, hq, k, rfl⟩
  · obtain ⟨r1, r2, _, _⟩ := rot_sub (gp l i) (gp v q)
    rw [r2, r1] at hs
    refine ⟨gp l i, q, .inl rfl, hq, k, ?_⟩
    rcases hs with hs | hs
    · exact .inr (up _ (nrn_bd (h.sm i) (hv q)) (by rw [nrn_neg]; exact neg_ne (nrm_ne (fun e => k e.symm))) hs)
    · exact .inl (up _ (nrm_bd (h.sm i) (hv q)) (nrm_ne (fun e => k e.symm)) hs)
  · obtain ⟨_, _, r3, r4⟩ := rot_sub (gp v q) (gp l j)
    rw [r4, r3] at hs
    refine ⟨gp l j, q, .inr rfl, hq, k, ?_⟩
    rcases hs with hs | hs
    · exact .inl (up _ (nrm_bd (h.sm j) (hv q)) (nrm_ne (fun e => k e.symm)) hs)
    · exact .inr (up _ (nrn_bd (h.sm j) (hv q)) (by rw [nrn_neg]; exact neg_ne (nrm_ne (fun e => k e.symm))) hs)
theorem far_dir (a b p : Pt) (h : dot (sub p b) (sub p b) ≤ dot (sub a b) (sub a b)) : dot p (sub a b) ≤ dot a (sub a b) := by
  have e : dot (sub p b) (sub p b) + dot (sub a b) (sub a b) - 2 * (dot p (sub a b) - dot b (sub a b)) = dot (sub p a) (sub p a) := by simp only [dot, sub]; grind
  have e2 : dot (sub a b) (sub a b) = dot a (sub a b) - dot b (sub a b) := by simp only [dot, sub]; grind
  have h3 : 0 ≤ dot (sub p a) (sub p a) := by
    have h1 : ∀ x : Int, 0 ≤ x * x := fun x => by
      rcases Int.le_total 0 x with k | k
      · exact Int.mul_nonneg k k
      · exact Int.mul_nonneg_of_nonpos_of_nonpos k k
    have := h1 (sub p a).x
    have := h1 (sub p a).y
    simp only [dot]; omega
  omega
theorem far_eq (a b p : Pt) (h : dot (sub p b) (sub p b) ≤ dot (sub a b) (sub a b)) (h2 : dot p (sub a b) = dot a (sub a b)) : p = a := by
  have e : dot (sub p b) (sub p b) + dot (sub a b) (sub a b) - 2 * (dot p (sub a b) - dot b (sub a b)) = dot (sub p a) (sub p a) := by simp only [dot, sub]; grind
  have e2 : dot (sub a b) (sub a b) = dot a (sub a b) - dot b (sub a b) := by simp only [dot, sub]; grind
  by_cases hh : sub p a = ⟨0, 0⟩
  · have := hh
    cases p; cases a
    simp only [sub, Pt.mk.injEq] at *
    omega
  · have := sq_pos hh
    simp only [dot] at e e2 h h2
    omega
theorem lf_dot (a d p : Pt) : lf (-d.x) (-d.y) a p = dot a d - dot p d := by simp only [lf, dot]; grind
theorem far_vtx {l : List Pt} (hc : chk l = 0) (h0 : 0 < l.length) {i j : Nat} (hi : i < l.length) (hmax : ∀ p, p < l.length → dot (sub (gp l p) (gp l j)) (sub (gp l p) (gp l j)) ≤ dot (sub (gp l i) (gp l j)) (sub (gp l i) (gp l j))) :
    ∃ x, x < l.length ∧ gp l x = gp l i ∧ vtx l x = true := by
  have h := s_ok hc h0
  obtain ⟨x, hx, e, _⟩ := h.cover i hi
  refine ⟨x, h.lt x hx, e, h.vtx_of hx ⟨-(sub (gp l i) (gp l j)).x, -(sub (gp l i) (gp l j)).y, fun p hp hne => ?_⟩⟩
  rw [lf_dot, e]
  have h1 := hmax p (h.lt p hp)
  have h2 := far_dir (gp l i) (gp l j) (gp l p) h1
  by_cases k : dot (gp l p) (sub (gp l i) (gp l j)) = dot (gp l i) (sub (gp l i) (gp l j))
  · exact absurd (h.inj p hp x hx ((far_eq _ _ _ h1 k).trans e.symm)) hne
  · omega
end Go.Proofs.Ytacepcnbgacipaa
namespace Go.Proofs.Ytacepcnbgacipaa
open Go Go.Vc
theorem farS_ge (l : List Pt) (i : Nat) (s : FS) (j : Nat) : s.1 ≤ (farS l i s j).1 ∧ far (gp l i) (gp l j) ≤ (farS l i s j).1 := by
  unfold farS; split <;> simp <;> omega
theorem farR_ge (l : List Pt) (i : Nat) (s : FS) : ∀ m, s.1 ≤ (farR l i s m).1 ∧ ∀ k, k < m → far (gp l i) (gp l (i + 1 + k)) ≤ (farR l i s m).1
  | 0 => ⟨by simp [farR], by omega⟩
  | m + 1 => by
    obtain ⟨h1, h2⟩ := farR_ge l i s m
    have h := farS_ge l i (farR l i s m) (i + 1 + m)
    rw [farR_succ]
    refine ⟨by omega, fun k hk => ?_⟩
    by_cases e : k = m
    · subst e; exact h.2
    · have := h2 k (by omega); omega
theorem farTo_ge (l : List Pt) : ∀ n, n ≤ l.length → ∀ i j, i < n → i < j → j < l.length → far (gp l i) (gp l j) ≤ (farTo l n).1
  | 0, _, i, j, hi, _, _ => by omega
  | n + 1, hn, i, j, hi, hij, hj => by
    have h := farR_ge l n (farTo l n) (l.length - (n + 1))
    rw [farTo_succ]
    by_cases e : i = n
    · subst e
      have := h.2 (j - (i + 1)) (by omega)
      rwa [show i + 1 + (j - (i + 1)) = j by omega] at this
    · have := farTo_ge l n (by omega) i j (by omega) hij hj
      omega
def FarAt (l : List Pt) (s : FS) : Prop := s = (-1, 0, 0) ∨ ∃ i j, i < j ∧ j < l.length ∧ s = (far (gp l i) (gp l j), i, j)
theorem farR_at (l : List Pt) (i : Nat) (s : FS) (hs : FarAt l s) : ∀ m, i + 1 + m ≤ l.length → FarAt l (farR l i s m)
  | 0, _ => by simpa [farR] using hs
  | m + 1, h => by
    rw [farR_succ]
    unfold farS
    split
    · exact .inr ⟨i, i + 1 + m, by omega, by omega, rfl⟩
    · exact farR_at l i s hs m (by omega)
theorem farTo_at (l : List Pt) : ∀ n, n ≤ l.length → FarAt l (farTo l n)
  | 0, _ => .inl rfl
  | n + 1, hn => by
    rw [farTo_succ]
    exact farR_at l n _ (farTo_at l n (by omega)) _ (by omega)
end Go.Proofs.Ytacepcnbgacipaa
namespace Go.Proofs.Ytacepcnbgacipaa
open Go Go.Vc
theorem mem_rpr {l : List Pt} {i j : Nat} : (i, j) ∈ rpr l ↔ i < j ∧ j < l.length ∧ vtx l i = true ∧ vtx l j = true ∧ fac l i j = true := by
  unfold rpr prTo prR prQ prB
  simp only [List.mem_flatMap, List.mem_range]
  constructor
  · rintro ⟨a, ha, k, hk, h⟩
    split at h
    · rename_i hb
      simp only [List.mem_singleton, Prod.mk.injEq] at h
      obtain ⟨rfl, rfl⟩ := h
      simp only [Bool.and_eq_true] at hb
      exact ⟨by omega, by omega, hb.1, hb.2.1, hb.2.2⟩
    · cases h
  · rintro ⟨h1, h2, h3, h4, h5⟩
    refine ⟨i, by omega, j - (i + 1), by omega, ?_⟩
    rw [show i + 1 + (j - (i + 1)) = j by omega, h3, h4, h5]
    simp
theorem fac_of {l : List Pt} (h0 : 0 < l.length) {i j a b : Nat} (hi : i < l.length) (hj : j < l.length) (ha : a < l.length) (hb : b < l.length) (hne : gp l a ≠ gp l b) (hf : Fac l (gp l i) (gp l j) (nrm (gp l a) (gp l b))) : fac l i j = true ∧ fac l j i = true := by
  refine ⟨(fac_iff h0 hi hj).2 ⟨a, b, ha, hb, hne, hf⟩, (fac_iff h0 hj hi).2 ⟨b, a, hb, ha, fun e => hne e.symm, ?_⟩⟩
  rw [nrm_swap, nrn_neg]
  exact ⟨hf.2, by rw [neg_neg]; exact hf.1⟩
theorem rpr_of {l : List Pt} {i j : Nat} (hi : i < l.length) (hj : j < l.length) (hne : i ≠ j) (vi : vtx l i = true) (vj : vtx l j = true) (h : fac l i j = true ∧ fac l j i = true) : (min i j, max i j) ∈ rpr l := by
  rw [mem_rpr]
  rcases Nat.lt_or_gt_of_ne hne with h1 | h1
  · rw [Nat.min_eq_left (by omega), Nat.max_eq_right (by omega)]
    exact ⟨h1, hj, vi, vj, h.1⟩
  · rw [Nat.min_eq_right (by omega), Nat.max_eq_left (by omega)]
    exact ⟨h1, hi, vj, vi, h.2⟩
/-- Going through the vertices for the one that is farthest from the side. -/
def fvS (l : List Pt) (a b : Nat) (s : Nat × Int) (c : Nat) : Nat × Int := if crs (gp l a) (gp l b) (gp l c) > s.2 then (c, crs (gp l a) (gp l b) (gp l c)) else s
def fvT (l : List Pt) (v : List Nat) (a b k : Nat) : Nat × Int := (List.range k).foldl (fun s i => fvS l a b s (gi v i)) (a, 0)
theorem fvT_succ (l : List Pt) (v : List Nat) (a b k : Nat) : fvT l v a b (k + 1) = fvS l a b (fvT l v a b k) (gi v k) := by simp [fvT, List.range_succ]
theorem fvT_ok (l : List Pt) (v : List Nat) (a b : Nat) : ∀ k, 0 ≤ (fvT l v a b k).2 ∧ (∀ i, i < k → crs (gp l a) (gp l b) (gp l (gi v i)) ≤ (fvT l v a b k).2) ∧ ((fvT l v a b k) = (a, 0) ∨ ∃ i, i < k ∧ fvT l v a b k = (gi v i, crs (gp l a) (gp l b) (gp l (gi v i))) ∧ 0 < crs (gp l a) (gp l b) (gp l (gi v i)))
  | 0 => ⟨Int.le_refl _, by omega, .inl rfl⟩
  | k + 1 => by
    obtain ⟨h1, h2, h3⟩ := fvT_ok l v a b k
    rw [fvT_succ]
    unfold fvS
    split
    · rename_i hb
      refine ⟨by show 0 ≤ crs (gp l a) (gp l b) (gp l (gi v k)); omega, fun i hi => ?_, .inr ⟨k, by omega, rfl, by omega⟩⟩
      by_cases e : i = k
      · subst e; exact Int.le_refl _
      · have := h2 i (by omega)
        show _ ≤ crs (gp l a) (gp l b) (gp l (gi v k))
        omega
    · rename_i hb
      refine ⟨h1, fun i hi => ?_, ?_⟩
      · by_cases e : i = k
        · subst e; omega
        · exact h2 i (by omega)
      · rcases h3 with h3 | ⟨i, hi, h3⟩
        · exact .inl h3
        · exact .inr ⟨i, by omega, h3⟩
theorem dot_nrm (a b p : Pt) : dot p (nrm a b) - dot a (nrm a b) = crs a b p := by
  simp only [dot, nrm, crs, trn, sub]; grind
theorem dot_nrm_b (a b : Pt) : dot b (nrm a b) = dot a (nrm a b) := by
  simp only [dot, nrm, sub]; grind
/-- A side and the vertex that is farthest from it. -/
theorem side_far {l : List Pt} (hc : chk l = 0) (h0 : 0 < l.length) {k : Nat} (hk : k < (arr l).length) :
    (fvT l (arr l) (gi (arr l) k) (gi (arr l) ((k + 1) % (arr l).length)) (arr l).length).1 ≠ gi (arr l) k →
      (min (gi (arr l) k) (fvT l (arr l) (gi (arr l) k) (gi (arr l) ((k + 1) % (arr l).length)) (arr l).length).1, max (gi (arr l) k) (fvT l (arr l) (gi (arr l) k) (gi (arr l) ((k + 1) % (arr l).length)) (arr l).length).1) ∈ rpr l ∧
      (min (gi (arr l) ((k + 1) % (arr l).length)) (fvT l (arr l) (gi (arr l) k) (gi (arr l) ((k + 1) % (arr l).length)) (arr l).length).1, max (gi (arr l) ((k + 1) % (arr l).length)) (fvT l (arr l) (gi (arr l) k) (gi (arr l) ((k + 1) % (arr l).length)) (arr l).length).1) ∈ rpr l := by
  have H := hull_ok hc h0
  have sm := chk_sm hc
  have hk2 : (k + 1) % (arr l).length < (arr l).length := Nat.mod_lt _ H.pos
  have h1 := fvT_ok l (arr l) (gi (arr l) k) (gi (arr l) ((k + 1) % (arr l).length)) (arr l).length
  have he := fun hn => H.edge hn k hk
  have hva := H.vtx hk
  have hvb := H.vtx hk2
  have hla := H.lt k hk
  have hlb := H.lt _ hk2
  have hlen : ∀ m, m < (arr l).length → gi (arr l) m ≠ gi (arr l) k → 1 < (arr l).length := by
    intro m hm hne
    apply Classical.byContradiction
    intro hcn
    exact hne (by rw [show m = k by omega])
  generalize hT : fvT l (arr l) (gi (arr l) k) (gi (arr l) ((k + 1) % (arr l).length)) (arr l).length = T at *
  generalize gi (arr l) ((k + 1) % (arr l).length) = b at *
  generalize gi (arr l) k = a at *
  intro hne
  obtain ⟨h1, h2, h3 | ⟨m, hm, h3, h4⟩⟩ := h1
  · exact absurd (by rw [h3]) hne
  · have e1 : T.1 = gi (arr l) m := by rw [h3]
    have e2 : T.2 = crs (gp l a) (gp l b) (gp l (gi (arr l) m)) := by rw [h3]
    rw [e1] at hne ⊢
    rw [e2] at h2
    have hvf := H.vtx hm
    have hlf := H.lt m hm
    have he := he (hlen m hm hne)
    have hab : gp l a ≠ gp l b := fun e => by
      rw [e] at h4
      have : crs (gp l b) (gp l b) (gp l (gi (arr l) m)) = 0 := by simp only [crs, trn, sub]; grind
      omega
    have hup : Up l (nrm (gp l a) (gp l b)) (gp l (gi (arr l) m)) := by
      obtain ⟨x, hx, hv, hmx⟩ := vmax hc h0 (nrm_ne hab) (nrm_bd (sm a) (sm b))
      obtain ⟨q, hq, eq⟩ := List.getElem_of_mem ((H.mem x hx).2 hv)
      have h5 := h2 q hq
      rw [gi_eq hq, eq] at h5
      intro p hp
      have h6 := hmx p hp
      have h7 := dot_nrm (gp l a) (gp l b) (gp l x)
      have h8 := dot_nrm (gp l a) (gp l b) (gp l (gi (arr l) m))
      omega
    have hfa : Fac l (gp l (gi (arr l) m)) (gp l a) (nrm (gp l a) (gp l b)) := by
      refine ⟨hup, fun p hp => ?_⟩
      rw [dot_neg, dot_neg]
      have h7 := dot_nrm (gp l a) (gp l b) (gp l p)
      have := he p hp
      omega
    have hfb : Fac l (gp l (gi (arr l) m)) (gp l b) (nrm (gp l a) (gp l b)) := by
      refine ⟨hup, fun p hp => ?_⟩
      rw [dot_neg, dot_neg, dot_nrm_b]
      have h7 := dot_nrm (gp l a) (gp l b) (gp l p)
      have := he p hp
      omega
    have hnb : gi (arr l) m ≠ b := fun e => by
      rw [e] at h4
      have : crs (gp l a) (gp l b) (gp l b) = 0 := by simp only [crs, trn, sub]; grind
      omega
    exact ⟨rpr_of hla hlf (fun e => hne e.symm) hva hvf (fac_of h0 hlf hla hla hlb hab hfa).symm, rpr_of hlb hlf (fun e => hnb e.symm) hvb hvf (fac_of h0 hlf hlb hla hlb hab hfb).symm⟩
theorem vok {l : List Pt} (hc : chk l = 0) (h0 : 0 < l.length) : VOk l (pick l (arr l)) := by
  have H := hull_ok hc h0
  refine ⟨fun k hk => ?_, fun d hd hb => ?_, chk_sm hc, h0⟩
  · rw [pick_len] at hk
    rw [gp_pick hk]
    exact ⟨_, H.lt k hk, rfl⟩
  · obtain ⟨x, hx, hv, hm⟩ := vmax hc h0 hd hb
    obtain ⟨k, hk, e⟩ := List.getElem_of_mem ((H.mem x hx).2 hv)
    refine ⟨k, by rw [pick_len]; exact hk, ?_⟩
    rw [gp_pick hk, gi_eq hk, e]
    exact hm
theorem far_fac {l : List Pt} (hc : chk l = 0) (h0 : 0 < l.length) {x y : Nat} (hx : x < l.length) (hy : y < l.length) (vx : vtx l x = true) (vy : vtx l y = true) (hne : gp l x ≠ gp l y)
    (h1 : ∀ p, p < l.length → far (gp l p) (gp l y) ≤ far (gp l x) (gp l y)) (h2 : ∀ p, p < l.length → far (gp l p) (gp l x) ≤ far (gp l y) (gp l x)) : fac l x y = true := by
  have H := hull_ok hc h0
  have V := vok hc h0
  obtain ⟨kx, hkx, ex⟩ := List.getElem_of_mem ((H.mem x hx).2 vx)
  obtain ⟨ky, hky, ey⟩ := List.getElem_of_mem ((H.mem y hy).2 vy)
  have gx : gp (pick l (arr l)) kx = gp l x := by rw [gp_pick hkx, gi_eq hkx, ex]
  have gy : gp (pick l (arr l)) ky = gp l y := by rw [gp_pick hky, gi_eq hky, ey]
  have lx : kx < (pick l (arr l)).length := by rw [pick_len]; exact hkx
  have ly : ky < (pick l (arr l)).length := by rw [pick_len]; exact hky
  rw [← opp_fac V hx hy lx ly gx gy hne]
  refine opp_of_dir V hx hy lx ly gx gy hne (sub_ne hne) (fun p hp => far_dir _ _ _ (h1 p hp)) (fun p hp => ?_)
  have e : neg (sub (gp l x) (gp l y)) = sub (gp l y) (gp l x) := by simp only [neg, sub, Pt.mk.injEq]; omega
  rw [e]
  exact far_dir _ _ _ (h2 p hp)
theorem far_nn (a b : Pt) : 0 ≤ far a b := by
  unfold far dot
  have h1 : ∀ x : Int, 0 ≤ x * x := fun x => by
    rcases Int.le_total 0 x with k | k
    · exact Int.mul_nonneg k k
    · exact Int.mul_nonneg_of_nonpos_of_nonpos k k
  have h2 := h1 (sub a b).x
  have h3 := h1 (sub a b).y
  omega
theorem far_swap (a b : Pt) : far a b = far b a := by simp only [far, dot, sub]; grind
theorem far_self (a : Pt) : far a a = 0 := by simp [far, dot, sub]
/-- The greatest distance of the pairs. -/
def bpT (l : List Pt) (q : List (Nat × Nat)) (k : Nat) : Int := (List.range k).foldl (fun m i => max m (far (gp l (gq q i).1) (gp l (gq q i).2))) 0
theorem bpT_succ (l : List Pt) (q : List (Nat × Nat)) (k : Nat) : bpT l q (k + 1) = max (bpT l q k) (far (gp l (gq q k).1) (gp l (gq q k).2)) := by simp [bpT, List.range_succ]
theorem bpT_ok (l : List Pt) (q : List (Nat × Nat)) : ∀ k, 0 ≤ bpT l q k ∧ (∀ i, i < k → far (gp l (gq q i).1) (gp l (gq q i).2) ≤ bpT l q k) ∧ ∀ M, 0 ≤ M → (∀ i, i < k → far (gp l (gq q i).1) (gp l (gq q i).2) ≤ M) → bpT l q k ≤ M
  | 0 => ⟨Int.le_refl _, by omega, fun M h _ => h⟩
  | k + 1 => by
    obtain ⟨h1, h2, h3⟩ := bpT_ok l q k
    rw [bpT_succ]
    refine ⟨by omega, fun i hi => ?_, fun M hM h => ?_⟩
    · by_cases e : i = k
      · subst e; omega
      · have := h2 i (by omega); omega
    · have := h3 M hM (fun i hi => h i (by omega))
      have := h k (by omega)
      omega
theorem gq_eq {q : List (Nat × Nat)} {k : Nat} (h : k < q.length) : gq q k = q[k] := by simp [gq, List.getD, h]
theorem pair_ok {l : List Pt} (hc : chk l = 0) (h0 : 0 < l.length) {k : Nat} (hk : k < (rpr l).length) : (gq (rpr l) k).1 < (gq (rpr l) k).2 ∧ (gq (rpr l) k).2 < l.length ∧ (gq (rpr l) k).1 ∈ arr l ∧ (gq (rpr l) k).2 ∈ arr l := by
  have hm : ((gq (rpr l) k).1, (gq (rpr l) k).2) ∈ rpr l := by
    rw [gq_eq hk]; exact List.getElem_mem hk
  rw [mem_rpr] at hm
  have H := hull_ok hc h0
  exact ⟨hm.1, hm.2.1, (H.mem _ (by omega)).2 hm.2.2.1, (H.mem _ hm.2.1).2 hm.2.2.2.1⟩
theorem best_far {l : List Pt} (hc : chk l = 0) (h2 : 2 ≤ l.length) : (farTo l l.length).1 = bpT l (rpr l) (rpr l).length := by
  have h0 : 0 < l.length := by omega
  obtain ⟨b1, b2, b3⟩ := bpT_ok l (rpr l) (rpr l).length
  have hge := farTo_ge l l.length (Nat.le_refl _)
  have h01 := hge 0 1 (by omega) (by omega) (by omega)
  have hn := far_nn (gp l 0) (gp l 1)
  have hall : ∀ i j, i < l.length → j < l.length → far (gp l i) (gp l j) ≤ (farTo l l.length).1 := by
    intro i j hi hj
    rcases Nat.lt_trichotomy i j with h | h | h
    · exact hge i j hi h hj
    · subst h; rw [far_self]; omega
    · rw [far_swap]; exact hge j i hj h hi
  have hup : bpT l (rpr l) (rpr l).length ≤ (farTo l l.length).1 := b3 _ (by omega) (fun k hk => by
    obtain ⟨p1, p2, _⟩ := pair_ok hc h0 hk
    exact hall _ _ (by omega) p2)
  rcases farTo_at l l.length (Nat.le_refl _) with e | ⟨i, j, hij, hj, e⟩
  · rw [e] at h01; simp only at h01; omega
  · have e1 : (farTo l l.length).1 = far (gp l i) (gp l j) := by rw [e]
    rw [e1] at hall hup ⊢
    by_cases hz : far (gp l i) (gp l j) ≤ 0
    · omega
    have hi : i < l.length := by omega
    obtain ⟨x, hx, ex, vx⟩ := far_vtx hc h0 hi (j := j) (fun p hp => hall p j hp hj)
    obtain ⟨y, hy, ey, vy⟩ := far_vtx hc h0 hj (j := i) (fun p hp => by have := hall p i hp hi; rw [far_swap (gp l i)] at this; exact this)
    have hne : gp l x ≠ gp l y := fun e3 => by
      rw [ex, ey] at e3; rw [e3, far_self] at hz; omega
    have hxy : ∀ p, p < l.length → far (gp l p) (gp l y) ≤ far (gp l x) (gp l y) := fun p hp => by rw [ex, ey]; exact hall p j hp hj
    have hyx : ∀ p, p < l.length → far (gp l p) (gp l x) ≤ far (gp l y) (gp l x) := fun p hp => by rw [ex, ey, far_swap (gp l j)]; exact hall p i hp hi
    have hm := rpr_of hx hy (fun e3 => hne (by rw [e3])) vx vy ⟨far_fac hc h0 hx hy vx vy hne hxy hyx, far_fac hc h0 hy hx vy vx (fun e3 => hne e3.symm) hyx hxy⟩
    obtain ⟨k, hk, ek⟩ := List.getElem_of_mem hm
    have := b2 k hk
    rw [gq_eq hk, ek] at this
    have h5 : far (gp l (min x y)) (gp l (max x y)) = far (gp l i) (gp l j) := by
      rcases Nat.le_total x y with h | h
      · rw [Nat.min_eq_left h, Nat.max_eq_right h, ex, ey]
      · rw [Nat.min_eq_right h, Nat.max_eq_left h, ex, ey, far_swap]
    simp only at this
    omega
end Go.Proofs.Ytacepcnbgacipaa
namespace Go.Proofs.Ytacepcnbgacipaa
open Go Go.Vc Go.RowKit
set_option maxHeartbeats 4000000
/-! KDQ -/
theorem ixB_has {p : Nat → Bool} {n k : Nat} (hk : k < n) (h : p k = true) : decide (0 ≤ ixB p n) = true := by
  rw [decide_eq_true_eq]
  unfold ixB
  split
  · omega
  · rename_i h2
    rw [List.find?_eq_none] at h2
    exact absurd h (h2 k (List.mem_range.2 hk))
theorem has_c {v : List Nat} {n : Nat} (hn : v.length ≤ 10000) (h : n ∈ v) : CtrA Try.prog 41 [idx v, vi n] (vb true) := by
  obtain ⟨k, hk, e⟩ := List.getElem_of_mem h
  have := contains_c v n hn
  rwa [ixB_has hk (decide_eq_true (by rw [gi_eq hk]; exact e.symm))] at this
theorem has2_c {q : List (Nat × Nat)} {i j : Nat} {x y : Int} (hn : q.length ≤ 10000) (h : (i, j) ∈ q) (hx : x = i) (hy : y = j) : CtrA Try.prog 43 [prs q, pv x y] (vb true) := by
  subst hx hy
  obtain ⟨k, hk, e⟩ := List.getElem_of_mem h
  have := contains2_c q (i, j) hn
  rwa [ixB_has hk (by rw [gq_eq hk, e]; simp [eqp])] at this
theorem farthest_c (l : List Pt) : CtrA Try.prog 9 [pts l] (vb true) := by
  refine ctrA _ Try.func9 rfl rfl Try.ntmps9 rfl fun w Z => ?_
  simp only [initT, List.map_cons, List.map_nil, Nat.zero_add, Nat.reduceAdd]
  refine cq_seq ?_
  refine cq_region ?_
  apply sq_g; exact g_assign (s := .av (.val (.bool _))) rfl; exact rfl
  refine sq_nil ?_
  refine sq_then ?_
  refine cq_seq ?_
  refine cq_seq ?_
  refine cq_region ?_
  apply sq_g; exact g_move (s := .av _) rfl; exact rfl
  apply sq_g; exact g_call (lright_c l) rfl; exact rfl
  apply sq_g; exact g_not rfl; exact rfl
  refine sq_nil ?_
  refine sq_then ?_
  (refine cq_cond rfl (fun hb => ?_) (fun hb => ?_) <;> (try simp only [decide_eq_true_eq, decide_eq_false_iff_not, beq_iff_eq, beq_eq_false_iff_ne, bne_iff_ne, bne_eq_false_iff_eq, ne_eq, Bool.not_eq_true', Bool.not_eq_false', Bool.and_eq_true, Bool.or_eq_true, Bool.and_eq_false_iff, Bool.or_eq_false_iff] at hb) <;> (try (exfalso; omega)))
  · refine cq_seq ?_
    refine cq_region ?_
    apply sq_g; exact g_call (awake_c) rfl; exact rfl
    apply sq_g; exact g_assign (s := .av (.val (.bool _))) rfl; exact rfl
    refine sq_nil ?_
    refine sq_then ?_
    refine cq_ret ?_
    refine sq_then_ret ?_
    exact sq_res1 rfl (.tmp rfl) rfl
  · have hr : 0 < l.length ∧ l.length ≤ 8 ∧ chk l = 0 := by simpa using hb
    obtain ⟨h0, h8, hc⟩ := hr
    have sm := chk_sm hc
    have hs : Sml l := sml_of (fun _ => by omega)
    have he : errH l = 0 := by simp [errH, hc, show l.length ≠ 0 by omega]
    have hv : hullN l = arr l := by simp [hullN, he]
    have ht := turn_ok hc h0
    have hcl := hull_c l hs
    have ha := (anti_c l (fun hc => ⟨(hs hc).1, (hs hc).2.1, (hs hc).2.2⟩)).roN
    have hq : antN l = rpr l := by unfold antN; rw [if_pos hc, ant_rpr hc]
    rw [hq, hc] at ha
    rw [he, hv] at hcl
    have hpo := fun k (hk : k < (rpr l).length) => pair_ok hc h0 hk
    have hsf := fun k (hk : k < (arr l).length) => side_far hc h0 hk
    have hbf := fun (h2 : 2 ≤ l.length) => best_far hc h2
    have hlen : (rpr l).length ≤ 10000 := by
      have := prTo_len l (by omega) l.length
      unfold rpr; omega
    generalize rpr l = q at *
    generalize arr l = v at *
    have p0 := ht.pos
    have p1 := ht.len
    have m1 := minV_nn v (v.length - 1)
    have m2 := maxV_lt p0 ht.lt (v.length - 1) (by omega)
    clear hb
    refine cq_skip ?_
    refine sq_then ?_
    refine cq_seq ?_
    refine cq_region ?_
    apply sq_g; exact g_move (s := .av _) rfl; exact rfl
    apply sq_g; exact g_call (hcl) rfl; exact rfl
    apply sq_g; exact g_move (s := .av _) rfl; exact rfl
    apply sq_g; exact g_extractT rfl rfl; exact rfl
    apply sq_g; exact g_extractT rfl rfl; exact rfl
    apply sq_g; exact g_assign (s := .av _) rfl; exact rfl
    apply sq_g; exact g_assign (s := .av (.val (.int _ _))) rfl; exact rfl
    refine sq_nil ?_
    refine sq_then ?_
    refine cq_seq ?_
    refine cq_region ?_
    apply sq_g; exact g_move (s := .av _) rfl; exact rfl
    apply sq_g; exact g_call (ha) rfl; exact rfl
    apply sq_g; exact g_move (s := .av _) rfl; exact rfl
    apply sq_g; exact g_extractT rfl rfl; exact rfl
    apply sq_g; exact g_extractT rfl rfl; exact rfl
    apply sq_g; exact g_assign (s := .av _) rfl; exact rfl
    apply sq_g; exact g_assign (s := .av (.val (.int _ _))) rfl; exact rfl
    refine sq_nil ?_
    refine sq_then ?_
    refine cq_seq ?_
    refine cq_seq ?_
    refine cq_region ?_
    apply sq_g; exact g_move (s := .av (.val (.int _ _))) rfl; exact rfl
    apply sq_g; exact g_cmp rfl rfl rfl; exact rfl
    apply sq_g; exact g_move (s := .av (.val (.bool _))) rfl; exact rfl
    apply sq_on; exact g_move (s := .av (.val (.int _ _))) rfl; exact rfl; exact rfl; exact rfl
    apply sq_on; exact g_cmp rfl rfl rfl; exact rfl; exact rfl; exact rfl
    apply sq_g; exact g_pick (s := .av (.val (.bool _))) rfl rfl; exact rfl
    refine sq_nil ?_
    refine sq_then ?_
    refine cq_cond_f rfl ?_
    refine cq_skip ?_
    refine sq_then ?_
    refine cq_seq ?_
    refine cq_seq ?_
    refine cq_region ?_
    apply sq_g; exact g_move (s := .av _) rfl; exact rfl
    apply sq_g; exact g_len rfl; exact rfl
    apply sq_g; exact g_cmp rfl rfl rfl; exact rfl
    apply sq_g; exact g_move (s := .av (.val (.bool _))) rfl; exact rfl
    refine sq_split rfl rfl (fun hb => ?_) (fun hb => ?_) <;> (try simp only [decide_eq_true_eq, decide_eq_false_iff_not, beq_iff_eq, beq_eq_false_iff_ne, bne_iff_ne, bne_eq_false_iff_eq, ne_eq, Bool.not_eq_true', Bool.not_eq_false', Bool.and_eq_true, Bool.or_eq_true, Bool.and_eq_false_iff, Bool.or_eq_false_iff] at hb) <;> (try (exfalso; omega))
    apply sq_on; exact g_move (s := .av _) rfl; exact rfl; exact rfl; exact rfl
    apply sq_on; exact g_call (min_c v p0 (by omega)) rfl; exact rfl; exact rfl; exact rfl
    apply sq_on; exact g_cmp rfl rfl rfl; exact rfl; exact rfl; exact rfl
    apply sq_on; exact g_move (s := .av (.val (.bool _))) rfl; exact rfl; exact rfl; exact rfl
    refine sq_split rfl rfl (fun hb => ?_) (fun hb => ?_) <;> (try simp only [decide_eq_true_eq, decide_eq_false_iff_not, beq_iff_eq, beq_eq_false_iff_ne, bne_iff_ne, bne_eq_false_iff_eq, ne_eq, Bool.not_eq_true', Bool.not_eq_false', Bool.and_eq_true, Bool.or_eq_true, Bool.and_eq_false_iff, Bool.or_eq_false_iff] at hb) <;> (try (exfalso; omega))
    apply sq_on; exact g_move (s := .av _) rfl; exact rfl; exact rfl; exact rfl
    apply sq_on; exact g_call (max_c v p0 (by omega)) rfl; exact rfl; exact rfl; exact rfl
    apply sq_on; exact g_move (s := .av _) rfl; exact rfl; exact rfl; exact rfl
    apply sq_on; exact g_len rfl; exact rfl; exact rfl; exact rfl
    apply sq_on; exact g_cmp rfl rfl rfl; exact rfl; exact rfl; exact rfl
    apply sq_on; exact g_pick (s := .av (.val (.bool _))) rfl rfl; exact rfl; exact rfl; exact rfl
    apply sq_g; exact g_pick (s := .av (.val (.bool _))) rfl rfl; exact rfl
    refine sq_nil ?_
    refine sq_then ?_
    (refine cq_cond rfl (fun hb => ?_) (fun hb => ?_) <;> (try simp only [decide_eq_true_eq, decide_eq_false_iff_not, beq_iff_eq, beq_eq_false_iff_ne, bne_iff_ne, bne_eq_false_iff_eq, ne_eq, Bool.not_eq_true', Bool.not_eq_false', Bool.and_eq_true, Bool.or_eq_true, Bool.and_eq_false_iff, Bool.or_eq_false_iff] at hb) <;> (try (exfalso; omega)))
    refine cq_skip ?_
    refine sq_then ?_
    refine cq_seq ?_
    refine cq_region ?_
    apply sq_g; exact g_assign (s := .av (.val (.int _ _))) rfl; exact rfl
    refine sq_nil ?_
    refine sq_then ?_
    refine cq_seq ?_
    refine cq_seq ?_
    refine cq_region ?_
    apply sq_g; exact g_move (s := .av _) rfl; exact rfl
    apply sq_g; exact g_len rfl; exact rfl
    apply sq_g; exact g_move (s := .av (.val (.int _ _))) rfl; exact rfl
    refine sq_nil ?_
    refine sq_then ?_
    refine cq_block ?_
    refine cq_loop (γ := Nat) (fun k => [(0, .av (pts l)), (3, .av (idx v)), (5, .av (prs q)), (7, .av (vi (bpT l q k))), (55, .av (prs q)), (56, .av (vi q.length)), (57, .av (vi k))]) (fun _ => []) (fun k => k ≤ q.length) (fun k => q.length - k) 0 (Nat.zero_le _) (ent ⟨.refl _, .refl _, .refl _, .refl _, .refl _, .refl _, .refl _, trivial⟩ trivial) ?_
    intro k hk
    refine cq_seq ?_
    refine cq_region ?_
    apply sq_g; exact g_cmp rfl rfl rfl; exact rfl
    refine sq_nil ?_
    refine sq_then ?_
    refine cq_seq ?_
    (refine cq_cond rfl (fun hb => ?_) (fun hb => ?_) <;> (try simp only [decide_eq_true_eq, decide_eq_false_iff_not, beq_iff_eq, beq_eq_false_iff_ne, bne_iff_ne, bne_eq_false_iff_eq, ne_eq, Bool.not_eq_true', Bool.not_eq_false', Bool.and_eq_true, Bool.or_eq_true, Bool.and_eq_false_iff, Bool.or_eq_false_iff] at hb) <;> (try (exfalso; omega)))
    · have hkq : k < q.length := by omega
      obtain ⟨g1, g2, g3, g4⟩ := hpo k hkq
      have c1 := has_c (by omega) g3
      have c2 := has_c (by omega) g4
      have c3 := far_c (gp l (gq q k).1) (gp l (gq q k).2) (sm _) (sm _)
      refine cq_skip ?_
      refine sq_then ?_
      refine cq_seq ?_
      refine cq_block ?_
      refine cq_seq ?_
      refine cq_region ?_
      apply sq_g; exact g_index rfl rfl rfl (by omega); exact rfl
      apply sq_g; exact g_load_agg (us := [.int _ _, .int _ _]) rfl rfl rfl rfl; exact rfl
      refine sq_v (f_alloc 10 rfl) rfl ?_
      refine sq_s (g_store_agg rfl rfl rfl rfl rfl rfl) ?_
      refine sq_nil ?_
      refine sq_then ?_
      refine cq_seq ?_
      refine cq_seq ?_
      refine cq_region ?_
      apply sq_g; exact g_index_own rfl rfl rfl (by decide); exact rfl
      apply sq_g; exact g_load_own (s := .av (.val (.int _ _))) rfl rfl rfl; exact rfl
      apply sq_g; exact g_cmp rfl rfl rfl; exact rfl
      apply sq_g; exact g_move (s := .av (.val (.bool _))) rfl; exact rfl
      apply sq_on; exact g_index_own rfl rfl rfl (by decide); exact rfl; exact rfl; exact rfl
      apply sq_on; exact g_load_own (s := .av (.val (.int _ _))) rfl rfl rfl; exact rfl; exact rfl; exact rfl
      apply sq_on; exact g_index_own rfl rfl rfl (by decide); exact rfl; exact rfl; exact rfl
      apply sq_on; exact g_load_own (s := .av (.val (.int _ _))) rfl rfl rfl; exact rfl; exact rfl; exact rfl
      apply sq_on; exact g_cmp rfl rfl rfl; exact rfl; exact rfl; exact rfl
      apply sq_g; exact g_pick (s := .av (.val (.bool _))) rfl rfl; exact rfl
      apply sq_g; exact g_move (s := .av (.val (.bool _))) rfl; exact rfl
      refine sq_split rfl rfl (fun hb => ?_) (fun hb => ?_) <;> (try simp only [decide_eq_true_eq, decide_eq_false_iff_not, beq_iff_eq, beq_eq_false_iff_ne, bne_iff_ne, bne_eq_false_iff_eq, ne_eq, Bool.not_eq_true', Bool.not_eq_false', Bool.and_eq_true, Bool.or_eq_true, Bool.and_eq_false_iff, Bool.or_eq_false_iff] at hb) <;> (try (exfalso; omega))
      apply sq_on; exact g_index_own rfl rfl rfl (by decide); exact rfl; exact rfl; exact rfl
      apply sq_on; exact g_load_own (s := .av (.val (.int _ _))) rfl rfl rfl; exact rfl; exact rfl; exact rfl
      apply sq_on; exact g_move (s := .av _) rfl; exact rfl; exact rfl; exact rfl
      apply sq_on; exact g_len rfl; exact rfl; exact rfl; exact rfl
      apply sq_on; exact g_cmp rfl rfl rfl; exact rfl; exact rfl; exact rfl
      apply sq_g; exact g_pick (s := .av (.val (.bool _))) rfl rfl; exact rfl
      apply sq_g; exact g_move (s := .av (.val (.bool _))) rfl; exact rfl
      refine sq_split rfl rfl (fun hb => ?_) (fun hb => ?_) <;> (try simp only [decide_eq_true_eq, decide_eq_false_iff_not, beq_iff_eq, beq_eq_false_iff_ne, bne_iff_ne, bne_eq_false_iff_eq, ne_eq, Bool.not_eq_true', Bool.not_eq_false', Bool.and_eq_true, Bool.or_eq_true, Bool.and_eq_false_iff, Bool.or_eq_false_iff] at hb) <;> (try (exfalso; omega))
      apply sq_on; exact g_move (s := .av _) rfl; exact rfl; exact rfl; exact rfl
      apply sq_on; exact g_index_own rfl rfl rfl (by decide); exact rfl; exact rfl; exact rfl
      apply sq_on; exact g_load_own (s := .av (.val (.int _ _))) rfl rfl rfl; exact rfl; exact rfl; exact rfl
      apply sq_on; exact g_call (c1) rfl; exact rfl; exact rfl; exact rfl
      apply sq_on; exact g_not rfl; exact rfl; exact rfl; exact rfl
      apply sq_g; exact g_pick (s := .av (.val (.bool _))) rfl rfl; exact rfl
      apply sq_g; exact g_move (s := .av (.val (.bool _))) rfl; exact rfl
      apply sq_on; exact g_move (s := .av _) rfl; exact rfl; exact rfl; exact rfl
      apply sq_on; exact g_index_own rfl rfl rfl (by decide); exact rfl; exact rfl; exact rfl
      apply sq_on; exact g_load_own (s := .av (.val (.int _ _))) rfl rfl rfl; exact rfl; exact rfl; exact rfl
      apply sq_on; exact g_call (c2) rfl; exact rfl; exact rfl; exact rfl
      apply sq_on; exact g_not rfl; exact rfl; exact rfl; exact rfl
      apply sq_g; exact g_pick (s := .av (.val (.bool _))) rfl rfl; exact rfl
      refine sq_nil ?_
      refine sq_then ?_
      refine cq_cond_f rfl ?_
      refine cq_skip ?_
      refine sq_then ?_
      refine cq_drawn ?_
      apply dq_g; exact g_move (s := .av (.val (.int _ _))) rfl; exact rfl
      apply dq_g; exact g_move (s := .av _) rfl; exact rfl
      apply dq_g; exact g_index_own rfl rfl rfl (by decide); exact rfl
      apply dq_g; exact g_load_own (s := .av (.val (.int _ _))) rfl rfl rfl; exact rfl
      apply dq_g; exact g_index rfl rfl rfl (by omega); exact rfl
      apply dq_g; exact g_load_agg (us := [.int _ _, .int _ _]) rfl rfl rfl rfl; exact rfl
      apply dq_g; exact g_move (s := .av _) rfl; exact rfl
      apply dq_g; exact g_index_own rfl rfl rfl (by decide); exact rfl
      apply dq_g; exact g_load_own (s := .av (.val (.int _ _))) rfl rfl rfl; exact rfl
      apply dq_g; exact g_index rfl rfl rfl (by omega); exact rfl
      apply dq_g; exact g_load_agg (us := [.int _ _, .int _ _]) rfl rfl rfl rfl; exact rfl
      apply dq_g; exact g_call (c3) rfl; exact rfl
      apply dq_g; exact g_max rfl rfl; exact rfl
      apply dq_g; exact g_assign (s := .av (.val (.int _ _))) rfl; exact rfl
      refine dq_nil tm (by kernel_rfl) ?_
      refine sq_then ?_
      refine cq_region ?_
      apply sq_g; exact g_arith rfl rfl rfl (by omega); exact rfl
      apply sq_g; exact g_move (s := .av (.val (.int _ _))) rfl; exact rfl
      refine sq_nil ?_
      exact sq_round (k + 1) (by omega) (by omega) (ent ⟨.refl _, .refl _, .refl _, .int (by rw [bpT_succ]; omega), .refl _, .refl _, .int (by omega), trivial⟩ trivial)
    · have hke : k = q.length := by omega
      subst hke
      refine cq_exit ?_
      refine sq_then ?_
      refine cq_seq ?_
      refine cq_seq ?_
      refine cq_region ?_
      apply sq_g; exact g_move (s := .av _) rfl; exact rfl
      apply sq_g; exact g_len rfl; exact rfl
      apply sq_g; exact g_move (s := .av (.val (.int _ _))) rfl; exact rfl
      refine sq_nil ?_
      refine sq_then ?_
      refine cq_block ?_
      refine cq_loop (γ := Nat) (fun i => [(0, .av (pts l)), (3, .av (idx v)), (5, .av (prs q)), (7, .av (vi (bpT l q q.length))), (106, .av (idx v)), (107, .av (vi v.length)), (108, .av (vi i))]) (fun _ => []) (fun i => i ≤ v.length) (fun i => v.length - i) 0 (Nat.zero_le _) (ent ⟨.refl _, .refl _, .refl _, .refl _, .refl _, .refl _, .refl _, trivial⟩ trivial) ?_
      intro i hi
      refine cq_seq ?_
      refine cq_region ?_
      apply sq_g; exact g_cmp rfl rfl rfl; exact rfl
      refine sq_nil ?_
      refine sq_then ?_
      refine cq_seq ?_
      (refine cq_cond rfl (fun hb => ?_) (fun hb => ?_) <;> (try simp only [decide_eq_true_eq, decide_eq_false_iff_not, beq_iff_eq, beq_eq_false_iff_ne, bne_iff_ne, bne_eq_false_iff_eq, ne_eq, Bool.not_eq_true', Bool.not_eq_false', Bool.and_eq_true, Bool.or_eq_true, Bool.and_eq_false_iff, Bool.or_eq_false_iff] at hb) <;> (try (exfalso; omega)))
      · have hil : i < v.length := by omega
        have q1 : 0 ≤ ((i : Int) + 1) % (v.length : Int) ∧ ((i : Int) + 1) % (v.length : Int) < (v.length : Int) := ⟨Int.emod_nonneg _ (by omega), Int.emod_lt_of_pos _ (by omega)⟩
        have e1 := modc i 1 v.length
        have n1 : (i + 1) % v.length < v.length := Nat.mod_lt _ p0
        have l0 := ht.lt i hil
        have l1 := ht.lt _ n1
        have hsi := hsf i hil
        generalize hG : gi v ((i + 1) % v.length) = b at *
        generalize hA : gi v i = a at *
        refine cq_skip ?_
        refine sq_then ?_
        refine cq_seq ?_
        refine cq_block ?_
        refine cq_seq ?_
        refine cq_region ?_
        apply sq_g; exact g_move (s := .av (.val (.int _ _))) rfl; exact rfl
        apply sq_g; exact g_index rfl rfl rfl (by omega); exact rfl
        apply sq_g; exact g_load (τ := .val (.int _ _)) rfl rfl rfl; exact rfl
        apply sq_g; exact g_assign (s := .av (.val (.int _ _))) rfl; exact rfl
        apply sq_g; exact g_assign (s := .av (.val (.int _ _))) rfl; exact rfl
        refine sq_nil ?_
        refine sq_then ?_
        refine cq_seq ?_
        refine cq_region ?_
        apply sq_g; exact g_move (s := .av _) rfl; exact rfl
        apply sq_g; exact g_move (s := .av (.val (.int _ _))) rfl; exact rfl
        apply sq_g; exact g_arith rfl rfl rfl (by omega); exact rfl
        apply sq_g; exact g_move (s := .av _) rfl; exact rfl
        apply sq_g; exact g_len rfl; exact rfl
        apply sq_g; exact g_rem rfl rfl (by omega) (by omega); exact rfl
        apply sq_g; exact g_index rfl rfl (Int.toNat_of_nonneg (by omega)).symm (by omega); exact rfl
        apply sq_g; exact g_load (τ := .val (.int _ _)) rfl rfl rfl; exact rfl
        apply sq_g; exact g_move (s := .av (.val (.int _ _))) rfl; exact rfl
        apply sq_g; exact g_assign (s := .av (.val (.int _ _))) rfl; exact rfl
        apply sq_g; exact g_assign (s := .av (.val (.int _ _))) rfl; exact rfl
        apply sq_g; exact g_assign (s := .av (.val (.int _ _))) rfl; exact rfl
        refine sq_nil ?_
        refine sq_then ?_
        refine cq_seq ?_
        refine cq_seq ?_
        refine cq_region ?_
        apply sq_g; exact g_move (s := .av _) rfl; exact rfl
        apply sq_g; exact g_len rfl; exact rfl
        apply sq_g; exact g_move (s := .av (.val (.int _ _))) rfl; exact rfl
        refine sq_nil ?_
        refine sq_then ?_
        refine cq_block ?_
        refine cq_loop (γ := Nat) (fun k => [(0, .av (pts l)), (3, .av (idx v)), (5, .av (prs q)), (7, .av (vi (bpT l q q.length))), (11, .av (vi (a : Int))), (12, .av (vi (b : Int))), (13, .av (vi ((fvT l v a b k).1 : Int))), (14, .av (vi (fvT l v a b k).2)), (106, .av (idx v)), (107, .av (vi v.length)), (108, .av (vi i)), (122, .av (idx v)), (123, .av (vi v.length)), (124, .av (vi k))]) (fun _ => []) (fun k => k ≤ v.length) (fun k => v.length - k) 0 (Nat.zero_le _) (ent ⟨.refl _, .refl _, .refl _, .refl _, .int (by rw [← hA]), .int (by rw [← hG, ← e1]; rfl), .int (by rw [← hA]; rfl), .refl _, .refl _, .refl _, .refl _, .refl _, .refl _, .refl _, trivial⟩ trivial) ?_
        intro k hk
        have hst := fvT_succ l v a b k
        refine cq_seq ?_
        refine cq_region ?_
        apply sq_g; exact g_cmp rfl rfl rfl; exact rfl
        refine sq_nil ?_
        refine sq_then ?_
        refine cq_seq ?_
        (refine cq_cond rfl (fun hb => ?_) (fun hb => ?_) <;> (try simp only [decide_eq_true_eq, decide_eq_false_iff_not, beq_iff_eq, beq_eq_false_iff_ne, bne_iff_ne, bne_eq_false_iff_eq, ne_eq, Bool.not_eq_true', Bool.not_eq_false', Bool.and_eq_true, Bool.or_eq_true, Bool.and_eq_false_iff, Bool.or_eq_false_iff] at hb) <;> (try (exfalso; omega)))
        · have hkl : k < v.length := by omega
          have l2 := ht.lt k hkl
          refine cq_skip ?_
          refine sq_then ?_
          refine cq_seq ?_
          refine cq_block ?_
          refine cq_seq ?_
          refine cq_region ?_
          apply sq_g; exact g_index rfl rfl rfl (by omega); exact rfl
          apply sq_g; exact g_load (τ := .val (.int _ _)) rfl rfl rfl; exact rfl
          apply sq_g; exact g_assign (s := .av (.val (.int _ _))) rfl; exact rfl
          refine sq_nil ?_
          refine sq_then ?_
          refine cq_seq ?_
          refine cq_drawn ?_
          apply dq_g; exact g_move (s := .av _) rfl; exact rfl
          apply dq_g; exact g_move (s := .av (.val (.int _ _))) rfl; exact rfl
          apply dq_g; exact g_index rfl rfl rfl (by omega); exact rfl
          apply dq_g; exact g_load_agg (us := [.int _ _, .int _ _]) rfl rfl rfl rfl; exact rfl
          apply dq_g; exact g_move (s := .av _) rfl; exact rfl
          apply dq_g; exact g_move (s := .av (.val (.int _ _))) rfl; exact rfl
          apply dq_g; exact g_index rfl rfl rfl (by omega); exact rfl
          apply dq_g; exact g_load_agg (us := [.int _ _, .int _ _]) rfl rfl rfl rfl; exact rfl
          apply dq_g; exact g_move (s := .av _) rfl; exact rfl
          apply dq_g; exact g_move (s := .av (.val (.int _ _))) rfl; exact rfl
          apply dq_g; exact g_index rfl rfl rfl (by omega); exact rfl
          apply dq_g; exact g_load_agg (us := [.int _ _, .int _ _]) rfl rfl rfl rfl; exact rfl
          apply dq_g; exact g_call (left_c (gp l a) (gp l b) (gp l (gi v k)) (sm _) (sm _) (sm _)) rfl; exact rfl
          apply dq_g; exact g_assign (s := .av (.val (.int _ _))) rfl; exact rfl
          refine dq_nil tm (by kernel_rfl) ?_
          refine sq_then ?_
          refine cq_seq ?_
          refine cq_region ?_
          apply sq_g; exact g_move (s := .av (.val (.int _ _))) rfl; exact rfl
          apply sq_g; exact g_move (s := .av (.val (.int _ _))) rfl; exact rfl
          apply sq_g; exact g_cmp rfl rfl rfl; exact rfl
          refine sq_nil ?_
          refine sq_then ?_
          (refine cq_cond rfl (fun hb => ?_) (fun hb => ?_) <;> (try simp only [decide_eq_true_eq, decide_eq_false_iff_not, beq_iff_eq, beq_eq_false_iff_ne, bne_iff_ne, bne_eq_false_iff_eq, ne_eq, Bool.not_eq_true', Bool.not_eq_false', Bool.and_eq_true, Bool.or_eq_true, Bool.and_eq_false_iff, Bool.or_eq_false_iff] at hb) <;> (try (exfalso; omega)))
          · have e3 : fvT l v a b (k + 1) = (gi v k, crs (gp l a) (gp l b) (gp l (gi v k))) := by rw [hst, fvS, if_pos (by omega)]
            refine cq_region ?_
            apply sq_g; exact g_move (s := .av (.val (.int _ _))) rfl; exact rfl
            apply sq_g; exact g_move (s := .av (.val (.int _ _))) rfl; exact rfl
            apply sq_g; exact g_assign (s := .av (.val (.int _ _))) rfl; exact rfl
            apply sq_g; exact g_assign (s := .av (.val (.int _ _))) rfl; exact rfl
            refine sq_nil ?_
            refine sq_then ?_
            refine cq_region ?_
            apply sq_g; exact g_arith rfl rfl rfl (by omega); exact rfl
            apply sq_g; exact g_move (s := .av (.val (.int _ _))) rfl; exact rfl
            refine sq_nil ?_
            exact sq_round (k + 1) (by omega) (by omega) (ent ⟨.refl _, .refl _, .refl _, .refl _, .refl _, .refl _, .int (by rw [e3]), .int (by rw [e3]), .refl _, .refl _, .refl _, .refl _, .refl _, .int (by omega), trivial⟩ trivial)
          · have e3 : fvT l v a b (k + 1) = fvT l v a b k := by rw [hst, fvS, if_neg (by omega)]
            refine cq_skip ?_
            refine sq_then ?_
            refine cq_region ?_
            apply sq_g; exact g_arith rfl rfl rfl (by omega); exact rfl
            apply sq_g; exact g_move (s := .av (.val (.int _ _))) rfl; exact rfl
            refine sq_nil ?_
            exact sq_round (k + 1) (by omega) (by omega) (ent ⟨.refl _, .refl _, .refl _, .refl _, .refl _, .refl _, .int (by rw [e3]), .int (by rw [e3]), .refl _, .refl _, .refl _, .refl _, .refl _, .int (by omega), trivial⟩ trivial)
        · have hke : k = v.length := by omega
          subst hke
          generalize (fvT l v a b v.length).1 = f at *
          have c1 : ¬ (f : Int) = (a : Int) → CtrA Try.prog 43 [prs q, pv (if (f : Int) < (a : Int) then (f : Int) else (a : Int)) (if (a : Int) < (f : Int) then (f : Int) else (a : Int))] (vb true) := fun h => has2_c hlen (hsi (by omega)).1 (by omega) (by omega)
          have c2 : ¬ (f : Int) = (a : Int) → CtrA Try.prog 43 [prs q, pv (if (f : Int) < (b : Int) then (f : Int) else (b : Int)) (if (b : Int) < (f : Int) then (f : Int) else (b : Int))] (vb true) := fun h => has2_c hlen (hsi (by omega)).2 (by omega) (by omega)
          focus
            refine cq_exit ?_
            refine sq_then ?_
            refine cq_seq ?_
            refine cq_region ?_
            apply sq_g; exact g_move (s := .av (.val (.int _ _))) rfl; exact rfl
            apply sq_g; exact g_move (s := .av (.val (.int _ _))) rfl; exact rfl
            apply sq_g; exact g_cmp rfl rfl rfl; exact rfl
            apply sq_g; exact g_move (s := .av (.val (.bool _))) rfl; exact rfl
            refine sq_split rfl rfl (fun hb => ?_) (fun hb => ?_) <;> (try simp only [decide_eq_true_eq, decide_eq_false_iff_not, beq_iff_eq, beq_eq_false_iff_ne, bne_iff_ne, bne_eq_false_iff_eq, ne_eq, Bool.not_eq_true', Bool.not_eq_false', Bool.and_eq_true, Bool.or_eq_true, Bool.and_eq_false_iff, Bool.or_eq_false_iff] at hb) <;> (try (exfalso; omega))
            apply sq_on; exact g_move (s := .av _) rfl; exact rfl; exact rfl; exact rfl
            apply sq_on; exact g_move (s := .av (.val (.int _ _))) rfl; exact rfl; exact rfl; exact rfl
            apply sq_on; exact g_move (s := .av (.val (.int _ _))) rfl; exact rfl; exact rfl; exact rfl
            apply sq_on; exact g_min rfl rfl; exact rfl; exact rfl; exact rfl
            apply sq_on; exact g_move (s := .av (.val (.int _ _))) rfl; exact rfl; exact rfl; exact rfl
            apply sq_on; exact g_move (s := .av (.val (.int _ _))) rfl; exact rfl; exact rfl; exact rfl
            apply sq_on; exact g_max rfl rfl; exact rfl; exact rfl; exact rfl
            apply sq_on; exact g_build (is := [0, 1]) (xs := [_, _]) (vs := [_, _]) (tb62 _ _) rfl rfl; exact rfl; exact rfl; exact rfl
            apply sq_on; exact g_call (c1 (by omega)) rfl; exact rfl; exact rfl; exact rfl
            apply sq_on; exact g_not rfl; exact rfl; exact rfl; exact rfl
            apply sq_on; exact g_move (s := .av (.val (.bool _))) rfl; exact rfl; exact rfl; exact rfl
            apply sq_on; exact g_move (s := .av _) rfl; exact rfl; exact rfl; exact rfl
            apply sq_on; exact g_move (s := .av (.val (.int _ _))) rfl; exact rfl; exact rfl; exact rfl
            apply sq_on; exact g_move (s := .av (.val (.int _ _))) rfl; exact rfl; exact rfl; exact rfl
            apply sq_on; exact g_min rfl rfl; exact rfl; exact rfl; exact rfl
            apply sq_on; exact g_move (s := .av (.val (.int _ _))) rfl; exact rfl; exact rfl; exact rfl
            apply sq_on; exact g_move (s := .av (.val (.int _ _))) rfl; exact rfl; exact rfl; exact rfl
            apply sq_on; exact g_max rfl rfl; exact rfl; exact rfl; exact rfl
            apply sq_on; exact g_build (is := [0, 1]) (xs := [_, _]) (vs := [_, _]) (tb62 _ _) rfl rfl; exact rfl; exact rfl; exact rfl
            apply sq_on; exact g_call (c2 (by omega)) rfl; exact rfl; exact rfl; exact rfl
            apply sq_on; exact g_not rfl; exact rfl; exact rfl; exact rfl
            apply sq_on; exact g_pick (s := .av (.val (.bool _))) rfl rfl; exact rfl; exact rfl; exact rfl
            apply sq_g; exact g_pick (s := .av (.val (.bool _))) rfl rfl; exact rfl
            refine sq_nil ?_
            refine sq_then ?_
            refine cq_cond_f rfl ?_
            refine cq_skip ?_
            refine sq_then ?_
            refine cq_region ?_
            apply sq_g; exact g_arith rfl rfl rfl (by omega); exact rfl
            apply sq_g; exact g_move (s := .av (.val (.int _ _))) rfl; exact rfl
            refine sq_nil ?_
            rotate_left
            refine sq_off rfl rfl rfl rfl ?_
            refine sq_off rfl rfl rfl rfl ?_
            refine sq_off rfl rfl rfl rfl ?_
            refine sq_off rfl rfl rfl rfl ?_
            refine sq_off rfl rfl rfl rfl ?_
            refine sq_off rfl rfl rfl rfl ?_
            refine sq_off rfl rfl rfl rfl ?_
            refine sq_off rfl rfl rfl rfl ?_
            refine sq_off rfl rfl rfl rfl ?_
            refine sq_off rfl rfl rfl rfl ?_
            refine sq_off rfl rfl rfl rfl ?_
            refine sq_offu rfl rfl rfl ?_
            refine sq_offu rfl rfl rfl ?_
            refine sq_offu rfl rfl rfl ?_
            refine sq_offu rfl rfl rfl ?_
            refine sq_offu rfl rfl rfl ?_
            refine sq_offu rfl rfl rfl ?_
            refine sq_offu rfl rfl rfl ?_
            refine sq_offu rfl rfl rfl ?_
            refine sq_offu rfl rfl rfl ?_
            refine sq_offu rfl rfl rfl ?_
            refine sq_off rfl rfl rfl rfl ?_
            apply sq_g; exact g_pick (s := .av (.val (.bool _))) rfl rfl; exact rfl
            refine sq_nil ?_
            refine sq_then ?_
            refine cq_cond_f rfl ?_
            refine cq_skip ?_
            refine sq_then ?_
            refine cq_region ?_
            apply sq_g; exact g_arith rfl rfl rfl (by omega); exact rfl
            apply sq_g; exact g_move (s := .av (.val (.int _ _))) rfl; exact rfl
            refine sq_nil ?_
            rotate_left
          all_goals first | exact absurd hb (by decide) | exact sq_round (i + 1) (by omega) (by omega) (ent ⟨.refl _, .refl _, .refl _, .refl _, .refl _, .refl _, .int (by omega), trivial⟩ trivial) | skip
      · refine cq_exit ?_
        refine sq_then ?_
        refine cq_seq ?_
        refine cq_seq ?_
        refine cq_region ?_
        apply sq_g; exact g_move (s := .av _) rfl; exact rfl
        apply sq_g; exact g_len rfl; exact rfl
        apply sq_g; exact g_cmp rfl rfl rfl; exact rfl
        refine sq_nil ?_
        refine sq_then ?_
        (refine cq_cond rfl (fun hb => ?_) (fun hb => ?_) <;> (try simp only [decide_eq_true_eq, decide_eq_false_iff_not, beq_iff_eq, beq_eq_false_iff_ne, bne_iff_ne, bne_eq_false_iff_eq, ne_eq, Bool.not_eq_true', Bool.not_eq_false', Bool.and_eq_true, Bool.or_eq_true, Bool.and_eq_false_iff, Bool.or_eq_false_iff] at hb) <;> (try (exfalso; omega)))
        · refine cq_seq ?_
          refine cq_region ?_
          apply sq_g; exact g_call (awake_c) rfl; exact rfl
          apply sq_g; exact g_assign (s := .av (.val (.bool _))) rfl; exact rfl
          refine sq_nil ?_
          refine sq_then ?_
          refine cq_ret ?_
          refine sq_then_ret ?_
          exact sq_res1 rfl (.tmp rfl) rfl
        · have h2 : 2 ≤ l.length := by omega
          have e1 : errF l = 0 := by simp [errF, hc, show ¬ l.length < 2 by omega]
          have e2 : (farN l).1 = bpT l q q.length := by unfold farN; rw [if_pos e1]; exact hbf h2
          have cf := fart_c l
          rw [e1] at cf
          refine cq_skip ?_
          refine sq_then ?_
          refine cq_seq ?_
          refine cq_region ?_
          apply sq_g; exact g_move (s := .av _) rfl; exact rfl
          apply sq_g; exact g_call (cf) rfl; exact rfl
          apply sq_g; exact g_move (s := .av _) rfl; exact rfl
          apply sq_g; exact g_extractT rfl rfl; exact rfl
          apply sq_g; exact g_extractT rfl rfl; exact rfl
          apply sq_g; exact g_extractT rfl rfl; exact rfl
          refine sq_v (f_alloc 10 rfl) rfl ?_
          apply sq_g; exact g_assign (s := .av (.val (.int _ _))) rfl; exact rfl
          refine sq_s (g_store_agg rfl rfl rfl rfl rfl rfl) ?_
          apply sq_g; exact g_assign (s := .av (.val (.int _ _))) rfl; exact rfl
          refine sq_nil ?_
          refine sq_then ?_
          refine cq_seq ?_
          refine cq_region ?_
          apply sq_g; exact g_move (s := .av (.val (.int _ _))) rfl; exact rfl
          apply sq_g; exact g_cmp rfl rfl rfl; exact rfl
          apply sq_g; exact g_move (s := .av (.val (.bool _))) rfl; exact rfl
          apply sq_on; exact g_move (s := .av (.val (.int _ _))) rfl; exact rfl; exact rfl; exact rfl
          apply sq_on; exact g_move (s := .av (.val (.int _ _))) rfl; exact rfl; exact rfl; exact rfl
          apply sq_on; exact g_cmp rfl rfl rfl; exact rfl; exact rfl; exact rfl
          apply sq_g; exact g_pick (s := .av (.val (.bool _))) rfl rfl; exact rfl
          apply sq_g; exact g_move (s := .av (.val (.bool _))) rfl; exact rfl
          refine sq_split rfl rfl (fun hb => ?_) (fun hb => ?_) <;> (try simp only [decide_eq_true_eq, decide_eq_false_iff_not, beq_iff_eq, beq_eq_false_iff_ne, bne_iff_ne, bne_eq_false_iff_eq, ne_eq, Bool.not_eq_true', Bool.not_eq_false', Bool.and_eq_true, Bool.or_eq_true, Bool.and_eq_false_iff, Bool.or_eq_false_iff] at hb) <;> (try (exfalso; omega))
          apply sq_on; exact g_call (awake_c) rfl; exact rfl; exact rfl; exact rfl
          apply sq_g; exact g_pick (s := .av (.val (.bool _))) rfl rfl; exact rfl
          apply sq_g; exact g_assign (s := .av (.val (.bool _))) rfl; exact rfl
          refine sq_nil ?_
          refine sq_then ?_
          refine cq_ret ?_
          all_goals first | exact absurd e2 hb | exact sq_res1 rfl (.tmp rfl) (congrArg vb (by simp [e2]))
end Go.Proofs.Ytacepcnbgacipaa
