/- A part of the proof that the law returns true at every input and that the input reads behind the call as it read before; this part states nothing of its own that needs a condition of the input. -/
import Derived.Test.YtacepcnbgacipaaFh
set_option linter.unusedVariables false
set_option linter.unusedSimpArgs false
namespace Go.Proofs.Ytacepcnbgacipaa
open Go Go.Vc Go.RowKit
set_option maxHeartbeats 2000000
/-! KDQ -/
def ixB (p : Nat → Bool) (n : Nat) : Int := match (List.range n).find? p with | some k => (k : Int) | none => -1
theorem ixB_hit {p : Nat → Bool} {n k : Nat} (hk : k < n) (hall : ∀ j, j < k → p j = false) (h : p k = true) : ixB p n = (k : Int) := by
  have : (List.range n).find? p = some k := by
    rw [List.find?_range_eq_some]
    exact ⟨h, by simpa using hk, fun j hj => by simp [hall j hj]⟩
  unfold ixB; rw [this]
theorem ixB_no {p : Nat → Bool} {n : Nat} (hall : ∀ j, j < n → p j = false) : ixB p n = -1 := by
  have : (List.range n).find? p = none := by
    rw [List.find?_eq_none]
    intro x hx
    simp [hall x (List.mem_range.1 hx)]
  unfold ixB; rw [this]
theorem index_c (v : List Nat) (n : Nat) (hn : v.length ≤ 10000) : CtrA Try.prog 76 [idx v, vi n] (vi (ixB (fun k => decide (n = gi v k)) v.length)) := by
  refine ctrA _ Try.func76 rfl rfl Try.ntmps76 rfl fun w Z => ?_
  simp only [initT, List.map_cons, List.map_nil, Nat.zero_add, Nat.reduceAdd]
  refine cq_seq ?_
  refine cq_region ?_
  apply sq_g; exact g_assign (s := .av (.val (.int _ _))) rfl; exact rfl
  refine sq_nil ?_
  refine sq_then ?_
  refine cq_seq ?_
  refine cq_seq ?_
  refine cq_region ?_
  apply sq_g; exact g_move (s := .av _) rfl; exact rfl
  apply sq_g; exact g_len rfl; exact rfl
  apply sq_g; exact g_move (s := .av (.val (.int _ _))) rfl; exact rfl
  refine sq_nil ?_
  refine sq_then ?_
  refine cq_block ?_
  refine cq_loop (γ := Nat) (fun k => [(0, .av (idx v)), (1, .av (vi n)), (6, .av (idx v)), (7, .av (vi v.length)), (8, .av (vi k))]) (fun _ => []) (fun k => k ≤ v.length ∧ ∀ j, j < k → decide (n = gi v j) = false) (fun k => v.length - k) 0 ⟨Nat.zero_le _, by omega⟩ (ent ⟨.refl _, .refl _, .refl _, .refl _, .refl _, trivial⟩ trivial) ?_
  rintro k ⟨hk, hall⟩
  refine cq_seq ?_
  refine cq_region ?_
  apply sq_g; exact g_cmp rfl rfl rfl; exact rfl
  refine sq_nil ?_
  refine sq_then ?_
  refine cq_seq ?_
  (refine cq_cond rfl (fun hb => ?_) (fun hb => ?_) <;> (try simp only [decide_eq_true_eq, decide_eq_false_iff_not, beq_iff_eq, beq_eq_false_iff_ne, bne_iff_ne, bne_eq_false_iff_eq, ne_eq, Bool.not_eq_true', Bool.not_eq_false', Bool.and_eq_true, Bool.or_eq_true, Bool.and_eq_false_iff, Bool.or_eq_false_iff] at hb) <;> (try (exfalso; omega)))
  · have hkl : k < v.length := by omega
    refine cq_skip ?_
    refine sq_then ?_
    refine cq_seq ?_
    refine cq_block ?_
    refine cq_seq ?_
    refine cq_region ?_
    apply sq_g; exact g_move (s := .av (.val (.int _ _))) rfl; exact rfl
    apply sq_g; exact g_assign (s := .av (.val (.int _ _))) rfl; exact rfl
    refine sq_nil ?_
    refine sq_then ?_
    refine cq_seq ?_
    refine cq_region ?_
    apply sq_g; exact g_move (s := .av (.val (.int _ _))) rfl; exact rfl
    apply sq_g; exact g_move (s := .av _) rfl; exact rfl
    apply sq_g; exact g_move (s := .av (.val (.int _ _))) rfl; exact rfl
    apply sq_g; exact g_index rfl rfl rfl (by omega); exact rfl
    apply sq_g; exact g_load (τ := .val (.int _ _)) rfl rfl rfl; exact rfl
    apply sq_g; exact g_cmp rfl rfl rfl; exact rfl
    refine sq_nil ?_
    refine sq_then ?_
    (refine cq_cond rfl (fun hb => ?_) (fun hb => ?_) <;> (try simp only [decide_eq_true_eq, decide_eq_false_iff_not, beq_iff_eq, beq_eq_false_iff_ne, bne_iff_ne, bne_eq_false_iff_eq, ne_eq, Bool.not_eq_true', Bool.not_eq_false', Bool.and_eq_true, Bool.or_eq_true, Bool.and_eq_false_iff, Bool.or_eq_false_iff] at hb) <;> (try (exfalso; omega)))
    · have e1 := ixB_hit (p := fun k => decide (n = gi v k)) hkl hall (decide_eq_true (by omega))
      refine cq_seq ?_
      refine cq_region ?_
      apply sq_g; exact g_move (s := .av (.val (.int _ _))) rfl; exact rfl
      apply sq_g; exact g_assign (s := .av (.val (.int _ _))) rfl; exact rfl
      refine sq_nil ?_
      refine sq_then ?_
      refine cq_ret ?_
      refine sq_inBlock_ret ?_
      refine sq_then_ret ?_
      refine sq_then_ret ?_
      refine sq_inBlock_ret ?_
      refine sq_then_ret ?_
      exact sq_res1 rfl (.tmp rfl) (by rw [e1])
    · refine cq_skip ?_
      refine sq_then ?_
      refine cq_region ?_
      apply sq_g; exact g_arith rfl rfl rfl (by omega); exact rfl
      apply sq_g; exact g_move (s := .av (.val (.int _ _))) rfl; exact rfl
      refine sq_nil ?_
      exact sq_round (k + 1) ⟨by omega, lt_step hall (decide_eq_false (by omega))⟩ (by omega) (ent ⟨.refl _, .refl _, .refl _, .refl _, .int (by omega), trivial⟩ trivial)
  · have hkl : k = v.length := by omega
    subst hkl
    have e1 := ixB_no (p := fun k => decide (n = gi v k)) hall
    refine cq_exit ?_
    refine sq_then ?_
    refine cq_seq ?_
    refine cq_region ?_
    apply sq_g; exact g_assign (s := .av (.val (.int _ _))) rfl; exact rfl
    refine sq_nil ?_
    refine sq_then ?_
    refine cq_ret ?_
    exact sq_res1 rfl (.tmp rfl) (by rw [e1])
theorem contains_c (v : List Nat) (n : Nat) (hn : v.length ≤ 10000) : CtrA Try.prog 41 [idx v, vi n] (vb (decide (0 ≤ ixB (fun k => decide (n = gi v k)) v.length))) := by
  refine ctrA _ Try.func41 rfl rfl Try.ntmps41 rfl fun w Z => ?_
  simp only [initT, List.map_cons, List.map_nil, Nat.zero_add, Nat.reduceAdd]
  refine cq_seq ?_
  refine cq_region ?_
  apply sq_g; exact g_assign (s := .av (.val (.bool _))) rfl; exact rfl
  refine sq_nil ?_
  refine sq_then ?_
  refine cq_seq ?_
  refine cq_region ?_
  apply sq_g; exact g_move (s := .av _) rfl; exact rfl
  apply sq_g; exact g_move (s := .av (.val (.int _ _))) rfl; exact rfl
  apply sq_g; exact g_call (index_c v n hn) rfl; exact rfl
  apply sq_g; exact g_cmp rfl rfl rfl; exact rfl
  apply sq_g; exact g_assign (s := .av (.val (.bool _))) rfl; exact rfl
  refine sq_nil ?_
  refine sq_then ?_
  refine cq_ret ?_
  exact sq_res1 rfl (.tmp rfl) rfl
end Go.Proofs.Ytacepcnbgacipaa
namespace Go.Proofs.Ytacepcnbgacipaa
open Go Go.Vc Go.RowKit
set_option maxHeartbeats 2000000
/-! KDQ -/
def bigB (p : Pt) : Bool := decide (p.x < -9000 ∨ 9000 < p.x ∨ p.y < -9000 ∨ 9000 < p.y)
theorem big_c (p : Pt) : CtrA Try.prog 37 [pp p] (vb (bigB p)) := by
  refine ctrA _ Try.func37 rfl rfl Try.ntmps37 rfl fun w Z => ?_
  simp only [initT, List.map_cons, List.map_nil, Nat.zero_add, Nat.reduceAdd]
  focus
    refine cq_seq ?_
    refine cq_region ?_
    apply sq_g; exact g_box_agg rfl; exact rfl
    apply sq_g; exact g_assign (s := .av (.val (.bool _))) rfl; exact rfl
    refine sq_nil ?_
    refine sq_then ?_
    refine cq_seq ?_
    refine cq_region ?_
    apply sq_g; exact g_field rfl; exact rfl
    apply sq_g; exact g_load (τ := .val (.int _ _)) rfl rfl rfl; exact rfl
    apply sq_g; exact g_cmp rfl rfl rfl; exact rfl
    apply sq_g; exact g_move (s := .av (.val (.bool _))) rfl; exact rfl
    refine sq_split rfl rfl (fun hb => ?_) (fun hb => ?_) <;> (try simp only [decide_eq_true_eq, decide_eq_false_iff_not, beq_iff_eq, beq_eq_false_iff_ne, bne_iff_ne, bne_eq_false_iff_eq, ne_eq, Bool.not_eq_true', Bool.not_eq_false', Bool.and_eq_true, Bool.or_eq_true, Bool.and_eq_false_iff, Bool.or_eq_false_iff] at hb) <;> (try (exfalso; omega))
    refine sq_off rfl rfl rfl rfl ?_
    refine sq_off rfl rfl rfl rfl ?_
    refine sq_off rfl rfl rfl rfl ?_
    apply sq_g; exact g_pick (s := .av (.val (.bool _))) rfl rfl; exact rfl
    apply sq_g; exact g_move (s := .av (.val (.bool _))) rfl; exact rfl
    refine sq_off rfl rfl rfl rfl ?_
    refine sq_off rfl rfl rfl rfl ?_
    refine sq_off rfl rfl rfl rfl ?_
    apply sq_g; exact g_pick (s := .av (.val (.bool _))) rfl rfl; exact rfl
    apply sq_g; exact g_move (s := .av (.val (.bool _))) rfl; exact rfl
    refine sq_off rfl rfl rfl rfl ?_
    refine sq_off rfl rfl rfl rfl ?_
    refine sq_off rfl rfl rfl rfl ?_
    apply sq_g; exact g_pick (s := .av (.val (.bool _))) rfl rfl; exact rfl
    apply sq_g; exact g_assign (s := .av (.val (.bool _))) rfl; exact rfl
    refine sq_nil ?_
    refine sq_then ?_
    refine cq_ret ?_
    rotate_left
    apply sq_on; exact g_field rfl; exact rfl; exact rfl; exact rfl
    apply sq_on; exact g_load (τ := .val (.int _ _)) rfl rfl rfl; exact rfl; exact rfl; exact rfl
    apply sq_on; exact g_cmp rfl rfl rfl; exact rfl; exact rfl; exact rfl
    apply sq_g; exact g_pick (s := .av (.val (.bool _))) rfl rfl; exact rfl
    apply sq_g; exact g_move (s := .av (.val (.bool _))) rfl; exact rfl
    refine sq_split rfl rfl (fun hb => ?_) (fun hb => ?_) <;> (try simp only [decide_eq_true_eq, decide_eq_false_iff_not, beq_iff_eq, beq_eq_false_iff_ne, bne_iff_ne, bne_eq_false_iff_eq, ne_eq, Bool.not_eq_true', Bool.not_eq_false', Bool.and_eq_true, Bool.or_eq_true, Bool.and_eq_false_iff, Bool.or_eq_false_iff] at hb) <;> (try (exfalso; omega))
    refine sq_off rfl rfl rfl rfl ?_
    refine sq_off rfl rfl rfl rfl ?_
    refine sq_off rfl rfl rfl rfl ?_
    apply sq_g; exact g_pick (s := .av (.val (.bool _))) rfl rfl; exact rfl
    apply sq_g; exact g_move (s := .av (.val (.bool _))) rfl; exact rfl
    refine sq_off rfl rfl rfl rfl ?_
    refine sq_off rfl rfl rfl rfl ?_
    refine sq_off rfl rfl rfl rfl ?_
    apply sq_g; exact g_pick (s := .av (.val (.bool _))) rfl rfl; exact rfl
    apply sq_g; exact g_assign (s := .av (.val (.bool _))) rfl; exact rfl
    refine sq_nil ?_
    refine sq_then ?_
    refine cq_ret ?_
    rotate_left
    apply sq_on; exact g_field rfl; exact rfl; exact rfl; exact rfl
    apply sq_on; exact g_load (τ := .val (.int _ _)) rfl rfl rfl; exact rfl; exact rfl; exact rfl
    apply sq_on; exact g_cmp rfl rfl rfl; exact rfl; exact rfl; exact rfl
    apply sq_g; exact g_pick (s := .av (.val (.bool _))) rfl rfl; exact rfl
    apply sq_g; exact g_move (s := .av (.val (.bool _))) rfl; exact rfl
    refine sq_split rfl rfl (fun hb => ?_) (fun hb => ?_) <;> (try simp only [decide_eq_true_eq, decide_eq_false_iff_not, beq_iff_eq, beq_eq_false_iff_ne, bne_iff_ne, bne_eq_false_iff_eq, ne_eq, Bool.not_eq_true', Bool.not_eq_false', Bool.and_eq_true, Bool.or_eq_true, Bool.and_eq_false_iff, Bool.or_eq_false_iff] at hb) <;> (try (exfalso; omega))
    refine sq_off rfl rfl rfl rfl ?_
    refine sq_off rfl rfl rfl rfl ?_
    refine sq_off rfl rfl rfl rfl ?_
    apply sq_g; exact g_pick (s := .av (.val (.bool _))) rfl rfl; exact rfl
    apply sq_g; exact g_assign (s := .av (.val (.bool _))) rfl; exact rfl
    refine sq_nil ?_
    refine sq_then ?_
    refine cq_ret ?_
    rotate_left
    apply sq_on; exact g_field rfl; exact rfl; exact rfl; exact rfl
    apply sq_on; exact g_load (τ := .val (.int _ _)) rfl rfl rfl; exact rfl; exact rfl; exact rfl
    apply sq_on; exact g_cmp rfl rfl rfl; exact rfl; exact rfl; exact rfl
    apply sq_g; exact g_pick (s := .av (.val (.bool _))) rfl rfl; exact rfl
    apply sq_g; exact g_assign (s := .av (.val (.bool _))) rfl; exact rfl
    refine sq_nil ?_
    refine sq_then ?_
    refine cq_ret ?_
    rotate_left
  all_goals (refine sq_res1 rfl (.tmp rfl) (congrArg vb ?_); unfold bigB; rw [Bool.eq_iff_iff]; simp; try omega)
theorem indexf_c (l : List Pt) (hn : l.length ≤ 10000) : CtrA Try.prog 71 [pts l, .val (.func (.func 37) #[] #[])] (vi (ixB (fun k => bigB (gp l k)) l.length)) := by
  refine ctrA _ Try.func71 rfl rfl Try.ntmps71 rfl fun w Z => ?_
  simp only [initT, List.map_cons, List.map_nil, Nat.zero_add, Nat.reduceAdd]
  refine cq_seq ?_
  refine cq_region ?_
  apply sq_g; exact g_assign (s := .av (.val (.int _ _))) rfl; exact rfl
  refine sq_nil ?_
  refine sq_then ?_
  refine cq_seq ?_
  refine cq_seq ?_
  refine cq_region ?_
  apply sq_g; exact g_move (s := .av _) rfl; exact rfl
  apply sq_g; exact g_len rfl; exact rfl
  apply sq_g; exact g_move (s := .av (.val (.int _ _))) rfl; exact rfl
  refine sq_nil ?_
  refine sq_then ?_
  refine cq_block ?_
  refine cq_loop (γ := Nat) (fun k => [(0, .av (pts l)), (1, .av (.val (.func (.func 37) #[] #[]))), (6, .av (pts l)), (7, .av (vi l.length)), (8, .av (vi k))]) (fun _ => []) (fun k => k ≤ l.length ∧ ∀ j, j < k → bigB (gp l j) = false) (fun k => l.length - k) 0 ⟨Nat.zero_le _, by omega⟩ (ent ⟨.refl _, .refl _, .refl _, .refl _, .refl _, trivial⟩ trivial) ?_
  rintro k ⟨hk, hall⟩
  refine cq_seq ?_
  refine cq_region ?_
  apply sq_g; exact g_cmp rfl rfl rfl; exact rfl
  refine sq_nil ?_
  refine sq_then ?_
  refine cq_seq ?_
  (refine cq_cond rfl (fun hb => ?_) (fun hb => ?_) <;> (try simp only [decide_eq_true_eq, decide_eq_false_iff_not, beq_iff_eq, beq_eq_false_iff_ne, bne_iff_ne, bne_eq_false_iff_eq, ne_eq, Bool.not_eq_true', Bool.not_eq_false', Bool.and_eq_true, Bool.or_eq_true, Bool.and_eq_false_iff, Bool.or_eq_false_iff] at hb) <;> (try (exfalso; omega)))
  · have hkl : k < l.length := by omega
    refine cq_skip ?_
    refine sq_then ?_
    refine cq_seq ?_
    refine cq_block ?_
    refine cq_seq ?_
    refine cq_region ?_
    apply sq_g; exact g_move (s := .av (.val (.int _ _))) rfl; exact rfl
    apply sq_g; exact g_assign (s := .av (.val (.int _ _))) rfl; exact rfl
    refine sq_nil ?_
    refine sq_then ?_
    refine cq_seq ?_
    refine cq_region ?_
    apply sq_g; exact g_move (s := .av _) rfl; exact rfl
    apply sq_g; exact g_move (s := .av _) rfl; exact rfl
    apply sq_g; exact g_move (s := .av (.val (.int _ _))) rfl; exact rfl
    apply sq_g; exact g_index rfl rfl rfl (by omega); exact rfl
    apply sq_g; exact g_load_agg (us := [.int _ _, .int _ _]) rfl rfl rfl rfl; exact rfl
    apply sq_g; exact g_callv (big_c (gp l k)) rfl rfl; exact rfl
    refine sq_nil ?_
    refine sq_then ?_
    (refine cq_cond rfl (fun hb => ?_) (fun hb => ?_) <;> (try simp only [decide_eq_true_eq, decide_eq_false_iff_not, beq_iff_eq, beq_eq_false_iff_ne, bne_iff_ne, bne_eq_false_iff_eq, ne_eq, Bool.not_eq_true', Bool.not_eq_false', Bool.and_eq_true, Bool.or_eq_true, Bool.and_eq_false_iff, Bool.or_eq_false_iff] at hb) <;> (try (exfalso; omega)))
    · have e1 := ixB_hit (p := fun k => bigB (gp l k)) hkl hall hb
      refine cq_seq ?_
      refine cq_region ?_
      apply sq_g; exact g_move (s := .av (.val (.int _ _))) rfl; exact rfl
      apply sq_g; exact g_assign (s := .av (.val (.int _ _))) rfl; exact rfl
      refine sq_nil ?_
      refine sq_then ?_
      refine cq_ret ?_
      refine sq_inBlock_ret ?_
      refine sq_then_ret ?_
      refine sq_then_ret ?_
      refine sq_inBlock_ret ?_
      refine sq_then_ret ?_
      exact sq_res1 rfl (.tmp rfl) (by rw [e1])
    · refine cq_skip ?_
      refine sq_then ?_
      refine cq_region ?_
      apply sq_g; exact g_arith rfl rfl rfl (by omega); exact rfl
      apply sq_g; exact g_move (s := .av (.val (.int _ _))) rfl; exact rfl
      refine sq_nil ?_
      exact sq_round (k + 1) ⟨by omega, lt_step hall (by simpa using hb)⟩ (by omega) (ent ⟨.refl _, .refl _, .refl _, .refl _, .int (by omega), trivial⟩ trivial)
  · have hkl : k = l.length := by omega
    subst hkl
    have e1 := ixB_no (p := fun k => bigB (gp l k)) hall
    refine cq_exit ?_
    refine sq_then ?_
    refine cq_seq ?_
    refine cq_region ?_
    apply sq_g; exact g_assign (s := .av (.val (.int _ _))) rfl; exact rfl
    refine sq_nil ?_
    refine sq_then ?_
    refine cq_ret ?_
    exact sq_res1 rfl (.tmp rfl) (by rw [e1])
theorem containsf_c (l : List Pt) (hn : l.length ≤ 10000) : CtrA Try.prog 27 [pts l, .val (.func (.func 37) #[] #[])] (vb (decide (0 ≤ ixB (fun k => bigB (gp l k)) l.length))) := by
  refine ctrA _ Try.func27 rfl rfl Try.ntmps27 rfl fun w Z => ?_
  simp only [initT, List.map_cons, List.map_nil, Nat.zero_add, Nat.reduceAdd]
  refine cq_seq ?_
  refine cq_region ?_
  apply sq_g; exact g_assign (s := .av (.val (.bool _))) rfl; exact rfl
  refine sq_nil ?_
  refine sq_then ?_
  refine cq_seq ?_
  refine cq_region ?_
  apply sq_g; exact g_move (s := .av _) rfl; exact rfl
  apply sq_g; exact g_move (s := .av _) rfl; exact rfl
  apply sq_g; exact g_call (indexf_c l hn) rfl; exact rfl
  apply sq_g; exact g_cmp rfl rfl rfl; exact rfl
  apply sq_g; exact g_assign (s := .av (.val (.bool _))) rfl; exact rfl
  refine sq_nil ?_
  refine sq_then ?_
  refine cq_ret ?_
  exact sq_res1 rfl (.tmp rfl) rfl
end Go.Proofs.Ytacepcnbgacipaa
namespace Go.Proofs.Ytacepcnbgacipaa
open Go Go.Vc
theorem inH_map {A B : List Pt} {p : Pt} (f : Pt → Pt) (hf : ∀ a b, sub (f a) (f b) = sub a b) (hm : ∀ x ∈ A, f x ∈ B) (h : inH A p = true) : inH B (f p) = true := by
  have hc : ∀ a b c, crs (f a) (f b) (f c) = crs a b c := fun a b c => by simp only [crs, hf]
  have key : ∀ i, i < A.length → ∃ k, k < B.length ∧ gp B k = f (gp A i) := by
    intro i hi
    obtain ⟨k, hk, e⟩ := List.getElem_of_mem (hm _ (gp_mem hi))
    exact ⟨k, hk, by rw [gp_eq hk, e]⟩
  obtain ⟨i, hi, h⟩ := (inH_iff A p).1 h
  obtain ⟨i', hi', ei⟩ := key i hi
  rcases h with h | ⟨j, hj, h⟩
  · exact inH_eq hi' (by rw [ei, h])
  · obtain ⟨j', hj', ej⟩ := key j (by omega)
    rcases h with h | ⟨k, hk, h⟩
    · refine inH_seg hi' hj' ?_
      rw [btw_iff] at h ⊢
      rw [ei, ej, hc, hf, hf]; exact h
    · obtain ⟨k', hk', ek⟩ := key k (by omega)
      refine inH_tri hi' hj' hk' ?_
      rw [wth_iff] at h
      unfold Tri at h ⊢
      rw [ei, ej, ek, hc, hc, hc, hc]; exact h
/-- Two lists that keep what a hull keeps are one. -/
theorem hull_uniq {l : List Pt} (sm : ∀ i, SmP (gp l i)) {v w : List Nat} (hv : HullOk l v) (hw : HullOk l w) : v = w := by
  have hl : v.length = w.length := by rw [← hv.len, ← hw.len]
  have h0 : gi v 0 = gi w 0 := by
    have := hv.head.symm.trans hw.head
    simpa using this
  have key : ∀ t, t < v.length → gi v t = gi w t := by
    intro t
    induction t with
    | zero => intro _; exact h0
    | succ t ih =>
      intro ht
      have e := ih (by omega)
      have hj : gi w (t + 1) ∈ vs l := hw.memv.1 (by rw [gi_eq (by omega)]; exact List.getElem_mem (by omega))
      have h1 := hv.next sm (t := t) ht hj
      have h2 := hw.next sm (t := t) (by omega) hj
      rw [e, h2] at h1
      simp at h1
      exact h1.symm
  refine List.ext_getElem hl fun i h1 h2 => ?_
  have := key i h1
  rwa [gi_eq h1, gi_eq h2] at this
/-- What is the hull: its vertices, to the left of all sides, from a least point on. -/
theorem arr_eq {m : List Pt} (hc : chk m = 0) (h0 : 0 < m.length) {w : List Nat} (pos : 0 < w.length) (lt : ∀ k, k < w.length → gi w k < m.length) (nd : w.Nodup) (mem : ∀ i, i < m.length → (i ∈ w ↔ vtx m i = true))
    (edge : 1 < w.length → ∀ k, k < w.length → ∀ p, p < m.length → 0 ≤ crs (gp m (gi w k)) (gp m (gi w ((k + 1) % w.length))) (gp m p))
    (least : ∀ i, i < m.length → bef (gp m i) (gp m (gi w 0)) = false) : arr m = w := by
  have H := hull_ok hc h0
  have sm := chk_sm hc
  have hb := bot_pt hc h0
  refine hull_uniq sm H ⟨pos, lt, nd, mem, edge, ?_⟩
  rw [H.fst]
  congr 1
  have e := bef_eq (hb _ (lt 0 pos)) (least _ (H.lt 0 H.pos))
  have v1 := H.vtx H.pos
  have v2 : vtx m (gi w 0) = true := (mem _ (lt 0 pos)).1 (by rw [gi_eq pos]; exact List.getElem_mem pos)
  apply Classical.byContradiction
  intro hne
  exact vtx_ne v1 v2 hne e.symm
theorem range_gi {n k : Nat} (h : k < n) : gi (List.range n) k = k := gi_range h
/-- The hull of the vertices: all of them. -/
theorem arr_pick {l : List Pt} (hc : chk l = 0) (h0 : 0 < l.length) (hn : (arr l).length ≤ 64) : arr (pick l (arr l)) = List.range (arr l).length := by
  have H := hull_ok hc h0
  have hb := bot_pt hc h0
  have hck := chk_pick hc hn H.lt
  have g : ∀ k, k < (arr l).length → gp (pick l (arr l)) k = gp l (gi (arr l) k) := fun k hk => gp_pick hk
  refine arr_eq hck (by rw [pick_len]; exact H.pos) (by rw [List.length_range]; exact H.pos) (fun k hk => ?_) List.nodup_range (fun i hi => ?_) ?_ ?_
  · rw [List.length_range] at hk
    rw [range_gi hk, pick_len]; exact hk
  · rw [pick_len] at hi
    refine ⟨fun _ => ?_, fun _ => List.mem_range.2 hi⟩
    have hv := H.vtx hi
    rw [vtx_iff] at hv ⊢
    refine ⟨fun k hk => ?_, ?_⟩
    · rw [g k (by omega), g i hi]
      exact vtx_ne (H.vtx (by omega)) (H.vtx hi) (H.ne (by omega) hi (by omega))
    · rw [g i hi]
      apply Classical.byContradiction
      intro hh
      rw [Bool.not_eq_false] at hh
      have := inH_map (B := othersOf l (gi (arr l) i) l.length) id (fun _ _ => rfl) (fun x hx => ?_) hh
      · rw [id, hv.2] at this; cases this
      · rw [othersOf_mem, g i hi] at hx
        rw [id, othersOf_mem]
        refine ⟨?_, hx.2⟩
        obtain ⟨hx1, _⟩ := hx
        simp only [pick, List.mem_map] at hx1
        obtain ⟨a, ha, rfl⟩ := hx1
        obtain ⟨k, hk, e⟩ := List.getElem_of_mem ha
        rw [← e, ← gi_eq hk]
        exact gp_mem (H.lt k hk)
  · rw [List.length_range]
    intro h1 k hk p hp
    rw [pick_len] at hp
    have hm : (k + 1) % (arr l).length < (arr l).length := Nat.mod_lt _ H.pos
    rw [range_gi hk, range_gi hm, g k hk, g _ hm, g p hp]
    exact H.edge h1 k hk _ (H.lt p hp)
  · intro i hi
    rw [pick_len] at hi
    rw [range_gi H.pos, g i hi, g 0 H.pos]
    exact hb _ (H.lt i hi)
/-! Moved points. -/
def sh (b p : Pt) : Pt := ⟨p.x + b.x, p.y + b.y⟩
theorem sh_sub (b p q : Pt) : sub (sh b p) (sh b q) = sub p q := by simp only [sub, sh, Pt.mk.injEq]; omega
theorem sh_inj {b p q : Pt} (h : sh b p = sh b q) : p = q := by
  cases p; cases q; simp only [sh, Pt.mk.injEq] at *; omega
theorem sh_back (b p : Pt) : sh ⟨-b.x, -b.y⟩ (sh b p) = p := by
  cases p; simp only [sh, Pt.mk.injEq]; omega
theorem gp_map {l : List Pt} (f : Pt → Pt) {k : Nat} (h : k < l.length) : gp (l.map f) k = f (gp l k) := by
  rw [gp_eq (by rw [List.length_map]; exact h), gp_eq h]; simp
theorem sh_crs (b p q r : Pt) : crs (sh b p) (sh b q) (sh b r) = crs p q r := by simp only [crs, sh_sub]
theorem sh_bef (b p q : Pt) : bef (sh b p) (sh b q) = bef p q := by
  rw [Bool.eq_iff_iff, bef_iff, bef_iff]; simp only [sh]; omega
theorem vtx_sh {l : List Pt} (b : Pt) {i : Nat} (hi : i < l.length) : vtx (l.map (sh b)) i = vtx l i := by
  rw [Bool.eq_iff_iff, vtx_iff, vtx_iff]
  have e : inH (othersOf (l.map (sh b)) i (l.map (sh b)).length) (gp (l.map (sh b)) i) = inH (othersOf l i l.length) (gp l i) := by
    rw [gp_map _ hi, Bool.eq_iff_iff]
    constructor
    · intro h
      have := inH_map (B := othersOf l i l.length) (sh ⟨-b.x, -b.y⟩) (sh_sub _) (fun x hx => ?_) h
      · rwa [sh_back] at this
      · rw [othersOf_mem, gp_map _ hi, List.mem_map] at hx
        obtain ⟨⟨y, hy, rfl⟩, hne⟩ := hx
        rw [sh_back, othersOf_mem]
        exact ⟨hy, fun e => hne (by rw [e])⟩
    · intro h
      refine inH_map (sh b) (sh_sub _) (fun x hx => ?_) h
      rw [othersOf_mem] at hx
      rw [othersOf_mem, gp_map _ hi]
      exact ⟨List.mem_map.2 ⟨x, hx.1, rfl⟩, fun e => hx.2 (sh_inj e)⟩
  rw [e]
  refine and_congr_left fun _ => forall_congr' fun k => ⟨fun h hk e => ?_, fun h hk e => ?_⟩
  · exact h hk (by rw [gp_map _ (by omega), gp_map _ hi, e])
  · rw [gp_map _ (by omega), gp_map _ hi] at e
    exact h hk (sh_inj e)
theorem arr_sh {l : List Pt} (hc : chk l = 0) (h0 : 0 < l.length) {b : Pt} (hm : chk (l.map (sh b)) = 0) : arr (l.map (sh b)) = arr l := by
  have H := hull_ok hc h0
  have hb := bot_pt hc h0
  refine arr_eq hm (by rw [List.length_map]; exact h0) H.pos (fun k hk => by rw [List.length_map]; exact H.lt k hk) H.nd (fun i hi => ?_) ?_ ?_
  · rw [List.length_map] at hi
    rw [vtx_sh b hi]; exact H.mem i hi
  · intro h1 k hk p hp
    rw [List.length_map] at hp
    rw [gp_map _ (H.lt k hk), gp_map _ (H.lt _ (Nat.mod_lt _ H.pos)), gp_map _ hp, sh_crs]
    exact H.edge h1 k hk p hp
  · intro i hi
    rw [List.length_map] at hi
    rw [gp_map _ hi, gp_map _ (H.lt 0 H.pos), sh_bef]
    exact hb i hi
theorem chk_sh {l : List Pt} (hn : l.length ≤ 64) {b : Pt} (h : ∀ k, k < l.length → (-9000 ≤ (gp l k).x ∧ (gp l k).x ≤ 9000) ∧ (-9000 ≤ (gp l k).y ∧ (gp l k).y ≤ 9000)) (hb : (-900 ≤ b.x ∧ b.x ≤ 900) ∧ (-900 ≤ b.y ∧ b.y ≤ 900)) : chk (l.map (sh b)) = 0 := by
  unfold chk
  rw [List.length_map, if_neg (by omega), if_pos]
  rw [List.all_eq_true]
  intro x hx
  obtain ⟨y, hy, rfl⟩ := List.mem_map.1 hx
  obtain ⟨k, hk, e⟩ := List.getElem_of_mem hy
  have := h k hk
  rw [gp_eq hk, e] at this
  simp only [rightB, inB, sh, Bool.and_eq_true]
  exact ⟨⟨decide_eq_true (by omega), decide_eq_true (by omega)⟩, decide_eq_true (by omega), decide_eq_true (by omega)⟩
/-- Each point is in the hull of the vertices. -/
theorem loc_pick {l : List Pt} (hc : chk l = 0) (h0 : 0 < l.length) (hn : (arr l).length ≤ 64) {p : Nat} (hp : p < l.length) : 0 ≤ locN (pick l (arr l)) (gp l p) ∧ errL (pick l (arr l)) (gp l p) = 0 := by
  have H := hull_ok hc h0
  have T := turn_ok hc h0
  have sm := chk_sm hc
  have hck := chk_pick hc hn H.lt
  have g : ∀ k, k < (arr l).length → gp (pick l (arr l)) k = gp l (gi (arr l) k) := fun k hk => gp_pick hk
  have hr : rightB (gp l p) = true := by
    have hall : l.all rightB = true := by
      unfold chk at hc
      split at hc
      · cases hc
      · split at hc
        · assumption
        · cases hc
    exact List.all_eq_true.1 hall _ (gp_mem hp)
  have he : errL (pick l (arr l)) (gp l p) = 0 := by
    unfold errL
    rw [if_neg (by omega), if_neg (by simp [hr]), if_neg (by rw [pick_len]; have := H.pos; omega)]
  refine ⟨?_, he⟩
  unfold locN
  rw [if_pos he]
  unfold locV
  rw [arr_pick hc h0 hn, List.length_range]
  have hl : ∀ v : List Nat, ∀ m, 0 ≤ locTo (pick l (arr l)) v (gp l p) m := fun v m => by
    unfold locTo; split <;> omega
  split
  · rename_i h2
    have hlast : (arr l).length - 1 < (arr l).length := by have := H.pos; omega
    rw [range_gi H.pos, range_gi hlast, g 0 H.pos, g _ hlast]
    unfold loc2
    rw [if_pos]
    · omega
    by_cases h1 : (arr l).length = 1
    · rw [show (arr l).length - 1 = 0 by omega, T.one h1 p hp]
      simp [crs, trn, dot, sub]
    · have e2 : (arr l).length = 2 := by have := H.pos; omega
      rw [show (arr l).length - 1 = 1 by omega]
      have c := T.two e2 0 H.pos p hp
      rw [show (0 + 1) % (arr l).length = 1 by rw [e2]] at c
      refine ⟨c, ?_⟩
      by_cases z1 : gp l (gi (arr l) 0) = gp l p
      · rw [z1]; simp [dot, sub]
      by_cases z2 : gp l (gi (arr l) 1) = gp l p
      · rw [z2]; simp [dot, sub]
      have b1 := T.least p hp
      have b2 := T.most e2 p hp
      have k1 : bef (gp l (gi (arr l) 0)) (gp l p) = true := by
        rcases bef_tri (gp l (gi (arr l) 0)) (gp l p) with h | h | h
        · exact h
        · exact absurd h z1
        · rw [b1] at h; cases h
      have k2 : bef (gp l p) (gp l (gi (arr l) 1)) = true := by
        rcases bef_tri (gp l p) (gp l (gi (arr l) 1)) with h | h | h
        · exact h
        · exact absurd h.symm z2
        · rw [b2] at h; cases h
      have := mid_btw (a := gp l (gi (arr l) 0)) (b := gp l p) (c := gp l (gi (arr l) 1)) (by rw [crs_swap]; omega) ((bef_lf (sm _) (sm _)).1 k1) ((bef_lf (sm _) (sm _)).1 k2)
      rw [btw_iff] at this
      exact this.2
  · rename_i h2
    rw [if_neg]
    · exact hl _ _
    · rw [Bool.not_eq_true, List.any_eq_false]
      intro k hk
      have hk' := List.mem_range.1 hk
      have hm : (k + 1) % (arr l).length < (arr l).length := Nat.mod_lt _ H.pos
      have := H.edge (by omega) k hk' p hp
      unfold edg
      rw [List.length_range, range_gi hk', range_gi hm, g k hk', g _ hm, decide_eq_true_eq]
      omega
theorem cvN_pick {l : List Pt} (hc : chk l = 0) (h0 : 0 < l.length) (hn : (arr l).length ≤ 64) : cvN (pick l (arr l)) = decide (2 < (arr l).length) := by
  have H := hull_ok hc h0
  have hck := chk_pick hc hn H.lt
  unfold cvN
  rw [arr_pick hc h0 hn, hck, pick_len]
  by_cases h : 2 < (arr l).length
  · rw [decide_eq_true h, cvx_yes (by simp) (by simp; omega)]
    · rfl
    · intro k hk
      rw [List.length_range] at hk
      have hm : (k + 1) % (arr l).length < (arr l).length := Nat.mod_lt _ H.pos
      unfold cvS
      rw [List.length_range, range_gi hm, range_gi hk]
      simp
  · rw [decide_eq_false h]
    unfold cvx
    simp; omega
end Go.Proofs.Ytacepcnbgacipaa
namespace Go.Proofs.Ytacepcnbgacipaa
open Go Go.Vc Go.RowKit
set_option maxHeartbeats 4000000
/-! KDQ -/
theorem ixB_all {p : Nat → Bool} {n : Nat} (h : decide (0 ≤ ixB p n) = false) : ∀ k, k < n → p k = false := by
  intro k hk
  rw [decide_eq_false_iff_not] at h
  unfold ixB at h
  split at h
  · omega
  · rename_i h2
    rw [List.find?_eq_none] at h2
    simpa using h2 k (List.mem_range.2 hk)
theorem map_take_snoc {l : List Pt} (f : Pt → Pt) {k : Nat} (h : k < l.length) : (l.take (k + 1)).map f = (l.take k).map f ++ [f (gp l k)] := by
  rw [take_gp h, List.map_append]; rfl
theorem keeps_c (l : List Pt) (b : Pt) : CtrA Try.prog 8 [pts l, pp b] (vb true) := by
  refine ctrA _ Try.func8 rfl rfl Try.ntmps8 rfl fun w Z => ?_
  simp only [initT, List.map_cons, List.map_nil, Nat.zero_add, Nat.reduceAdd]
  by_cases hr : rgt l = true
  case neg =>
    have c1 := lright_c l
    rw [Bool.eq_false_iff.2 hr] at c1
    refine cq_seq ?_
    refine cq_region ?_
    apply sq_g; exact g_box_agg rfl; exact rfl
    apply sq_g; exact g_assign (s := .av (.val (.bool _))) rfl; exact rfl
    refine sq_nil ?_
    refine sq_then ?_
    refine cq_seq ?_
    refine cq_seq ?_
    refine cq_region ?_
    apply sq_g; exact g_move (s := .av _) rfl; exact rfl
    apply sq_g; exact g_call (c1) rfl; exact rfl
    apply sq_g; exact g_not rfl; exact rfl
    apply sq_g; exact g_move (s := .av (.val (.bool _))) rfl; exact rfl
    refine sq_off rfl rfl rfl rfl ?_
    refine sq_off rfl rfl rfl rfl ?_
    refine sq_off rfl rfl rfl rfl ?_
    apply sq_g; exact g_pick (s := .av (.val (.bool _))) rfl rfl; exact rfl
    apply sq_g; exact g_move (s := .av (.val (.bool _))) rfl; exact rfl
    refine sq_off rfl rfl rfl rfl ?_
    refine sq_off rfl rfl rfl rfl ?_
    refine sq_off rfl rfl rfl rfl ?_
    apply sq_g; exact g_pick (s := .av (.val (.bool _))) rfl rfl; exact rfl
    apply sq_g; exact g_move (s := .av (.val (.bool _))) rfl; exact rfl
    refine sq_off rfl rfl rfl rfl ?_
    refine sq_off rfl rfl rfl rfl ?_
    refine sq_off rfl rfl rfl rfl ?_
    apply sq_g; exact g_pick (s := .av (.val (.bool _))) rfl rfl; exact rfl
    apply sq_g; exact g_move (s := .av (.val (.bool _))) rfl; exact rfl
    refine sq_off rfl rfl rfl rfl ?_
    refine sq_off rfl rfl rfl rfl ?_
    refine sq_off rfl rfl rfl rfl ?_
    apply sq_g; exact g_pick (s := .av (.val (.bool _))) rfl rfl; exact rfl
    apply sq_g; exact g_move (s := .av (.val (.bool _))) rfl; exact rfl
    refine sq_off rfl rfl rfl rfl ?_
    refine sq_off rfl rfl rfl rfl ?_
    apply sq_g; exact g_pick (s := .av (.val (.bool _))) rfl rfl; exact rfl
    refine sq_nil ?_
    refine sq_then ?_
    refine cq_cond_t rfl ?_
    refine cq_seq ?_
    refine cq_region ?_
    apply sq_g; exact g_call (awake_c) rfl; exact rfl
    apply sq_g; exact g_assign (s := .av (.val (.bool _))) rfl; exact rfl
    refine sq_nil ?_
    refine sq_then ?_
    refine cq_ret ?_
    refine sq_then_ret ?_
    exact sq_res1 rfl (.tmp rfl) rfl
  obtain ⟨h0, h8, hc⟩ : 0 < l.length ∧ l.length ≤ 8 ∧ chk l = 0 := by simpa using hr
  have c1 := lright_c l
  rw [hr] at c1
  have c2 := containsf_c l (by omega)
  by_cases hX : decide (0 ≤ ixB (fun k => bigB (gp l k)) l.length) = true
  case pos =>
    rw [hX] at c2
    focus
      refine cq_seq ?_
      refine cq_region ?_
      apply sq_g; exact g_box_agg rfl; exact rfl
      apply sq_g; exact g_assign (s := .av (.val (.bool _))) rfl; exact rfl
      refine sq_nil ?_
      refine sq_then ?_
      refine cq_seq ?_
      refine cq_seq ?_
      refine cq_region ?_
      apply sq_g; exact g_move (s := .av _) rfl; exact rfl
      apply sq_g; exact g_call (c1) rfl; exact rfl
      apply sq_g; exact g_not rfl; exact rfl
      apply sq_g; exact g_move (s := .av (.val (.bool _))) rfl; exact rfl
      apply sq_on; exact g_field rfl; exact rfl; exact rfl; exact rfl
      apply sq_on; exact g_load (τ := .val (.int _ _)) rfl rfl rfl; exact rfl; exact rfl; exact rfl
      apply sq_on; exact g_cmp rfl rfl rfl; exact rfl; exact rfl; exact rfl
      apply sq_g; exact g_pick (s := .av (.val (.bool _))) rfl rfl; exact rfl
      apply sq_g; exact g_move (s := .av (.val (.bool _))) rfl; exact rfl
      refine sq_split rfl rfl (fun hb => ?_) (fun hb => ?_) <;> (try simp only [decide_eq_true_eq, decide_eq_false_iff_not, beq_iff_eq, beq_eq_false_iff_ne, bne_iff_ne, bne_eq_false_iff_eq, ne_eq, Bool.not_eq_true', Bool.not_eq_false', Bool.and_eq_true, Bool.or_eq_true, Bool.and_eq_false_iff, Bool.or_eq_false_iff] at hb) <;> (try (exfalso; omega))
      refine sq_off rfl rfl rfl rfl ?_
      refine sq_off rfl rfl rfl rfl ?_
      refine sq_off rfl rfl rfl rfl ?_
      apply sq_g; exact g_pick (s := .av (.val (.bool _))) rfl rfl; exact rfl
      apply sq_g; exact g_move (s := .av (.val (.bool _))) rfl; exact rfl
      refine sq_off rfl rfl rfl rfl ?_
      refine sq_off rfl rfl rfl rfl ?_
      refine sq_off rfl rfl rfl rfl ?_
      apply sq_g; exact g_pick (s := .av (.val (.bool _))) rfl rfl; exact rfl
      apply sq_g; exact g_move (s := .av (.val (.bool _))) rfl; exact rfl
      refine sq_off rfl rfl rfl rfl ?_
      refine sq_off rfl rfl rfl rfl ?_
      refine sq_off rfl rfl rfl rfl ?_
      apply sq_g; exact g_pick (s := .av (.val (.bool _))) rfl rfl; exact rfl
      apply sq_g; exact g_move (s := .av (.val (.bool _))) rfl; exact rfl
      refine sq_off rfl rfl rfl rfl ?_
      refine sq_off rfl rfl rfl rfl ?_
      apply sq_g; exact g_pick (s := .av (.val (.bool _))) rfl rfl; exact rfl
      refine sq_nil ?_
      refine sq_then ?_
      refine cq_cond_t rfl ?_
      refine cq_seq ?_
      refine cq_region ?_
      apply sq_g; exact g_call (awake_c) rfl; exact rfl
      apply sq_g; exact g_assign (s := .av (.val (.bool _))) rfl; exact rfl
      refine sq_nil ?_
      refine sq_then ?_
      refine cq_ret ?_
      refine sq_then_ret ?_
      rotate_left
      apply sq_on; exact g_field rfl; exact rfl; exact rfl; exact rfl
      apply sq_on; exact g_load (τ := .val (.int _ _)) rfl rfl rfl; exact rfl; exact rfl; exact rfl
      apply sq_on; exact g_cmp rfl rfl rfl; exact rfl; exact rfl; exact rfl
      apply sq_g; exact g_pick (s := .av (.val (.bool _))) rfl rfl; exact rfl
      apply sq_g; exact g_move (s := .av (.val (.bool _))) rfl; exact rfl
      refine sq_split rfl rfl (fun hb => ?_) (fun hb => ?_) <;> (try simp only [decide_eq_true_eq, decide_eq_false_iff_not, beq_iff_eq, beq_eq_false_iff_ne, bne_iff_ne, bne_eq_false_iff_eq, ne_eq, Bool.not_eq_true', Bool.not_eq_false', Bool.and_eq_true, Bool.or_eq_true, Bool.and_eq_false_iff, Bool.or_eq_false_iff] at hb) <;> (try (exfalso; omega))
      refine sq_off rfl rfl rfl rfl ?_
      refine sq_off rfl rfl rfl rfl ?_
      refine sq_off rfl rfl rfl rfl ?_
      apply sq_g; exact g_pick (s := .av (.val (.bool _))) rfl rfl; exact rfl
      apply sq_g; exact g_move (s := .av (.val (.bool _))) rfl; exact rfl
      refine sq_off rfl rfl rfl rfl ?_
      refine sq_off rfl rfl rfl rfl ?_
      refine sq_off rfl rfl rfl rfl ?_
      apply sq_g; exact g_pick (s := .av (.val (.bool _))) rfl rfl; exact rfl
      apply sq_g; exact g_move (s := .av (.val (.bool _))) rfl; exact rfl
      refine sq_off rfl rfl rfl rfl ?_
      refine sq_off rfl rfl rfl rfl ?_
      apply sq_g; exact g_pick (s := .av (.val (.bool _))) rfl rfl; exact rfl
      refine sq_nil ?_
      refine sq_then ?_
      refine cq_cond_t rfl ?_
      refine cq_seq ?_
      refine cq_region ?_
      apply sq_g; exact g_call (awake_c) rfl; exact rfl
      apply sq_g; exact g_assign (s := .av (.val (.bool _))) rfl; exact rfl
      refine sq_nil ?_
      refine sq_then ?_
      refine cq_ret ?_
      refine sq_then_ret ?_
      rotate_left
      apply sq_on; exact g_field rfl; exact rfl; exact rfl; exact rfl
      apply sq_on; exact g_load (τ := .val (.int _ _)) rfl rfl rfl; exact rfl; exact rfl; exact rfl
      apply sq_on; exact g_cmp rfl rfl rfl; exact rfl; exact rfl; exact rfl
      apply sq_g; exact g_pick (s := .av (.val (.bool _))) rfl rfl; exact rfl
      apply sq_g; exact g_move (s := .av (.val (.bool _))) rfl; exact rfl
      refine sq_split rfl rfl (fun hb => ?_) (fun hb => ?_) <;> (try simp only [decide_eq_true_eq, decide_eq_false_iff_not, beq_iff_eq, beq_eq_false_iff_ne, bne_iff_ne, bne_eq_false_iff_eq, ne_eq, Bool.not_eq_true', Bool.not_eq_false', Bool.and_eq_true, Bool.or_eq_true, Bool.and_eq_false_iff, Bool.or_eq_false_iff] at hb) <;> (try (exfalso; omega))
      refine sq_off rfl rfl rfl rfl ?_
      refine sq_off rfl rfl rfl rfl ?_
      refine sq_off rfl rfl rfl rfl ?_
      apply sq_g; exact g_pick (s := .av (.val (.bool _))) rfl rfl; exact rfl
      apply sq_g; exact g_move (s := .av (.val (.bool _))) rfl; exact rfl
      refine sq_off rfl rfl rfl rfl ?_
      refine sq_off rfl rfl rfl rfl ?_
      apply sq_g; exact g_pick (s := .av (.val (.bool _))) rfl rfl; exact rfl
      refine sq_nil ?_
      refine sq_then ?_
      refine cq_cond_t rfl ?_
      refine cq_seq ?_
      refine cq_region ?_
      apply sq_g; exact g_call (awake_c) rfl; exact rfl
      apply sq_g; exact g_assign (s := .av (.val (.bool _))) rfl; exact rfl
      refine sq_nil ?_
      refine sq_then ?_
      refine cq_ret ?_
      refine sq_then_ret ?_
      rotate_left
      apply sq_on; exact g_field rfl; exact rfl; exact rfl; exact rfl
      apply sq_on; exact g_load (τ := .val (.int _ _)) rfl rfl rfl; exact rfl; exact rfl; exact rfl
      apply sq_on; exact g_cmp rfl rfl rfl; exact rfl; exact rfl; exact rfl
      apply sq_g; exact g_pick (s := .av (.val (.bool _))) rfl rfl; exact rfl
      apply sq_g; exact g_move (s := .av (.val (.bool _))) rfl; exact rfl
      refine sq_split rfl rfl (fun hb => ?_) (fun hb => ?_) <;> (try simp only [decide_eq_true_eq, decide_eq_false_iff_not, beq_iff_eq, beq_eq_false_iff_ne, bne_iff_ne, bne_eq_false_iff_eq, ne_eq, Bool.not_eq_true', Bool.not_eq_false', Bool.and_eq_true, Bool.or_eq_true, Bool.and_eq_false_iff, Bool.or_eq_false_iff] at hb) <;> (try (exfalso; omega))
      refine sq_off rfl rfl rfl rfl ?_
      refine sq_off rfl rfl rfl rfl ?_
      apply sq_g; exact g_pick (s := .av (.val (.bool _))) rfl rfl; exact rfl
      refine sq_nil ?_
      refine sq_then ?_
      refine cq_cond_t rfl ?_
      refine cq_seq ?_
      refine cq_region ?_
      apply sq_g; exact g_call (awake_c) rfl; exact rfl
      apply sq_g; exact g_assign (s := .av (.val (.bool _))) rfl; exact rfl
      refine sq_nil ?_
      refine sq_then ?_
      refine cq_ret ?_
      refine sq_then_ret ?_
      rotate_left
      apply sq_on; exact g_move (s := .av _) rfl; exact rfl; exact rfl; exact rfl
      apply sq_on; exact g_call (c2) rfl; exact rfl; exact rfl; exact rfl
      apply sq_g; exact g_pick (s := .av (.val (.bool _))) rfl rfl; exact rfl
      refine sq_nil ?_
      refine sq_then ?_
      refine cq_cond_t rfl ?_
      refine cq_seq ?_
      refine cq_region ?_
      apply sq_g; exact g_call (awake_c) rfl; exact rfl
      apply sq_g; exact g_assign (s := .av (.val (.bool _))) rfl; exact rfl
      refine sq_nil ?_
      refine sq_then ?_
      refine cq_ret ?_
      refine sq_then_ret ?_
      rotate_left
    all_goals exact sq_res1 rfl (.tmp rfl) rfl
  rw [Bool.not_eq_true] at hX
  rw [hX] at c2
  have hbig := ixB_all hX
  clear hX hr
  have sm := chk_sm hc
  have hs : Sml l := sml_of (fun _ => by omega)
  have he : errH l = 0 := by simp [errH, hc, show l.length ≠ 0 by omega]
  have hv : hullN l = arr l := by simp [hullN, he]
  have ht := turn_ok hc h0
  have hcl := hull_c l hs
  rw [he, hv] at hcl
  have hn : (arr l).length ≤ 64 := by have := ht.len; omega
  have a1 := arr_pick hc h0 hn
  have a2 := fun b => @arr_sh l hc h0 b
  have a3 := fun p (hp : p < l.length) => loc_pick hc h0 hn hp
  have a4 := cvN_pick hc h0 hn
  have a5 := chk_pick hc hn (hull_ok hc h0).lt
  generalize arr l = v at *
  have p0 := ht.pos
  have p1 := ht.len
  have hs2 : Sml (pick l v) := sml_of (fun _ => by rw [pick_len]; omega)
  have hcp := hull_c (pick l v) hs2
  have e1 : errH (pick l v) = 0 := by simp [errH, a5, pick_len, show v.length ≠ 0 by omega]
  have e2 : hullN (pick l v) = List.range v.length := by simp [hullN, e1, a1]
  rw [e1, e2] at hcp
  focus
    refine cq_seq ?_
    refine cq_region ?_
    apply sq_g; exact g_box_agg rfl; exact rfl
    apply sq_g; exact g_assign (s := .av (.val (.bool _))) rfl; exact rfl
    refine sq_nil ?_
    refine sq_then ?_
    refine cq_seq ?_
    refine cq_seq ?_
    refine cq_region ?_
    apply sq_g; exact g_move (s := .av _) rfl; exact rfl
    apply sq_g; exact g_call (c1) rfl; exact rfl
    apply sq_g; exact g_not rfl; exact rfl
    apply sq_g; exact g_move (s := .av (.val (.bool _))) rfl; exact rfl
    apply sq_on; exact g_field rfl; exact rfl; exact rfl; exact rfl
    apply sq_on; exact g_load (τ := .val (.int _ _)) rfl rfl rfl; exact rfl; exact rfl; exact rfl
    apply sq_on; exact g_cmp rfl rfl rfl; exact rfl; exact rfl; exact rfl
    apply sq_g; exact g_pick (s := .av (.val (.bool _))) rfl rfl; exact rfl
    apply sq_g; exact g_move (s := .av (.val (.bool _))) rfl; exact rfl
    refine sq_split rfl rfl (fun hb => ?_) (fun hb => ?_) <;> (try simp only [decide_eq_true_eq, decide_eq_false_iff_not, beq_iff_eq, beq_eq_false_iff_ne, bne_iff_ne, bne_eq_false_iff_eq, ne_eq, Bool.not_eq_true', Bool.not_eq_false', Bool.and_eq_true, Bool.or_eq_true, Bool.and_eq_false_iff, Bool.or_eq_false_iff] at hb) <;> (try (exfalso; omega))
    refine sq_off rfl rfl rfl rfl ?_
    refine sq_off rfl rfl rfl rfl ?_
    refine sq_off rfl rfl rfl rfl ?_
    apply sq_g; exact g_pick (s := .av (.val (.bool _))) rfl rfl; exact rfl
    apply sq_g; exact g_move (s := .av (.val (.bool _))) rfl; exact rfl
    refine sq_off rfl rfl rfl rfl ?_
    refine sq_off rfl rfl rfl rfl ?_
    refine sq_off rfl rfl rfl rfl ?_
    apply sq_g; exact g_pick (s := .av (.val (.bool _))) rfl rfl; exact rfl
    apply sq_g; exact g_move (s := .av (.val (.bool _))) rfl; exact rfl
    refine sq_off rfl rfl rfl rfl ?_
    refine sq_off rfl rfl rfl rfl ?_
    refine sq_off rfl rfl rfl rfl ?_
    apply sq_g; exact g_pick (s := .av (.val (.bool _))) rfl rfl; exact rfl
    apply sq_g; exact g_move (s := .av (.val (.bool _))) rfl; exact rfl
    refine sq_off rfl rfl rfl rfl ?_
    refine sq_off rfl rfl rfl rfl ?_
    apply sq_g; exact g_pick (s := .av (.val (.bool _))) rfl rfl; exact rfl
    refine sq_nil ?_
    refine sq_then ?_
    refine cq_cond_t rfl ?_
    refine cq_seq ?_
    refine cq_region ?_
    apply sq_g; exact g_call (awake_c) rfl; exact rfl
    apply sq_g; exact g_assign (s := .av (.val (.bool _))) rfl; exact rfl
    refine sq_nil ?_
    refine sq_then ?_
    refine cq_ret ?_
    refine sq_then_ret ?_
    rotate_left
    apply sq_on; exact g_field rfl; exact rfl; exact rfl; exact rfl
    apply sq_on; exact g_load (τ := .val (.int _ _)) rfl rfl rfl; exact rfl; exact rfl; exact rfl
    apply sq_on; exact g_cmp rfl rfl rfl; exact rfl; exact rfl; exact rfl
    apply sq_g; exact g_pick (s := .av (.val (.bool _))) rfl rfl; exact rfl
    apply sq_g; exact g_move (s := .av (.val (.bool _))) rfl; exact rfl
    refine sq_split rfl rfl (fun hb => ?_) (fun hb => ?_) <;> (try simp only [decide_eq_true_eq, decide_eq_false_iff_not, beq_iff_eq, beq_eq_false_iff_ne, bne_iff_ne, bne_eq_false_iff_eq, ne_eq, Bool.not_eq_true', Bool.not_eq_false', Bool.and_eq_true, Bool.or_eq_true, Bool.and_eq_false_iff, Bool.or_eq_false_iff] at hb) <;> (try (exfalso; omega))
    refine sq_off rfl rfl rfl rfl ?_
    refine sq_off rfl rfl rfl rfl ?_
    refine sq_off rfl rfl rfl rfl ?_
    apply sq_g; exact g_pick (s := .av (.val (.bool _))) rfl rfl; exact rfl
    apply sq_g; exact g_move (s := .av (.val (.bool _))) rfl; exact rfl
    refine sq_off rfl rfl rfl rfl ?_
    refine sq_off rfl rfl rfl rfl ?_
    refine sq_off rfl rfl rfl rfl ?_
    apply sq_g; exact g_pick (s := .av (.val (.bool _))) rfl rfl; exact rfl
    apply sq_g; exact g_move (s := .av (.val (.bool _))) rfl; exact rfl
    refine sq_off rfl rfl rfl rfl ?_
    refine sq_off rfl rfl rfl rfl ?_
    apply sq_g; exact g_pick (s := .av (.val (.bool _))) rfl rfl; exact rfl
    refine sq_nil ?_
    refine sq_then ?_
    refine cq_cond_t rfl ?_
    refine cq_seq ?_
    refine cq_region ?_
    apply sq_g; exact g_call (awake_c) rfl; exact rfl
    apply sq_g; exact g_assign (s := .av (.val (.bool _))) rfl; exact rfl
    refine sq_nil ?_
    refine sq_then ?_
    refine cq_ret ?_
    refine sq_then_ret ?_
    rotate_left
    apply sq_on; exact g_field rfl; exact rfl; exact rfl; exact rfl
    apply sq_on; exact g_load (τ := .val (.int _ _)) rfl rfl rfl; exact rfl; exact rfl; exact rfl
    apply sq_on; exact g_cmp rfl rfl rfl; exact rfl; exact rfl; exact rfl
    apply sq_g; exact g_pick (s := .av (.val (.bool _))) rfl rfl; exact rfl
    apply sq_g; exact g_move (s := .av (.val (.bool _))) rfl; exact rfl
    refine sq_split rfl rfl (fun hb => ?_) (fun hb => ?_) <;> (try simp only [decide_eq_true_eq, decide_eq_false_iff_not, beq_iff_eq, beq_eq_false_iff_ne, bne_iff_ne, bne_eq_false_iff_eq, ne_eq, Bool.not_eq_true', Bool.not_eq_false', Bool.and_eq_true, Bool.or_eq_true, Bool.and_eq_false_iff, Bool.or_eq_false_iff] at hb) <;> (try (exfalso; omega))
    refine sq_off rfl rfl rfl rfl ?_
    refine sq_off rfl rfl rfl rfl ?_
    refine sq_off rfl rfl rfl rfl ?_
    apply sq_g; exact g_pick (s := .av (.val (.bool _))) rfl rfl; exact rfl
    apply sq_g; exact g_move (s := .av (.val (.bool _))) rfl; exact rfl
    refine sq_off rfl rfl rfl rfl ?_
    refine sq_off rfl rfl rfl rfl ?_
    apply sq_g; exact g_pick (s := .av (.val (.bool _))) rfl rfl; exact rfl
    refine sq_nil ?_
    refine sq_then ?_
    refine cq_cond_t rfl ?_
    refine cq_seq ?_
    refine cq_region ?_
    apply sq_g; exact g_call (awake_c) rfl; exact rfl
    apply sq_g; exact g_assign (s := .av (.val (.bool _))) rfl; exact rfl
    refine sq_nil ?_
    refine sq_then ?_
    refine cq_ret ?_
    refine sq_then_ret ?_
    rotate_left
    apply sq_on; exact g_field rfl; exact rfl; exact rfl; exact rfl
    apply sq_on; exact g_load (τ := .val (.int _ _)) rfl rfl rfl; exact rfl; exact rfl; exact rfl
    apply sq_on; exact g_cmp rfl rfl rfl; exact rfl; exact rfl; exact rfl
    apply sq_g; exact g_pick (s := .av (.val (.bool _))) rfl rfl; exact rfl
    apply sq_g; exact g_move (s := .av (.val (.bool _))) rfl; exact rfl
    refine sq_split rfl rfl (fun hb => ?_) (fun hb => ?_) <;> (try simp only [decide_eq_true_eq, decide_eq_false_iff_not, beq_iff_eq, beq_eq_false_iff_ne, bne_iff_ne, bne_eq_false_iff_eq, ne_eq, Bool.not_eq_true', Bool.not_eq_false', Bool.and_eq_true, Bool.or_eq_true, Bool.and_eq_false_iff, Bool.or_eq_false_iff] at hb) <;> (try (exfalso; omega))
    refine sq_off rfl rfl rfl rfl ?_
    refine sq_off rfl rfl rfl rfl ?_
    apply sq_g; exact g_pick (s := .av (.val (.bool _))) rfl rfl; exact rfl
    refine sq_nil ?_
    refine sq_then ?_
    refine cq_cond_t rfl ?_
    refine cq_seq ?_
    refine cq_region ?_
    apply sq_g; exact g_call (awake_c) rfl; exact rfl
    apply sq_g; exact g_assign (s := .av (.val (.bool _))) rfl; exact rfl
    refine sq_nil ?_
    refine sq_then ?_
    refine cq_ret ?_
    refine sq_then_ret ?_
    rotate_left
    apply sq_on; exact g_move (s := .av _) rfl; exact rfl; exact rfl; exact rfl
    apply sq_on; exact g_call (c2) rfl; exact rfl; exact rfl; exact rfl
    apply sq_g; exact g_pick (s := .av (.val (.bool _))) rfl rfl; exact rfl
    refine sq_nil ?_
    refine sq_then ?_
    refine cq_cond_f rfl ?_
    refine cq_skip ?_
    refine sq_then ?_
    refine cq_seq ?_
    refine cq_region ?_
    apply sq_g; exact g_move (s := .av _) rfl; exact rfl
    apply sq_g; exact g_call (hcl) rfl; exact rfl
    apply sq_g; exact g_move (s := .av _) rfl; exact rfl
    apply sq_g; exact g_extractT rfl rfl; exact rfl
    apply sq_g; exact g_extractT rfl rfl; exact rfl
    apply sq_g; exact g_assign (s := .av _) rfl; exact rfl
    apply sq_g; exact g_assign (s := .av (.val (.int _ _))) rfl; exact rfl
    refine sq_nil ?_
    refine sq_then ?_
    refine cq_seq ?_
    refine cq_seq ?_
    refine cq_region ?_
    apply sq_g; exact g_move (s := .av (.val (.int _ _))) rfl; exact rfl
    apply sq_g; exact g_cmp rfl rfl rfl; exact rfl
    refine sq_nil ?_
    refine sq_then ?_
    refine cq_cond_f rfl ?_
    refine cq_skip ?_
    refine sq_then ?_
    refine cq_seq ?_
    refine cq_region ?_
    apply sq_g; exact g_assign (s := .av _) rfl; exact rfl
    apply sq_g; exact g_assign (s := .av _) rfl; exact rfl
    refine sq_nil ?_
    refine sq_then ?_
    refine cq_seq ?_
    refine cq_seq ?_
    refine cq_region ?_
    apply sq_g; exact g_move (s := .av _) rfl; exact rfl
    apply sq_g; exact g_len rfl; exact rfl
    apply sq_g; exact g_move (s := .av (.val (.int _ _))) rfl; exact rfl
    refine sq_nil ?_
    refine sq_then ?_
    refine cq_block ?_
    rotate_left
  all_goals first | exact sq_res1 rfl (.tmp rfl) rfl | skip
  refine cq_loop (γ := Nat) (fun k => [(0, .av (pts l)), (3, .av (bp b)), (5, .av (idx v)), (7, .osl 2), (8, .osl 3), (56, .av (idx v)), (57, .av (vi v.length)), (58, .av (vi k))]) (fun k => [(2, .row 24 2 (pick l (v.take k)).length (pf (pick l (v.take k)))), (3, .row 24 2 0 (pf []))]) (fun k => k ≤ v.length) (fun k => v.length - k) 0 (Nat.zero_le _) (((ent_row (dd := 7) 2 24 2 (pf []) rfl rfl).trans (ent_row (dd := 8) 3 24 2 (pf []) rfl rfl)).trans (ent ⟨.refl _, .refl _, .refl _, .refl _, .refl _, .refl _, .refl _, .refl _, trivial⟩ ⟨⟨_, rfl, .refl _⟩, ⟨_, rfl, .refl _⟩, trivial⟩)) ?_
  intro k hk
  have hpl : (pick l (v.take k)).length ≤ 1000 := by rw [pick_len]; simp; omega
  refine cq_seq ?_
  refine cq_region ?_
  apply sq_g; exact g_cmp rfl rfl rfl; exact rfl
  refine sq_nil ?_
  refine sq_then ?_
  refine cq_seq ?_
  (refine cq_cond rfl (fun hb => ?_) (fun hb => ?_) <;> (try simp only [decide_eq_true_eq, decide_eq_false_iff_not, beq_iff_eq, beq_eq_false_iff_ne, bne_iff_ne, bne_eq_false_iff_eq, ne_eq, Bool.not_eq_true', Bool.not_eq_false', Bool.and_eq_true, Bool.or_eq_true, Bool.and_eq_false_iff, Bool.or_eq_false_iff] at hb) <;> (try (exfalso; omega)))
  · have hkl : k < v.length := by omega
    have hg := ht.lt k hkl
    refine cq_skip ?_
    refine sq_then ?_
    refine cq_seq ?_
    refine cq_block ?_
    refine cq_seq ?_
    refine cq_region ?_
    apply sq_g; exact g_index rfl rfl rfl (by omega); exact rfl
    apply sq_g; exact g_load (τ := .val (.int _ _)) rfl rfl rfl; exact rfl
    apply sq_g; exact g_assign (s := .av (.val (.int _ _))) rfl; exact rfl
    refine sq_nil ?_
    refine sq_then ?_
    refine cq_seq ?_
    refine cq_seq ?_
    refine cq_region ?_
    apply sq_g; exact g_move (s := .av (.val (.int _ _))) rfl; exact rfl
    apply sq_g; exact g_cmp rfl rfl rfl; exact rfl
    apply sq_g; exact g_move (s := .av (.val (.bool _))) rfl; exact rfl
    apply sq_on; exact g_move (s := .av (.val (.int _ _))) rfl; exact rfl; exact rfl; exact rfl
    apply sq_on; exact g_move (s := .av _) rfl; exact rfl; exact rfl; exact rfl
    apply sq_on; exact g_len rfl; exact rfl; exact rfl; exact rfl
    apply sq_on; exact g_cmp rfl rfl rfl; exact rfl; exact rfl; exact rfl
    apply sq_g; exact g_pick (s := .av (.val (.bool _))) rfl rfl; exact rfl
    refine sq_nil ?_
    refine sq_then ?_
    (refine cq_cond rfl (fun hb => ?_) (fun hb => ?_) <;> (try simp only [decide_eq_true_eq, decide_eq_false_iff_not, beq_iff_eq, beq_eq_false_iff_ne, bne_iff_ne, bne_eq_false_iff_eq, ne_eq, Bool.not_eq_true', Bool.not_eq_false', Bool.and_eq_true, Bool.or_eq_true, Bool.and_eq_false_iff, Bool.or_eq_false_iff] at hb) <;> (try (exfalso; omega)))
    refine cq_skip ?_
    refine sq_then ?_
    refine cq_region ?_
    apply sq_g; exact g_move (s := .osl _) rfl; exact rfl
    apply sq_g; exact g_move (s := .av _) rfl; exact rfl
    apply sq_g; exact g_move (s := .av (.val (.int _ _))) rfl; exact rfl
    apply sq_g; exact g_index rfl rfl rfl (by omega); exact rfl
    apply sq_g; exact g_load_agg (us := [.int _ _, .int _ _]) rfl rfl rfl rfl; exact rfl
    apply sq_g; exact g_one_pt (tq22 _ _) rfl; exact rfl
    refine sq_v (v_push_pt rfl rfl rfl (by omega) rfl) rfl ?_
    apply sq_g; exact g_assign (s := .osl _) rfl; exact rfl
    refine sq_nil ?_
    refine sq_then ?_
    refine cq_region ?_
    apply sq_g; exact g_arith rfl rfl rfl (by omega); exact rfl
    apply sq_g; exact g_move (s := .av (.val (.int _ _))) rfl; exact rfl
    refine sq_nil ?_
    exact sq_round (k + 1) (by omega) (by omega) (ent ⟨.refl _, .refl _, .refl _, .refl _, .refl _, .refl _, .refl _, .int (by omega), trivial⟩ ⟨⟨_, rfl, by rw [pick_snoc l v hkl]; exact .refl _⟩, ⟨_, rfl, .refl _⟩, trivial⟩)
  · have : k = v.length := by omega
    subst this
    rw [List.take_length]
    refine cq_exit ?_
    refine sq_then ?_
    refine cq_seq ?_
    refine cq_seq ?_
    refine cq_region ?_
    apply sq_g; exact g_move (s := .av _) rfl; exact rfl
    apply sq_g; exact g_len rfl; exact rfl
    apply sq_g; exact g_move (s := .av (.val (.int _ _))) rfl; exact rfl
    refine sq_nil ?_
    refine sq_then ?_
    refine cq_block ?_
    refine cq_loop (γ := Nat) (fun k => [(0, .av (pts l)), (3, .av (bp b)), (5, .av (idx v)), (7, .av (pts (pick l v))), (8, .osl 3), (78, .av (pts l)), (79, .av (vi l.length)), (80, .av (vi k))]) (fun k => [(3, .row 24 2 ((l.take k).map (sh b)).length (pf ((l.take k).map (sh b))))]) (fun k => k ≤ l.length) (fun k => l.length - k) 0 (Nat.zero_le _) ((ent_freeze 2 rfl).trans (ent ⟨.refl _, .refl _, .refl _, .refl _, .refl _, .refl _, .refl _, .refl _, trivial⟩ ⟨⟨_, rfl, .refl _⟩, trivial⟩)) ?_
    intro k hk
    have hml : ((l.take k).map (sh b)).length ≤ 1000 := by simp; omega
    refine cq_seq ?_
    refine cq_region ?_
    apply sq_g; exact g_cmp rfl rfl rfl; exact rfl
    refine sq_nil ?_
    refine sq_then ?_
    refine cq_seq ?_
    (refine cq_cond rfl (fun hb => ?_) (fun hb => ?_) <;> (try simp only [decide_eq_true_eq, decide_eq_false_iff_not, beq_iff_eq, beq_eq_false_iff_ne, bne_iff_ne, bne_eq_false_iff_eq, ne_eq, Bool.not_eq_true', Bool.not_eq_false', Bool.and_eq_true, Bool.or_eq_true, Bool.and_eq_false_iff, Bool.or_eq_false_iff] at hb) <;> (try (exfalso; omega)))
    · have hkl : k < l.length := by omega
      obtain ⟨⟨s1, s2⟩, s3, s4⟩ := sm k
      have cl := loc_c (pick l v) (gp l k) hs2
      obtain ⟨q1, q2⟩ := a3 k hkl
      rw [q2] at cl
      refine cq_skip ?_
      refine sq_then ?_
      refine cq_seq ?_
      refine cq_block ?_
      refine cq_seq ?_
      refine cq_region ?_
      apply sq_g; exact g_index rfl rfl rfl (by omega); exact rfl
      apply sq_g; exact g_load_agg (us := [.int _ _, .int _ _]) rfl rfl rfl rfl; exact rfl
      refine sq_v (f_alloc 10 rfl) rfl ?_
      refine sq_s (g_store_agg rfl rfl rfl rfl rfl rfl) ?_
      refine sq_nil ?_
      refine sq_then ?_
      refine cq_seq ?_
      refine cq_region ?_
      apply sq_g; exact g_move (s := .osl _) rfl; exact rfl
      apply sq_g; exact g_field_own rfl; exact rfl
      apply sq_g; exact g_load_own (s := .av (.val (.int _ _))) rfl rfl rfl; exact rfl
      apply sq_g; exact g_field rfl; exact rfl
      apply sq_g; exact g_load (τ := .val (.int _ _)) rfl rfl rfl; exact rfl
      apply sq_g; exact g_arith rfl rfl rfl (by omega); exact rfl
      apply sq_g; exact g_field_own rfl; exact rfl
      apply sq_g; exact g_load_own (s := .av (.val (.int _ _))) rfl rfl rfl; exact rfl
      apply sq_g; exact g_field rfl; exact rfl
      apply sq_g; exact g_load (τ := .val (.int _ _)) rfl rfl rfl; exact rfl
      apply sq_g; exact g_arith rfl rfl rfl (by omega); exact rfl
      apply sq_g; exact g_call (at_c ((gp l k).x + b.x) ((gp l k).y + b.y)) rfl; exact rfl
      apply sq_g; exact g_one_pt (tq22 _ _) rfl; exact rfl
      refine sq_v (v_push_pt rfl rfl rfl (by omega) rfl) rfl ?_
      apply sq_g; exact g_assign (s := .osl _) rfl; exact rfl
      refine sq_nil ?_
      refine sq_then ?_
      refine cq_seq ?_
      refine cq_region ?_
      apply sq_g; exact g_move (s := .av _) rfl; exact rfl
      apply sq_g; exact g_load_own_agg (us := [.int _ _, .int _ _]) rfl rfl rfl rfl; exact rfl
      apply sq_g; exact g_call (cl) rfl; exact rfl
      apply sq_g; exact g_move (s := .av _) rfl; exact rfl
      apply sq_g; exact g_extractT rfl rfl; exact rfl
      apply sq_g; exact g_extractT rfl rfl; exact rfl
      apply sq_g; exact g_assign (s := .av (.val (.int _ _))) rfl; exact rfl
      apply sq_g; exact g_assign (s := .av (.val (.int _ _))) rfl; exact rfl
      refine sq_nil ?_
      refine sq_then ?_
      refine cq_seq ?_
      refine cq_region ?_
      apply sq_g; exact g_move (s := .av (.val (.int _ _))) rfl; exact rfl
      apply sq_g; exact g_cmp rfl rfl rfl; exact rfl
      apply sq_g; exact g_move (s := .av (.val (.bool _))) rfl; exact rfl
      apply sq_on; exact g_move (s := .av (.val (.int _ _))) rfl; exact rfl; exact rfl; exact rfl
      apply sq_on; exact g_cmp rfl rfl rfl; exact rfl; exact rfl; exact rfl
      apply sq_g; exact g_pick (s := .av (.val (.bool _))) rfl rfl; exact rfl
      refine sq_nil ?_
      refine sq_then ?_
      (refine cq_cond rfl (fun hb => ?_) (fun hb => ?_) <;> (try simp only [decide_eq_true_eq, decide_eq_false_iff_not, beq_iff_eq, beq_eq_false_iff_ne, bne_iff_ne, bne_eq_false_iff_eq, ne_eq, Bool.not_eq_true', Bool.not_eq_false', Bool.and_eq_true, Bool.or_eq_true, Bool.and_eq_false_iff, Bool.or_eq_false_iff] at hb) <;> (try (exfalso; omega)))
      refine cq_skip ?_
      refine sq_then ?_
      refine cq_region ?_
      apply sq_g; exact g_arith rfl rfl rfl (by omega); exact rfl
      apply sq_g; exact g_move (s := .av (.val (.int _ _))) rfl; exact rfl
      refine sq_nil ?_
      exact sq_round (k + 1) (by omega) (by omega) (ent ⟨.refl _, .refl _, .refl _, .refl _, .refl _, .refl _, .refl _, .int (by omega), trivial⟩ ⟨⟨_, rfl, by rw [map_take_snoc _ hkl]; exact .refl _⟩, trivial⟩)
    · have hke : k = l.length := by omega
      subst hke
      rw [List.take_length]
      have hck := chk_sh (l := l) (b := b) (by omega) (fun k hk => by have := hbig k hk; unfold bigB at this; rw [decide_eq_false_iff_not] at this; omega) (by omega)
      have hcm := hull_c (l.map (sh b)) (sml_of (fun _ => by rw [List.length_map]; omega))
      have e3 : errH (l.map (sh b)) = 0 := by simp [errH, hck, show l.length ≠ 0 by omega]
      have e4 : hullN (l.map (sh b)) = v := by simp [hullN, e3, a2 b hck]
      rw [e3, e4] at hcm
      have heq := equal_c v v (by omega)
      rw [decide_eq_true rfl] at heq
      have hcv := convex_c (pick l v) hs2
      rw [a4, a5] at hcv
      have hlp := pick_len l v
      have hll : (List.range v.length).length = v.length := List.length_range
      refine cq_exit ?_
      refine sq_then ?_
      refine cq_seq ?_
      refine cq_region ?_
      apply sq_g; exact g_move (s := .av _) rfl; exact rfl
      apply sq_g; exact g_call (hcp) rfl; exact rfl
      apply sq_g; exact g_move (s := .av _) rfl; exact rfl
      apply sq_g; exact g_extractT rfl rfl; exact rfl
      apply sq_g; exact g_extractT rfl rfl; exact rfl
      apply sq_g; exact g_assign (s := .av _) rfl; exact rfl
      apply sq_g; exact g_assign (s := .av (.val (.int _ _))) rfl; exact rfl
      refine sq_nil ?_
      refine sq_then ?_
      refine cq_seq ?_
      refine cq_region ?_
      apply sq_g; exact g_move (s := .osl _) rfl; exact rfl
      refine lsq_more (ent_freeze 3 rfl) ?_
      apply sq_g; exact g_call (hcm) rfl; exact rfl
      apply sq_g; exact g_move (s := .av _) rfl; exact rfl
      apply sq_g; exact g_extractT rfl rfl; exact rfl
      apply sq_g; exact g_extractT rfl rfl; exact rfl
      apply sq_g; exact g_assign (s := .av _) rfl; exact rfl
      apply sq_g; exact g_assign (s := .av (.val (.int _ _))) rfl; exact rfl
      refine sq_nil ?_
      refine sq_then ?_
      refine cq_seq ?_
      refine cq_seq ?_
      refine cq_region ?_
      apply sq_g; exact g_move (s := .av (.val (.int _ _))) rfl; exact rfl
      apply sq_g; exact g_cmp rfl rfl rfl; exact rfl
      apply sq_g; exact g_move (s := .av (.val (.bool _))) rfl; exact rfl
      apply sq_on; exact g_move (s := .av (.val (.int _ _))) rfl; exact rfl; exact rfl; exact rfl
      apply sq_on; exact g_cmp rfl rfl rfl; exact rfl; exact rfl; exact rfl
      apply sq_g; exact g_pick (s := .av (.val (.bool _))) rfl rfl; exact rfl
      apply sq_g; exact g_move (s := .av (.val (.bool _))) rfl; exact rfl
      apply sq_on; exact g_move (s := .av _) rfl; exact rfl; exact rfl; exact rfl
      apply sq_on; exact g_len rfl; exact rfl; exact rfl; exact rfl
      apply sq_on; exact g_move (s := .av _) rfl; exact rfl; exact rfl; exact rfl
      apply sq_on; exact g_len rfl; exact rfl; exact rfl; exact rfl
      apply sq_on; exact g_cmp rfl rfl rfl; exact rfl; exact rfl; exact rfl
      apply sq_g; exact g_pick (s := .av (.val (.bool _))) rfl rfl; exact rfl
      apply sq_g; exact g_move (s := .av (.val (.bool _))) rfl; exact rfl
      refine sq_split rfl rfl (fun hb => ?_) (fun hb => ?_) <;> (try simp only [decide_eq_true_eq, decide_eq_false_iff_not, beq_iff_eq, beq_eq_false_iff_ne, bne_iff_ne, bne_eq_false_iff_eq, ne_eq, Bool.not_eq_true', Bool.not_eq_false', Bool.and_eq_true, Bool.or_eq_true, Bool.and_eq_false_iff, Bool.or_eq_false_iff] at hb) <;> (try (exfalso; omega))
      apply sq_on; exact g_move (s := .av _) rfl; exact rfl; exact rfl; exact rfl
      apply sq_on; exact g_move (s := .av _) rfl; exact rfl; exact rfl; exact rfl
      apply sq_on; exact g_call (heq) rfl; exact rfl; exact rfl; exact rfl
      apply sq_on; exact g_not rfl; exact rfl; exact rfl; exact rfl
      apply sq_g; exact g_pick (s := .av (.val (.bool _))) rfl rfl; exact rfl
      refine sq_nil ?_
      refine sq_then ?_
      refine cq_cond_f rfl ?_
      refine cq_skip ?_
      refine sq_then ?_
      refine cq_seq ?_
      refine cq_seq ?_
      refine cq_region ?_
      apply sq_g; exact g_move (s := .av _) rfl; exact rfl
      apply sq_g; exact g_len rfl; exact rfl
      apply sq_g; exact g_move (s := .av (.val (.int _ _))) rfl; exact rfl
      refine sq_nil ?_
      refine sq_then ?_
      refine cq_block ?_
      refine cq_loop (γ := Nat) (fun k => [(5, .av (idx v)), (7, .av (pts (pick l v))), (140, .av (idx (List.range v.length))), (141, .av (vi (List.range v.length).length)), (142, .av (vi k))]) (fun _ => []) (fun k => k ≤ v.length) (fun k => v.length - k) 0 (Nat.zero_le _) (ent ⟨.refl _, .refl _, .refl _, .refl _, .refl _, trivial⟩ trivial) ?_
      intro k hk
      refine cq_seq ?_
      refine cq_region ?_
      apply sq_g; exact g_cmp rfl rfl rfl; exact rfl
      refine sq_nil ?_
      refine sq_then ?_
      refine cq_seq ?_
      (refine cq_cond rfl (fun hb => ?_) (fun hb => ?_) <;> (try simp only [decide_eq_true_eq, decide_eq_false_iff_not, beq_iff_eq, beq_eq_false_iff_ne, bne_iff_ne, bne_eq_false_iff_eq, ne_eq, Bool.not_eq_true', Bool.not_eq_false', Bool.and_eq_true, Bool.or_eq_true, Bool.and_eq_false_iff, Bool.or_eq_false_iff] at hb) <;> (try (exfalso; omega)))
      · have hkl : k < v.length := by omega
        have hg := range_gi hkl
        refine cq_skip ?_
        refine sq_then ?_
        refine cq_seq ?_
        refine cq_block ?_
        refine cq_seq ?_
        refine cq_region ?_
        apply sq_g; exact g_move (s := .av (.val (.int _ _))) rfl; exact rfl
        apply sq_g; exact g_index rfl rfl rfl (by omega); exact rfl
        apply sq_g; exact g_load (τ := .val (.int _ _)) rfl rfl rfl; exact rfl
        apply sq_g; exact g_assign (s := .av (.val (.int _ _))) rfl; exact rfl
        apply sq_g; exact g_assign (s := .av (.val (.int _ _))) rfl; exact rfl
        refine sq_nil ?_
        refine sq_then ?_
        refine cq_seq ?_
        refine cq_region ?_
        apply sq_g; exact g_move (s := .av (.val (.int _ _))) rfl; exact rfl
        apply sq_g; exact g_move (s := .av (.val (.int _ _))) rfl; exact rfl
        apply sq_g; exact g_cmp rfl rfl rfl; exact rfl
        refine sq_nil ?_
        refine sq_then ?_
        (refine cq_cond rfl (fun hb => ?_) (fun hb => ?_) <;> (try simp only [decide_eq_true_eq, decide_eq_false_iff_not, beq_iff_eq, beq_eq_false_iff_ne, bne_iff_ne, bne_eq_false_iff_eq, ne_eq, Bool.not_eq_true', Bool.not_eq_false', Bool.and_eq_true, Bool.or_eq_true, Bool.and_eq_false_iff, Bool.or_eq_false_iff] at hb) <;> (try (exfalso; omega)))
        refine cq_skip ?_
        refine sq_then ?_
        refine cq_region ?_
        apply sq_g; exact g_arith rfl rfl rfl (by omega); exact rfl
        apply sq_g; exact g_move (s := .av (.val (.int _ _))) rfl; exact rfl
        refine sq_nil ?_
        exact sq_round (k + 1) (by omega) (by omega) (ent ⟨.refl _, .refl _, .refl _, .refl _, .int (by omega), trivial⟩ trivial)
      · focus
          refine cq_exit ?_
          refine sq_then ?_
          refine cq_seq ?_
          refine cq_region ?_
          apply sq_g; exact g_move (s := .av _) rfl; exact rfl
          apply sq_g; exact g_call (hcv) rfl; exact rfl
          apply sq_g; exact g_move (s := .av _) rfl; exact rfl
          apply sq_g; exact g_extractT rfl rfl; exact rfl
          apply sq_g; exact g_extractT rfl rfl; exact rfl
          apply sq_g; exact g_assign (s := .av (.val (.bool _))) rfl; exact rfl
          apply sq_g; exact g_assign (s := .av (.val (.int _ _))) rfl; exact rfl
          refine sq_nil ?_
          refine sq_then ?_
          refine cq_seq ?_
          refine cq_region ?_
          apply sq_g; exact g_move (s := .av (.val (.int _ _))) rfl; exact rfl
          apply sq_g; exact g_cmp rfl rfl rfl; exact rfl
          apply sq_g; exact g_move (s := .av (.val (.bool _))) rfl; exact rfl
          apply sq_on; exact g_move (s := .av (.val (.bool _))) rfl; exact rfl; exact rfl; exact rfl
          apply sq_on; exact g_move (s := .av _) rfl; exact rfl; exact rfl; exact rfl
          apply sq_on; exact g_len rfl; exact rfl; exact rfl; exact rfl
          apply sq_on; exact g_cmp rfl rfl rfl; exact rfl; exact rfl; exact rfl
          apply sq_on; exact g_eqb rfl rfl; exact rfl; exact rfl; exact rfl
          apply sq_g; exact g_pick (s := .av (.val (.bool _))) rfl rfl; exact rfl
          apply sq_g; exact g_move (s := .av (.val (.bool _))) rfl; exact rfl
          refine sq_split rfl rfl (fun hb => ?_) (fun hb => ?_) <;> (try simp only [decide_eq_true_eq, decide_eq_false_iff_not, beq_iff_eq, beq_eq_false_iff_ne, bne_iff_ne, bne_eq_false_iff_eq, ne_eq, Bool.not_eq_true', Bool.not_eq_false', Bool.and_eq_true, Bool.or_eq_true, Bool.and_eq_false_iff, Bool.or_eq_false_iff] at hb) <;> (try (exfalso; omega))
          apply sq_on; exact g_call (awake_c) rfl; exact rfl; exact rfl; exact rfl
          apply sq_g; exact g_pick (s := .av (.val (.bool _))) rfl rfl; exact rfl
          apply sq_g; exact g_assign (s := .av (.val (.bool _))) rfl; exact rfl
          refine sq_nil ?_
          refine sq_then ?_
          refine cq_ret ?_
          rotate_left
          refine sq_off rfl rfl rfl rfl ?_
          apply sq_g; exact g_pick (s := .av (.val (.bool _))) rfl rfl; exact rfl
          apply sq_g; exact g_assign (s := .av (.val (.bool _))) rfl; exact rfl
          refine sq_nil ?_
          refine sq_then ?_
          refine cq_ret ?_
          rotate_left
        all_goals first | (refine absurd ?_ hb; rw [Bool.eq_iff_iff]; simp; omega) | exact sq_res1 rfl (.tmp rfl) rfl
end Go.Proofs.Ytacepcnbgacipaa
