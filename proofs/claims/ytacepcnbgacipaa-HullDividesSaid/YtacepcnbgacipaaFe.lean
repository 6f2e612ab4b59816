/- A part of the proof that the law returns true at every input and that the input reads behind the call as it read before; this part states nothing of its own that needs a condition of the input. -/
import Derived.Test.YtacepcnbgacipaaGeo
import Derived.Test.YtacepcnbgacipaaFc
import Derived.Test.YtacepcnbgacipaaFd
set_option linter.unusedVariables false
set_option linter.unusedSimpArgs false
namespace Go.Proofs.Ytacepcnbgacipaa
open Go Go.Vc
theorem SOk.last {l : List Pt} {S : List Nat} (h : SOk l S) {z : Nat} (hz : S.getLast? = some z) : z ∈ S ∧ (∀ p ∈ S, p ≠ z → 0 < lf 1000000 1 (gp l p) (gp l z)) := by
  have hm : z ∈ S := List.mem_of_getLast? hz
  refine ⟨hm, fun p hp hne => ?_⟩
  rcases pw_last (R := fun a b => 0 < lf 1000000 1 (gp l a) (gp l b)) h.inc hp hz with e | e
  · exact absurd e hne
  · exact e
theorem top_pt {l : List Pt} (hc : chk l = 0) (h0 : 0 < l.length) : ∃ z ∈ arr l, ∀ i, i < l.length → bef (gp l z) (gp l i) = false := by
  have H := hull_ok hc h0
  have h := s_ok hc h0
  have sm := chk_sm hc
  obtain ⟨x0, hx0, _, _⟩ := h.cover 0 h0
  obtain ⟨z, hz⟩ : ∃ z, (cpt l (ordN l)).getLast? = some z := by
    cases e : (cpt l (ordN l)).getLast? with
    | some z => exact ⟨z, rfl⟩
    | none => rw [List.getLast?_eq_none_iff] at e; rw [e] at hx0; cases hx0
  obtain ⟨hzm, hzl⟩ := h.last hz
  have hv : vtx l z = true := h.vtx_of hzm ⟨-1000000, -1, fun p hp hne => by
    have := hzl p hp hne
    simp only [lf] at this ⊢
    omega⟩
  refine ⟨z, (H.mem z (h.lt z hzm)).2 hv, fun i hi => ?_⟩
  obtain ⟨x, hx, e, _⟩ := h.cover i hi
  rw [← e]
  cases hb : bef (gp l z) (gp l x) with
  | false => rfl
  | true =>
    exfalso
    have h1 := (bef_lf (sm z) (sm x)).1 hb
    by_cases hxz : x = z
    · subst hxz; rw [lf_self] at h1; omega
    · have h2 := hzl x hx hxz
      simp only [lf] at h1 h2
      omega
theorem bot_pt {l : List Pt} (hc : chk l = 0) (h0 : 0 < l.length) : ∀ i, i < l.length → bef (gp l i) (gp l (gi (arr l) 0)) = false := by
  have H := hull_ok hc h0
  obtain ⟨h1, h2⟩ := srtTo_ok l l.length
  intro i hi
  have hm := (h2 i).2 hi
  have hf := H.fst
  match hs : srtTo l l.length, hf, h1, hm with
  | s :: r, hf, h1, hm =>
    simp only [List.head?_cons, Option.some.injEq] at hf
    rw [← hf]
    cases hb : bef (gp l i) (gp l s) with
    | false => rfl
    | true =>
      exfalso
      rcases List.mem_cons.1 hm with e | e
      · subst e; rw [bef_irr] at hb; cases hb
      · rcases (List.pairwise_cons.1 h1).1 i e with k | k
        · have := bef_trans hb k; rw [bef_irr] at this; cases this
        · rw [k.1, bef_irr] at hb; cases hb
theorem bef_eq {a b : Pt} (h1 : bef a b = false) (h2 : bef b a = false) : a = b := by
  rcases bef_tri a b with h | h | h
  · rw [h] at h1; cases h1
  · exact h
  · rw [h] at h2; cases h2
/-- What the law on turns asks. -/
structure TurnOk (l : List Pt) (v : List Nat) : Prop where
  pos : 0 < v.length
  len : v.length ≤ l.length
  lt : ∀ k, k < v.length → gi v k < l.length
  edge : 2 < v.length → ∀ k, k < v.length → ∀ p, p < l.length → 0 ≤ crs (gp l (gi v k)) (gp l (gi v ((k + 1) % v.length))) (gp l p)
  strict : 2 < v.length → ∀ k, k < v.length → 0 < crs (gp l (gi v k)) (gp l (gi v ((k + 1) % v.length))) (gp l (gi v ((k + 2) % v.length)))
  least : ∀ p, p < l.length → bef (gp l p) (gp l (gi v 0)) = false
  two : v.length = 2 → ∀ k, k < v.length → ∀ p, p < l.length → crs (gp l (gi v k)) (gp l (gi v ((k + 1) % v.length))) (gp l p) = 0
  most : v.length = 2 → ∀ p, p < l.length → bef (gp l (gi v 1)) (gp l p) = false
  one : v.length = 1 → ∀ p, p < l.length → gp l p = gp l (gi v 0)
theorem turn_ok {l : List Pt} (hc : chk l = 0) (h0 : 0 < l.length) : TurnOk l (arr l) := by
  have H := hull_ok hc h0
  have sm := chk_sm hc
  have hbot := bot_pt hc h0
  obtain ⟨z, hz, htop⟩ := top_pt hc h0
  generalize arr l = v at H hbot hz
  obtain ⟨t, ht, e⟩ := List.getElem_of_mem hz
  rw [← gi_eq ht] at e
  refine ⟨H.pos, ?_, H.lt, fun h k hk => H.edge (by omega) k hk, fun h k hk => ?_, hbot, fun h k hk p hp => ?_, fun h p hp => ?_, fun h p hp => ?_⟩
  · have := H.nd.length_le_of_subset (l₂ := List.range l.length) (fun x hx => List.mem_range.2 (by
      obtain ⟨k, hk, e⟩ := List.getElem_of_mem hx
      rw [← e, ← gi_eq hk]; exact H.lt k hk))
    simpa using this
  · have h3 : (k + 2) % v.length < v.length := Nat.mod_lt _ (by omega)
    have hk2 : (k + 2) % v.length = if k + 2 < v.length then k + 2 else k + 2 - v.length := by
      split
      · exact Nat.mod_eq_of_lt (by omega)
      · rw [Nat.mod_eq_sub_mod (by omega)]; exact Nat.mod_eq_of_lt (by omega)
    have hk1 : (k + 1) % v.length = if k + 1 < v.length then k + 1 else k + 1 - v.length := by
      split
      · exact Nat.mod_eq_of_lt (by omega)
      · rw [Nat.mod_eq_sub_mod (by omega)]; exact Nat.mod_eq_of_lt (by omega)
    exact H.strict sm hk h3 (by rw [hk2]; split <;> omega) (by rw [hk2, hk1]; split <;> split <;> omega) (by omega)
  · have h1 := H.edge (by omega) 0 (by omega) p hp
    have h2 := H.edge (by omega) 1 (by omega) p hp
    rw [h] at h1 h2 ⊢
    simp only [Nat.zero_add, Nat.reduceMod, Nat.reduceAdd] at h1 h2
    have h3 := crs_flip (gp l (gi v 0)) (gp l (gi v 1)) (gp l p)
    match k, hk with
    | 0, _ => simp only [Nat.zero_add, Nat.reduceMod]; omega
    | 1, _ => simp only [Nat.reduceAdd, Nat.reduceMod]; omega
    | k + 2, hk => omega
  · have ht2 : t = 0 ∨ t = 1 := by omega
    rcases ht2 with rfl | rfl
    · have h1 := bef_eq (hbot p hp) (by rw [e]; exact htop p hp)
      have hv1 := H.lt 1 (by omega)
      have h2 := bef_eq (hbot _ hv1) (by rw [e]; exact htop _ hv1)
      rw [h1, h2, bef_irr]
    · rw [e]; exact htop p hp
  · have ht2 : t = 0 := by omega
    subst ht2
    exact bef_eq (hbot p hp) (by rw [e]; exact htop p hp)
def minV (v : List Nat) (k : Nat) : Int := (List.range k).foldl (fun (m : Int) i => min m ((gi v (i + 1) : Nat) : Int)) ((gi v 0 : Nat) : Int)
def maxV (v : List Nat) (k : Nat) : Int := (List.range k).foldl (fun (m : Int) i => max m ((gi v (i + 1) : Nat) : Int)) ((gi v 0 : Nat) : Int)
theorem minV_succ (v : List Nat) (k : Nat) : minV v (k + 1) = min (minV v k) ((gi v (k + 1) : Nat) : Int) := by simp [minV, List.range_succ]
theorem maxV_succ (v : List Nat) (k : Nat) : maxV v (k + 1) = max (maxV v k) ((gi v (k + 1) : Nat) : Int) := by simp [maxV, List.range_succ]
theorem minV_nn (v : List Nat) : ∀ k, 0 ≤ minV v k
  | 0 => by simp [minV]
  | k + 1 => by rw [minV_succ]; have := minV_nn v k; omega
theorem maxV_lt {v : List Nat} {n : Nat} (hn : 0 < v.length) (h : ∀ k, k < v.length → gi v k < n) : ∀ k, k < v.length → maxV v k < n
  | 0, hk => by have := h 0 hn; simp only [maxV, List.range_zero, List.foldl_nil]; omega
  | k + 1, hk => by rw [maxV_succ]; have := maxV_lt hn h k (by omega); have := h (k + 1) hk; omega
end Go.Proofs.Ytacepcnbgacipaa
namespace Go.Proofs.Ytacepcnbgacipaa
open Go Go.Vc Go.RowKit
set_option maxHeartbeats 4000000
/-! KDQ -/
abbrev rgt (l : List Pt) : Bool := decide (0 < l.length ∧ l.length ≤ 8 ∧ chk l = 0)
theorem lright_c (l : List Pt) : CtrA Try.prog 25 [pts l] (vb (rgt l)) := by
  refine ctrA _ Try.func25 rfl rfl Try.ntmps25 rfl fun w Z => ?_
  simp only [initT, List.map_cons, List.map_nil, Nat.zero_add, Nat.reduceAdd]
  focus
    refine cq_seq ?_
    refine cq_region ?_
    apply sq_g; exact g_assign (s := .av (.val (.bool _))) rfl; exact rfl
    refine sq_nil ?_
    refine sq_then ?_
    refine cq_seq ?_
    refine cq_region ?_
    apply sq_g; exact g_move (s := .av _) rfl; exact rfl
    apply sq_g; exact g_len rfl; exact rfl
    apply sq_g; exact g_cmp rfl rfl rfl; exact rfl
    apply sq_g; exact g_move (s := .av (.val (.bool _))) rfl; exact rfl
    refine sq_split rfl rfl (fun hb => ?_) (fun hb => ?_) <;> (try simp only [decide_eq_true_eq, decide_eq_false_iff_not, beq_iff_eq, beq_eq_false_iff_ne, bne_iff_ne, bne_eq_false_iff_eq, ne_eq, Bool.not_eq_true', Bool.not_eq_false', Bool.and_eq_true, Bool.or_eq_true, Bool.and_eq_false_iff, Bool.or_eq_false_iff] at hb) <;> (try (exfalso; omega))
    apply sq_on; exact g_move (s := .av _) rfl; exact rfl; exact rfl; exact rfl
    apply sq_on; exact g_len rfl; exact rfl; exact rfl; exact rfl
    apply sq_on; exact g_cmp rfl rfl rfl; exact rfl; exact rfl; exact rfl
    apply sq_g; exact g_pick (s := .av (.val (.bool _))) rfl rfl; exact rfl
    apply sq_g; exact g_move (s := .av (.val (.bool _))) rfl; exact rfl
    refine sq_split rfl rfl (fun hb => ?_) (fun hb => ?_) <;> (try simp only [decide_eq_true_eq, decide_eq_false_iff_not, beq_iff_eq, beq_eq_false_iff_ne, bne_iff_ne, bne_eq_false_iff_eq, ne_eq, Bool.not_eq_true', Bool.not_eq_false', Bool.and_eq_true, Bool.or_eq_true, Bool.and_eq_false_iff, Bool.or_eq_false_iff] at hb) <;> (try (exfalso; omega))
    apply sq_on; exact g_move (s := .av _) rfl; exact rfl; exact rfl; exact rfl
    apply sq_on; exact g_call (rcheck_c l) rfl; exact rfl; exact rfl; exact rfl
    apply sq_on; exact g_cmp rfl rfl rfl; exact rfl; exact rfl; exact rfl
    apply sq_g; exact g_pick (s := .av (.val (.bool _))) rfl rfl; exact rfl
    apply sq_g; exact g_assign (s := .av (.val (.bool _))) rfl; exact rfl
    refine sq_nil ?_
    refine sq_then ?_
    refine cq_ret ?_
    rotate_left
    refine sq_off rfl rfl rfl rfl ?_
    refine sq_off rfl rfl rfl rfl ?_
    refine sq_off rfl rfl rfl rfl ?_
    apply sq_g; exact g_pick (s := .av (.val (.bool _))) rfl rfl; exact rfl
    apply sq_g; exact g_assign (s := .av (.val (.bool _))) rfl; exact rfl
    refine sq_nil ?_
    refine sq_then ?_
    refine cq_ret ?_
    rotate_left
    refine sq_off rfl rfl rfl rfl ?_
    refine sq_off rfl rfl rfl rfl ?_
    refine sq_off rfl rfl rfl rfl ?_
    apply sq_g; exact g_pick (s := .av (.val (.bool _))) rfl rfl; exact rfl
    apply sq_g; exact g_move (s := .av (.val (.bool _))) rfl; exact rfl
    refine sq_off rfl rfl rfl rfl ?_
    refine sq_off rfl rfl rfl rfl ?_
    refine sq_off rfl rfl rfl rfl ?_
    apply sq_g; exact g_pick (s := .av (.val (.bool _))) rfl rfl; exact rfl
    apply sq_g; exact g_assign (s := .av (.val (.bool _))) rfl; exact rfl
    refine sq_nil ?_
    refine sq_then ?_
    refine cq_ret ?_
    rotate_left
  all_goals (refine sq_res1 rfl (.tmp rfl) (congrArg vb ?_); rw [Bool.eq_iff_iff]; simp; try omega)
theorem min_c (v : List Nat) (h0 : 0 < v.length) (hn : v.length ≤ 1000) : CtrA Try.prog 34 [idx v] (vi (minV v (v.length - 1))) := by
  refine ctrA _ Try.func34 rfl rfl Try.ntmps34 rfl fun w Z => ?_
  simp only [initT, List.map_cons, List.map_nil, Nat.zero_add, Nat.reduceAdd]
  refine cq_seq ?_
  refine cq_region ?_
  apply sq_g; exact g_assign (s := .av (.val (.int _ _))) rfl; exact rfl
  refine sq_nil ?_
  refine sq_then ?_
  refine cq_seq ?_
  refine cq_seq ?_
  refine cq_region ?_
  apply sq_g; exact g_move (s := .av _) rfl; exact rfl
  apply sq_g; exact g_len rfl; exact rfl
  apply sq_g; exact g_cmp rfl rfl rfl; exact rfl
  refine sq_nil ?_
  refine sq_then ?_
  (refine cq_cond rfl (fun hb => ?_) (fun hb => ?_) <;> (try simp only [decide_eq_true_eq, decide_eq_false_iff_not, beq_iff_eq, beq_eq_false_iff_ne, bne_iff_ne, bne_eq_false_iff_eq, ne_eq, Bool.not_eq_true', Bool.not_eq_false', Bool.and_eq_true, Bool.or_eq_true, Bool.and_eq_false_iff, Bool.or_eq_false_iff] at hb) <;> (try (exfalso; omega)))
  refine cq_skip ?_
  refine sq_then ?_
  refine cq_seq ?_
  refine cq_region ?_
  apply sq_g; exact g_move (s := .av _) rfl; exact rfl
  apply sq_g; exact g_index rfl rfl rfl (by omega); exact rfl
  apply sq_g; exact g_load (τ := .val (.int _ _)) rfl rfl rfl; exact rfl
  apply sq_g; exact g_assign (s := .av (.val (.int _ _))) rfl; exact rfl
  refine sq_nil ?_
  refine sq_then ?_
  refine cq_seq ?_
  refine cq_seq ?_
  refine cq_region ?_
  apply sq_g; exact g_assign (s := .av (.val (.int _ _))) rfl; exact rfl
  refine sq_nil ?_
  refine sq_then ?_
  refine cq_block ?_
  refine cq_loop (γ := Nat) (fun k => [(0, .av (idx v)), (3, .av (vi (minV v k))), (4, .av (vi ((k + 1 : Nat) : Int)))]) (fun _ => []) (fun k => k ≤ v.length - 1) (fun k => v.length - k) 0 (Nat.zero_le _) (ent ⟨.refl _, .refl _, .refl _, trivial⟩ trivial) ?_
  intro k hk
  have hs := minV_succ v k
  refine cq_seq ?_
  refine cq_seq ?_
  refine cq_region ?_
  apply sq_g; exact g_move (s := .av (.val (.int _ _))) rfl; exact rfl
  apply sq_g; exact g_move (s := .av _) rfl; exact rfl
  apply sq_g; exact g_len rfl; exact rfl
  apply sq_g; exact g_cmp rfl rfl rfl; exact rfl
  refine sq_nil ?_
  refine sq_then ?_
  (refine cq_cond rfl (fun hb => ?_) (fun hb => ?_) <;> (try simp only [decide_eq_true_eq, decide_eq_false_iff_not, beq_iff_eq, beq_eq_false_iff_ne, bne_iff_ne, bne_eq_false_iff_eq, ne_eq, Bool.not_eq_true', Bool.not_eq_false', Bool.and_eq_true, Bool.or_eq_true, Bool.and_eq_false_iff, Bool.or_eq_false_iff] at hb) <;> (try (exfalso; omega)))
  · refine cq_skip ?_
    refine sq_then ?_
    refine cq_seq ?_
    refine cq_block ?_
    refine cq_region ?_
    apply sq_g; exact g_move (s := .av (.val (.int _ _))) rfl; exact rfl
    apply sq_g; exact g_move (s := .av _) rfl; exact rfl
    apply sq_g; exact g_move (s := .av (.val (.int _ _))) rfl; exact rfl
    apply sq_g; exact g_index rfl rfl rfl (by omega); exact rfl
    apply sq_g; exact g_load (τ := .val (.int _ _)) rfl rfl rfl; exact rfl
    apply sq_g; exact g_min rfl rfl; exact rfl
    apply sq_g; exact g_assign (s := .av (.val (.int _ _))) rfl; exact rfl
    refine sq_nil ?_
    refine sq_then ?_
    refine cq_region ?_
    apply sq_g; exact g_move (s := .av (.val (.int _ _))) rfl; exact rfl
    apply sq_g; exact g_arith rfl rfl rfl (by omega); exact rfl
    apply sq_g; exact g_assign (s := .av (.val (.int _ _))) rfl; exact rfl
    refine sq_nil ?_
    exact sq_round (k + 1) (by omega) (by omega) (ent ⟨.refl _, .int (by omega), .int (by omega), trivial⟩ trivial)
  · have : k = v.length - 1 := by omega
    subst this
    refine cq_exit ?_
    refine sq_then ?_
    refine cq_seq ?_
    refine cq_region ?_
    apply sq_g; exact g_move (s := .av (.val (.int _ _))) rfl; exact rfl
    apply sq_g; exact g_assign (s := .av (.val (.int _ _))) rfl; exact rfl
    refine sq_nil ?_
    refine sq_then ?_
    refine cq_ret ?_
    exact sq_res1 rfl (.tmp rfl) rfl
theorem max_c (v : List Nat) (h0 : 0 < v.length) (hn : v.length ≤ 1000) : CtrA Try.prog 35 [idx v] (vi (maxV v (v.length - 1))) := by
  refine ctrA _ Try.func35 rfl rfl Try.ntmps35 rfl fun w Z => ?_
  simp only [initT, List.map_cons, List.map_nil, Nat.zero_add, Nat.reduceAdd]
  refine cq_seq ?_
  refine cq_region ?_
  apply sq_g; exact g_assign (s := .av (.val (.int _ _))) rfl; exact rfl
  refine sq_nil ?_
  refine sq_then ?_
  refine cq_seq ?_
  refine cq_seq ?_
  refine cq_region ?_
  apply sq_g; exact g_move (s := .av _) rfl; exact rfl
  apply sq_g; exact g_len rfl; exact rfl
  apply sq_g; exact g_cmp rfl rfl rfl; exact rfl
  refine sq_nil ?_
  refine sq_then ?_
  (refine cq_cond rfl (fun hb => ?_) (fun hb => ?_) <;> (try simp only [decide_eq_true_eq, decide_eq_false_iff_not, beq_iff_eq, beq_eq_false_iff_ne, bne_iff_ne, bne_eq_false_iff_eq, ne_eq, Bool.not_eq_true', Bool.not_eq_false', Bool.and_eq_true, Bool.or_eq_true, Bool.and_eq_false_iff, Bool.or_eq_false_iff] at hb) <;> (try (exfalso; omega)))
  refine cq_skip ?_
  refine sq_then ?_
  refine cq_seq ?_
  refine cq_region ?_
  apply sq_g; exact g_move (s := .av _) rfl; exact rfl
  apply sq_g; exact g_index rfl rfl rfl (by omega); exact rfl
  apply sq_g; exact g_load (τ := .val (.int _ _)) rfl rfl rfl; exact rfl
  apply sq_g; exact g_assign (s := .av (.val (.int _ _))) rfl; exact rfl
  refine sq_nil ?_
  refine sq_then ?_
  refine cq_seq ?_
  refine cq_seq ?_
  refine cq_region ?_
  apply sq_g; exact g_assign (s := .av (.val (.int _ _))) rfl; exact rfl
  refine sq_nil ?_
  refine sq_then ?_
  refine cq_block ?_
  refine cq_loop (γ := Nat) (fun k => [(0, .av (idx v)), (3, .av (vi (maxV v k))), (4, .av (vi ((k + 1 : Nat) : Int)))]) (fun _ => []) (fun k => k ≤ v.length - 1) (fun k => v.length - k) 0 (Nat.zero_le _) (ent ⟨.refl _, .refl _, .refl _, trivial⟩ trivial) ?_
  intro k hk
  have hs := maxV_succ v k
  refine cq_seq ?_
  refine cq_seq ?_
  refine cq_region ?_
  apply sq_g; exact g_move (s := .av (.val (.int _ _))) rfl; exact rfl
  apply sq_g; exact g_move (s := .av _) rfl; exact rfl
  apply sq_g; exact g_len rfl; exact rfl
  apply sq_g; exact g_cmp rfl rfl rfl; exact rfl
  refine sq_nil ?_
  refine sq_then ?_
  (refine cq_cond rfl (fun hb => ?_) (fun hb => ?_) <;> (try simp only [decide_eq_true_eq, decide_eq_false_iff_not, beq_iff_eq, beq_eq_false_iff_ne, bne_iff_ne, bne_eq_false_iff_eq, ne_eq, Bool.not_eq_true', Bool.not_eq_false', Bool.and_eq_true, Bool.or_eq_true, Bool.and_eq_false_iff, Bool.or_eq_false_iff] at hb) <;> (try (exfalso; omega)))
  · refine cq_skip ?_
    refine sq_then ?_
    refine cq_seq ?_
    refine cq_block ?_
    refine cq_region ?_
    apply sq_g; exact g_move (s := .av (.val (.int _ _))) rfl; exact rfl
    apply sq_g; exact g_move (s := .av _) rfl; exact rfl
    apply sq_g; exact g_move (s := .av (.val (.int _ _))) rfl; exact rfl
    apply sq_g; exact g_index rfl rfl rfl (by omega); exact rfl
    apply sq_g; exact g_load (τ := .val (.int _ _)) rfl rfl rfl; exact rfl
    apply sq_g; exact g_max rfl rfl; exact rfl
    apply sq_g; exact g_assign (s := .av (.val (.int _ _))) rfl; exact rfl
    refine sq_nil ?_
    refine sq_then ?_
    refine cq_region ?_
    apply sq_g; exact g_move (s := .av (.val (.int _ _))) rfl; exact rfl
    apply sq_g; exact g_arith rfl rfl rfl (by omega); exact rfl
    apply sq_g; exact g_assign (s := .av (.val (.int _ _))) rfl; exact rfl
    refine sq_nil ?_
    exact sq_round (k + 1) (by omega) (by omega) (ent ⟨.refl _, .int (by omega), .int (by omega), trivial⟩ trivial)
  · have : k = v.length - 1 := by omega
    subst this
    refine cq_exit ?_
    refine sq_then ?_
    refine cq_seq ?_
    refine cq_region ?_
    apply sq_g; exact g_move (s := .av (.val (.int _ _))) rfl; exact rfl
    apply sq_g; exact g_assign (s := .av (.val (.int _ _))) rfl; exact rfl
    refine sq_nil ?_
    refine sq_then ?_
    refine cq_ret ?_
    exact sq_res1 rfl (.tmp rfl) rfl
theorem modc (i c n : Nat) : (((i : Int) + (c : Int)) % (n : Int)).toNat = (i + c) % n := by
  rw [← Int.natCast_add, ← Int.natCast_emod, Int.toNat_natCast]
theorem turns_c (l : List Pt) : CtrA Try.prog 7 [pts l] (vb true) := by
  refine ctrA _ Try.func7 rfl rfl Try.ntmps7 rfl fun w Z => ?_
  simp only [initT, List.map_cons, List.map_nil, Nat.zero_add, Nat.reduceAdd]
  refine cq_seq ?_
  refine cq_region ?_
  apply sq_g; exact g_assign (s := .av (.val (.bool _))) rfl; exact rfl
  refine sq_nil ?_
  refine sq_then ?_
  refine cq_seq ?_
  refine cq_seq ?_
  refine cq_region ?_
  apply sq_g; exact g_move (s := .av _) rfl; exact rfl
  apply sq_g; exact g_call (lright_c l) rfl; exact rfl
  apply sq_g; exact g_not rfl; exact rfl
  refine sq_nil ?_
  refine sq_then ?_
  (refine cq_cond rfl (fun hb => ?_) (fun hb => ?_) <;> (try simp only [decide_eq_true_eq, decide_eq_false_iff_not, beq_iff_eq, beq_eq_false_iff_ne, bne_iff_ne, bne_eq_false_iff_eq, ne_eq, Bool.not_eq_true', Bool.not_eq_false', Bool.and_eq_true, Bool.or_eq_true, Bool.and_eq_false_iff, Bool.or_eq_false_iff] at hb) <;> (try (exfalso; omega)))
  · refine cq_seq ?_
    refine cq_region ?_
    apply sq_g; exact g_call (awake_c) rfl; exact rfl
    apply sq_g; exact g_assign (s := .av (.val (.bool _))) rfl; exact rfl
    refine sq_nil ?_
    refine sq_then ?_
    refine cq_ret ?_
    refine sq_then_ret ?_
    exact sq_res1 rfl (.tmp rfl) rfl
  · have hr : 0 < l.length ∧ l.length ≤ 8 ∧ chk l = 0 := by simpa using hb
    obtain ⟨h0, h8, hc⟩ := hr
    have sm := chk_sm hc
    have hs : Sml l := sml_of (fun _ => by omega)
    have he : errH l = 0 := by simp [errH, hc, show l.length ≠ 0 by omega]
    have hv : hullN l = arr l := by simp [hullN, he]
    have ht := turn_ok hc h0
    have hcl := hull_c l hs
    rw [he, hv] at hcl
    generalize arr l = v at ht hcl
    have p0 := ht.pos
    have p1 := ht.len
    have m1 := minV_nn v (v.length - 1)
    have m2 := maxV_lt p0 ht.lt (v.length - 1) (by omega)
    clear hb
    refine cq_skip ?_
    refine sq_then ?_
    refine cq_seq ?_
    refine cq_region ?_
    apply sq_g; exact g_move (s := .av _) rfl; exact rfl
    apply sq_g; exact g_call (hcl) rfl; exact rfl
    apply sq_g; exact g_move (s := .av _) rfl; exact rfl
    apply sq_g; exact g_extractT rfl rfl; exact rfl
    apply sq_g; exact g_extractT rfl rfl; exact rfl
    apply sq_g; exact g_assign (s := .av _) rfl; exact rfl
    apply sq_g; exact g_assign (s := .av (.val (.int _ _))) rfl; exact rfl
    refine sq_nil ?_
    refine sq_then ?_
    refine cq_seq ?_
    refine cq_seq ?_
    refine cq_region ?_
    apply sq_g; exact g_move (s := .av (.val (.int _ _))) rfl; exact rfl
    apply sq_g; exact g_cmp rfl rfl rfl; exact rfl
    apply sq_g; exact g_move (s := .av (.val (.bool _))) rfl; exact rfl
    apply sq_on; exact g_move (s := .av _) rfl; exact rfl; exact rfl; exact rfl
    apply sq_on; exact g_len rfl; exact rfl; exact rfl; exact rfl
    apply sq_on; exact g_cmp rfl rfl rfl; exact rfl; exact rfl; exact rfl
    apply sq_g; exact g_pick (s := .av (.val (.bool _))) rfl rfl; exact rfl
    apply sq_g; exact g_move (s := .av (.val (.bool _))) rfl; exact rfl
    refine sq_split rfl rfl (fun hb => ?_) (fun hb => ?_) <;> (try simp only [decide_eq_true_eq, decide_eq_false_iff_not, beq_iff_eq, beq_eq_false_iff_ne, bne_iff_ne, bne_eq_false_iff_eq, ne_eq, Bool.not_eq_true', Bool.not_eq_false', Bool.and_eq_true, Bool.or_eq_true, Bool.and_eq_false_iff, Bool.or_eq_false_iff] at hb) <;> (try (exfalso; omega))
    apply sq_on; exact g_move (s := .av _) rfl; exact rfl; exact rfl; exact rfl
    apply sq_on; exact g_len rfl; exact rfl; exact rfl; exact rfl
    apply sq_on; exact g_move (s := .av _) rfl; exact rfl; exact rfl; exact rfl
    apply sq_on; exact g_len rfl; exact rfl; exact rfl; exact rfl
    apply sq_on; exact g_cmp rfl rfl rfl; exact rfl; exact rfl; exact rfl
    apply sq_g; exact g_pick (s := .av (.val (.bool _))) rfl rfl; exact rfl
    apply sq_g; exact g_move (s := .av (.val (.bool _))) rfl; exact rfl
    refine sq_split rfl rfl (fun hb => ?_) (fun hb => ?_) <;> (try simp only [decide_eq_true_eq, decide_eq_false_iff_not, beq_iff_eq, beq_eq_false_iff_ne, bne_iff_ne, bne_eq_false_iff_eq, ne_eq, Bool.not_eq_true', Bool.not_eq_false', Bool.and_eq_true, Bool.or_eq_true, Bool.and_eq_false_iff, Bool.or_eq_false_iff] at hb) <;> (try (exfalso; omega))
    apply sq_on; exact g_move (s := .av _) rfl; exact rfl; exact rfl; exact rfl
    apply sq_on; exact g_call (min_c v p0 (by omega)) rfl; exact rfl; exact rfl; exact rfl
    apply sq_on; exact g_cmp rfl rfl rfl; exact rfl; exact rfl; exact rfl
    apply sq_g; exact g_pick (s := .av (.val (.bool _))) rfl rfl; exact rfl
    apply sq_g; exact g_move (s := .av (.val (.bool _))) rfl; exact rfl
    refine sq_split rfl rfl (fun hb => ?_) (fun hb => ?_) <;> (try simp only [decide_eq_true_eq, decide_eq_false_iff_not, beq_iff_eq, beq_eq_false_iff_ne, bne_iff_ne, bne_eq_false_iff_eq, ne_eq, Bool.not_eq_true', Bool.not_eq_false', Bool.and_eq_true, Bool.or_eq_true, Bool.and_eq_false_iff, Bool.or_eq_false_iff] at hb) <;> (try (exfalso; omega))
    apply sq_on; exact g_move (s := .av _) rfl; exact rfl; exact rfl; exact rfl
    apply sq_on; exact g_call (max_c v p0 (by omega)) rfl; exact rfl; exact rfl; exact rfl
    apply sq_on; exact g_move (s := .av _) rfl; exact rfl; exact rfl; exact rfl
    apply sq_on; exact g_len rfl; exact rfl; exact rfl; exact rfl
    apply sq_on; exact g_cmp rfl rfl rfl; exact rfl; exact rfl; exact rfl
    apply sq_g; exact g_pick (s := .av (.val (.bool _))) rfl rfl; exact rfl
    refine sq_nil ?_
    refine sq_then ?_
    (refine cq_cond rfl (fun hb => ?_) (fun hb => ?_) <;> (try simp only [decide_eq_true_eq, decide_eq_false_iff_not, beq_iff_eq, beq_eq_false_iff_ne, bne_iff_ne, bne_eq_false_iff_eq, ne_eq, Bool.not_eq_true', Bool.not_eq_false', Bool.and_eq_true, Bool.or_eq_true, Bool.and_eq_false_iff, Bool.or_eq_false_iff] at hb) <;> (try (exfalso; omega)))
    refine cq_skip ?_
    refine sq_then ?_
    refine cq_seq ?_
    refine cq_seq ?_
    refine cq_region ?_
    apply sq_g; exact g_move (s := .av _) rfl; exact rfl
    apply sq_g; exact g_len rfl; exact rfl
    apply sq_g; exact g_move (s := .av (.val (.int _ _))) rfl; exact rfl
    refine sq_nil ?_
    refine sq_then ?_
    refine cq_block ?_
    refine cq_loop (γ := Nat) (fun i => [(0, .av (pts l)), (3, .av (idx v)), (46, .av (idx v)), (47, .av (vi v.length)), (48, .av (vi i))]) (fun _ => []) (fun i => i ≤ v.length) (fun i => v.length - i) 0 (Nat.zero_le _) (ent ⟨.refl _, .refl _, .refl _, .refl _, .refl _, trivial⟩ trivial) ?_
    intro i hi
    refine cq_seq ?_
    refine cq_region ?_
    apply sq_g; exact g_cmp rfl rfl rfl; exact rfl
    refine sq_nil ?_
    refine sq_then ?_
    refine cq_seq ?_
    (refine cq_cond rfl (fun hb => ?_) (fun hb => ?_) <;> (try simp only [decide_eq_true_eq, decide_eq_false_iff_not, beq_iff_eq, beq_eq_false_iff_ne, bne_iff_ne, bne_eq_false_iff_eq, ne_eq, Bool.not_eq_true', Bool.not_eq_false', Bool.and_eq_true, Bool.or_eq_true, Bool.and_eq_false_iff, Bool.or_eq_false_iff] at hb) <;> (try (exfalso; omega)))
    · have hil : i < v.length := by omega
      have q1 : 0 ≤ ((i : Int) + 1) % (v.length : Int) ∧ ((i : Int) + 1) % (v.length : Int) < (v.length : Int) := ⟨Int.emod_nonneg _ (by omega), Int.emod_lt_of_pos _ (by omega)⟩
      have q2 : 0 ≤ ((i : Int) + 2) % (v.length : Int) ∧ ((i : Int) + 2) % (v.length : Int) < (v.length : Int) := ⟨Int.emod_nonneg _ (by omega), Int.emod_lt_of_pos _ (by omega)⟩
      have e1 := modc i 1 v.length
      have e2 := modc i 2 v.length
      have n1 : (i + 1) % v.length < v.length := Nat.mod_lt _ p0
      have n2 : (i + 2) % v.length < v.length := Nat.mod_lt _ p0
      have l0 := ht.lt i hil
      have l1 := ht.lt _ n1
      have l2 := ht.lt _ n2
      have l3 := ht.lt 0 p0
      refine cq_skip ?_
      refine sq_then ?_
      refine cq_seq ?_
      refine cq_block ?_
      refine cq_seq ?_
      refine cq_region ?_
      apply sq_g; exact g_move (s := .av (.val (.int _ _))) rfl; exact rfl
      apply sq_g; exact g_index rfl rfl rfl (by omega); exact rfl
      apply sq_g; exact g_load (τ := .val (.int _ _)) rfl rfl rfl; exact rfl
      apply sq_g; exact g_assign (s := .av (.val (.int _ _))) rfl; exact rfl
      apply sq_g; exact g_assign (s := .av (.val (.int _ _))) rfl; exact rfl
      refine sq_nil ?_
      refine sq_then ?_
      refine cq_seq ?_
      refine cq_drawn ?_
      apply dq_g; exact g_move (s := .av _) rfl; exact rfl
      apply dq_g; exact g_move (s := .av (.val (.int _ _))) rfl; exact rfl
      apply dq_g; exact g_arith rfl rfl rfl (by omega); exact rfl
      apply dq_g; exact g_move (s := .av _) rfl; exact rfl
      apply dq_g; exact g_len rfl; exact rfl
      apply dq_g; exact g_rem rfl rfl (by omega) (by omega); exact rfl
      apply dq_g; exact g_index rfl rfl (Int.toNat_of_nonneg (by omega)).symm (by omega); exact rfl
      apply dq_g; exact g_load (τ := .val (.int _ _)) rfl rfl rfl; exact rfl
      apply dq_g; exact g_move (s := .av _) rfl; exact rfl
      apply dq_g; exact g_move (s := .av (.val (.int _ _))) rfl; exact rfl
      apply dq_g; exact g_arith rfl rfl rfl (by omega); exact rfl
      apply dq_g; exact g_move (s := .av _) rfl; exact rfl
      apply dq_g; exact g_len rfl; exact rfl
      apply dq_g; exact g_rem rfl rfl (by omega) (by omega); exact rfl
      apply dq_g; exact g_index rfl rfl (Int.toNat_of_nonneg (by omega)).symm (by omega); exact rfl
      apply dq_g; exact g_load (τ := .val (.int _ _)) rfl rfl rfl; exact rfl
      apply dq_g; exact g_assign (s := .av (.val (.int _ _))) rfl; exact rfl
      apply dq_g; exact g_assign (s := .av (.val (.int _ _))) rfl; exact rfl
      refine dq_nil tm (by kernel_rfl) ?_
      refine sq_then ?_
      refine cq_seq ?_
      refine cq_seq ?_
      refine cq_region ?_
      apply sq_g; exact g_move (s := .av _) rfl; exact rfl
      apply sq_g; exact g_len rfl; exact rfl
      apply sq_g; exact g_move (s := .av (.val (.int _ _))) rfl; exact rfl
      refine sq_nil ?_
      refine sq_then ?_
      refine cq_block ?_
      refine cq_loop (γ := Nat) (fun k => [(0, .av (pts l)), (3, .av (idx v)), (6, .av (vi ((gi v i : Nat) : Int))), (7, .av (vi ((gi v ((i + 1) % v.length) : Nat) : Int))), (8, .av (vi ((gi v ((i + 2) % v.length) : Nat) : Int))), (46, .av (idx v)), (47, .av (vi v.length)), (48, .av (vi i)), (69, .av (pts l)), (70, .av (vi l.length)), (71, .av (vi k))]) (fun _ => []) (fun k => k ≤ l.length) (fun k => l.length - k) 0 (Nat.zero_le _) (ent ⟨.refl _, .refl _, .refl _, .int (by rw [← e1]; rfl), .int (by rw [← e2]; rfl), .refl _, .refl _, .refl _, .refl _, .refl _, .refl _, trivial⟩ trivial) ?_
      intro k hk
      refine cq_seq ?_
      refine cq_region ?_
      apply sq_g; exact g_cmp rfl rfl rfl; exact rfl
      refine sq_nil ?_
      refine sq_then ?_
      refine cq_seq ?_
      (refine cq_cond rfl (fun hb => ?_) (fun hb => ?_) <;> (try simp only [decide_eq_true_eq, decide_eq_false_iff_not, beq_iff_eq, beq_eq_false_iff_ne, bne_iff_ne, bne_eq_false_iff_eq, ne_eq, Bool.not_eq_true', Bool.not_eq_false', Bool.and_eq_true, Bool.or_eq_true, Bool.and_eq_false_iff, Bool.or_eq_false_iff] at hb) <;> (try (exfalso; omega)))
      · have hkl : k < l.length := by omega
        have f1 : 2 < v.length → 0 ≤ crs (gp l (gi v i)) (gp l (gi v ((i + 1) % v.length))) (gp l k) := fun h => ht.edge h i hil k hkl
        have f2 := ht.least k hkl
        have f3 : v.length = 2 → crs (gp l (gi v i)) (gp l (gi v ((i + 1) % v.length))) (gp l k) = 0 := fun h => ht.two h i hil k hkl
        have f4 : v.length = 2 → bef (gp l (gi v 1)) (gp l k) = false := fun h => ht.most h k hkl
        have f5 : v.length = 1 → gp l k = gp l (gi v 0) := fun h => ht.one h k hkl
        have c1 := left_c (gp l (gi v i)) (gp l (gi v ((i + 1) % v.length))) (gp l k) (sm _) (sm _) (sm _)
        have c2 := bef_c (gp l k) (gp l (gi v 0))
        rw [f2] at c2
        have c3 : v.length = 2 → CtrA Try.prog 36 [pp (gp l (gi v 1)), pp (gp l k)] (vb false) := fun h => by rw [← f4 h]; exact bef_c _ _
        have l4 : v.length = 2 → gi v (Int.toNat 1) < l.length := fun h => ht.lt 1 (by omega)
        focus
          refine cq_skip ?_
          refine sq_then ?_
          refine cq_seq ?_
          refine cq_block ?_
          refine cq_seq ?_
          refine cq_region ?_
          apply sq_g; exact g_index rfl rfl rfl (by omega); exact rfl
          apply sq_g; exact g_load_agg (us := [.int _ _, .int _ _]) rfl rfl rfl rfl; exact rfl
          refine sq_v (f_alloc 10 rfl) rfl ?_
          refine sq_s (g_store_agg rfl rfl rfl rfl rfl rfl) ?_
          refine sq_nil ?_
          refine sq_then ?_
          refine cq_seq ?_
          refine cq_seq ?_
          refine cq_drawn ?_
          apply dq_g; exact g_move (s := .av _) rfl; exact rfl
          apply dq_g; exact g_len rfl; exact rfl
          apply dq_g; exact g_cmp rfl rfl rfl; exact rfl
          apply dq_g; exact g_move (s := .av (.val (.bool _))) rfl; exact rfl
          refine dq_split rfl rfl (fun hb => ?_) (fun hb => ?_) <;> (try simp only [decide_eq_true_eq, decide_eq_false_iff_not, beq_iff_eq, beq_eq_false_iff_ne, bne_iff_ne, bne_eq_false_iff_eq, ne_eq, Bool.not_eq_true', Bool.not_eq_false', Bool.and_eq_true, Bool.or_eq_true, Bool.and_eq_false_iff, Bool.or_eq_false_iff] at hb) <;> (try (exfalso; omega))
          apply dq_on; exact g_move (s := .av _) rfl; exact rfl; exact rfl; exact rfl
          apply dq_on; exact g_move (s := .av (.val (.int _ _))) rfl; exact rfl; exact rfl; exact rfl
          apply dq_on; exact g_index rfl rfl rfl (by omega); exact rfl; exact rfl; exact rfl
          apply dq_on; exact g_load_agg (us := [.int _ _, .int _ _]) rfl rfl rfl rfl; exact rfl; exact rfl; exact rfl
          apply dq_on; exact g_move (s := .av _) rfl; exact rfl; exact rfl; exact rfl
          apply dq_on; exact g_move (s := .av (.val (.int _ _))) rfl; exact rfl; exact rfl; exact rfl
          apply dq_on; exact g_index rfl rfl rfl (by omega); exact rfl; exact rfl; exact rfl
          apply dq_on; exact g_load_agg (us := [.int _ _, .int _ _]) rfl rfl rfl rfl; exact rfl; exact rfl; exact rfl
          apply dq_on; exact g_load_own_agg (us := [.int _ _, .int _ _]) rfl rfl rfl rfl; exact rfl; exact rfl; exact rfl
          apply dq_on; exact g_call (c1) rfl; exact rfl; exact rfl; exact rfl
          apply dq_on; exact g_cmp rfl rfl rfl; exact rfl; exact rfl; exact rfl
          apply dq_g; exact g_pick (s := .av (.val (.bool _))) rfl rfl; exact rfl
          apply dq_g; exact g_move (s := .av (.val (.bool _))) rfl; exact rfl
          refine dq_split rfl rfl (fun hb => ?_) (fun hb => ?_) <;> (try simp only [decide_eq_true_eq, decide_eq_false_iff_not, beq_iff_eq, beq_eq_false_iff_ne, bne_iff_ne, bne_eq_false_iff_eq, ne_eq, Bool.not_eq_true', Bool.not_eq_false', Bool.and_eq_true, Bool.or_eq_true, Bool.and_eq_false_iff, Bool.or_eq_false_iff] at hb) <;> (try (exfalso; omega))
          apply dq_on; exact g_load_own_agg (us := [.int _ _, .int _ _]) rfl rfl rfl rfl; exact rfl; exact rfl; exact rfl
          apply dq_on; exact g_move (s := .av _) rfl; exact rfl; exact rfl; exact rfl
          apply dq_on; exact g_move (s := .av _) rfl; exact rfl; exact rfl; exact rfl
          apply dq_on; exact g_index rfl rfl rfl (by omega); exact rfl; exact rfl; exact rfl
          apply dq_on; exact g_load (τ := .val (.int _ _)) rfl rfl rfl; exact rfl; exact rfl; exact rfl
          apply dq_on; exact g_index rfl rfl rfl (by omega); exact rfl; exact rfl; exact rfl
          apply dq_on; exact g_load_agg (us := [.int _ _, .int _ _]) rfl rfl rfl rfl; exact rfl; exact rfl; exact rfl
          apply dq_on; exact g_call (c2) rfl; exact rfl; exact rfl; exact rfl
          apply dq_g; exact g_pick (s := .av (.val (.bool _))) rfl rfl; exact rfl
          refine dq_nil tm (by kernel_rfl) ?_
          refine sq_then ?_
          refine cq_cond_f rfl ?_
          refine cq_skip ?_
          refine sq_then ?_
          refine cq_seq ?_
          refine cq_drawn ?_
          apply dq_g; exact g_move (s := .av _) rfl; exact rfl
          apply dq_g; exact g_len rfl; exact rfl
          apply dq_g; exact g_cmp rfl rfl rfl; exact rfl
          apply dq_g; exact g_move (s := .av (.val (.bool _))) rfl; exact rfl
          refine dq_split rfl rfl (fun hb => ?_) (fun hb => ?_) <;> (try simp only [decide_eq_true_eq, decide_eq_false_iff_not, beq_iff_eq, beq_eq_false_iff_ne, bne_iff_ne, bne_eq_false_iff_eq, ne_eq, Bool.not_eq_true', Bool.not_eq_false', Bool.and_eq_true, Bool.or_eq_true, Bool.and_eq_false_iff, Bool.or_eq_false_iff] at hb) <;> (try (exfalso; omega))
          refine dq_off nofun rfl rfl rfl rfl ?_
          refine dq_off nofun rfl rfl rfl rfl ?_
          refine dq_off nofun rfl rfl rfl rfl ?_
          refine dq_off nofun rfl rfl rfl rfl ?_
          refine dq_off nofun rfl rfl rfl rfl ?_
          refine dq_off nofun rfl rfl rfl rfl ?_
          refine dq_off nofun rfl rfl rfl rfl ?_
          refine dq_off nofun rfl rfl rfl rfl ?_
          refine dq_off nofun rfl rfl rfl rfl ?_
          refine dq_off nofun rfl rfl rfl rfl ?_
          refine dq_off nofun rfl rfl rfl rfl ?_
          refine dq_off nofun rfl rfl rfl rfl ?_
          refine dq_offu nofun rfl rfl rfl ?_
          refine dq_offu nofun rfl rfl rfl ?_
          refine dq_offu nofun rfl rfl rfl ?_
          refine dq_offu nofun rfl rfl rfl ?_
          refine dq_offu nofun rfl rfl rfl ?_
          refine dq_offu nofun rfl rfl rfl ?_
          refine dq_offu nofun rfl rfl rfl ?_
          refine dq_offu nofun rfl rfl rfl ?_
          refine dq_off nofun rfl rfl rfl rfl ?_
          apply dq_g; exact g_pick (s := .av (.val (.bool _))) rfl rfl; exact rfl
          apply dq_g; exact g_move (s := .av (.val (.bool _))) rfl; exact rfl
          apply dq_on; exact g_move (s := .av _) rfl; exact rfl; exact rfl; exact rfl
          apply dq_on; exact g_len rfl; exact rfl; exact rfl; exact rfl
          apply dq_on; exact g_cmp rfl rfl rfl; exact rfl; exact rfl; exact rfl
          apply dq_on; exact g_move (s := .av (.val (.bool _))) rfl; exact rfl; exact rfl; exact rfl
          refine dq_split rfl rfl (fun hb => ?_) (fun hb => ?_) <;> (try simp only [decide_eq_true_eq, decide_eq_false_iff_not, beq_iff_eq, beq_eq_false_iff_ne, bne_iff_ne, bne_eq_false_iff_eq, ne_eq, Bool.not_eq_true', Bool.not_eq_false', Bool.and_eq_true, Bool.or_eq_true, Bool.and_eq_false_iff, Bool.or_eq_false_iff] at hb) <;> (try (exfalso; omega))
          refine dq_off nofun rfl rfl rfl rfl ?_
          refine dq_off nofun rfl rfl rfl rfl ?_
          refine dq_off nofun rfl rfl rfl rfl ?_
          refine dq_off nofun rfl rfl rfl rfl ?_
          refine dq_off nofun rfl rfl rfl rfl ?_
          refine dq_off nofun rfl rfl rfl rfl ?_
          apply dq_on; exact g_pick (s := .av (.val (.bool _))) rfl rfl; exact rfl; exact rfl; exact rfl
          apply dq_g; exact g_pick (s := .av (.val (.bool _))) rfl rfl; exact rfl
          refine dq_nil tm (by kernel_rfl) ?_
          refine sq_then ?_
          refine cq_cond_f rfl ?_
          refine cq_skip ?_
          refine sq_then ?_
          refine cq_region ?_
          apply sq_g; exact g_arith rfl rfl rfl (by omega); exact rfl
          apply sq_g; exact g_move (s := .av (.val (.int _ _))) rfl; exact rfl
          refine sq_nil ?_
          rotate_left
          refine dq_off nofun rfl rfl rfl rfl ?_
          refine dq_off nofun rfl rfl rfl rfl ?_
          refine dq_off nofun rfl rfl rfl rfl ?_
          refine dq_off nofun rfl rfl rfl rfl ?_
          refine dq_off nofun rfl rfl rfl rfl ?_
          refine dq_off nofun rfl rfl rfl rfl ?_
          refine dq_off nofun rfl rfl rfl rfl ?_
          refine dq_off nofun rfl rfl rfl rfl ?_
          refine dq_off nofun rfl rfl rfl rfl ?_
          refine dq_off nofun rfl rfl rfl rfl ?_
          refine dq_off nofun rfl rfl rfl rfl ?_
          apply dq_g; exact g_pick (s := .av (.val (.bool _))) rfl rfl; exact rfl
          apply dq_g; exact g_move (s := .av (.val (.bool _))) rfl; exact rfl
          apply dq_on; exact g_load_own_agg (us := [.int _ _, .int _ _]) rfl rfl rfl rfl; exact rfl; exact rfl; exact rfl
          apply dq_on; exact g_move (s := .av _) rfl; exact rfl; exact rfl; exact rfl
          apply dq_on; exact g_move (s := .av _) rfl; exact rfl; exact rfl; exact rfl
          apply dq_on; exact g_index rfl rfl rfl (by omega); exact rfl; exact rfl; exact rfl
          apply dq_on; exact g_load (τ := .val (.int _ _)) rfl rfl rfl; exact rfl; exact rfl; exact rfl
          apply dq_on; exact g_index rfl rfl rfl (by omega); exact rfl; exact rfl; exact rfl
          apply dq_on; exact g_load_agg (us := [.int _ _, .int _ _]) rfl rfl rfl rfl; exact rfl; exact rfl; exact rfl
          apply dq_on; exact g_call (c2) rfl; exact rfl; exact rfl; exact rfl
          apply dq_g; exact g_pick (s := .av (.val (.bool _))) rfl rfl; exact rfl
          refine dq_nil tm (by kernel_rfl) ?_
          refine sq_then ?_
          refine cq_cond_f rfl ?_
          refine cq_skip ?_
          refine sq_then ?_
          refine cq_seq ?_
          refine cq_drawn ?_
          apply dq_g; exact g_move (s := .av _) rfl; exact rfl
          apply dq_g; exact g_len rfl; exact rfl
          apply dq_g; exact g_cmp rfl rfl rfl; exact rfl
          apply dq_g; exact g_move (s := .av (.val (.bool _))) rfl; exact rfl
          refine dq_split rfl rfl (fun hb => ?_) (fun hb => ?_) <;> (try simp only [decide_eq_true_eq, decide_eq_false_iff_not, beq_iff_eq, beq_eq_false_iff_ne, bne_iff_ne, bne_eq_false_iff_eq, ne_eq, Bool.not_eq_true', Bool.not_eq_false', Bool.and_eq_true, Bool.or_eq_true, Bool.and_eq_false_iff, Bool.or_eq_false_iff] at hb) <;> (try (exfalso; omega))
          apply dq_on; exact g_move (s := .av _) rfl; exact rfl; exact rfl; exact rfl
          apply dq_on; exact g_move (s := .av (.val (.int _ _))) rfl; exact rfl; exact rfl; exact rfl
          apply dq_on; exact g_index rfl rfl rfl (by omega); exact rfl; exact rfl; exact rfl
          apply dq_on; exact g_load_agg (us := [.int _ _, .int _ _]) rfl rfl rfl rfl; exact rfl; exact rfl; exact rfl
          apply dq_on; exact g_move (s := .av _) rfl; exact rfl; exact rfl; exact rfl
          apply dq_on; exact g_move (s := .av (.val (.int _ _))) rfl; exact rfl; exact rfl; exact rfl
          apply dq_on; exact g_index rfl rfl rfl (by omega); exact rfl; exact rfl; exact rfl
          apply dq_on; exact g_load_agg (us := [.int _ _, .int _ _]) rfl rfl rfl rfl; exact rfl; exact rfl; exact rfl
          apply dq_on; exact g_load_own_agg (us := [.int _ _, .int _ _]) rfl rfl rfl rfl; exact rfl; exact rfl; exact rfl
          apply dq_on; exact g_call (c1) rfl; exact rfl; exact rfl; exact rfl
          apply dq_on; exact g_cmp rfl rfl rfl; exact rfl; exact rfl; exact rfl
          apply dq_on; exact g_move (s := .av (.val (.bool _))) rfl; exact rfl; exact rfl; exact rfl
          refine dq_split rfl rfl (fun hb => ?_) (fun hb => ?_) <;> (try simp only [decide_eq_true_eq, decide_eq_false_iff_not, beq_iff_eq, beq_eq_false_iff_ne, bne_iff_ne, bne_eq_false_iff_eq, ne_eq, Bool.not_eq_true', Bool.not_eq_false', Bool.and_eq_true, Bool.or_eq_true, Bool.and_eq_false_iff, Bool.or_eq_false_iff] at hb) <;> (try (exfalso; omega))
          apply dq_on; exact g_move (s := .av _) rfl; exact rfl; exact rfl; exact rfl
          apply dq_on; exact g_move (s := .av _) rfl; exact rfl; exact rfl; exact rfl
          apply dq_on; exact g_index rfl rfl (Int.toNat_of_nonneg (by omega)).symm (by omega); exact rfl; exact rfl; exact rfl
          apply dq_on; exact g_load (τ := .val (.int _ _)) rfl rfl rfl; exact rfl; exact rfl; exact rfl
          apply dq_on; exact g_index rfl rfl rfl (by omega); exact rfl; exact rfl; exact rfl
          apply dq_on; exact g_load_agg (us := [.int _ _, .int _ _]) rfl rfl rfl rfl; exact rfl; exact rfl; exact rfl
          apply dq_on; exact g_load_own_agg (us := [.int _ _, .int _ _]) rfl rfl rfl rfl; exact rfl; exact rfl; exact rfl
          apply dq_on; exact g_call (c3 (by omega)) rfl; exact rfl; exact rfl; exact rfl
          apply dq_on; exact g_pick (s := .av (.val (.bool _))) rfl rfl; exact rfl; exact rfl; exact rfl
          apply dq_g; exact g_pick (s := .av (.val (.bool _))) rfl rfl; exact rfl
          apply dq_g; exact g_move (s := .av (.val (.bool _))) rfl; exact rfl
          apply dq_on; exact g_move (s := .av _) rfl; exact rfl; exact rfl; exact rfl
          apply dq_on; exact g_len rfl; exact rfl; exact rfl; exact rfl
          apply dq_on; exact g_cmp rfl rfl rfl; exact rfl; exact rfl; exact rfl
          apply dq_on; exact g_move (s := .av (.val (.bool _))) rfl; exact rfl; exact rfl; exact rfl
          refine dq_split rfl rfl (fun hb => ?_) (fun hb => ?_) <;> (try simp only [decide_eq_true_eq, decide_eq_false_iff_not, beq_iff_eq, beq_eq_false_iff_ne, bne_iff_ne, bne_eq_false_iff_eq, ne_eq, Bool.not_eq_true', Bool.not_eq_false', Bool.and_eq_true, Bool.or_eq_true, Bool.and_eq_false_iff, Bool.or_eq_false_iff] at hb) <;> (try (exfalso; omega))
          refine dq_off nofun rfl rfl rfl rfl ?_
          refine dq_off nofun rfl rfl rfl rfl ?_
          refine dq_off nofun rfl rfl rfl rfl ?_
          refine dq_off nofun rfl rfl rfl rfl ?_
          refine dq_off nofun rfl rfl rfl rfl ?_
          refine dq_off nofun rfl rfl rfl rfl ?_
          apply dq_on; exact g_pick (s := .av (.val (.bool _))) rfl rfl; exact rfl; exact rfl; exact rfl
          apply dq_g; exact g_pick (s := .av (.val (.bool _))) rfl rfl; exact rfl
          refine dq_nil tm (by kernel_rfl) ?_
          refine sq_then ?_
          refine cq_cond_f rfl ?_
          refine cq_skip ?_
          refine sq_then ?_
          refine cq_region ?_
          apply sq_g; exact g_arith rfl rfl rfl (by omega); exact rfl
          apply sq_g; exact g_move (s := .av (.val (.int _ _))) rfl; exact rfl
          refine sq_nil ?_
          rotate_left
          refine dq_off nofun rfl rfl rfl rfl ?_
          refine dq_off nofun rfl rfl rfl rfl ?_
          refine dq_off nofun rfl rfl rfl rfl ?_
          refine dq_off nofun rfl rfl rfl rfl ?_
          refine dq_off nofun rfl rfl rfl rfl ?_
          refine dq_off nofun rfl rfl rfl rfl ?_
          refine dq_off nofun rfl rfl rfl rfl ?_
          refine dq_off nofun rfl rfl rfl rfl ?_
          refine dq_off nofun rfl rfl rfl rfl ?_
          refine dq_off nofun rfl rfl rfl rfl ?_
          refine dq_off nofun rfl rfl rfl rfl ?_
          refine dq_off nofun rfl rfl rfl rfl ?_
          refine dq_offu nofun rfl rfl rfl ?_
          refine dq_offu nofun rfl rfl rfl ?_
          refine dq_offu nofun rfl rfl rfl ?_
          refine dq_offu nofun rfl rfl rfl ?_
          refine dq_offu nofun rfl rfl rfl ?_
          refine dq_offu nofun rfl rfl rfl ?_
          refine dq_offu nofun rfl rfl rfl ?_
          refine dq_offu nofun rfl rfl rfl ?_
          refine dq_off nofun rfl rfl rfl rfl ?_
          apply dq_g; exact g_pick (s := .av (.val (.bool _))) rfl rfl; exact rfl
          apply dq_g; exact g_move (s := .av (.val (.bool _))) rfl; exact rfl
          apply dq_on; exact g_move (s := .av _) rfl; exact rfl; exact rfl; exact rfl
          apply dq_on; exact g_len rfl; exact rfl; exact rfl; exact rfl
          apply dq_on; exact g_cmp rfl rfl rfl; exact rfl; exact rfl; exact rfl
          apply dq_on; exact g_move (s := .av (.val (.bool _))) rfl; exact rfl; exact rfl; exact rfl
          refine dq_split rfl rfl (fun hb => ?_) (fun hb => ?_) <;> (try simp only [decide_eq_true_eq, decide_eq_false_iff_not, beq_iff_eq, beq_eq_false_iff_ne, bne_iff_ne, bne_eq_false_iff_eq, ne_eq, Bool.not_eq_true', Bool.not_eq_false', Bool.and_eq_true, Bool.or_eq_true, Bool.and_eq_false_iff, Bool.or_eq_false_iff] at hb) <;> (try (exfalso; omega))
          apply dq_on; exact g_load_own_agg (us := [.int _ _, .int _ _]) rfl rfl rfl rfl; exact rfl; exact rfl; exact rfl
          apply dq_on; exact g_move (s := .av _) rfl; exact rfl; exact rfl; exact rfl
          apply dq_on; exact g_move (s := .av (.val (.int _ _))) rfl; exact rfl; exact rfl; exact rfl
          apply dq_on; exact g_index rfl rfl rfl (by omega); exact rfl; exact rfl; exact rfl
          apply dq_on; exact g_load_agg (us := [.int _ _, .int _ _]) rfl rfl rfl rfl; exact rfl; exact rfl; exact rfl
          apply dq_on; exact g_neq (xs := [_, _]) (ys := [_, _]) rfl rfl rfl rfl; exact rfl; exact rfl; exact rfl
          apply dq_on; exact g_pick (s := .av (.val (.bool _))) rfl rfl; exact rfl; exact rfl; exact rfl
          apply dq_g; exact g_pick (s := .av (.val (.bool _))) rfl rfl; exact rfl
          refine dq_nil tm (by kernel_rfl) ?_
          refine sq_then ?_
          rotate_left
        all_goals first | exact absurd hb (by decide) | exact sq_round (k + 1) (by omega) (by omega) (ent ⟨.refl _, .refl _, .refl _, .refl _, .refl _, .refl _, .refl _, .refl _, .refl _, .refl _, .int (by omega), trivial⟩ trivial) | skip
        have i0 : i = 0 := by omega
        subst i0
        refine cq_cond rfl (fun hb => ?_) (fun hb => ?_)
        · exfalso
          rw [f5 (by omega)] at hb
          simp at hb
        · refine cq_skip ?_
          refine sq_then ?_
          refine cq_region ?_
          apply sq_g; exact g_arith rfl rfl rfl (by omega); exact rfl
          apply sq_g; exact g_move (s := .av (.val (.int _ _))) rfl; exact rfl
          refine sq_nil ?_
          exact sq_round (k + 1) (by omega) (by omega) (ent ⟨.refl _, .refl _, .refl _, .refl _, .refl _, .refl _, .refl _, .refl _, .refl _, .refl _, .int (by omega), trivial⟩ trivial)
      · have f6 : 2 < v.length → 0 < crs (gp l (gi v i)) (gp l (gi v ((i + 1) % v.length))) (gp l (gi v ((i + 2) % v.length))) := fun h => ht.strict h i hil
        have c4 := left_c (gp l (gi v i)) (gp l (gi v ((i + 1) % v.length))) (gp l (gi v ((i + 2) % v.length))) (sm _) (sm _) (sm _)
        focus
          refine cq_exit ?_
          refine sq_then ?_
          refine cq_seq ?_
          refine cq_drawn ?_
          apply dq_g; exact g_move (s := .av _) rfl; exact rfl
          apply dq_g; exact g_len rfl; exact rfl
          apply dq_g; exact g_cmp rfl rfl rfl; exact rfl
          apply dq_g; exact g_move (s := .av (.val (.bool _))) rfl; exact rfl
          refine dq_split rfl rfl (fun hb => ?_) (fun hb => ?_) <;> (try simp only [decide_eq_true_eq, decide_eq_false_iff_not, beq_iff_eq, beq_eq_false_iff_ne, bne_iff_ne, bne_eq_false_iff_eq, ne_eq, Bool.not_eq_true', Bool.not_eq_false', Bool.and_eq_true, Bool.or_eq_true, Bool.and_eq_false_iff, Bool.or_eq_false_iff] at hb) <;> (try (exfalso; omega))
          apply dq_on; exact g_move (s := .av _) rfl; exact rfl; exact rfl; exact rfl
          apply dq_on; exact g_move (s := .av (.val (.int _ _))) rfl; exact rfl; exact rfl; exact rfl
          apply dq_on; exact g_index rfl rfl rfl (by omega); exact rfl; exact rfl; exact rfl
          apply dq_on; exact g_load_agg (us := [.int _ _, .int _ _]) rfl rfl rfl rfl; exact rfl; exact rfl; exact rfl
          apply dq_on; exact g_move (s := .av _) rfl; exact rfl; exact rfl; exact rfl
          apply dq_on; exact g_move (s := .av (.val (.int _ _))) rfl; exact rfl; exact rfl; exact rfl
          apply dq_on; exact g_index rfl rfl rfl (by omega); exact rfl; exact rfl; exact rfl
          apply dq_on; exact g_load_agg (us := [.int _ _, .int _ _]) rfl rfl rfl rfl; exact rfl; exact rfl; exact rfl
          apply dq_on; exact g_move (s := .av _) rfl; exact rfl; exact rfl; exact rfl
          apply dq_on; exact g_move (s := .av (.val (.int _ _))) rfl; exact rfl; exact rfl; exact rfl
          apply dq_on; exact g_index rfl rfl rfl (by omega); exact rfl; exact rfl; exact rfl
          apply dq_on; exact g_load_agg (us := [.int _ _, .int _ _]) rfl rfl rfl rfl; exact rfl; exact rfl; exact rfl
          apply dq_on; exact g_call (c4) rfl; exact rfl; exact rfl; exact rfl
          apply dq_on; exact g_cmp rfl rfl rfl; exact rfl; exact rfl; exact rfl
          apply dq_g; exact g_pick (s := .av (.val (.bool _))) rfl rfl; exact rfl
          refine dq_nil tm (by kernel_rfl) ?_
          refine sq_then ?_
          rotate_left
          refine dq_off nofun rfl rfl rfl rfl ?_
          refine dq_off nofun rfl rfl rfl rfl ?_
          refine dq_off nofun rfl rfl rfl rfl ?_
          refine dq_off nofun rfl rfl rfl rfl ?_
          refine dq_off nofun rfl rfl rfl rfl ?_
          refine dq_off nofun rfl rfl rfl rfl ?_
          refine dq_off nofun rfl rfl rfl rfl ?_
          refine dq_off nofun rfl rfl rfl rfl ?_
          refine dq_off nofun rfl rfl rfl rfl ?_
          refine dq_off nofun rfl rfl rfl rfl ?_
          refine dq_off nofun rfl rfl rfl rfl ?_
          refine dq_off nofun rfl rfl rfl rfl ?_
          refine dq_off nofun rfl rfl rfl rfl ?_
          refine dq_off nofun rfl rfl rfl rfl ?_
          apply dq_g; exact g_pick (s := .av (.val (.bool _))) rfl rfl; exact rfl
          refine dq_nil tm (by kernel_rfl) ?_
          refine sq_then ?_
          refine cq_cond_f rfl ?_
          refine cq_skip ?_
          refine sq_then ?_
          refine cq_region ?_
          apply sq_g; exact g_arith rfl rfl rfl (by omega); exact rfl
          apply sq_g; exact g_move (s := .av (.val (.int _ _))) rfl; exact rfl
          refine sq_nil ?_
          rotate_left
        all_goals first | exact sq_round (i + 1) (by omega) (by omega) (ent ⟨.refl _, .refl _, .refl _, .refl _, .int (by omega), trivial⟩ trivial) | skip
        (refine cq_cond rfl (fun hb => ?_) (fun hb => ?_) <;> (try simp only [decide_eq_true_eq, decide_eq_false_iff_not, beq_iff_eq, beq_eq_false_iff_ne, bne_iff_ne, bne_eq_false_iff_eq, ne_eq, Bool.not_eq_true', Bool.not_eq_false', Bool.and_eq_true, Bool.or_eq_true, Bool.and_eq_false_iff, Bool.or_eq_false_iff] at hb) <;> (try (exfalso; omega)))
        refine cq_skip ?_
        refine sq_then ?_
        refine cq_region ?_
        apply sq_g; exact g_arith rfl rfl rfl (by omega); exact rfl
        apply sq_g; exact g_move (s := .av (.val (.int _ _))) rfl; exact rfl
        refine sq_nil ?_
        exact sq_round (i + 1) (by omega) (by omega) (ent ⟨.refl _, .refl _, .refl _, .refl _, .int (by omega), trivial⟩ trivial)
    · refine cq_exit ?_
      refine sq_then ?_
      refine cq_seq ?_
      refine cq_region ?_
      apply sq_g; exact g_call (awake_c) rfl; exact rfl
      apply sq_g; exact g_assign (s := .av (.val (.bool _))) rfl; exact rfl
      refine sq_nil ?_
      refine sq_then ?_
      refine cq_ret ?_
      exact sq_res1 rfl (.tmp rfl) rfl
end Go.Proofs.Ytacepcnbgacipaa
