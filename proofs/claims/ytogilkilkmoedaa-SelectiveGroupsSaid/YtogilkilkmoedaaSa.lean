/- A part of the proof that the law returns true at every input and that the input reads behind the call as it read before; this part states nothing of its own that needs a condition of the input. -/
import Derived.Test.YtogilkilkmoedaaX
import Derived.Test.YtogilkilkmoedaaP
import Derived.Test.YtogilkilkmoedaaSh
set_option linter.unusedVariables false
set_option linter.unusedSimpArgs false
namespace Go.Proofs.Ytogilkilkmoedaa
open Go Go.Vc Go.RowKit
set_option maxHeartbeats 2000000
/-! KDQ -/
theorem lt_step {p : Nat → Bool} {b : Bool} {n : Nat} (h : ∀ k, k < n → p k = b) (hn : p n = b) : ∀ k, k < n + 1 → p k = b := fun k hk => by
  by_cases e : k = n
  · subst e; exact hn
  · exact h k (by omega)
abbrev lim (lo hi : Int) : AV := .val (.agg #[.int .i64 lo, .int .i64 hi])
def fitB (lo hi h p : Int) : Bool := decide (lo ≤ h - p) && decide (h - p ≤ hi)
abbrev Bi (n : Int) : Prop := -1000000 ≤ n ∧ n ≤ 1000000
theorem fits_c (h p lo hi : Int) (b1 : Bi h) (b2 : Bi p) : CtrA Try.prog 36 [vi h, vi p, lim lo hi] (vb (fitB lo hi h p)) := by
  refine ctrA _ Try.func36 rfl rfl Try.ntmps36 rfl fun w Z => ?_
  simp only [initT, List.map_cons, List.map_nil, Nat.zero_add, Nat.reduceAdd]
  focus
    refine cq_seq ?_
    refine cq_region ?_
    apply sq_g; exact g_box_agg rfl; exact rfl
    apply sq_g; exact g_assign (s := .av (.val (.bool _))) rfl; exact rfl
    refine sq_nil ?_
    refine sq_then ?_
    refine cq_seq ?_
    refine cq_region ?_
    apply sq_g; exact g_move (s := .av (.val (.int _ _))) rfl; exact rfl
    apply sq_g; exact g_move (s := .av (.val (.int _ _))) rfl; exact rfl
    apply sq_g; exact g_arith rfl rfl rfl (by omega); exact rfl
    apply sq_g; exact g_field rfl; exact rfl
    apply sq_g; exact g_load (τ := .val (.int _ _)) rfl rfl rfl; exact rfl
    apply sq_g; exact g_cmp rfl rfl rfl; exact rfl
    apply sq_g; exact g_move (s := .av (.val (.bool _))) rfl; exact rfl
    refine sq_split rfl rfl (fun hb => ?_) (fun hb => ?_) <;> (try simp only [decide_eq_true_eq, decide_eq_false_iff_not, beq_iff_eq, beq_eq_false_iff_ne, bne_iff_ne, bne_eq_false_iff_eq, ne_eq, Bool.not_eq_true', Bool.not_eq_false', Bool.and_eq_true, Bool.or_eq_true, Bool.and_eq_false_iff, Bool.or_eq_false_iff] at hb) <;> (try (exfalso; omega))
    apply sq_on; exact g_move (s := .av (.val (.int _ _))) rfl; exact rfl; exact rfl; exact rfl
    apply sq_on; exact g_move (s := .av (.val (.int _ _))) rfl; exact rfl; exact rfl; exact rfl
    apply sq_on; exact g_arith rfl rfl rfl (by omega); exact rfl; exact rfl; exact rfl
    apply sq_on; exact g_field rfl; exact rfl; exact rfl; exact rfl
    apply sq_on; exact g_load (τ := .val (.int _ _)) rfl rfl rfl; exact rfl; exact rfl; exact rfl
    apply sq_on; exact g_cmp rfl rfl rfl; exact rfl; exact rfl; exact rfl
    apply sq_g; exact g_pick (s := .av (.val (.bool _))) rfl rfl; exact rfl
    apply sq_g; exact g_assign (s := .av (.val (.bool _))) rfl; exact rfl
    refine sq_nil ?_
    refine sq_then ?_
    refine cq_ret ?_
    rotate_left
    refine sq_off rfl rfl rfl rfl ?_
    refine sq_off rfl rfl rfl rfl ?_
    refine sq_off rfl rfl rfl rfl ?_
    refine sq_off rfl rfl rfl rfl ?_
    refine sq_off rfl rfl rfl rfl ?_
    refine sq_off rfl rfl rfl rfl ?_
    apply sq_g; exact g_pick (s := .av (.val (.bool _))) rfl rfl; exact rfl
    apply sq_g; exact g_assign (s := .av (.val (.bool _))) rfl; exact rfl
    refine sq_nil ?_
    refine sq_then ?_
    refine cq_ret ?_
    rotate_left
  all_goals (refine sq_res1 rfl (.tmp rfl) (congrArg vb ?_); unfold fitB; rw [Bool.eq_iff_iff]; simp; try omega)
abbrev lz (l : List Int) : AV := .ptr 1 (fun _ => zs l)
abbrev blim (lo hi : Int) : AV := .ptr 2 (fun k => .val ([Go.Value.int .i64 lo, .int .i64 hi].getD k Go.undef))
def fitN (H P : List Int) (lo hi : Int) (h p : Nat) : Bool := fitB lo hi (gz H h) (gz P p)
theorem fit1_c (H P : List Int) (lo hi : Int) (bH : ∀ i, Bi (gz H i)) (bP : ∀ i, Bi (gz P i)) (h p : Nat) (hh : h < H.length) (hp : p < P.length) : CtrA Try.prog 63 [vi h, vi p, lz H, lz P, blim lo hi] (vb (fitN H P lo hi h p)) := by
  refine ctrA _ Try.func63 rfl rfl Try.ntmps63 rfl fun w Z => ?_
  simp only [initT, List.map_cons, List.map_nil, Nat.zero_add, Nat.reduceAdd]
  refine cq_seq ?_
  refine cq_region ?_
  apply sq_g; exact g_assign (s := .av (.val (.bool _))) rfl; exact rfl
  refine sq_nil ?_
  refine sq_then ?_
  refine cq_seq ?_
  refine cq_drawn ?_
  apply dq_g; exact g_load rfl rfl rfl; exact rfl
  apply dq_g; exact g_move (s := .av (.val (.int _ _))) rfl; exact rfl
  apply dq_g; exact g_index rfl rfl rfl (by omega); exact rfl
  apply dq_g; exact g_load (τ := .val (.int _ _)) rfl rfl rfl; exact rfl
  apply dq_g; exact g_load rfl rfl rfl; exact rfl
  apply dq_g; exact g_move (s := .av (.val (.int _ _))) rfl; exact rfl
  apply dq_g; exact g_index rfl rfl rfl (by omega); exact rfl
  apply dq_g; exact g_load (τ := .val (.int _ _)) rfl rfl rfl; exact rfl
  apply dq_g; exact g_load_agg (us := [.int _ _, .int _ _]) rfl rfl rfl rfl; exact rfl
  apply dq_g; exact g_call (fits_c (gz H h) (gz P p) lo hi (bH h) (bP p)) rfl; exact rfl
  apply dq_g; exact g_assign (s := .av (.val (.bool _))) rfl; exact rfl
  refine dq_nil tm (by kernel_rfl) ?_
  refine sq_then ?_
  refine cq_ret ?_
  exact sq_res1 rfl (.tmp rfl) rfl
def badZ (n : Int) : Bool := decide (n < 0) || decide (100000 < n)
theorem badz_c (n : Int) : CtrA Try.prog 72 [vi n] (vb (badZ n)) := by
  refine ctrA _ Try.func72 rfl rfl Try.ntmps72 rfl fun w Z => ?_
  simp only [initT, List.map_cons, List.map_nil, Nat.zero_add, Nat.reduceAdd]
  focus
    refine cq_seq ?_
    refine cq_region ?_
    apply sq_g; exact g_assign (s := .av (.val (.bool _))) rfl; exact rfl
    refine sq_nil ?_
    refine sq_then ?_
    refine cq_seq ?_
    refine cq_region ?_
    apply sq_g; exact g_move (s := .av (.val (.int _ _))) rfl; exact rfl
    apply sq_g; exact g_cmp rfl rfl rfl; exact rfl
    apply sq_g; exact g_move (s := .av (.val (.bool _))) rfl; exact rfl
    refine sq_split rfl rfl (fun hb => ?_) (fun hb => ?_) <;> (try simp only [decide_eq_true_eq, decide_eq_false_iff_not, beq_iff_eq, beq_eq_false_iff_ne, bne_iff_ne, bne_eq_false_iff_eq, ne_eq, Bool.not_eq_true', Bool.not_eq_false', Bool.and_eq_true, Bool.or_eq_true, Bool.and_eq_false_iff, Bool.or_eq_false_iff] at hb) <;> (try (exfalso; omega))
    refine sq_off rfl rfl rfl rfl ?_
    refine sq_off rfl rfl rfl rfl ?_
    apply sq_g; exact g_pick (s := .av (.val (.bool _))) rfl rfl; exact rfl
    apply sq_g; exact g_assign (s := .av (.val (.bool _))) rfl; exact rfl
    refine sq_nil ?_
    refine sq_then ?_
    refine cq_ret ?_
    rotate_left
    apply sq_on; exact g_move (s := .av (.val (.int _ _))) rfl; exact rfl; exact rfl; exact rfl
    apply sq_on; exact g_cmp rfl rfl rfl; exact rfl; exact rfl; exact rfl
    apply sq_g; exact g_pick (s := .av (.val (.bool _))) rfl rfl; exact rfl
    apply sq_g; exact g_assign (s := .av (.val (.bool _))) rfl; exact rfl
    refine sq_nil ?_
    refine sq_then ?_
    refine cq_ret ?_
    rotate_left
  all_goals (refine sq_res1 rfl (.tmp rfl) (congrArg vb ?_); unfold badZ; rw [Bool.eq_iff_iff]; simp; try omega)
def ixB (p : Nat → Bool) (n : Nat) : Int := match (List.range n).find? p with | some k => (k : Int) | none => -1
theorem ixB_hit {p : Nat → Bool} {n k : Nat} (hk : k < n) (hall : ∀ j, j < k → p j = false) (h : p k = true) : ixB p n = (k : Int) := by
  have : (List.range n).find? p = some k := by
    rw [List.find?_range_eq_some]
    exact ⟨h, by simpa using hk, fun j hj => by simp [hall j hj]⟩
  unfold ixB; rw [this]
theorem ixB_no {p : Nat → Bool} {n : Nat} (hall : ∀ j, j < n → p j = false) : ixB p n = -1 := by
  have : (List.range n).find? p = none := by
    rw [List.find?_eq_none]
    intro x hx
    simp [hall x (List.mem_range.1 hx)]
  unfold ixB; rw [this]
theorem indexf_c (l : List Int) (hn : l.length ≤ 100000) : CtrA Try.prog 82 [zs l, .val (.func (.func 72) #[] #[])] (vi (ixB (fun k => badZ (gz l k)) l.length)) := by
  refine ctrA _ Try.func82 rfl rfl Try.ntmps82 rfl fun w Z => ?_
  simp only [initT, List.map_cons, List.map_nil, Nat.zero_add, Nat.reduceAdd]
  refine cq_seq ?_
  refine cq_region ?_
  apply sq_g; exact g_assign (s := .av (.val (.int _ _))) rfl; exact rfl
  refine sq_nil ?_
  refine sq_then ?_
  refine cq_seq ?_
  refine cq_seq ?_
  refine cq_region ?_
  apply sq_g; exact g_move (s := .av _) rfl; exact rfl
  apply sq_g; exact g_len rfl; exact rfl
  apply sq_g; exact g_move (s := .av (.val (.int _ _))) rfl; exact rfl
  refine sq_nil ?_
  refine sq_then ?_
  refine cq_block ?_
  refine cq_loop (γ := Nat) (fun k => [(0, .av (zs l)), (1, .av (.val (.func (.func 72) #[] #[]))), (6, .av (zs l)), (7, .av (vi l.length)), (8, .av (vi k))]) (fun _ => []) (fun k => k ≤ l.length ∧ ∀ j, j < k → badZ (gz l j) = false) (fun k => l.length - k) 0 ⟨Nat.zero_le _, by omega⟩ (ent ⟨.refl _, .refl _, .refl _, .refl _, .refl _, trivial⟩ trivial) ?_
  rintro k ⟨hk, hall⟩
  refine cq_seq ?_
  refine cq_region ?_
  apply sq_g; exact g_cmp rfl rfl rfl; exact rfl
  refine sq_nil ?_
  refine sq_then ?_
  refine cq_seq ?_
  (refine cq_cond rfl (fun hb => ?_) (fun hb => ?_) <;> (try simp only [decide_eq_true_eq, decide_eq_false_iff_not, beq_iff_eq, beq_eq_false_iff_ne, bne_iff_ne, bne_eq_false_iff_eq, ne_eq, Bool.not_eq_true', Bool.not_eq_false', Bool.and_eq_true, Bool.or_eq_true, Bool.and_eq_false_iff, Bool.or_eq_false_iff] at hb) <;> (try (exfalso; omega)))
  · have hkl : k < l.length := by omega
    refine cq_skip ?_
    refine sq_then ?_
    refine cq_seq ?_
    refine cq_block ?_
    refine cq_seq ?_
    refine cq_region ?_
    apply sq_g; exact g_move (s := .av (.val (.int _ _))) rfl; exact rfl
    apply sq_g; exact g_assign (s := .av (.val (.int _ _))) rfl; exact rfl
    refine sq_nil ?_
    refine sq_then ?_
    refine cq_seq ?_
    refine cq_region ?_
    apply sq_g; exact g_move (s := .av _) rfl; exact rfl
    apply sq_g; exact g_move (s := .av _) rfl; exact rfl
    apply sq_g; exact g_move (s := .av (.val (.int _ _))) rfl; exact rfl
    apply sq_g; exact g_index rfl rfl rfl (by omega); exact rfl
    apply sq_g; exact g_load (τ := .val (.int _ _)) rfl rfl rfl; exact rfl
    apply sq_g; exact g_callv (badz_c (gz l k)) rfl rfl; exact rfl
    refine sq_nil ?_
    refine sq_then ?_
    (refine cq_cond rfl (fun hb => ?_) (fun hb => ?_) <;> (try simp only [decide_eq_true_eq, decide_eq_false_iff_not, beq_iff_eq, beq_eq_false_iff_ne, bne_iff_ne, bne_eq_false_iff_eq, ne_eq, Bool.not_eq_true', Bool.not_eq_false', Bool.and_eq_true, Bool.or_eq_true, Bool.and_eq_false_iff, Bool.or_eq_false_iff] at hb) <;> (try (exfalso; omega)))
    · have e1 := ixB_hit (p := fun k => badZ (gz l k)) hkl hall hb
      refine cq_seq ?_
      refine cq_region ?_
      apply sq_g; exact g_move (s := .av (.val (.int _ _))) rfl; exact rfl
      apply sq_g; exact g_assign (s := .av (.val (.int _ _))) rfl; exact rfl
      refine sq_nil ?_
      refine sq_then ?_
      refine cq_ret ?_
      refine sq_inBlock_ret ?_
      refine sq_then_ret ?_
      refine sq_then_ret ?_
      refine sq_inBlock_ret ?_
      refine sq_then_ret ?_
      exact sq_res1 rfl (.tmp rfl) (by rw [e1])
    · refine cq_skip ?_
      refine sq_then ?_
      refine cq_region ?_
      apply sq_g; exact g_arith rfl rfl rfl (by omega); exact rfl
      apply sq_g; exact g_move (s := .av (.val (.int _ _))) rfl; exact rfl
      refine sq_nil ?_
      exact sq_round (k + 1) ⟨by omega, lt_step hall (by simpa using hb)⟩ (by omega) (ent ⟨.refl _, .refl _, .refl _, .refl _, .int (by omega), trivial⟩ trivial)
  · have hkl : k = l.length := by omega
    subst hkl
    have e1 := ixB_no (p := fun k => badZ (gz l k)) hall
    refine cq_exit ?_
    refine sq_then ?_
    refine cq_seq ?_
    refine cq_region ?_
    apply sq_g; exact g_assign (s := .av (.val (.int _ _))) rfl; exact rfl
    refine sq_nil ?_
    refine sq_then ?_
    refine cq_ret ?_
    exact sq_res1 rfl (.tmp rfl) (by rw [e1])
def bad (l : List Int) : Bool := (List.range l.length).any fun k => badZ (gz l k)
theorem ixB_any (p : Nat → Bool) (n : Nat) : decide (0 ≤ ixB p n) = (List.range n).any p := by
  unfold ixB
  cases h : (List.range n).find? p with
  | none =>
    have : (List.range n).any p = false := by
      rw [List.any_eq_false]
      intro x hx
      rw [List.find?_eq_none] at h
      exact h x hx
    rw [this]; rfl
  | some k =>
    have : (List.range n).any p = true := List.any_eq_true.2 ⟨k, List.mem_of_find?_eq_some h, List.find?_some h⟩
    rw [this, decide_eq_true_eq]
    exact Int.natCast_nonneg k
theorem containsf_c (l : List Int) (hn : l.length ≤ 100000) : CtrA Try.prog 71 [zs l, .val (.func (.func 72) #[] #[])] (vb (bad l)) := by
  refine ctrA _ Try.func71 rfl rfl Try.ntmps71 rfl fun w Z => ?_
  simp only [initT, List.map_cons, List.map_nil, Nat.zero_add, Nat.reduceAdd]
  refine cq_seq ?_
  refine cq_region ?_
  apply sq_g; exact g_assign (s := .av (.val (.bool _))) rfl; exact rfl
  refine sq_nil ?_
  refine sq_then ?_
  refine cq_seq ?_
  refine cq_region ?_
  apply sq_g; exact g_move (s := .av _) rfl; exact rfl
  apply sq_g; exact g_move (s := .av _) rfl; exact rfl
  apply sq_g; exact g_call (indexf_c l hn) rfl; exact rfl
  apply sq_g; exact g_cmp rfl rfl rfl; exact rfl
  apply sq_g; exact g_assign (s := .av (.val (.bool _))) rfl; exact rfl
  refine sq_nil ?_
  refine sq_then ?_
  refine cq_ret ?_
  exact sq_res1 rfl (.tmp rfl) (congrArg vb (ixB_any _ _))
/-! Lists of lists. -/
def gl (L : List (List Int)) (k : Nat) : List Int := L.getD k []
abbrev zss (L : List (List Int)) : AV := .sl L.length 1 (fun i _ => (L.map zs).getD i .any)
theorem gl_zs {L : List (List Int)} {k : Nat} (h : k < L.length) : (L.map zs).getD k .any = zs (gl L k) := by simp [List.getD, gl, h]
def chkL (L : List (List Int)) : Int := if (List.range L.length).any (fun k => decide (256 < (gl L k).length)) then 5 else if (List.range L.length).any (fun k => bad (gl L k)) then 2 else 0
theorem any_no {p : Nat → Bool} {n : Nat} (h : ∀ k, k < n → p k = false) : (List.range n).any p = false := by
  rw [List.any_eq_false]; intro x hx; rw [h x (List.mem_range.1 hx)]; simp
theorem any_yes {p : Nat → Bool} {n k : Nat} (hk : k < n) (h : p k = true) : (List.range n).any p = true := List.any_eq_true.2 ⟨k, List.mem_range.2 hk, h⟩
theorem check1_c (L : List (List Int)) (hn : L.length ≤ 1000) : CtrA Try.prog 45 [zss L] (vi (chkL L)) := by
  refine ctrA _ Try.func45 rfl rfl Try.ntmps45 rfl fun w Z => ?_
  simp only [initT, List.map_cons, List.map_nil, Nat.zero_add, Nat.reduceAdd]
  refine cq_seq ?_
  refine cq_region ?_
  apply sq_g; exact g_assign (s := .av (.val (.int _ _))) rfl; exact rfl
  refine sq_nil ?_
  refine sq_then ?_
  refine cq_seq ?_
  refine cq_seq ?_
  refine cq_region ?_
  apply sq_g; exact g_move (s := .av _) rfl; exact rfl
  apply sq_g; exact g_len rfl; exact rfl
  apply sq_g; exact g_move (s := .av (.val (.int _ _))) rfl; exact rfl
  refine sq_nil ?_
  refine sq_then ?_
  refine cq_block ?_
  refine cq_loop (γ := Nat) (fun k => [(0, .av (zss L)), (7, .av (zss L)), (8, .av (vi L.length)), (9, .av (vi k))]) (fun _ => []) (fun k => k ≤ L.length ∧ ∀ j, j < k → decide (256 < (gl L j).length) = false) (fun k => L.length - k) 0 ⟨Nat.zero_le _, by omega⟩ (ent ⟨.refl _, .refl _, .refl _, .refl _, trivial⟩ trivial) ?_
  rintro k ⟨hk, hall⟩
  refine cq_seq ?_
  refine cq_region ?_
  apply sq_g; exact g_cmp rfl rfl rfl; exact rfl
  refine sq_nil ?_
  refine sq_then ?_
  refine cq_seq ?_
  (refine cq_cond rfl (fun hb => ?_) (fun hb => ?_) <;> (try simp only [decide_eq_true_eq, decide_eq_false_iff_not, beq_iff_eq, beq_eq_false_iff_ne, bne_iff_ne, bne_eq_false_iff_eq, ne_eq, Bool.not_eq_true', Bool.not_eq_false', Bool.and_eq_true, Bool.or_eq_true, Bool.and_eq_false_iff, Bool.or_eq_false_iff] at hb) <;> (try (exfalso; omega)))
  · have hkl : k < L.length := by omega
    have hL := gl_zs hkl
    refine cq_skip ?_
    refine sq_then ?_
    refine cq_seq ?_
    refine cq_block ?_
    refine cq_seq ?_
    refine cq_region ?_
    apply sq_g; exact g_index rfl rfl rfl (by omega); exact rfl
    apply sq_g; exact  g_load (τ := zs (gl L k)) rfl rfl hL; exact rfl
    apply sq_g; exact g_assign (s := .av _) rfl; exact rfl
    refine sq_nil ?_
    refine sq_then ?_
    refine cq_seq ?_
    refine cq_region ?_
    apply sq_g; exact g_move (s := .av _) rfl; exact rfl
    apply sq_g; exact g_len rfl; exact rfl
    apply sq_g; exact g_cmp rfl rfl rfl; exact rfl
    refine sq_nil ?_
    refine sq_then ?_
    (refine cq_cond rfl (fun hb => ?_) (fun hb => ?_) <;> (try simp only [decide_eq_true_eq, decide_eq_false_iff_not, beq_iff_eq, beq_eq_false_iff_ne, bne_iff_ne, bne_eq_false_iff_eq, ne_eq, Bool.not_eq_true', Bool.not_eq_false', Bool.and_eq_true, Bool.or_eq_true, Bool.and_eq_false_iff, Bool.or_eq_false_iff] at hb) <;> (try (exfalso; omega)))
    · have e1 : chkL L = 5 := by unfold chkL; rw [if_pos (any_yes hkl (decide_eq_true (by omega)))]
      refine cq_seq ?_
      refine cq_region ?_
      apply sq_g; exact g_assign (s := .av (.val (.int _ _))) rfl; exact rfl
      refine sq_nil ?_
      refine sq_then ?_
      refine cq_ret ?_
      refine sq_inBlock_ret ?_
      refine sq_then_ret ?_
      refine sq_then_ret ?_
      refine sq_inBlock_ret ?_
      refine sq_then_ret ?_
      exact sq_res1 rfl (.tmp rfl) (by rw [e1])
    · refine cq_skip ?_
      refine sq_then ?_
      refine cq_region ?_
      apply sq_g; exact g_arith rfl rfl rfl (by omega); exact rfl
      apply sq_g; exact g_move (s := .av (.val (.int _ _))) rfl; exact rfl
      refine sq_nil ?_
      exact sq_round (k + 1) ⟨by omega, lt_step hall (decide_eq_false (by omega))⟩ (by omega) (ent ⟨.refl _, .refl _, .refl _, .int (by omega), trivial⟩ trivial)
  · have hkl : k = L.length := by omega
    subst hkl
    have h5 := any_no hall
    have hsm : ∀ j, j < L.length → (gl L j).length ≤ 256 := fun j hj => by have := hall j hj; simpa using this
    refine cq_exit ?_
    refine sq_then ?_
    refine cq_seq ?_
    refine cq_seq ?_
    refine cq_region ?_
    apply sq_g; exact g_move (s := .av _) rfl; exact rfl
    apply sq_g; exact g_len rfl; exact rfl
    apply sq_g; exact g_move (s := .av (.val (.int _ _))) rfl; exact rfl
    refine sq_nil ?_
    refine sq_then ?_
    refine cq_block ?_
    refine cq_loop (γ := Nat) (fun k => [(0, .av (zss L)), (17, .av (zss L)), (18, .av (vi L.length)), (19, .av (vi k))]) (fun _ => []) (fun k => k ≤ L.length ∧ ∀ j, j < k → bad (gl L j) = false) (fun k => L.length - k) 0 ⟨Nat.zero_le _, by omega⟩ (ent ⟨.refl _, .refl _, .refl _, .refl _, trivial⟩ trivial) ?_
    rintro k ⟨hk, hall⟩
    refine cq_seq ?_
    refine cq_region ?_
    apply sq_g; exact g_cmp rfl rfl rfl; exact rfl
    refine sq_nil ?_
    refine sq_then ?_
    refine cq_seq ?_
    (refine cq_cond rfl (fun hb => ?_) (fun hb => ?_) <;> (try simp only [decide_eq_true_eq, decide_eq_false_iff_not, beq_iff_eq, beq_eq_false_iff_ne, bne_iff_ne, bne_eq_false_iff_eq, ne_eq, Bool.not_eq_true', Bool.not_eq_false', Bool.and_eq_true, Bool.or_eq_true, Bool.and_eq_false_iff, Bool.or_eq_false_iff] at hb) <;> (try (exfalso; omega)))
    · have hkl : k < L.length := by omega
      have hL := gl_zs hkl
      have hs := hsm k hkl
      refine cq_skip ?_
      refine sq_then ?_
      refine cq_seq ?_
      refine cq_block ?_
      refine cq_seq ?_
      refine cq_region ?_
      apply sq_g; exact g_index rfl rfl rfl (by omega); exact rfl
      apply sq_g; exact  g_load (τ := zs (gl L k)) rfl rfl hL; exact rfl
      apply sq_g; exact g_assign (s := .av _) rfl; exact rfl
      refine sq_nil ?_
      refine sq_then ?_
      refine cq_seq ?_
      refine cq_region ?_
      apply sq_g; exact g_move (s := .av _) rfl; exact rfl
      apply sq_g; exact g_call (containsf_c (gl L k) (by omega)) rfl; exact rfl
      refine sq_nil ?_
      refine sq_then ?_
      refine cq_cond rfl (fun hb => ?_) (fun hb => ?_)
      · have e1 : chkL L = 2 := by unfold chkL; rw [h5, if_neg (by simp), if_pos (any_yes (p := fun k => bad (gl L k)) hkl hb)]
        refine cq_seq ?_
        refine cq_region ?_
        apply sq_g; exact g_assign (s := .av (.val (.int _ _))) rfl; exact rfl
        refine sq_nil ?_
        refine sq_then ?_
        refine cq_ret ?_
        refine sq_inBlock_ret ?_
        refine sq_then_ret ?_
        refine sq_then_ret ?_
        refine sq_inBlock_ret ?_
        refine sq_then_ret ?_
        exact sq_res1 rfl (.tmp rfl) (by rw [e1])
      · refine cq_skip ?_
        refine sq_then ?_
        refine cq_region ?_
        apply sq_g; exact g_arith rfl rfl rfl (by omega); exact rfl
        apply sq_g; exact g_move (s := .av (.val (.int _ _))) rfl; exact rfl
        refine sq_nil ?_
        exact sq_round (k + 1) ⟨by omega, lt_step hall hb⟩ (by omega) (ent ⟨.refl _, .refl _, .refl _, .int (by omega), trivial⟩ trivial)
    · have hkl : k = L.length := by omega
      subst hkl
      have e1 : chkL L = 0 := by unfold chkL; rw [h5, if_neg (by simp), any_no hall, if_neg (by simp)]
      refine cq_exit ?_
      refine sq_then ?_
      refine cq_seq ?_
      refine cq_region ?_
      apply sq_g; exact g_assign (s := .av (.val (.int _ _))) rfl; exact rfl
      refine sq_nil ?_
      refine sq_then ?_
      refine cq_ret ?_
      exact sq_res1 rfl (.tmp rfl) (by rw [e1])
end Go.Proofs.Ytogilkilkmoedaa
namespace Go.Proofs.Ytogilkilkmoedaa
open Go Go.Vc Go.RowKit
set_option maxHeartbeats 2000000
/-! KDQ -/
theorem tq22_2 (a b : Int) (w : World) : (Instr.buildSlice 22 2 #[(0, .int .i64 a), (1, .int .i64 b)]).run Try.prog w = .ok (.slice (some ⟨w.heap.size, 0, none⟩) 2 2) (w.alloc (.cells #[.int .i64 a, .int .i64 b] 3)) := by kernel_rfl
theorem zf2_row (a b : Int) : ∀ i, i < 2 → ∀ j, j < 1 → ∃ u, [Value.int .i64 a, .int .i64 b][i * 1 + j]? = some u ∧ zf [a, b] i j = .val u := by
  intro i hi j hj
  obtain rfl : j = 0 := by omega
  match i, hi with
  | 0, _ => exact ⟨_, rfl, rfl⟩
  | 1, _ => exact ⟨_, rfl, rfl⟩
theorem tq50_2 (vs : List Value) (w : World) (hl : vs.length = 2) (h1 : ∀ v ∈ vs, v.oneCell' = true) : (Instr.buildSlice 50 2 (List.zip [0, 1] vs).toArray).run Try.prog w = .ok (.slice (some ⟨w.heap.size, 0, none⟩) 2 2) (w.alloc (.cells vs.toArray 22)) := by
  match vs, hl with
  | [u, v], _ =>
    have e1 := cells_one (h1 u (by simp))
    have e2 := cells_one (h1 v (by simp))
    have hz : Try.prog.info? 22 = some ((Try.prog.info? 22).getD default) := by kernel_rfl
    have hs : (sizeOf 22).run Try.prog w = .ok 1 w := by kernel_rfl
    have hu : Try.prog.underlying 50 = some (.slice 22) := by kernel_rfl
    have hzero : (zeroValue 22).run Try.prog w = .ok (.slice none 0 0) w := by kernel_rfl
    have hr : Array.map (fun x => (Value.slice none 0 0).cells[x % (Value.slice none 0 0).cells.size]!) (Array.range 2) = #[.slice none 0 0, .slice none 0 0] := by kernel_rfl
    simp [Instr.buildSlice, hr, Instr.fill, e1, e2, newRow]
def outZ (n : Int) : Bool := decide (n < -100000) || decide (100000 < n)
def errC (H P : List Int) (lo hi : Int) : Int := if chkL [H, P] ≠ 0 then chkL [H, P] else if outZ lo || outZ hi then 2 else if hi < lo then 9 else 0
theorem check_c (H P : List Int) (lo hi : Int) : CtrA Try.prog 21 [zs H, zs P, lim lo hi] (vi (errC H P lo hi)) := by
  refine ctrA _ Try.func21 rfl rfl Try.ntmps21 rfl fun w Z => ?_
  simp only [initT, List.map_cons, List.map_nil, Nat.zero_add, Nat.reduceAdd]
  refine cq_seq ?_
  refine cq_region ?_
  apply sq_g; exact g_box_agg rfl; exact rfl
  apply sq_g; exact g_assign (s := .av (.val (.int _ _))) rfl; exact rfl
  refine sq_nil ?_
  refine sq_then ?_
  refine cq_seq ?_
  refine cq_seq ?_
  refine cq_region ?_
  apply sq_g; exact g_move (s := .av _) rfl; exact rfl
  apply sq_g; exact g_move (s := .av _) rfl; exact rfl
  apply sq_g; exact  g_bslice_av (is := [0, 1]) (xs := [_, _]) (τs := [zs H, zs P]) (fun vs w h1 h2 => tq50_2 vs w h1 h2) rfl rfl rfl rfl rfl; exact rfl
  apply sq_g; exact g_call (check1_c [H, P] (by simp)) rfl; exact rfl
  apply sq_g; exact g_assign (s := .av (.val (.int _ _))) rfl; exact rfl
  refine sq_nil ?_
  refine sq_then ?_
  refine cq_seq ?_
  refine cq_region ?_
  apply sq_g; exact g_move (s := .av (.val (.int _ _))) rfl; exact rfl
  apply sq_g; exact g_cmp rfl rfl rfl; exact rfl
  refine sq_nil ?_
  refine sq_then ?_
  (refine cq_cond rfl (fun hb => ?_) (fun hb => ?_) <;> (try simp only [decide_eq_true_eq, decide_eq_false_iff_not, beq_iff_eq, beq_eq_false_iff_ne, bne_iff_ne, bne_eq_false_iff_eq, ne_eq, Bool.not_eq_true', Bool.not_eq_false', Bool.and_eq_true, Bool.or_eq_true, Bool.and_eq_false_iff, Bool.or_eq_false_iff] at hb) <;> (try (exfalso; omega)))
  · have e1 : errC H P lo hi = chkL [H, P] := by unfold errC; rw [if_pos hb]
    refine cq_seq ?_
    refine cq_region ?_
    apply sq_g; exact g_move (s := .av (.val (.int _ _))) rfl; exact rfl
    apply sq_g; exact g_assign (s := .av (.val (.int _ _))) rfl; exact rfl
    refine sq_nil ?_
    refine sq_then ?_
    refine cq_ret ?_
    refine sq_then_ret ?_
    exact sq_res1 rfl (.tmp rfl) (by rw [e1])
  · have hc : chkL [H, P] = 0 := by simpa using hb
    refine cq_skip ?_
    refine sq_then ?_
    refine cq_seq ?_
    refine cq_seq ?_
    refine cq_region ?_
    apply sq_g; exact g_field rfl; exact rfl
    apply sq_g; exact g_load (τ := .val (.int _ _)) rfl rfl rfl; exact rfl
    apply sq_g; exact g_field rfl; exact rfl
    apply sq_g; exact g_load (τ := .val (.int _ _)) rfl rfl rfl; exact rfl
    apply sq_g; exact  g_bslice (is := [0, 1]) (xs := [_, _]) (vs := [_, _]) (us := [_, _]) (tq22_2 _ _) rfl rfl rfl (zf2_row _ _); exact rfl
    apply sq_g; exact g_len rfl; exact rfl
    apply sq_g; exact g_move (s := .av (.val (.int _ _))) rfl; exact rfl
    refine sq_nil ?_
    refine sq_then ?_
    refine cq_block ?_
    refine cq_loop (γ := Nat) (fun k => [(5, .av (blim lo hi)), (21, .av (zs [lo, hi])), (22, .av (vi 2)), (23, .av (vi k))]) (fun _ => []) (fun k => k ≤ 2 ∧ ∀ j, j < k → outZ (gz [lo, hi] j) = false) (fun k => 2 - k) 0 ⟨Nat.zero_le _, by omega⟩ (ent ⟨.refl _, .refl _, .refl _, .refl _, trivial⟩ trivial) ?_
    rintro k ⟨hk, hall⟩
    refine cq_seq ?_
    refine cq_region ?_
    apply sq_g; exact g_cmp rfl rfl rfl; exact rfl
    refine sq_nil ?_
    refine sq_then ?_
    refine cq_seq ?_
    (refine cq_cond rfl (fun hb => ?_) (fun hb => ?_) <;> (try simp only [decide_eq_true_eq, decide_eq_false_iff_not, beq_iff_eq, beq_eq_false_iff_ne, bne_iff_ne, bne_eq_false_iff_eq, ne_eq, Bool.not_eq_true', Bool.not_eq_false', Bool.and_eq_true, Bool.or_eq_true, Bool.and_eq_false_iff, Bool.or_eq_false_iff] at hb) <;> (try (exfalso; omega)))
    · have hk2 : k < 2 := by omega
      have hL : [lo, hi].length = 2 := rfl
      have e2 : outZ (gz [lo, hi] k) = true → errC H P lo hi = 2 := fun h => by
        unfold errC
        rw [if_neg (by omega), if_pos]
        match k, hk2, h with
        | 0, _, h => simp only [gz, List.getD, List.getElem?_cons_zero, Option.getD_some] at h; rw [h]; rfl
        | 1, _, h => simp only [gz, List.getD, List.getElem?_cons_succ, List.getElem?_cons_zero, Option.getD_some] at h; rw [h, Bool.or_true]
      focus
        refine cq_skip ?_
        refine sq_then ?_
        refine cq_seq ?_
        refine cq_block ?_
        refine cq_seq ?_
        refine cq_region ?_
        apply sq_g; exact g_index rfl rfl rfl (by omega); exact rfl
        apply sq_g; exact g_load (τ := .val (.int _ _)) rfl rfl rfl; exact rfl
        apply sq_g; exact g_assign (s := .av (.val (.int _ _))) rfl; exact rfl
        refine sq_nil ?_
        refine sq_then ?_
        refine cq_seq ?_
        refine cq_region ?_
        apply sq_g; exact g_move (s := .av (.val (.int _ _))) rfl; exact rfl
        apply sq_g; exact g_cmp rfl rfl rfl; exact rfl
        apply sq_g; exact g_move (s := .av (.val (.bool _))) rfl; exact rfl
        refine sq_split rfl rfl (fun hb => ?_) (fun hb => ?_) <;> (try simp only [decide_eq_true_eq, decide_eq_false_iff_not, beq_iff_eq, beq_eq_false_iff_ne, bne_iff_ne, bne_eq_false_iff_eq, ne_eq, Bool.not_eq_true', Bool.not_eq_false', Bool.and_eq_true, Bool.or_eq_true, Bool.and_eq_false_iff, Bool.or_eq_false_iff] at hb) <;> (try (exfalso; omega))
        refine sq_off rfl rfl rfl rfl ?_
        refine sq_off rfl rfl rfl rfl ?_
        apply sq_g; exact g_pick (s := .av (.val (.bool _))) rfl rfl; exact rfl
        refine sq_nil ?_
        refine sq_then ?_
        refine cq_cond_t rfl ?_
        refine cq_seq ?_
        refine cq_region ?_
        apply sq_g; exact g_assign (s := .av (.val (.int _ _))) rfl; exact rfl
        refine sq_nil ?_
        refine sq_then ?_
        refine cq_ret ?_
        refine sq_inBlock_ret ?_
        refine sq_then_ret ?_
        refine sq_then_ret ?_
        refine sq_inBlock_ret ?_
        refine sq_then_ret ?_
        rotate_left
        apply sq_on; exact g_move (s := .av (.val (.int _ _))) rfl; exact rfl; exact rfl; exact rfl
        apply sq_on; exact g_cmp rfl rfl rfl; exact rfl; exact rfl; exact rfl
        apply sq_g; exact g_pick (s := .av (.val (.bool _))) rfl rfl; exact rfl
        refine sq_nil ?_
        refine sq_then ?_
        rotate_left
      · have e3 := e2 (by unfold outZ; rw [decide_eq_true hb]; rfl)
        exact sq_res1 rfl (.tmp rfl) (by rw [e3])
      · have hb1 := hb
        (refine cq_cond rfl (fun hb => ?_) (fun hb => ?_) <;> (try simp only [decide_eq_true_eq, decide_eq_false_iff_not, beq_iff_eq, beq_eq_false_iff_ne, bne_iff_ne, bne_eq_false_iff_eq, ne_eq, Bool.not_eq_true', Bool.not_eq_false', Bool.and_eq_true, Bool.or_eq_true, Bool.and_eq_false_iff, Bool.or_eq_false_iff] at hb) <;> (try (exfalso; omega)))
        · have e3 := e2 (by unfold outZ; rw [decide_eq_true hb, Bool.or_true])
          refine cq_seq ?_
          refine cq_region ?_
          apply sq_g; exact g_assign (s := .av (.val (.int _ _))) rfl; exact rfl
          refine sq_nil ?_
          refine sq_then ?_
          refine cq_ret ?_
          refine sq_inBlock_ret ?_
          refine sq_then_ret ?_
          refine sq_then_ret ?_
          refine sq_inBlock_ret ?_
          refine sq_then_ret ?_
          exact sq_res1 rfl (.tmp rfl) (by rw [e3])
        · refine cq_skip ?_
          refine sq_then ?_
          refine cq_region ?_
          apply sq_g; exact g_arith rfl rfl rfl (by omega); exact rfl
          apply sq_g; exact g_move (s := .av (.val (.int _ _))) rfl; exact rfl
          refine sq_nil ?_
          exact sq_round (k + 1) ⟨by omega, lt_step hall (by unfold outZ; rw [decide_eq_false hb1, decide_eq_false hb]; rfl)⟩ (by omega) (ent ⟨.refl _, .refl _, .refl _, .int (by omega), trivial⟩ trivial)
    · have hk2 : k = 2 := by omega
      subst hk2
      have h0 := hall 0 (by omega)
      have h1 := hall 1 (by omega)
      simp only [gz, List.getD, List.getElem?_cons_succ, List.getElem?_cons_zero, Option.getD_some] at h0 h1
      have e2 : errC H P lo hi = if hi < lo then 9 else 0 := by unfold errC; rw [if_neg (by omega), h0, h1]; rfl
      refine cq_exit ?_
      refine sq_then ?_
      refine cq_seq ?_
      refine cq_seq ?_
      refine cq_region ?_
      apply sq_g; exact g_field rfl; exact rfl
      apply sq_g; exact g_load (τ := .val (.int _ _)) rfl rfl rfl; exact rfl
      apply sq_g; exact g_field rfl; exact rfl
      apply sq_g; exact g_load (τ := .val (.int _ _)) rfl rfl rfl; exact rfl
      apply sq_g; exact g_cmp rfl rfl rfl; exact rfl
      refine sq_nil ?_
      refine sq_then ?_
      (refine cq_cond rfl (fun hb => ?_) (fun hb => ?_) <;> (try simp only [decide_eq_true_eq, decide_eq_false_iff_not, beq_iff_eq, beq_eq_false_iff_ne, bne_iff_ne, bne_eq_false_iff_eq, ne_eq, Bool.not_eq_true', Bool.not_eq_false', Bool.and_eq_true, Bool.or_eq_true, Bool.and_eq_false_iff, Bool.or_eq_false_iff] at hb) <;> (try (exfalso; omega)))
      · rw [if_pos hb] at e2
        refine cq_seq ?_
        refine cq_region ?_
        apply sq_g; exact g_assign (s := .av (.val (.int _ _))) rfl; exact rfl
        refine sq_nil ?_
        refine sq_then ?_
        refine cq_ret ?_
        refine sq_then_ret ?_
        exact sq_res1 rfl (.tmp rfl) (by rw [e2])
      · rw [if_neg hb] at e2
        refine cq_skip ?_
        refine sq_then ?_
        refine cq_seq ?_
        refine cq_region ?_
        apply sq_g; exact g_assign (s := .av (.val (.int _ _))) rfl; exact rfl
        refine sq_nil ?_
        refine sq_then ?_
        refine cq_ret ?_
        exact sq_res1 rfl (.tmp rfl) (by rw [e2])
/-! The matching. -/
theorem gz_eq {l : List Int} {i : Nat} (h : i < l.length) : gz l i = l[i] := by simp [gz, List.getD, h]
theorem cnt_succ {l : List Int} {k : Nat} (h : k < l.length) : cnt l (k + 1) = if 0 ≤ gz l k then cnt l k + 1 else cnt l k := by
  unfold cnt
  rw [List.take_succ_eq_append_getElem h, List.filter_append, List.length_append, gz_eq h]
  split
  · rename_i h1; simp [h1]
  · rename_i h1; simp [h1]
/-- The matching's memory: the struct and its four rows. -/
abbrev mO (F : AV) (H P : List Int) (D G : List Bool) : Go.Vc.Own := [(1000, .cells [.av F, .osl 1001, .osl 1002, .osl 1003, .osl 1004]), (1001, .row 3 1 H.length (zf H)), (1002, .row 3 1 P.length (zf P)), (1003, .row 4 1 D.length (bf D)), (1004, .row 4 1 G.length (bf G))]
theorem size_c (F : AV) (H P : List Int) (D G : List Bool) (hn : H.length ≤ 1000000) : CtrH Try.prog 68 [.own 1000 0] (mO F H P D G) (.av (vi (sz H))) (mO F H P D G) := by
  refine ctrH _ Try.func68 rfl rfl Try.ntmps68 rfl rfl fun w Z ν => ?_
  simp only [initT, List.map_cons, List.map_nil, Nat.zero_add, Nat.reduceAdd]
  refine cq_seq ?_
  refine cq_region ?_
  apply sq_g; exact g_assign (s := .av (.val (.int _ _))) rfl; exact rfl
  refine sq_nil ?_
  refine sq_then ?_
  refine cq_seq ?_
  refine cq_region ?_
  apply sq_g; exact g_assign (s := .av (.val (.int _ _))) rfl; exact rfl
  refine sq_nil ?_
  refine sq_then ?_
  refine cq_seq ?_
  refine cq_seq ?_
  refine cq_region ?_
  apply sq_g; exact g_move (s := .own _ _) rfl; exact rfl
  apply sq_g; exact g_nilCheck rfl; exact rfl
  apply sq_g; exact g_field_own rfl; exact rfl
  apply sq_g; exact g_load_own rfl rfl rfl; exact rfl
  apply sq_g; exact g_len_own rfl rfl; exact rfl
  apply sq_g; exact g_move (s := .av (.val (.int _ _))) rfl; exact rfl
  refine sq_nil ?_
  refine sq_then ?_
  refine cq_block ?_
  refine cq_loop (γ := Nat) (fun k => [(0, .own 1000 0), (3, .av (vi (cnt H k))), (9, .osl 1001), (10, .av (vi H.length)), (11, .av (vi k))]) (fun _ => mO F H P D G) (fun k => k ≤ H.length) (fun k => H.length - k) 0 (Nat.zero_le _) (ent ⟨.refl _, .refl _, .refl _, .refl _, .refl _, trivial⟩ ⟨⟨_, rfl, .refl _⟩, ⟨_, rfl, .refl _⟩, ⟨_, rfl, .refl _⟩, ⟨_, rfl, .refl _⟩, ⟨_, rfl, .refl _⟩, trivial⟩) ?_
  intro k hk
  have hc : cnt H k ≤ k := by unfold cnt; exact Nat.le_trans (List.length_filter_le _ _) (by rw [List.length_take]; omega)
  refine cq_seq ?_
  refine cq_region ?_
  apply sq_g; exact g_cmp rfl rfl rfl; exact rfl
  refine sq_nil ?_
  refine sq_then ?_
  refine cq_seq ?_
  (refine cq_cond rfl (fun hb => ?_) (fun hb => ?_) <;> (try simp only [decide_eq_true_eq, decide_eq_false_iff_not, beq_iff_eq, beq_eq_false_iff_ne, bne_iff_ne, bne_eq_false_iff_eq, ne_eq, Bool.not_eq_true', Bool.not_eq_false', Bool.and_eq_true, Bool.or_eq_true, Bool.and_eq_false_iff, Bool.or_eq_false_iff] at hb) <;> (try (exfalso; omega)))
  · have hkl : k < H.length := by omega
    have hs := cnt_succ hkl
    refine cq_skip ?_
    refine sq_then ?_
    refine cq_seq ?_
    refine cq_block ?_
    refine cq_seq ?_
    refine cq_region ?_
    apply sq_g; exact g_index_row rfl rfl rfl rfl (by omega); exact rfl
    apply sq_g; exact g_load_oel (τ := .val (.int _ _)) rfl rfl (by omega) rfl rfl; exact rfl
    apply sq_g; exact g_assign (s := .av (.val (.int _ _))) rfl; exact rfl
    refine sq_nil ?_
    refine sq_then ?_
    refine cq_seq ?_
    refine cq_region ?_
    apply sq_g; exact g_move (s := .av (.val (.int _ _))) rfl; exact rfl
    apply sq_g; exact g_cmp rfl rfl rfl; exact rfl
    refine sq_nil ?_
    refine sq_then ?_
    (refine cq_cond rfl (fun hb => ?_) (fun hb => ?_) <;> (try simp only [decide_eq_true_eq, decide_eq_false_iff_not, beq_iff_eq, beq_eq_false_iff_ne, bne_iff_ne, bne_eq_false_iff_eq, ne_eq, Bool.not_eq_true', Bool.not_eq_false', Bool.and_eq_true, Bool.or_eq_true, Bool.and_eq_false_iff, Bool.or_eq_false_iff] at hb) <;> (try (exfalso; omega)))
    · rw [if_pos (by omega)] at hs
      refine cq_region ?_
      apply sq_g; exact g_move (s := .av (.val (.int _ _))) rfl; exact rfl
      apply sq_g; exact g_arith rfl rfl rfl (by omega); exact rfl
      apply sq_g; exact g_assign (s := .av (.val (.int _ _))) rfl; exact rfl
      refine sq_nil ?_
      refine sq_then ?_
      refine cq_region ?_
      apply sq_g; exact g_arith rfl rfl rfl (by omega); exact rfl
      apply sq_g; exact g_move (s := .av (.val (.int _ _))) rfl; exact rfl
      refine sq_nil ?_
      exact sq_round (k + 1) (by omega) (by omega) (ent ⟨.refl _, .int (by omega), .refl _, .refl _, .int (by omega), trivial⟩ ⟨⟨_, rfl, .refl _⟩, ⟨_, rfl, .refl _⟩, ⟨_, rfl, .refl _⟩, ⟨_, rfl, .refl _⟩, ⟨_, rfl, .refl _⟩, trivial⟩)
    · rw [if_neg (by omega)] at hs
      refine cq_skip ?_
      refine sq_then ?_
      refine cq_region ?_
      apply sq_g; exact g_arith rfl rfl rfl (by omega); exact rfl
      apply sq_g; exact g_move (s := .av (.val (.int _ _))) rfl; exact rfl
      refine sq_nil ?_
      exact sq_round (k + 1) (by omega) (by omega) (ent ⟨.refl _, .int (by omega), .refl _, .refl _, .int (by omega), trivial⟩ ⟨⟨_, rfl, .refl _⟩, ⟨_, rfl, .refl _⟩, ⟨_, rfl, .refl _⟩, ⟨_, rfl, .refl _⟩, ⟨_, rfl, .refl _⟩, trivial⟩)
  · have hkl : k = H.length := by omega
    subst hkl
    refine cq_exit ?_
    refine sq_then ?_
    refine cq_seq ?_
    refine cq_region ?_
    apply sq_g; exact g_move (s := .av (.val (.int _ _))) rfl; exact rfl
    apply sq_g; exact g_assign (s := .av (.val (.int _ _))) rfl; exact rfl
    refine sq_nil ?_
    refine sq_then ?_
    refine cq_ret ?_
    exact sq_more (ent (T' := [(2, .av (vi (sz H)))]) (O' := mO F H P D G) ⟨.refl _, trivial⟩ ⟨⟨_, rfl, .refl _⟩, ⟨_, rfl, .refl _⟩, ⟨_, rfl, .refl _⟩, ⟨_, rfl, .refl _⟩, ⟨_, rfl, .refl _⟩, trivial⟩) (sq_retH rfl rfl rfl)
end Go.Proofs.Ytogilkilkmoedaa
namespace Go.Proofs.Ytogilkilkmoedaa
open Go Go.Vc Go.RowKit
set_option maxHeartbeats 4000000
/-! KDQ -/
theorem rle_z {l : List Int} {i n n' : Nat} {v : Int} (hn : n = n') (hl : n = l.length) (hi : i < l.length) : RLe (.row 3 1 n (rowSet (zf l) i 0 [vi v])) (.row 3 1 n' (zf (l.set i v))) :=
  .row hn fun k hk j hj => by
    obtain rfl : j = 0 := by omega
    unfold rowSet zf
    rw [gz_set hi]
    by_cases e : k = i
    · subst e; simp
    · simp [e]
theorem rle_b {l : List Bool} {i n n' : Nat} {v : Bool} (hn : n = n') (hl : n = l.length) (hi : i < l.length) : RLe (.row 4 1 n (rowSet (bf l) i 0 [vb v])) (.row 4 1 n' (bf (l.set i v))) :=
  .row hn fun k hk j hj => by
    obtain rfl : j = 0 := by omega
    unfold rowSet bf
    rw [gb_set hi]
    by_cases e : k = i
    · subst e; simp
    · simp [e]
/-- The function of a matching: holes, pins, limits. -/
abbrev fcl (HH PP : List Int) (lo up : Int) : AV := .clo 63 3 (fun i => [lz HH, lz PP, blim lo up].getD i .any)
abbrev fO (F : AV) (D G : List Bool) (nH nP : Nat) (s : MS) : Go.Vc.Own := [(1000, .cells [.av F, .osl 1001, .osl 1002, .osl 1003, .osl 1004]), (1001, .row 3 1 nH (zf s.H)), (1002, .row 3 1 nP (zf s.P)), (1003, .row 4 1 D.length (bf D)), (1004, .row 4 1 G.length (bf G)), (1005, .row 4 1 nP (bf s.S)), (1010, .cells [.own 1000 0]), (1011, .cells [.osl 1005]), (1012, .cells [.clo 80 [.own 1010 0, .own 1011 0, .own 1012 0]])]
theorem find_c (HH PP : List Int) (lo up : Int) (D G : List Bool) (bH : ∀ i, Bi (gz HH i)) (bP : ∀ i, Bi (gz PP i)) (nH nP : Nat) (eH : HH.length = nH) (eP : PP.length = nP) (eG : G.length = nP) (sH : nH ≤ 1000) (sP : nP ≤ 1000) :
    ∀ (f h : Nat) (s : MS) (r : Bool) (u : MS), s.Ok nH nP → h < nH → unseen s.S < f → findF (fitN HH PP lo up) G nP f h s = (r, u) → CtrH Try.prog 80 [.av (vi h), .own 1010 0, .own 1011 0, .own 1012 0] (fO (fcl HH PP lo up) D G nH nP s) (.av (vb r)) (fO (fcl HH PP lo up) D G nH nP u)
  | 0, h, s, r, u, _, _, hu, _ => by omega
  | f + 1, h, s, r, u, hs, hh, hu, he => by
    refine ctrH _ Try.func80 rfl rfl Try.ntmps80 rfl rfl fun w Z ν => ?_
    simp only [initT, List.map_cons, List.map_nil, Nat.zero_add, Nat.reduceAdd]
    refine cq_seq ?_
    refine cq_region ?_
    apply sq_g; exact g_assign (s := .av (.val (.bool _))) rfl; exact rfl
    refine sq_nil ?_
    refine sq_then ?_
    refine cq_seq ?_
    refine cq_seq ?_
    refine cq_region ?_
    apply sq_g; exact g_load_own rfl rfl rfl; exact rfl
    apply sq_g; exact g_nilCheck rfl; exact rfl
    apply sq_g; exact g_field_own rfl; exact rfl
    apply sq_g; exact g_load_own rfl rfl rfl; exact rfl
    apply sq_g; exact g_len_own rfl rfl; exact rfl
    apply sq_g; exact g_move (s := .av (.val (.int _ _))) rfl; exact rfl
    refine sq_nil ?_
    refine sq_then ?_
    refine cq_block ?_
    refine cq_loop (γ := Nat × MS) (fun g => [(0, .av (vi h)), (1, .own 1010 0), (2, .own 1011 0), (3, .own 1012 0), (11, .osl 1002), (12, .av (vi nP)), (13, .av (vi g.1))]) (fun g => fO (fcl HH PP lo up) D G nH nP g.2) (fun g => g.1 ≤ nP ∧ g.2.Ok nH nP ∧ unseen g.2.S ≤ f ∧ findL (fitN HH PP lo up) G (findF (fitN HH PP lo up) G nP f) h (nP - g.1) g.1 g.2 = (r, u)) (fun g => nP - g.1) (0, s) ⟨Nat.zero_le _, hs, Nat.lt_succ_iff.1 hu, he⟩ (ent ⟨.refl _, .refl _, .refl _, .refl _, .refl _, .refl _, .refl _, trivial⟩ ⟨⟨_, rfl, .refl _⟩, ⟨_, rfl, .refl _⟩, ⟨_, rfl, .refl _⟩, ⟨_, rfl, .refl _⟩, ⟨_, rfl, .refl _⟩, ⟨_, rfl, .refl _⟩, ⟨_, rfl, .refl _⟩, ⟨_, rfl, .refl _⟩, ⟨_, rfl, .refl _⟩, trivial⟩) ?_
    rintro ⟨i, t⟩ ⟨hi, ht, hut, hg⟩
    dsimp only at hi ht hut hg ⊢
    refine cq_seq ?_
    refine cq_region ?_
    apply sq_g; exact g_cmp rfl rfl rfl; exact rfl
    refine sq_nil ?_
    refine sq_then ?_
    refine cq_seq ?_
    refine cq_cond rfl (fun hb => ?_) (fun hb => ?_)
    · have hi' : i < nP := by simpa using hb
      have hc : nP - i = (nP - (i + 1)) + 1 := by omega
      rw [hc] at hg
      unfold findL at hg
      have cf := fit1_c HH PP lo up bH bP h i (by omega) (by omega)
      have hsl := ht.sl
      have hpl := ht.pl
      have hhl := ht.hl
      have hpv := ht.pv i hi'
      have ic : ∀ hnn : 0 ≤ gz t.P i, gb t.S i = false → CtrH Try.prog 80 [.av (vi (gz t.P i)), .own 1010 0, .own 1011 0, .own 1012 0] (fO (fcl HH PP lo up) D G nH nP (t.see i)) (.av (vb (findF (fitN HH PP lo up) G nP f (gz t.P i).toNat (t.see i)).1)) (fO (fcl HH PP lo up) D G nH nP (findF (fitN HH PP lo up) G nP f (gz t.P i).toNat (t.see i)).2) := by
        intro hnn hns
        have hun := unseen_see (S := t.S) (i := i) (by omega) hns
        have := find_c HH PP lo up D G bH bP nH nP eH eP eG sH sP f (gz t.P i).toNat (t.see i) _ _ (ht.see i) (by omega) (by simp only [MS.see]; omega) rfl
        rw [Int.toNat_of_nonneg hnn] at this
        exact this
      focus
        refine cq_skip ?_
        refine sq_then ?_
        refine cq_seq ?_
        refine cq_block ?_
        refine cq_seq ?_
        refine cq_region ?_
        apply sq_g; exact g_move (s := .av (.val (.int _ _))) rfl; exact rfl
        apply sq_g; exact g_index_row rfl rfl rfl rfl (by omega); exact rfl
        apply sq_g; exact g_load_oel (τ := .val (.int _ _)) rfl rfl (by omega) rfl rfl; exact rfl
        apply sq_g; exact g_assign (s := .av (.val (.int _ _))) rfl; exact rfl
        apply sq_g; exact g_assign (s := .av (.val (.int _ _))) rfl; exact rfl
        refine sq_nil ?_
        refine sq_then ?_
        refine cq_seq ?_
        refine cq_seq ?_
        refine cq_region ?_
        apply sq_g; exact g_load_own rfl rfl rfl; exact rfl
        apply sq_g; exact g_move (s := .av (.val (.int _ _))) rfl; exact rfl
        apply sq_g; exact g_index_row rfl rfl rfl rfl (by omega); exact rfl
        apply sq_g; exact g_load_oel (τ := .val _) rfl rfl (by omega) rfl rfl; exact rfl
        apply sq_g; exact g_move (s := .av (.val (.bool _))) rfl; exact rfl
        refine sq_split rfl rfl (fun hb => ?_) (fun hb => ?_) <;> (try simp only [decide_eq_true_eq, decide_eq_false_iff_not, beq_iff_eq, beq_eq_false_iff_ne, bne_iff_ne, bne_eq_false_iff_eq, ne_eq, Bool.not_eq_true', Bool.not_eq_false', Bool.and_eq_true, Bool.or_eq_true, Bool.and_eq_false_iff, Bool.or_eq_false_iff] at hb) <;> (try (exfalso; omega))
        refine sq_off rfl rfl rfl rfl ?_
        refine sq_off rfl rfl rfl rfl ?_
        refine sq_off rfl rfl rfl rfl ?_
        refine sq_off rfl rfl rfl rfl ?_
        refine sq_off rfl rfl rfl rfl ?_
        refine sq_off rfl rfl rfl rfl ?_
        refine sq_off rfl rfl rfl rfl ?_
        apply sq_g; exact g_pick (s := .av (.val (.bool _))) rfl rfl; exact rfl
        apply sq_g; exact g_move (s := .av (.val (.bool _))) rfl; exact rfl
        refine sq_off rfl rfl rfl rfl ?_
        refine sq_off rfl rfl rfl rfl ?_
        refine sq_off rfl rfl rfl rfl ?_
        refine sq_off rfl rfl rfl rfl ?_
        refine sq_off rfl rfl rfl rfl ?_
        refine sq_off rfl rfl rfl rfl ?_
        refine sq_off rfl rfl rfl rfl ?_
        refine sq_off rfl rfl rfl rfl ?_
        apply sq_g; exact g_pick (s := .av (.val (.bool _))) rfl rfl; exact rfl
        refine sq_nil ?_
        refine sq_then ?_
        refine cq_cond_t rfl ?_
        refine cq_exit ?_
        refine sq_then ?_
        refine cq_region ?_
        apply sq_g; exact g_arith rfl rfl rfl (by omega); exact rfl
        apply sq_g; exact g_move (s := .av (.val (.int _ _))) rfl; exact rfl
        refine sq_nil ?_
        rotate_left
        apply sq_on; exact g_load_own rfl rfl rfl; exact rfl; exact rfl; exact rfl
        apply sq_on; exact g_nilCheck rfl; exact rfl; exact rfl; exact rfl
        apply sq_on; exact g_field_own rfl; exact rfl; exact rfl; exact rfl
        apply sq_on; exact g_load_own rfl rfl rfl; exact rfl; exact rfl; exact rfl
        apply sq_on; exact g_move (s := .av (.val (.int _ _))) rfl; exact rfl; exact rfl; exact rfl
        apply sq_on; exact g_index_row rfl rfl rfl rfl (by omega); exact rfl; exact rfl; exact rfl
        apply sq_on; exact g_load_oel (τ := .val _) rfl rfl (by omega) rfl rfl; exact rfl; exact rfl; exact rfl
        apply sq_g; exact g_pick (s := .av (.val (.bool _))) rfl rfl; exact rfl
        apply sq_g; exact g_move (s := .av (.val (.bool _))) rfl; exact rfl
        refine sq_split rfl rfl (fun hb => ?_) (fun hb => ?_) <;> (try simp only [decide_eq_true_eq, decide_eq_false_iff_not, beq_iff_eq, beq_eq_false_iff_ne, bne_iff_ne, bne_eq_false_iff_eq, ne_eq, Bool.not_eq_true', Bool.not_eq_false', Bool.and_eq_true, Bool.or_eq_true, Bool.and_eq_false_iff, Bool.or_eq_false_iff] at hb) <;> (try (exfalso; omega))
        refine sq_off rfl rfl rfl rfl ?_
        refine sq_off rfl rfl rfl rfl ?_
        refine sq_off rfl rfl rfl rfl ?_
        refine sq_off rfl rfl rfl rfl ?_
        refine sq_off rfl rfl rfl rfl ?_
        refine sq_off rfl rfl rfl rfl ?_
        refine sq_off rfl rfl rfl rfl ?_
        refine sq_off rfl rfl rfl rfl ?_
        apply sq_g; exact g_pick (s := .av (.val (.bool _))) rfl rfl; exact rfl
        refine sq_nil ?_
        refine sq_then ?_
        refine cq_cond_t rfl ?_
        refine cq_exit ?_
        refine sq_then ?_
        refine cq_region ?_
        apply sq_g; exact g_arith rfl rfl rfl (by omega); exact rfl
        apply sq_g; exact g_move (s := .av (.val (.int _ _))) rfl; exact rfl
        refine sq_nil ?_
        rotate_left
        apply sq_on; exact g_load_own rfl rfl rfl; exact rfl; exact rfl; exact rfl
        apply sq_on; exact g_nilCheck rfl; exact rfl; exact rfl; exact rfl
        apply sq_on; exact g_field_own rfl; exact rfl; exact rfl; exact rfl
        apply sq_on; exact g_load_own (s := .av _) rfl rfl rfl; exact rfl; exact rfl; exact rfl
        apply sq_on; exact g_move (s := .av (.val (.int _ _))) rfl; exact rfl; exact rfl; exact rfl
        apply sq_on; exact g_move (s := .av (.val (.int _ _))) rfl; exact rfl; exact rfl; exact rfl
        apply sq_on; exact  g_callc (τs := [_, _]) (n := 3) (cf := fun i => [lz HH, lz PP, blim lo up].getD i .any) cf rfl rfl; exact rfl; exact rfl; exact rfl
        apply sq_on; exact g_not rfl; exact rfl; exact rfl; exact rfl
        apply sq_g; exact g_pick (s := .av (.val (.bool _))) rfl rfl; exact rfl
        refine sq_nil ?_
        refine sq_then ?_
        rotate_left
      · rw [if_pos (by rw [hb]; rfl)] at hg
        exact sq_round (g := (i, t)) (i + 1, t) ⟨by dsimp only; omega, ht, hut, hg⟩ (by dsimp only; omega) (ent ⟨.refl _, .refl _, .refl _, .refl _, .refl _, .refl _, .int (by dsimp only; omega), trivial⟩ ⟨⟨_, rfl, .refl _⟩, ⟨_, rfl, .refl _⟩, ⟨_, rfl, .refl _⟩, ⟨_, rfl, .refl _⟩, ⟨_, rfl, .refl _⟩, ⟨_, rfl, .refl _⟩, ⟨_, rfl, .refl _⟩, ⟨_, rfl, .refl _⟩, ⟨_, rfl, .refl _⟩, trivial⟩)
      · rw [if_pos (by rw [hb]; simp)] at hg
        exact sq_round (g := (i, t)) (i + 1, t) ⟨by dsimp only; omega, ht, hut, hg⟩ (by dsimp only; omega) (ent ⟨.refl _, .refl _, .refl _, .refl _, .refl _, .refl _, .int (by dsimp only; omega), trivial⟩ ⟨⟨_, rfl, .refl _⟩, ⟨_, rfl, .refl _⟩, ⟨_, rfl, .refl _⟩, ⟨_, rfl, .refl _⟩, ⟨_, rfl, .refl _⟩, ⟨_, rfl, .refl _⟩, ⟨_, rfl, .refl _⟩, ⟨_, rfl, .refl _⟩, ⟨_, rfl, .refl _⟩, trivial⟩)
      · have hS : gb t.S i = false := by assumption
        have hG : gb G i = false := by assumption
        refine cq_cond rfl (fun hb => ?_) (fun hb => ?_)
        · rw [if_pos (by rw [hb]; simp)] at hg
          refine cq_exit ?_
          refine sq_then ?_
          refine cq_region ?_
          apply sq_g; exact g_arith rfl rfl rfl (by omega); exact rfl
          apply sq_g; exact g_move (s := .av (.val (.int _ _))) rfl; exact rfl
          refine sq_nil ?_
          exact sq_round (g := (i, t)) (i + 1, t) ⟨by dsimp only; omega, ht, hut, hg⟩ (by dsimp only; omega) (ent ⟨.refl _, .refl _, .refl _, .refl _, .refl _, .refl _, .int (by dsimp only; omega), trivial⟩ ⟨⟨_, rfl, .refl _⟩, ⟨_, rfl, .refl _⟩, ⟨_, rfl, .refl _⟩, ⟨_, rfl, .refl _⟩, ⟨_, rfl, .refl _⟩, ⟨_, rfl, .refl _⟩, ⟨_, rfl, .refl _⟩, ⟨_, rfl, .refl _⟩, ⟨_, rfl, .refl _⟩, trivial⟩)
        · rw [if_neg (by rw [hS, hG, hb]; simp)] at hg
          have hrs : ∀ n, n = t.S.length → RLe (.row 4 1 n (rowSet (bf t.S) i 0 [vb true])) (.row 4 1 n (bf (t.see i).S)) := fun n hn => rle_b rfl hn (by omega)
          by_cases hneg : gz t.P i < 0
          · rw [if_pos hneg] at hg
            cases hg
            refine cq_skip ?_
            refine sq_then ?_
            refine cq_seq ?_
            refine cq_region ?_
            apply sq_g; exact g_load_own rfl rfl rfl; exact rfl
            apply sq_g; exact g_move (s := .av (.val (.int _ _))) rfl; exact rfl
            apply sq_g; exact g_index_row rfl rfl rfl rfl (by omega); exact rfl
            refine sq_s (g_store_oel rfl rfl rfl rfl (by omega) rfl) ?_
            refine sq_nil ?_
            refine sq_then ?_
            refine cq_seq ?_
            refine cq_region ?_
            apply sq_g; exact g_move (s := .av (.val (.int _ _))) rfl; exact rfl
            apply sq_g; exact g_cmp rfl rfl rfl; exact rfl
            apply sq_g; exact g_move (s := .av (.val (.bool _))) rfl; exact rfl
            refine sq_split rfl rfl (fun hb => ?_) (fun hb => ?_) <;> (try simp only [decide_eq_true_eq, decide_eq_false_iff_not, beq_iff_eq, beq_eq_false_iff_ne, bne_iff_ne, bne_eq_false_iff_eq, ne_eq, Bool.not_eq_true', Bool.not_eq_false', Bool.and_eq_true, Bool.or_eq_true, Bool.and_eq_false_iff, Bool.or_eq_false_iff] at hb) <;> (try (exfalso; omega))
            refine sq_off rfl rfl rfl rfl ?_
            refine sq_off rfl rfl rfl rfl ?_
            refine sq_off rfl rfl rfl rfl ?_
            apply sq_g; exact g_pick (s := .av (.val (.bool _))) rfl rfl; exact rfl
            refine sq_nil ?_
            refine sq_then ?_
            refine cq_cond_t rfl ?_
            refine cq_seq ?_
            refine cq_drawn ?_
            apply dq_g; exact g_load_own rfl rfl rfl; exact rfl
            apply dq_g; exact g_nilCheck rfl; exact rfl
            apply dq_g; exact g_field_own rfl; exact rfl
            apply dq_g; exact g_load_own rfl rfl rfl; exact rfl
            apply dq_g; exact g_move (s := .av (.val (.int _ _))) rfl; exact rfl
            apply dq_g; exact g_load_own rfl rfl rfl; exact rfl
            apply dq_g; exact g_nilCheck rfl; exact rfl
            apply dq_g; exact g_field_own rfl; exact rfl
            apply dq_g; exact g_load_own rfl rfl rfl; exact rfl
            apply dq_g; exact g_move (s := .av (.val (.int _ _))) rfl; exact rfl
            apply dq_g; exact g_move (s := .av (.val (.int _ _))) rfl; exact rfl
            apply dq_g; exact g_move (s := .av (.val (.int _ _))) rfl; exact rfl
            apply dq_g; exact g_index_row rfl rfl rfl rfl (by omega); exact rfl
            refine dq_s (g_store_oel rfl rfl rfl rfl (by omega) rfl) ?_
            apply dq_g; exact g_index_row rfl rfl rfl rfl (by omega); exact rfl
            refine dq_s (g_store_oel rfl rfl rfl rfl (by omega) rfl) ?_
            refine dq_nil tm (by kernel_rfl) ?_
            refine sq_then ?_
            refine cq_seq ?_
            refine cq_region ?_
            apply sq_g; exact g_assign (s := .av (.val (.bool _))) rfl; exact rfl
            refine sq_nil ?_
            refine sq_then ?_
            refine cq_ret ?_
            refine sq_inBlock_ret ?_
            refine sq_then_ret ?_
            refine sq_then_ret ?_
            refine sq_inBlock_ret ?_
            refine sq_then_ret ?_
            exact sq_more (ent (T' := [(5, .av (vb true))]) (O' := fO (fcl HH PP lo up) D G nH nP ((t.see i).pair h i)) ⟨.refl _, trivial⟩ ⟨⟨_, rfl, .refl _⟩, ⟨_, rfl, rle_z rfl (by omega) (by omega)⟩, ⟨_, rfl, rle_z rfl (by omega) (by omega)⟩, ⟨_, rfl, .refl _⟩, ⟨_, rfl, .refl _⟩, ⟨_, rfl, hrs _ (by omega)⟩, ⟨_, rfl, .refl _⟩, ⟨_, rfl, .refl _⟩, ⟨_, rfl, .refl _⟩, trivial⟩) (sq_retH rfl rfl rfl)
          · rw [if_neg hneg] at hg
            have ic := ic (by omega) hS
            have hun := unseen_see (S := t.S) (i := i) (by omega) hS
            have haft := findF_aft (fit := fitN HH PP lo up) (G := G) f (gz t.P i).toNat (t.see i) (ht.see i) (by omega) (by simp only [MS.see]; omega)
            generalize findF (fitN HH PP lo up) G nP f (gz t.P i).toNat (t.see i) = q at ic hg haft
            refine cq_skip ?_
            refine sq_then ?_
            refine cq_seq ?_
            refine cq_region ?_
            apply sq_g; exact g_load_own rfl rfl rfl; exact rfl
            apply sq_g; exact g_move (s := .av (.val (.int _ _))) rfl; exact rfl
            apply sq_g; exact g_index_row rfl rfl rfl rfl (by omega); exact rfl
            refine sq_s (g_store_oel rfl rfl rfl rfl (by omega) rfl) ?_
            refine sq_nil ?_
            refine sq_then ?_
            refine cq_seq ?_
            refine cq_region ?_
            apply sq_g; exact g_move (s := .av (.val (.int _ _))) rfl; exact rfl
            apply sq_g; exact g_cmp rfl rfl rfl; exact rfl
            apply sq_g; exact g_move (s := .av (.val (.bool _))) rfl; exact rfl
            refine sq_split rfl rfl (fun hb => ?_) (fun hb => ?_) <;> (try simp only [decide_eq_true_eq, decide_eq_false_iff_not, beq_iff_eq, beq_eq_false_iff_ne, bne_iff_ne, bne_eq_false_iff_eq, ne_eq, Bool.not_eq_true', Bool.not_eq_false', Bool.and_eq_true, Bool.or_eq_true, Bool.and_eq_false_iff, Bool.or_eq_false_iff] at hb) <;> (try (exfalso; omega))
            apply sq_on; exact g_load_own rfl rfl rfl; exact rfl; exact rfl; exact rfl
            apply sq_on; exact g_move (s := .av (.val (.int _ _))) rfl; exact rfl; exact rfl; exact rfl
            refine sq_vstep_on rfl rfl rfl rfl (VStep.pre (ent_upd (upd := [(1005, .row 4 1 nP (bf (t.see i).S))]) ⟨⟨_, rfl, hrs _ (by omega)⟩, trivial⟩) (v_call_hc [] ic rfl rfl ⟨rfl, rfl, rfl, rfl, rfl, rfl, rfl, rfl, rfl, trivial⟩ rfl)) ?_
            apply sq_g; exact g_pick (s := .av (.val (.bool _))) rfl rfl; exact rfl
            refine sq_nil ?_
            refine sq_then ?_
            refine cq_cond rfl (fun hb => ?_) (fun hb => ?_)
            · rw [if_pos hb] at hg
              cases hg
              have q1 := haft.ok.hl
              have q2 := haft.ok.pl
              refine cq_seq ?_
              refine cq_drawn ?_
              apply dq_g; exact g_load_own rfl rfl rfl; exact rfl
              apply dq_g; exact g_nilCheck rfl; exact rfl
              apply dq_g; exact g_field_own rfl; exact rfl
              apply dq_g; exact g_load_own rfl rfl rfl; exact rfl
              apply dq_g; exact g_move (s := .av (.val (.int _ _))) rfl; exact rfl
              apply dq_g; exact g_load_own rfl rfl rfl; exact rfl
              apply dq_g; exact g_nilCheck rfl; exact rfl
              apply dq_g; exact g_field_own rfl; exact rfl
              apply dq_g; exact g_load_own rfl rfl rfl; exact rfl
              apply dq_g; exact g_move (s := .av (.val (.int _ _))) rfl; exact rfl
              apply dq_g; exact g_move (s := .av (.val (.int _ _))) rfl; exact rfl
              apply dq_g; exact g_move (s := .av (.val (.int _ _))) rfl; exact rfl
              apply dq_g; exact g_index_row rfl rfl rfl rfl (by omega); exact rfl
              refine dq_s (g_store_oel rfl rfl rfl rfl (by omega) rfl) ?_
              apply dq_g; exact g_index_row rfl rfl rfl rfl (by omega); exact rfl
              refine dq_s (g_store_oel rfl rfl rfl rfl (by omega) rfl) ?_
              refine dq_nil tm (by kernel_rfl) ?_
              refine sq_then ?_
              refine cq_seq ?_
              refine cq_region ?_
              apply sq_g; exact g_assign (s := .av (.val (.bool _))) rfl; exact rfl
              refine sq_nil ?_
              refine sq_then ?_
              refine cq_ret ?_
              refine sq_inBlock_ret ?_
              refine sq_then_ret ?_
              refine sq_then_ret ?_
              refine sq_inBlock_ret ?_
              refine sq_then_ret ?_
              exact sq_more (ent (T' := [(5, .av (vb true))]) (O' := fO (fcl HH PP lo up) D G nH nP (q.2.pair h i)) ⟨.refl _, trivial⟩ ⟨⟨_, rfl, .refl _⟩, ⟨_, rfl, rle_z rfl (by omega) (by omega)⟩, ⟨_, rfl, rle_z rfl (by omega) (by omega)⟩, ⟨_, rfl, .refl _⟩, ⟨_, rfl, .refl _⟩, ⟨_, rfl, .refl _⟩, ⟨_, rfl, .refl _⟩, ⟨_, rfl, .refl _⟩, ⟨_, rfl, .refl _⟩, trivial⟩) (sq_retH rfl rfl rfl)
            · rw [if_neg (by rw [hb]; simp)] at hg
              refine cq_skip ?_
              refine sq_then ?_
              refine cq_region ?_
              apply sq_g; exact g_arith rfl rfl rfl (by omega); exact rfl
              apply sq_g; exact g_move (s := .av (.val (.int _ _))) rfl; exact rfl
              refine sq_nil ?_
              exact sq_round (g := (i, t)) (i + 1, q.2) ⟨by dsimp only; omega, haft.ok, by have := haft.un; simp only [MS.see] at this; dsimp only; omega, hg⟩ (by dsimp only; omega) (ent ⟨.refl _, .refl _, .refl _, .refl _, .refl _, .refl _, .int (by dsimp only; omega), trivial⟩ ⟨⟨_, rfl, .refl _⟩, ⟨_, rfl, .refl _⟩, ⟨_, rfl, .refl _⟩, ⟨_, rfl, .refl _⟩, ⟨_, rfl, .refl _⟩, ⟨_, rfl, .refl _⟩, ⟨_, rfl, .refl _⟩, ⟨_, rfl, .refl _⟩, ⟨_, rfl, .refl _⟩, trivial⟩)
    · have hi' : i = nP := by simp at hb; omega
      subst hi'
      rw [Nat.sub_self] at hg
      unfold findL at hg
      cases hg
      refine cq_exit ?_
      refine sq_then ?_
      refine cq_seq ?_
      refine cq_region ?_
      apply sq_g; exact g_assign (s := .av (.val (.bool _))) rfl; exact rfl
      refine sq_nil ?_
      refine sq_then ?_
      refine cq_ret ?_
      exact sq_more (ent (T' := [(5, .av (vb false))]) (O' := fO (fcl HH PP lo up) D G nH i u) ⟨.refl _, trivial⟩ ⟨⟨_, rfl, .refl _⟩, ⟨_, rfl, .refl _⟩, ⟨_, rfl, .refl _⟩, ⟨_, rfl, .refl _⟩, ⟨_, rfl, .refl _⟩, ⟨_, rfl, .refl _⟩, ⟨_, rfl, .refl _⟩, ⟨_, rfl, .refl _⟩, ⟨_, rfl, .refl _⟩, trivial⟩) (sq_retH rfl rfl rfl)
end Go.Proofs.Ytogilkilkmoedaa
namespace Go.Proofs.Ytogilkilkmoedaa
open Go Go.Vc Go.RowKit
set_option maxHeartbeats 4000000
/-! KDQ -/
theorem zi3 : ∃ inf z, Try.prog.info? 3 = some inf ∧ inf.zero = some z ∧ inf.size = 1 ∧ inf.bytes = 8 ∧ z.cells = [Value.int .i64 0].toArray ∧ 0 < 1 :=
  ⟨(Try.prog.info? 3).getD default, ((Try.prog.info? 3).getD default).zero.getD undef, by kernel_rfl, by kernel_rfl, by kernel_rfl, by kernel_rfl, by kernel_rfl, by decide⟩
theorem zi4 : ∃ inf z, Try.prog.info? 4 = some inf ∧ inf.zero = some z ∧ inf.size = 1 ∧ inf.bytes = 1 ∧ z.cells = [Value.bool false].toArray ∧ 0 < 1 :=
  ⟨(Try.prog.info? 4).getD default, ((Try.prog.info? 4).getD default).zero.getD undef, by kernel_rfl, by kernel_rfl, by kernel_rfl, by kernel_rfl, by kernel_rfl, by decide⟩
theorem enters_of {P : Program} {f : FuncId} {fn : Func} {c : Code} (hf : P.funcs[f]? = some fn) (hb : fn.body = some c) (hname : (fn.name == "runtime.NumGoroutine") = false) : Enters P f := fun vs w => by
  have hname' : fn.name ≠ "runtime.NumGoroutine" := by simpa using hname
  simp [callFunc, hf, hname', hb]
theorem mul_c (n : Nat) (hn : n ≤ 1000000) : CtrA Try.prog 79 [.val (.int .u64 ((1 : Nat) : Int)), .val (.int .u64 (n : Int))] (tupOf [.val (.int .u64 0), .val (.int .u64 (n : Int))]) :=
  ctrA_calls (us := [.int .u64 ((1 : Nat) : Int), .int .u64 (n : Int)]) (v := .tuple #[.int .u64 0, .int .u64 (n : Int)]) (enters_of Try.func79 rfl rfl)
    (fun w => by
      have := Try.bits_Mul 1 n (by omega) (by omega) w
      rw [Nat.one_mul, Nat.div_eq_of_lt (by omega), Nat.mod_eq_of_lt (by omega)] at this
      exact this)
    (fun Z w => ⟨[.int .u64 0, .int .u64 (n : Int)], rfl, rfl, fun i hi => by
      match i, hi with
      | 0, _ => exact ⟨_, rfl, rfl⟩
      | 1, _ => exact ⟨_, rfl, rfl⟩⟩)
theorem wrap_u (n : Nat) (hn : n ≤ 1000000) : IntKind.u64.wrap (n : Int) = (n : Int) := by
  simp [IntKind.wrap, IntKind.bits]; omega
theorem wrap_i (n : Nat) (hn : n ≤ 1000000) : IntKind.i64.wrap (n : Int) = (n : Int) := by
  simp [IntKind.wrap, IntKind.bits]; omega
def repZ (n k : Nat) : List Int := List.replicate k (-1) ++ List.replicate (n - k) 0
theorem gz_rep {n k i : Nat} (hk : k ≤ n) (hi : i < n) : gz (repZ n k) i = if i < k then -1 else 0 := by
  unfold gz repZ
  simp only [List.getD_eq_getElem?_getD]
  split
  · rename_i h
    rw [List.getElem?_append_left (by simpa using h), List.getElem?_replicate, if_pos h]; rfl
  · rename_i h
    rw [List.getElem?_append_right (by simp; omega), List.getElem?_replicate, List.length_replicate, if_pos (by omega)]; rfl
theorem repeat_c (n : Nat) (hn : n ≤ 1000) : CtrR Try.prog 64 [.sl 1 1 (zf [-1]), vi n] 3 1 n (zf (List.replicate n (-1))) [] := by
  refine ctrR _ Try.func64 rfl rfl Try.ntmps64 rfl fun w Z => ?_
  have hw1 := wrap_u 1 (by omega)
  have hw2 := wrap_u n (by omega)
  have hw3 := wrap_i n (by omega)
  have hmul := mul_c n (by omega)
  have hml : n ≤ maxLen := by simp only [maxLen]; omega
  simp only [initT, List.map_cons, List.map_nil, Nat.zero_add, Nat.reduceAdd]
  refine cq_seq ?_
  refine cq_region ?_
  apply sq_g; exact g_assign (s := .av _) rfl; exact rfl
  refine sq_nil ?_
  refine sq_then ?_
  refine cq_seq ?_
  refine cq_seq ?_
  refine cq_region ?_
  apply sq_g; exact g_move (s := .av (.val (.int _ _))) rfl; exact rfl
  apply sq_g; exact g_cmp rfl rfl rfl; exact rfl
  refine sq_nil ?_
  refine sq_then ?_
  refine cq_cond_f rfl ?_
  refine cq_skip ?_
  refine sq_then ?_
  refine cq_seq ?_
  refine cq_region ?_
  apply sq_g; exact g_move (s := .av _) rfl; exact rfl
  apply sq_g; exact g_len rfl; exact rfl
  apply sq_g; exact  g_conv rfl hw1; exact rfl
  apply sq_g; exact g_move (s := .av (.val (.int _ _))) rfl; exact rfl
  apply sq_g; exact  g_conv rfl hw2; exact rfl
  apply sq_g; exact g_call (hmul) rfl; exact rfl
  apply sq_g; exact g_move (s := .av _) rfl; exact rfl
  apply sq_g; exact g_extractT rfl rfl; exact rfl
  apply sq_g; exact g_extractT rfl rfl; exact rfl
  apply sq_g; exact g_assign (s := .av (.val (.int _ _))) rfl; exact rfl
  apply sq_g; exact g_assign (s := .av (.val (.int _ _))) rfl; exact rfl
  refine sq_nil ?_
  refine sq_then ?_
  refine cq_seq ?_
  refine cq_seq ?_
  refine cq_region ?_
  apply sq_g; exact g_move (s := .av (.val (.int _ _))) rfl; exact rfl
  apply sq_g; exact g_cmp rfl rfl rfl; exact rfl
  apply sq_g; exact g_move (s := .av (.val (.bool _))) rfl; exact rfl
  apply sq_on; exact g_move (s := .av (.val (.int _ _))) rfl; exact rfl; exact rfl; exact rfl
  apply sq_on; exact g_cmp rfl rfl rfl; exact rfl; exact rfl; exact rfl
  apply sq_g; exact g_pick (s := .av (.val (.bool _))) rfl rfl; exact rfl
  refine sq_nil ?_
  refine sq_then ?_
  (refine cq_cond rfl (fun hb => ?_) (fun hb => ?_) <;> (try simp only [decide_eq_true_eq, decide_eq_false_iff_not, beq_iff_eq, beq_eq_false_iff_ne, bne_iff_ne, bne_eq_false_iff_eq, ne_eq, Bool.not_eq_true', Bool.not_eq_false', Bool.and_eq_true, Bool.or_eq_true, Bool.and_eq_false_iff, Bool.or_eq_false_iff] at hb) <;> (try (exfalso; omega)))
  refine cq_skip ?_
  refine sq_then ?_
  refine cq_seq ?_
  refine cq_region ?_
  apply sq_g; exact g_move (s := .av (.val (.int _ _))) rfl; exact rfl
  apply sq_g; exact  g_conv rfl hw3; exact rfl
  refine sq_v (f_make 10 (n := n) (zs := [.int .i64 0]) rfl zi3 rfl rfl rfl rfl hml (by omega) rfl) rfl ?_
  apply sq_g; exact g_assign (s := .osl _) rfl; exact rfl
  refine sq_nil ?_
  refine sq_then ?_
  refine cq_seq ?_
  refine cq_region ?_
  apply sq_g; exact g_move (s := .osl _) rfl; exact rfl
  apply sq_g; exact g_move (s := .av _) rfl; exact rfl
  refine sq_v (g_copy (n := n) (ety := 3) rfl rfl rfl (fun i _ => rfl)).v rfl ?_
  apply sq_g; exact g_assign (s := .av (.val (.int _ _))) rfl; exact rfl
  refine sq_nil ?_
  refine sq_then ?_
  refine cq_seq ?_
  refine cq_block ?_
  refine cq_loop (γ := Nat) (fun k => [(7, .osl 10), (8, .av (vi k))]) (fun k => [(10, .row 3 1 n (zf (repZ n k)))]) (fun k => k ≤ n ∧ (0 < n → 0 < k)) (fun k => n - k) (min 1 n) ⟨Nat.min_le_right _ _, by omega⟩ (ent ⟨.refl _, .refl _, trivial⟩ ⟨⟨_, rfl, .row rfl (fun i hi j hj => ?_)⟩, trivial⟩) ?_
  · obtain rfl : j = 0 := by omega
    simp only [zf]
    rw [gz_rep (by omega) hi]
    by_cases h : i < min 1 n
    · rw [if_pos h, if_pos h, show i = 0 by omega]; rfl
    · rw [if_neg h, if_neg h]; rfl
  rintro k ⟨hk, hk0⟩
  refine cq_seq ?_
  refine cq_seq ?_
  refine cq_region ?_
  apply sq_g; exact g_move (s := .av (.val (.int _ _))) rfl; exact rfl
  apply sq_g; exact g_move (s := .osl _) rfl; exact rfl
  apply sq_g; exact g_len_own rfl rfl; exact rfl
  apply sq_g; exact g_cmp rfl rfl rfl; exact rfl
  refine sq_nil ?_
  refine sq_then ?_
  (refine cq_cond rfl (fun hb => ?_) (fun hb => ?_) <;> (try simp only [decide_eq_true_eq, decide_eq_false_iff_not, beq_iff_eq, beq_eq_false_iff_ne, bne_iff_ne, bne_eq_false_iff_eq, ne_eq, Bool.not_eq_true', Bool.not_eq_false', Bool.and_eq_true, Bool.or_eq_true, Bool.and_eq_false_iff, Bool.or_eq_false_iff] at hb) <;> (try (exfalso; omega)))
  · have hkn : k < n := by omega
    have hk1 := hk0 (by omega)
    refine cq_skip ?_
    refine sq_then ?_
    refine cq_block ?_
    refine cq_drawn ?_
    apply dq_g; exact g_move (s := .av (.val (.int _ _))) rfl; exact rfl
    apply dq_g; exact g_move (s := .osl _) rfl; exact rfl
    apply dq_g; exact g_move (s := .av (.val (.int _ _))) rfl; exact rfl
    apply dq_g; exact  g_from rfl rfl rfl rfl (by omega) (by omega); exact rfl
    apply dq_g; exact g_move (s := .osl _) rfl; exact rfl
    apply dq_g; exact g_move (s := .av (.val (.int _ _))) rfl; exact rfl
    apply dq_g; exact  g_to rfl rfl rfl rfl (by omega) (by omega); exact rfl
    refine dq_g' (g_copy_self (f := zf (repZ n k)) rfl rfl rfl (by omega) rfl (by omega) (by omega) (fun i _ => rfl)) rfl rfl ?_
    apply dq_g; exact  g_arith (r := ((k + min k (n - k) : Nat) : Int)) rfl rfl (by simp [arithI]) (by omega); exact rfl
    apply dq_g; exact g_assign (s := .av (.val (.int _ _))) rfl; exact rfl
    refine dq_nil tm (by kernel_rfl) ?_
    refine sq_inBlock ?_
    refine sq_round (k + min k (n - k)) ⟨by omega, by omega⟩ (by omega) (ent ⟨.refl _, .refl _, trivial⟩ ⟨⟨_, rfl, .row rfl (fun i hi j hj => ?_)⟩, trivial⟩)
    obtain rfl : j = 0 := by omega
    simp only [zf]
    have e := gz_rep (n := n) (k := k + min k (n - k)) (by omega) hi
    rw [e]
    by_cases h : k ≤ i ∧ i < k + min k (n - k)
    · rw [if_pos h, gz_rep hk (by omega), if_pos (by omega), if_pos (by omega)]
    · rw [if_neg h, gz_rep hk hi]
      by_cases h2 : i < k
      · rw [if_pos h2, if_pos (by omega)]
      · rw [if_neg h2, if_neg (by omega)]
  · have hkn : k = n := by omega
    subst hkn
    refine cq_exit ?_
    refine sq_then ?_
    refine cq_seq ?_
    refine cq_region ?_
    apply sq_g; exact g_move (s := .osl _) rfl; exact rfl
    apply sq_g; exact g_assign (s := .osl _) rfl; exact rfl
    refine sq_nil ?_
    refine sq_then ?_
    refine cq_ret ?_
    refine sq_retR rfl rfl rfl rfl (fun i hi j hj => ?_)
    have e : repZ k k = List.replicate k (-1) := by unfold repZ; simp
    rw [e]
theorem clonez_c (l : List Int) (h0 : 0 < l.length) (hn : l.length ≤ 1000) : CtrR Try.prog 66 [zs l] 3 1 l.length (zf l) [] := by
  refine ctrR _ Try.func66 rfl rfl Try.ntmps66 rfl fun w Z => ?_
  have hml : 0 + l.length ≤ maxLen := by simp only [maxLen]; omega
  have hby : (0 + l.length) * 8 ≤ 140737488355328 := by omega
  simp only [initT, List.map_cons, List.map_nil, Nat.zero_add, Nat.reduceAdd]
  refine cq_seq ?_
  refine cq_region ?_
  apply sq_g; exact g_assign (s := .av _) rfl; exact rfl
  refine sq_nil ?_
  refine sq_then ?_
  refine cq_seq ?_
  refine cq_seq ?_
  refine cq_region ?_
  apply sq_g; exact g_move (s := .av _) rfl; exact rfl
  apply sq_g; exact  g_eqnil_sl (fun a n c w => by simp [eqGuard]) (fun a n c w => by kernel_rfl) rfl rfl h0; exact rfl
  refine sq_nil ?_
  refine sq_then ?_
  refine cq_cond_f rfl ?_
  refine cq_skip ?_
  refine sq_then ?_
  refine cq_seq ?_
  refine cq_region ?_
  refine sq_v (f_bs0 (zf []) 10 (fun w => by kernel_rfl) rfl) rfl ?_
  apply sq_g; exact g_move (s := .av _) rfl; exact rfl
  refine sq_v (v_append (h := zf l) (m := l.length) rfl rfl rfl (fun i _ j _ => rfl) h0 hml hby) rfl ?_
  apply sq_g; exact g_assign (s := .osl _) rfl; exact rfl
  refine sq_nil ?_
  refine sq_then ?_
  refine cq_ret ?_
  refine sq_retR rfl rfl rfl (Nat.zero_add _) (fun i hi j hj => ?_)
  unfold rowApp
  rw [if_neg (by omega), Nat.sub_zero]
theorem cloneb_c (l : List Bool) (h0 : 0 < l.length) (hn : l.length ≤ 1000) : CtrR Try.prog 67 [.sl l.length 1 (bf l)] 4 1 l.length (bf l) [] := by
  refine ctrR _ Try.func67 rfl rfl Try.ntmps67 rfl fun w Z => ?_
  have hml : 0 + l.length ≤ maxLen := by simp only [maxLen]; omega
  have hby : (0 + l.length) * 1 ≤ 140737488355328 := by omega
  simp only [initT, List.map_cons, List.map_nil, Nat.zero_add, Nat.reduceAdd]
  refine cq_seq ?_
  refine cq_region ?_
  apply sq_g; exact g_assign (s := .av _) rfl; exact rfl
  refine sq_nil ?_
  refine sq_then ?_
  refine cq_seq ?_
  refine cq_seq ?_
  refine cq_region ?_
  apply sq_g; exact g_move (s := .av _) rfl; exact rfl
  apply sq_g; exact  g_eqnil_sl (fun a n c w => by simp [eqGuard]) (fun a n c w => by kernel_rfl) rfl rfl h0; exact rfl
  refine sq_nil ?_
  refine sq_then ?_
  refine cq_cond_f rfl ?_
  refine cq_skip ?_
  refine sq_then ?_
  refine cq_seq ?_
  refine cq_region ?_
  refine sq_v (f_bs0 (bf []) 10 (fun w => by kernel_rfl) rfl) rfl ?_
  apply sq_g; exact g_move (s := .av _) rfl; exact rfl
  refine sq_v (v_append (h := bf l) (m := l.length) rfl rfl rfl (fun i _ j _ => rfl) h0 hml hby) rfl ?_
  apply sq_g; exact g_assign (s := .osl _) rfl; exact rfl
  refine sq_nil ?_
  refine sq_then ?_
  refine cq_ret ?_
  refine sq_retR rfl rfl rfl (Nat.zero_add _) (fun i hi j hj => ?_)
  unfold rowApp
  rw [if_neg (by omega), Nat.sub_zero]
theorem grow_c (HH PP : List Int) (lo up : Int) (H P : List Int) (D G : List Bool) (bH : ∀ i, Bi (gz HH i)) (bP : ∀ i, Bi (gz PP i)) (nH nP : Nat) (eH : HH.length = nH) (eP : PP.length = nP) (eG : G.length = nP) (sH : nH ≤ 1000) (sP : nP ≤ 1000)
    (h : Nat) (hs : MS.Ok ⟨H, P, List.replicate nP false⟩ nH nP) (hh : h < nH) : CtrH Try.prog 65 [.own 1000 0, .av (vi h)] (mO (fcl HH PP lo up) H P D G) (.av (vb (findF (fitN HH PP lo up) G nP (nP + 1) h ⟨H, P, List.replicate nP false⟩).1))
      (mO (fcl HH PP lo up) (findF (fitN HH PP lo up) G nP (nP + 1) h ⟨H, P, List.replicate nP false⟩).2.H (findF (fitN HH PP lo up) G nP (nP + 1) h ⟨H, P, List.replicate nP false⟩).2.P D G) := by
  have hP : P.length = nP := hs.pl
  have hH : H.length = nH := hs.hl
  have hun : unseen (List.replicate nP false) < nP + 1 := by unfold unseen; exact Nat.lt_succ_of_le (Nat.le_trans (List.length_filter_le _ _) (by simp))
  have haft := findF_aft (fit := fitN HH PP lo up) (G := G) (nP + 1) h _ hs hh hun
  generalize hq : findF (fitN HH PP lo up) G nP (nP + 1) h ⟨H, P, List.replicate nP false⟩ = q at haft ⊢
  have hu := haft.ok
  have ic := find_c HH PP lo up D G bH bP nH nP eH eP eG sH sP (nP + 1) h ⟨H, P, List.replicate nP false⟩ q.1 q.2 hs hh hun hq
  have hq1 := hu.hl
  have hq2 := hu.pl
  have hml : nP ≤ maxLen := by simp only [maxLen]; omega
  refine ctrH _ Try.func65 rfl rfl Try.ntmps65 rfl rfl fun w Z ν => ?_
  simp only [initT, List.map_cons, List.map_nil, Nat.zero_add, Nat.reduceAdd]
  have hrow : ∀ i, i < nP → ∀ j, j < 1 → (AV.val ([Value.bool false].getD j undef)) = bf (List.replicate nP false) i j := fun i hi j hj => by
    obtain rfl : j = 0 := by omega
    simp [bf, gb, List.getD, hi]
  refine cq_seq ?_
  refine cq_region ?_
  refine sq_v (f_box_ptr 10 rfl rfl) rfl ?_
  apply sq_g; exact g_assign (s := .av (.val (.bool _))) rfl; exact rfl
  refine sq_nil ?_
  refine sq_then ?_
  refine cq_seq ?_
  refine cq_region ?_
  apply sq_g; exact g_load_own rfl rfl rfl; exact rfl
  apply sq_g; exact g_nilCheck rfl; exact rfl
  apply sq_g; exact g_field_own rfl; exact rfl
  apply sq_g; exact g_load_own rfl rfl rfl; exact rfl
  apply sq_g; exact g_len_own rfl rfl; exact rfl
  refine sq_v (f_make 15 (n := nP) (zs := [.bool false]) rfl zi4 rfl rfl (by rw [hP]) (by rw [hP]) hml (by omega) rfl) rfl ?_
  refine sq_v (f_alloc 11 rfl) rfl ?_
  refine sq_s (g_store_osl rfl rfl rfl rfl rfl) ?_
  refine sq_nil ?_
  refine sq_then ?_
  refine cq_seq ?_
  refine cq_region ?_
  refine sq_v (f_alloc 12 rfl) rfl ?_
  refine sq_nil ?_
  refine sq_then ?_
  refine cq_seq ?_
  refine cq_region ?_
  apply sq_g; exact  g_makeFunc_s (caps := [.own 10 0, .own 11 0, .own 12 0]) rfl; exact rfl
  refine sq_s (g_store' rfl rfl rfl rfl rfl rfl) ?_
  refine sq_nil ?_
  refine sq_then ?_
  refine cq_seq ?_
  refine cq_region ?_
  apply sq_g; exact g_load_own rfl rfl rfl; exact rfl
  apply sq_g; exact g_move (s := .av (.val (.int _ _))) rfl; exact rfl
  refine sq_v (VStep.pre (ent_upd (upd := [(1001, .row 3 1 nH (zf H)), (1002, .row 3 1 nP (zf P)), (15, .row 4 1 nP (bf (List.replicate nP false)))]) ⟨⟨_, rfl, .row hH (fun _ _ _ _ => rfl)⟩, ⟨_, rfl, .row hP (fun _ _ _ _ => rfl)⟩, ⟨_, rfl, .row rfl hrow⟩, trivial⟩) (v_call_hc [(1005, 15), (1010, 10), (1011, 11), (1012, 12)] ic rfl rfl ⟨rfl, rfl, rfl, rfl, rfl, rfl, rfl, rfl, rfl, trivial⟩ rfl)) rfl ?_
  apply sq_g; exact g_assign (s := .av (.val (.bool _))) rfl; exact rfl
  refine sq_nil ?_
  refine sq_then ?_
  refine cq_ret ?_
  exact sq_more (ent (T' := [(4, .av (vb q.1))]) (O' := mO (fcl HH PP lo up) q.2.H q.2.P D G) ⟨.refl _, trivial⟩ ⟨⟨_, rfl, .refl _⟩, ⟨_, rfl, .row hq1.symm (fun _ _ _ _ => rfl)⟩, ⟨_, rfl, .row hq2.symm (fun _ _ _ _ => rfl)⟩, ⟨_, rfl, .refl _⟩, ⟨_, rfl, .refl _⟩, trivial⟩) (sq_retH rfl rfl rfl)
end Go.Proofs.Ytogilkilkmoedaa
namespace Go.Proofs.Ytogilkilkmoedaa
open Go Go.Vc Go.RowKit
set_option maxHeartbeats 4000000
/-! KDQ -/
/-- A matching's memory under the names from i on. -/
abbrev mI (i : Nat) (F : AV) (m : Mt) : Go.Vc.Own := [(i, .cells [.av F, .osl (i + 1), .osl (i + 2), .osl (i + 3), .osl (i + 4)]), (i + 1, .row 3 1 m.H.length (zf m.H)), (i + 2, .row 3 1 m.P.length (zf m.P)), (i + 3, .row 4 1 m.D.length (bf m.D)), (i + 4, .row 4 1 m.G.length (bf m.G))]
abbrev Ft (HH PP : List Int) (lo up : Int) : Nat → Nat → Bool := fitN HH PP lo up
theorem growm_c (HH PP : List Int) (lo up : Int) (m : Mt) (bH : ∀ i, Bi (gz HH i)) (bP : ∀ i, Bi (gz PP i)) (sH : HH.length ≤ 1000) (sP : PP.length ≤ 1000) (hm : m.Ok HH.length PP.length) (h : Nat) (hh : h < HH.length) :
    CtrH Try.prog 65 [.own 1000 0, .av (vi h)] (mI 1000 (fcl HH PP lo up) m) (.av (vb (m.gr (fitN HH PP lo up) PP.length h).1)) (mI 1000 (fcl HH PP lo up) (m.grow (fitN HH PP lo up) PP.length h)) :=
  grow_c HH PP lo up m.H m.P m.D m.G bH bP HH.length PP.length rfl rfl hm.gl sH sP h hm.s hh
theorem sizem_c (F : AV) (m : Mt) (hn : m.H.length ≤ 1000000) : CtrH Try.prog 68 [.own 1000 0] (mI 1000 F m) (.av (vi (sz m.H))) (mI 1000 F m) := size_c F m.H m.P m.D m.G hn
theorem fill77 (parts : List (Nat × Value)) : Try.prog.built 77 parts = Instr.fill (fun i => (#[(0, 1), (1, 1), (2, 1), (3, 1), (4, 1)] : Array (Nat × Nat))[i]?) #[.nilFunc, .slice none 0 0, .slice none 0 0, .slice none 0 0, .slice none 0 0] parts := by kernel_rfl
theorem tb77 (vs : List Value) (hl : vs.length = 5) (h1 : ∀ v ∈ vs, v.oneCell' = true) : Try.prog.built 77 (List.zip [0, 1, 2, 3, 4] vs) = some vs.toArray := by
  match vs, hl with
  | [a, b, c, d, e], _ =>
    have e1 := cells_one (h1 a (by simp))
    have e2 := cells_one (h1 b (by simp))
    have e3 := cells_one (h1 c (by simp))
    have e4 := cells_one (h1 d (by simp))
    have e5 := cells_one (h1 e (by simp))
    rw [fill77]
    simp [Instr.fill, e1, e2, e3, e4, e5]
theorem one77 {F : AV} (hF : F.one = true) {r1 r2 r3 r4 : Nat} (xs : List Operand) (Z : Zone) (ν : Vals) (a : Act) (w : World) (hr : ∀ r ∈ ([CV.av F, .osl r1, .osl r2, .osl r3, .osl r4] : List CV).flatMap CV.ref, ∃ p n c, ν r = .slice p n c) (h : All2 (fun c v => CV.ok Z ν w c v) [.av F, .osl r1, .osl r2, .osl r3, .osl r4] (xs.map a.eval)) : ∀ v ∈ xs.map a.eval, v.oneCell' = true := by
  generalize xs.map a.eval = vs at h
  match vs, h with
  | [u0, u1, u2, u3, u4], h =>
    obtain ⟨h0, h1, h2, h3, h4, _⟩ := h
    have key : ∀ r ∈ ([CV.av F, .osl r1, .osl r2, .osl r3, .osl r4] : List CV).flatMap CV.ref, (ν r).oneCell' = true := fun r h => by
      obtain ⟨p, n, c, e⟩ := hr r h; rw [e]; rfl
    have e1 : u1 = ν r1 := h1
    have e2 : u2 = ν r2 := h2
    have e3 : u3 = ν r3 := h3
    have e4 : u4 = ν r4 := h4
    intro v hv
    simp only [List.mem_cons, List.not_mem_nil, or_false] at hv
    rcases hv with rfl | rfl | rfl | rfl | rfl
    · exact AV.one_cells hF h0
    · rw [e1]; exact key r1 (by simp [CV.ref])
    · rw [e2]; exact key r2 (by simp [CV.ref])
    · rw [e3]; exact key r3 (by simp [CV.ref])
    · rw [e4]; exact key r4 (by simp [CV.ref])
theorem zf1_row : ∀ i, i < 1 → ∀ j, j < 1 → ∃ u, [Value.int .i64 (-1)][i * 1 + j]? = some u ∧ zf [-1] i j = .val u := by
  intro i hi j hj
  obtain rfl : j = 0 := by omega
  obtain rfl : i = 0 := by omega
  exact ⟨_, rfl, rfl⟩
theorem bf_new {n : Nat} : ∀ i, i < n → ∀ j, j < 1 → (AV.val ([Value.bool false].getD j undef)) = bf (List.replicate n false) i j := fun i hi j hj => by
  obtain rfl : j = 0 := by omega
  simp [bf, gb, List.getD, hi]
theorem most_c (HH PP : List Int) (lo up : Int) (bH : ∀ i, Bi (gz HH i)) (bP : ∀ i, Bi (gz PP i)) (sH : HH.length ≤ 1000) (sP : PP.length ≤ 1000) :
    CtrH Try.prog 42 [.av (zs HH), .av (zs PP), .av (lim lo up)] [] (.own 1 0) (mI 1 (fcl HH PP lo up) (mostN (fitN HH PP lo up) HH.length PP.length HH.length)) := by
  refine ctrH _ Try.func42 rfl rfl Try.ntmps42 rfl rfl fun w Z ν => ?_
  have hmH : HH.length ≤ maxLen := by simp only [maxLen]; omega
  have hmP : PP.length ≤ maxLen := by simp only [maxLen]; omega
  simp only [initT, List.map_cons, List.map_nil, Nat.zero_add, Nat.reduceAdd]
  refine cq_cut [(3, .av (lz HH)), (4, .av (lz PP)), (5, .av (blim lo up))] [] ?_ ?_
  · refine cq_region ?_
    apply sq_g; exact g_box rfl rfl; exact rfl
    apply sq_g; exact g_box rfl rfl; exact rfl
    apply sq_g; exact g_box_agg rfl; exact rfl
    apply sq_g; exact g_assign (s := .av _) rfl; exact rfl
    refine sq_nil ?_
    exact sq_meet (ent ⟨.refl _, .refl _, .refl _, trivial⟩ trivial)
  refine cq_cut [(3, .av (lz HH)), (4, .av (lz PP)), (5, .av (blim lo up)), (7, .own 1 0)] (mI 1 (fcl HH PP lo up) (Mt.new HH.length PP.length)) ?_ ?_
  · refine cq_drawn ?_
    apply dq_g; exact g_makeFunc (τs := [_, _, _]) rfl; exact rfl
    apply dq_g; exact  g_bslice (is := [0]) (xs := [_]) (vs := [_]) (us := [_]) (tq22 (-1)) rfl rfl rfl zf1_row; exact rfl
    apply dq_g; exact g_load rfl rfl rfl; exact rfl
    apply dq_g; exact g_len rfl; exact rfl
    refine dq_v (ga_call_row 2 (repeat_c HH.length sH) rfl) rfl rfl ?_
    apply dq_g; exact  g_bslice (is := [0]) (xs := [_]) (vs := [_]) (us := [_]) (tq22 (-1)) rfl rfl rfl zf1_row; exact rfl
    apply dq_g; exact g_load rfl rfl rfl; exact rfl
    apply dq_g; exact g_len rfl; exact rfl
    refine dq_v (ga_call_row 3 (repeat_c PP.length sP) rfl) rfl rfl ?_
    apply dq_g; exact g_load rfl rfl rfl; exact rfl
    apply dq_g; exact g_len rfl; exact rfl
    refine dq_v (ga_make 4 (n := HH.length) (zs := [.bool false]) rfl zi4 rfl rfl rfl rfl hmH (by omega)) rfl rfl ?_
    apply dq_g; exact g_load rfl rfl rfl; exact rfl
    apply dq_g; exact g_len rfl; exact rfl
    refine dq_v (ga_make 5 (n := PP.length) (zs := [.bool false]) rfl zi4 rfl rfl rfl rfl hmP (by omega)) rfl rfl ?_
    apply dq_g; exact  g_build_sb (is := [0, 1, 2, 3, 4]) (xs := [_, _, _, _, _]) (caps := [.av (fcl HH PP lo up), .osl 2, .osl 3, .osl 4, .osl 5]) tb77 rfl rfl (one77 rfl _) rfl; exact rfl
    refine dq_v (ga_box_s 1 rfl rfl) rfl rfl ?_
    apply dq_g; exact g_assign (s := .own _ _) rfl; exact rfl
    refine dq_nil tm (by kernel_rfl) ?_
    exact sq_meet (ent ⟨.refl _, .refl _, .refl _, .refl _, trivial⟩ ⟨⟨_, rfl, .refl _⟩, ⟨_, rfl, .row (by simp [Mt.new]) (fun _ _ _ _ => rfl)⟩, ⟨_, rfl, .row (by simp [Mt.new]) (fun _ _ _ _ => rfl)⟩, ⟨_, rfl, .row (by simp [Mt.new]) bf_new⟩, ⟨_, rfl, .row (by simp [Mt.new]) bf_new⟩, trivial⟩)
  refine cq_seq ?_
  refine cq_seq ?_
  refine cq_region ?_
  apply sq_g; exact g_load rfl rfl rfl; exact rfl
  apply sq_g; exact g_len rfl; exact rfl
  apply sq_g; exact g_move (s := .av (.val (.int _ _))) rfl; exact rfl
  refine sq_nil ?_
  refine sq_then ?_
  refine cq_block ?_
  refine cq_loop (γ := Nat) (fun k => [(3, .av (lz HH)), (4, .av (lz PP)), (5, .av (blim lo up)), (7, .own 1 0), (27, .av (vi HH.length)), (28, .av (vi k))]) (fun k => mI 1 (fcl HH PP lo up) (mostN (fitN HH PP lo up) HH.length PP.length k)) (fun k => k ≤ HH.length) (fun k => HH.length - k) 0 (Nat.zero_le _) (ent ⟨.refl _, .refl _, .refl _, .refl _, .refl _, .refl _, trivial⟩ ⟨⟨_, rfl, .refl _⟩, ⟨_, rfl, .refl _⟩, ⟨_, rfl, .refl _⟩, ⟨_, rfl, .refl _⟩, ⟨_, rfl, .refl _⟩, trivial⟩) ?_
  intro k hk
  have hok := mostN_ok (fit := fitN HH PP lo up) (nP := PP.length) k hk
  refine cq_seq ?_
  refine cq_region ?_
  apply sq_g; exact g_cmp rfl rfl rfl; exact rfl
  refine sq_nil ?_
  refine sq_then ?_
  refine cq_seq ?_
  (refine cq_cond rfl (fun hb => ?_) (fun hb => ?_) <;> (try simp only [decide_eq_true_eq, decide_eq_false_iff_not, beq_iff_eq, beq_eq_false_iff_ne, bne_iff_ne, bne_eq_false_iff_eq, ne_eq, Bool.not_eq_true', Bool.not_eq_false', Bool.and_eq_true, Bool.or_eq_true, Bool.and_eq_false_iff, Bool.or_eq_false_iff] at hb) <;> (try (exfalso; omega)))
  · have hkl : k < HH.length := by omega
    have hc := growm_c HH PP lo up _ bH bP sH sP hok k hkl
    refine cq_skip ?_
    refine sq_then ?_
    refine cq_seq ?_
    refine cq_block ?_
    refine cq_seq ?_
    refine cq_region ?_
    apply sq_g; exact g_move (s := .av (.val (.int _ _))) rfl; exact rfl
    apply sq_g; exact g_assign (s := .av (.val (.int _ _))) rfl; exact rfl
    refine sq_nil ?_
    refine sq_then ?_
    refine cq_region ?_
    apply sq_g; exact g_move (s := .own _ _) rfl; exact rfl
    apply sq_g; exact g_move (s := .av (.val (.int _ _))) rfl; exact rfl
    refine sq_v (v_call_h [(1000, 1), (1001, 2), (1002, 3), (1003, 4), (1004, 5)] hc rfl ⟨rfl, rfl, rfl, rfl, rfl, trivial⟩ rfl) rfl ?_
    refine sq_nil ?_
    refine sq_then ?_
    refine cq_region ?_
    apply sq_g; exact g_arith rfl rfl rfl (by omega); exact rfl
    apply sq_g; exact g_move (s := .av (.val (.int _ _))) rfl; exact rfl
    refine sq_nil ?_
    exact sq_round (k + 1) (by omega) (by omega) (ent ⟨.refl _, .refl _, .refl _, .refl _, .refl _, .int (by omega), trivial⟩ ⟨⟨_, rfl, .refl _⟩, ⟨_, rfl, .refl _⟩, ⟨_, rfl, .refl _⟩, ⟨_, rfl, .refl _⟩, ⟨_, rfl, .refl _⟩, trivial⟩)
  · have hkl : k = HH.length := by omega
    subst hkl
    refine cq_exit ?_
    refine sq_then ?_
    refine cq_seq ?_
    refine cq_region ?_
    apply sq_g; exact g_move (s := .own _ _) rfl; exact rfl
    apply sq_g; exact g_assign (s := .own _ _) rfl; exact rfl
    refine sq_nil ?_
    refine sq_then ?_
    refine cq_ret ?_
    exact sq_more (ent (T' := [(6, .own 1 0)]) (O' := mI 1 (fcl HH PP lo up) (mostN (fitN HH PP lo up) HH.length PP.length HH.length)) ⟨.refl _, trivial⟩ ⟨⟨_, rfl, .refl _⟩, ⟨_, rfl, .refl _⟩, ⟨_, rfl, .refl _⟩, ⟨_, rfl, .refl _⟩, ⟨_, rfl, .refl _⟩, trivial⟩) (sq_retH rfl rfl rfl)
end Go.Proofs.Ytogilkilkmoedaa
namespace Go.Proofs.Ytogilkilkmoedaa
open Go Go.Vc Go.RowKit
set_option maxHeartbeats 4000000
/-! KDQ -/
abbrev mJ (i : Nat) (F : AV) (H P : List Int) (D G : List Bool) : Go.Vc.Own := [(i, .cells [.av F, .osl (i + 1), .osl (i + 2), .osl (i + 3), .osl (i + 4)]), (i + 1, .row 3 1 H.length (zf H)), (i + 2, .row 3 1 P.length (zf P)), (i + 3, .row 4 1 D.length (bf D)), (i + 4, .row 4 1 G.length (bf G))]
theorem with_c (HH PP : List Int) (lo up : Int) (m : Mt) (bH : ∀ i, Bi (gz HH i)) (bP : ∀ i, Bi (gz PP i)) (sH : HH.length ≤ 1000) (sP : PP.length ≤ 1000) (hm : m.Ok HH.length PP.length) (h p : Nat) (hh : h < HH.length) (hp : p < PP.length) :
    CtrH Try.prog 43 [.own 1000 0, .av (vi h), .av (vi p)] (mI 1000 (fcl HH PP lo up) m) (.tupR 1 [vb (m.with_ (fitN HH PP lo up) PP.length h p).1]) (mI 1 (fcl HH PP lo up) (m.with_ (fitN HH PP lo up) PP.length h p).2 ++ mI 1000 (fcl HH PP lo up) m) := by
  refine ctrH _ Try.func43 rfl rfl Try.ntmps43 rfl rfl fun w Z ν => ?_
  have eH := hm.hl
  have eP := hm.pl
  have eD := hm.dl
  have eG := hm.gl
  have hpv := hm.pv p hp
  simp only [initT, List.map_cons, List.map_nil, Nat.zero_add, Nat.reduceAdd]
  refine cq_cut [(0, .own 1000 0), (1, .av (vi h)), (2, .av (vi p))] (mI 1000 (fcl HH PP lo up) m) ?_ ?_
  · refine cq_region ?_
    apply sq_g; exact g_assign (s := .av _) rfl; exact rfl
    apply sq_g; exact g_assign (s := .av (.val (.bool _))) rfl; exact rfl
    refine sq_nil ?_
    exact sq_meet (ent ⟨.refl _, .refl _, .refl _, trivial⟩ ⟨⟨_, rfl, .refl _⟩, ⟨_, rfl, .refl _⟩, ⟨_, rfl, .refl _⟩, ⟨_, rfl, .refl _⟩, ⟨_, rfl, .refl _⟩, trivial⟩)
  refine cq_cut [(0, .own 1000 0), (1, .av (vi h)), (2, .av (vi p)), (8, .own 1 0)] (mI 1 (fcl HH PP lo up) m ++ mI 1000 (fcl HH PP lo up) m) ?_ ?_
  · have c1 := clonez_c m.H (by omega) (by omega)
    have c2 := clonez_c m.P (by omega) (by omega)
    have c3 := cloneb_c m.D (by omega) (by omega)
    have c4 := cloneb_c m.G (by omega) (by omega)
    refine cq_drawn ?_
    apply dq_g; exact g_move (s := .own _ _) rfl; exact rfl
    apply dq_g; exact g_nilCheck rfl; exact rfl
    apply dq_g; exact g_field_own rfl; exact rfl
    apply dq_g; exact g_load_own (s := .av _) rfl rfl rfl; exact rfl
    apply dq_g; exact g_move (s := .own _ _) rfl; exact rfl
    apply dq_g; exact g_nilCheck rfl; exact rfl
    apply dq_g; exact g_field_own rfl; exact rfl
    apply dq_g; exact g_load_own rfl rfl rfl; exact rfl
    refine dq_v (ga_call_rowb 2 c1 rfl (fun _ _ _ _ => ⟨_, rfl⟩)) rfl rfl ?_
    apply dq_g; exact g_move (s := .own _ _) rfl; exact rfl
    apply dq_g; exact g_nilCheck rfl; exact rfl
    apply dq_g; exact g_field_own rfl; exact rfl
    apply dq_g; exact g_load_own rfl rfl rfl; exact rfl
    refine dq_v (ga_call_rowb 3 c2 rfl (fun _ _ _ _ => ⟨_, rfl⟩)) rfl rfl ?_
    apply dq_g; exact g_move (s := .own _ _) rfl; exact rfl
    apply dq_g; exact g_nilCheck rfl; exact rfl
    apply dq_g; exact g_field_own rfl; exact rfl
    apply dq_g; exact g_load_own rfl rfl rfl; exact rfl
    refine dq_v (ga_call_rowb 4 c3 rfl (fun _ _ _ _ => ⟨_, rfl⟩)) rfl rfl ?_
    apply dq_g; exact g_move (s := .own _ _) rfl; exact rfl
    apply dq_g; exact g_nilCheck rfl; exact rfl
    apply dq_g; exact g_field_own rfl; exact rfl
    apply dq_g; exact g_load_own rfl rfl rfl; exact rfl
    refine dq_v (ga_call_rowb 5 c4 rfl (fun _ _ _ _ => ⟨_, rfl⟩)) rfl rfl ?_
    apply dq_g; exact  g_build_sb (is := [0, 1, 2, 3, 4]) (xs := [_, _, _, _, _]) (caps := [.av (fcl HH PP lo up), .osl 2, .osl 3, .osl 4, .osl 5]) tb77 rfl rfl (one77 rfl _) rfl; exact rfl
    refine dq_v (ga_box_s 1 rfl rfl) rfl rfl ?_
    apply dq_g; exact g_assign (s := .own _ _) rfl; exact rfl
    refine dq_nil tm (by kernel_rfl) ?_
    exact sq_meet (ent ⟨.refl _, .refl _, .refl _, .refl _, trivial⟩ ⟨⟨_, rfl, .refl _⟩, ⟨_, rfl, .refl _⟩, ⟨_, rfl, .refl _⟩, ⟨_, rfl, .refl _⟩, ⟨_, rfl, .refl _⟩, ⟨_, rfl, .refl _⟩, ⟨_, rfl, .refl _⟩, ⟨_, rfl, .refl _⟩, ⟨_, rfl, .refl _⟩, ⟨_, rfl, .refl _⟩, trivial⟩)
  refine cq_cut [(0, .own 1000 0), (1, .av (vi h)), (2, .av (vi p)), (8, .own 1 0)] (mJ 1 (fcl HH PP lo up) (m.h1 p) m.P m.D m.G ++ mI 1000 (fcl HH PP lo up) m) ?_ ?_
  · refine cq_seq ?_
    refine cq_region ?_
    apply sq_g; exact g_move (s := .own _ _) rfl; exact rfl
    apply sq_g; exact g_nilCheck rfl; exact rfl
    apply sq_g; exact g_field_own rfl; exact rfl
    apply sq_g; exact g_load_own rfl rfl rfl; exact rfl
    apply sq_g; exact g_move (s := .av (.val (.int _ _))) rfl; exact rfl
    apply sq_g; exact g_index_row rfl rfl rfl rfl (by omega); exact rfl
    apply sq_g; exact g_load_oel (τ := .val (.int _ _)) rfl rfl (by omega) rfl rfl; exact rfl
    apply sq_g; exact g_assign (s := .av (.val (.int _ _))) rfl; exact rfl
    refine sq_nil ?_
    refine sq_then ?_
    refine cq_seq ?_
    refine cq_region ?_
    apply sq_g; exact g_move (s := .av (.val (.int _ _))) rfl; exact rfl
    apply sq_g; exact g_cmp rfl rfl rfl; exact rfl
    refine sq_nil ?_
    refine sq_then ?_
    (refine cq_cond rfl (fun hb => ?_) (fun hb => ?_) <;> (try simp only [decide_eq_true_eq, decide_eq_false_iff_not, beq_iff_eq, beq_eq_false_iff_ne, bne_iff_ne, bne_eq_false_iff_eq, ne_eq, Bool.not_eq_true', Bool.not_eq_false', Bool.and_eq_true, Bool.or_eq_true, Bool.and_eq_false_iff, Bool.or_eq_false_iff] at hb) <;> (try (exfalso; omega)))
    · have e : m.h1 p = m.H.set (gz m.P p).toNat (-1) := by unfold Mt.h1; rw [if_pos hb]
      refine cq_region ?_
      apply sq_g; exact g_move (s := .own _ _) rfl; exact rfl
      apply sq_g; exact g_nilCheck rfl; exact rfl
      apply sq_g; exact g_field_own rfl; exact rfl
      apply sq_g; exact g_load_own rfl rfl rfl; exact rfl
      apply sq_g; exact g_move (s := .av (.val (.int _ _))) rfl; exact rfl
      apply sq_g; exact g_index_row rfl rfl rfl (Int.toNat_of_nonneg (by omega)).symm (by omega); exact rfl
      refine sq_s (g_store_oel rfl rfl rfl rfl (by omega) rfl) ?_
      refine sq_nil ?_
      exact sq_meet (ent ⟨.refl _, .refl _, .refl _, .refl _, trivial⟩ ⟨⟨_, rfl, .refl _⟩, ⟨_, rfl, by rw [e]; exact rle_z (by simp) rfl (by omega)⟩, ⟨_, rfl, .refl _⟩, ⟨_, rfl, .refl _⟩, ⟨_, rfl, .refl _⟩, ⟨_, rfl, .refl _⟩, ⟨_, rfl, .refl _⟩, ⟨_, rfl, .refl _⟩, ⟨_, rfl, .refl _⟩, ⟨_, rfl, .refl _⟩, trivial⟩)
    · have e : m.h1 p = m.H := by unfold Mt.h1; rw [if_neg (by omega)]
      refine cq_skip ?_
      exact sq_meet (ent ⟨.refl _, .refl _, .refl _, .refl _, trivial⟩ ⟨⟨_, rfl, .refl _⟩, ⟨_, rfl, by rw [e]; exact .refl _⟩, ⟨_, rfl, .refl _⟩, ⟨_, rfl, .refl _⟩, ⟨_, rfl, .refl _⟩, ⟨_, rfl, .refl _⟩, ⟨_, rfl, .refl _⟩, ⟨_, rfl, .refl _⟩, ⟨_, rfl, .refl _⟩, ⟨_, rfl, .refl _⟩, trivial⟩)
  have hhv : gz (m.h1 p) h < PP.length := by
    unfold Mt.h1
    split
    · exact gz_set_le (n := HH.length) hm.hv (by omega) h hh
    · exact hm.hv h hh
  have l1 := h1_len m p
  have l2 := p1_len m h p
  refine cq_cut [(0, .own 1000 0), (1, .av (vi h)), (2, .av (vi p)), (8, .own 1 0)] (mJ 1 (fcl HH PP lo up) (m.h1 p) (m.p1 h p) m.D m.G ++ mI 1000 (fcl HH PP lo up) m) ?_ ?_
  · refine cq_seq ?_
    refine cq_region ?_
    apply sq_g; exact g_move (s := .own _ _) rfl; exact rfl
    apply sq_g; exact g_nilCheck rfl; exact rfl
    apply sq_g; exact g_field_own rfl; exact rfl
    apply sq_g; exact g_load_own rfl rfl rfl; exact rfl
    apply sq_g; exact g_move (s := .av (.val (.int _ _))) rfl; exact rfl
    apply sq_g; exact g_index_row rfl rfl rfl rfl (by omega); exact rfl
    apply sq_g; exact g_load_oel (τ := .val (.int _ _)) rfl rfl (by omega) rfl rfl; exact rfl
    apply sq_g; exact g_assign (s := .av (.val (.int _ _))) rfl; exact rfl
    refine sq_nil ?_
    refine sq_then ?_
    refine cq_seq ?_
    refine cq_region ?_
    apply sq_g; exact g_move (s := .av (.val (.int _ _))) rfl; exact rfl
    apply sq_g; exact g_cmp rfl rfl rfl; exact rfl
    refine sq_nil ?_
    refine sq_then ?_
    (refine cq_cond rfl (fun hb => ?_) (fun hb => ?_) <;> (try simp only [decide_eq_true_eq, decide_eq_false_iff_not, beq_iff_eq, beq_eq_false_iff_ne, bne_iff_ne, bne_eq_false_iff_eq, ne_eq, Bool.not_eq_true', Bool.not_eq_false', Bool.and_eq_true, Bool.or_eq_true, Bool.and_eq_false_iff, Bool.or_eq_false_iff] at hb) <;> (try (exfalso; omega)))
    · have e : m.p1 h p = m.P.set (gz (m.h1 p) h).toNat (-1) := by unfold Mt.p1; rw [if_pos hb]
      refine cq_region ?_
      apply sq_g; exact g_move (s := .own _ _) rfl; exact rfl
      apply sq_g; exact g_nilCheck rfl; exact rfl
      apply sq_g; exact g_field_own rfl; exact rfl
      apply sq_g; exact g_load_own rfl rfl rfl; exact rfl
      apply sq_g; exact g_move (s := .av (.val (.int _ _))) rfl; exact rfl
      apply sq_g; exact g_index_row rfl rfl rfl (Int.toNat_of_nonneg (by omega)).symm (by omega); exact rfl
      refine sq_s (g_store_oel rfl rfl rfl rfl (by omega) rfl) ?_
      refine sq_nil ?_
      exact sq_meet (ent ⟨.refl _, .refl _, .refl _, .refl _, trivial⟩ ⟨⟨_, rfl, .refl _⟩, ⟨_, rfl, .refl _⟩, ⟨_, rfl, by rw [e]; exact rle_z (by simp) rfl (by omega)⟩, ⟨_, rfl, .refl _⟩, ⟨_, rfl, .refl _⟩, ⟨_, rfl, .refl _⟩, ⟨_, rfl, .refl _⟩, ⟨_, rfl, .refl _⟩, ⟨_, rfl, .refl _⟩, ⟨_, rfl, .refl _⟩, trivial⟩)
    · have e : m.p1 h p = m.P := by unfold Mt.p1; rw [if_neg (by omega)]
      refine cq_skip ?_
      exact sq_meet (ent ⟨.refl _, .refl _, .refl _, .refl _, trivial⟩ ⟨⟨_, rfl, .refl _⟩, ⟨_, rfl, .refl _⟩, ⟨_, rfl, by rw [e]; exact .refl _⟩, ⟨_, rfl, .refl _⟩, ⟨_, rfl, .refl _⟩, ⟨_, rfl, .refl _⟩, ⟨_, rfl, .refl _⟩, ⟨_, rfl, .refl _⟩, ⟨_, rfl, .refl _⟩, ⟨_, rfl, .refl _⟩, trivial⟩)
  refine cq_cut [(0, .own 1000 0), (1, .av (vi h)), (2, .av (vi p)), (8, .own 1 0)] (mJ 1 (fcl HH PP lo up) ((m.h1 p).set h (p : Int)) ((m.p1 h p).set p (h : Int)) m.D m.G ++ mI 1000 (fcl HH PP lo up) m) ?_ ?_
  · refine cq_drawn ?_
    apply dq_g; exact g_move (s := .own _ _) rfl; exact rfl
    apply dq_g; exact g_nilCheck rfl; exact rfl
    apply dq_g; exact g_field_own rfl; exact rfl
    apply dq_g; exact g_load_own rfl rfl rfl; exact rfl
    apply dq_g; exact g_move (s := .av (.val (.int _ _))) rfl; exact rfl
    apply dq_g; exact g_move (s := .own _ _) rfl; exact rfl
    apply dq_g; exact g_nilCheck rfl; exact rfl
    apply dq_g; exact g_field_own rfl; exact rfl
    apply dq_g; exact g_load_own rfl rfl rfl; exact rfl
    apply dq_g; exact g_move (s := .av (.val (.int _ _))) rfl; exact rfl
    apply dq_g; exact g_move (s := .av (.val (.int _ _))) rfl; exact rfl
    apply dq_g; exact g_move (s := .av (.val (.int _ _))) rfl; exact rfl
    apply dq_g; exact g_index_row rfl rfl rfl rfl (by omega); exact rfl
    refine dq_s (g_store_oel rfl rfl rfl rfl (by omega) rfl) ?_
    apply dq_g; exact g_index_row rfl rfl rfl rfl (by omega); exact rfl
    refine dq_s (g_store_oel rfl rfl rfl rfl (by omega) rfl) ?_
    refine dq_nil tm (by kernel_rfl) ?_
    exact sq_meet (ent ⟨.refl _, .refl _, .refl _, .refl _, trivial⟩ ⟨⟨_, rfl, .refl _⟩, ⟨_, rfl, rle_z (by simp) rfl (by omega)⟩, ⟨_, rfl, rle_z (by simp) rfl (by omega)⟩, ⟨_, rfl, .refl _⟩, ⟨_, rfl, .refl _⟩, ⟨_, rfl, .refl _⟩, ⟨_, rfl, .refl _⟩, ⟨_, rfl, .refl _⟩, ⟨_, rfl, .refl _⟩, ⟨_, rfl, .refl _⟩, trivial⟩)
  refine cq_cut [(0, .own 1000 0), (1, .av (vi h)), (2, .av (vi p)), (8, .own 1 0)] (mI 1 (fcl HH PP lo up) (m.put h p) ++ mI 1000 (fcl HH PP lo up) m) ?_ ?_
  · refine cq_drawn ?_
    apply dq_g; exact g_move (s := .own _ _) rfl; exact rfl
    apply dq_g; exact g_nilCheck rfl; exact rfl
    apply dq_g; exact g_field_own rfl; exact rfl
    apply dq_g; exact g_load_own rfl rfl rfl; exact rfl
    apply dq_g; exact g_move (s := .av (.val (.int _ _))) rfl; exact rfl
    apply dq_g; exact g_move (s := .own _ _) rfl; exact rfl
    apply dq_g; exact g_nilCheck rfl; exact rfl
    apply dq_g; exact g_field_own rfl; exact rfl
    apply dq_g; exact g_load_own rfl rfl rfl; exact rfl
    apply dq_g; exact g_move (s := .av (.val (.int _ _))) rfl; exact rfl
    apply dq_g; exact g_index_row rfl rfl rfl rfl (by omega); exact rfl
    refine dq_s (g_store_oel rfl rfl rfl rfl (by omega) rfl) ?_
    apply dq_g; exact g_index_row rfl rfl rfl rfl (by omega); exact rfl
    refine dq_s (g_store_oel rfl rfl rfl rfl (by omega) rfl) ?_
    refine dq_nil tm (by kernel_rfl) ?_
    exact sq_meet (ent ⟨.refl _, .refl _, .refl _, .refl _, trivial⟩ ⟨⟨_, rfl, .refl _⟩, ⟨_, rfl, .refl _⟩, ⟨_, rfl, .refl _⟩, ⟨_, rfl, rle_b (by simp [Mt.put]) rfl (by omega)⟩, ⟨_, rfl, rle_b (by simp [Mt.put]) rfl (by omega)⟩, ⟨_, rfl, .refl _⟩, ⟨_, rfl, .refl _⟩, ⟨_, rfl, .refl _⟩, ⟨_, rfl, .refl _⟩, ⟨_, rfl, .refl _⟩, trivial⟩)
  have hput := hm.put hh hp
  have ePH := hput.hl
  have hsz := sizem_c (fcl HH PP lo up) m (by omega)
  have hq : withL (fitN HH PP lo up) PP.length (sz m.H) HH.length 0 (m.put h p) = m.with_ (fitN HH PP lo up) PP.length h p := by unfold Mt.with_; rw [eH]
  generalize m.with_ (fitN HH PP lo up) PP.length h p = q at hq ⊢
  refine cq_seq ?_
  refine cq_region ?_
  apply sq_g; exact g_move (s := .own _ _) rfl; exact rfl
  refine sq_v (v_call_h [] hsz rfl ⟨rfl, rfl, rfl, rfl, rfl, trivial⟩ rfl) rfl ?_
  apply sq_g; exact g_assign (s := .av (.val (.int _ _))) rfl; exact rfl
  refine sq_nil ?_
  refine sq_then ?_
  refine cq_seq ?_
  refine cq_seq ?_
  refine cq_region ?_
  apply sq_g; exact g_move (s := .own _ _) rfl; exact rfl
  apply sq_g; exact g_nilCheck rfl; exact rfl
  apply sq_g; exact g_field_own rfl; exact rfl
  apply sq_g; exact g_load_own rfl rfl rfl; exact rfl
  apply sq_g; exact g_len_own rfl rfl; exact rfl
  apply sq_g; exact g_move (s := .av (.val (.int _ _))) rfl; exact rfl
  refine sq_nil ?_
  refine sq_then ?_
  refine cq_block ?_
  refine cq_loop (γ := Nat × Mt) (fun g => [(0, .own 1000 0), (8, .own 1 0), (11, .av (vi (sz m.H))), (101, .osl 2), (102, .av (vi HH.length)), (103, .av (vi g.1))]) (fun g => mI 1 (fcl HH PP lo up) g.2 ++ mI 1000 (fcl HH PP lo up) m) (fun g => g.1 ≤ HH.length ∧ g.2.Ok HH.length PP.length ∧ withL (fitN HH PP lo up) PP.length (sz m.H) (HH.length - g.1) g.1 g.2 = q) (fun g => HH.length - g.1) (0, m.put h p) ⟨Nat.zero_le _, hput, hq⟩ (ent ⟨.refl _, .refl _, .refl _, .refl _, .int (by rw [ePH]), .refl _, trivial⟩ ⟨⟨_, rfl, .refl _⟩, ⟨_, rfl, .refl _⟩, ⟨_, rfl, .refl _⟩, ⟨_, rfl, .refl _⟩, ⟨_, rfl, .refl _⟩, ⟨_, rfl, .refl _⟩, ⟨_, rfl, .refl _⟩, ⟨_, rfl, .refl _⟩, ⟨_, rfl, .refl _⟩, ⟨_, rfl, .refl _⟩, trivial⟩) ?_
  rintro ⟨i, u⟩ ⟨hi, hu, hg⟩
  dsimp only at hi hu hg ⊢
  have hul := hu.hl
  have hsu := sizem_c (fcl HH PP lo up) u (by omega)
  refine cq_seq ?_
  refine cq_region ?_
  apply sq_g; exact g_cmp rfl rfl rfl; exact rfl
  refine sq_nil ?_
  refine sq_then ?_
  refine cq_seq ?_
  (refine cq_cond rfl (fun hb => ?_) (fun hb => ?_) <;> (try simp only [decide_eq_true_eq, decide_eq_false_iff_not, beq_iff_eq, beq_eq_false_iff_ne, bne_iff_ne, bne_eq_false_iff_eq, ne_eq, Bool.not_eq_true', Bool.not_eq_false', Bool.and_eq_true, Bool.or_eq_true, Bool.and_eq_false_iff, Bool.or_eq_false_iff] at hb) <;> (try (exfalso; omega)))
  · have hi' : i < HH.length := by omega
    have hc := growm_c HH PP lo up u bH bP sH sP hu i hi'
    have hn : HH.length - i = (HH.length - (i + 1)) + 1 := by omega
    rw [hn] at hg
    unfold withL at hg
    refine cq_skip ?_
    refine sq_then ?_
    refine cq_seq ?_
    refine cq_block ?_
    refine cq_seq ?_
    refine cq_region ?_
    apply sq_g; exact g_move (s := .av (.val (.int _ _))) rfl; exact rfl
    apply sq_g; exact g_index_row rfl rfl rfl rfl (by omega); exact rfl
    apply sq_g; exact g_load_oel (τ := .val (.int _ _)) rfl rfl (by omega) rfl rfl; exact rfl
    apply sq_g; exact g_assign (s := .av (.val (.int _ _))) rfl; exact rfl
    apply sq_g; exact g_assign (s := .av (.val (.int _ _))) rfl; exact rfl
    refine sq_nil ?_
    refine sq_then ?_
    refine cq_seq ?_
    refine cq_seq ?_
    refine cq_region ?_
    apply sq_g; exact g_move (s := .own _ _) rfl; exact rfl
    refine sq_v (v_call_h [(1000, 1), (1001, 2), (1002, 3), (1003, 4), (1004, 5)] hsu rfl ⟨rfl, rfl, rfl, rfl, rfl, trivial⟩ rfl) rfl ?_
    apply sq_g; exact g_move (s := .av (.val (.int _ _))) rfl; exact rfl
    apply sq_g; exact g_cmp rfl rfl rfl; exact rfl
    refine sq_nil ?_
    refine sq_then ?_
    (refine cq_cond rfl (fun hb => ?_) (fun hb => ?_) <;> (try simp only [decide_eq_true_eq, decide_eq_false_iff_not, beq_iff_eq, beq_eq_false_iff_ne, bne_iff_ne, bne_eq_false_iff_eq, ne_eq, Bool.not_eq_true', Bool.not_eq_false', Bool.and_eq_true, Bool.or_eq_true, Bool.and_eq_false_iff, Bool.or_eq_false_iff] at hb) <;> (try (exfalso; omega)))
    · rw [if_pos (by omega)] at hg
      subst hg
      refine cq_seq ?_
      refine cq_region ?_
      apply sq_g; exact g_move (s := .own _ _) rfl; exact rfl
      apply sq_g; exact g_assign (s := .own _ _) rfl; exact rfl
      apply sq_g; exact g_assign (s := .av (.val (.bool _))) rfl; exact rfl
      refine sq_nil ?_
      refine sq_then ?_
      refine cq_ret ?_
      refine sq_then_ret ?_
      refine sq_inBlock_ret ?_
      refine sq_then_ret ?_
      refine sq_then_ret ?_
      refine sq_inBlock_ret ?_
      refine sq_then_ret ?_
      exact sq_more (ent (T' := [(6, .own 1 0), (7, .av (vb true))]) (O' := mI 1 (fcl HH PP lo up) u ++ mI 1000 (fcl HH PP lo up) m) ⟨.refl _, .refl _, trivial⟩ ⟨⟨_, rfl, .refl _⟩, ⟨_, rfl, .refl _⟩, ⟨_, rfl, .refl _⟩, ⟨_, rfl, .refl _⟩, ⟨_, rfl, .refl _⟩, ⟨_, rfl, .refl _⟩, ⟨_, rfl, .refl _⟩, ⟨_, rfl, .refl _⟩, ⟨_, rfl, .refl _⟩, ⟨_, rfl, .refl _⟩, trivial⟩) (sq_retH2 rfl rfl rfl rfl rfl)
    · rw [if_neg (by omega)] at hg
      refine cq_skip ?_
      refine sq_then ?_
      refine cq_seq ?_
      refine cq_region ?_
      apply sq_g; exact g_move (s := .av (.val (.int _ _))) rfl; exact rfl
      apply sq_g; exact g_cmp rfl rfl rfl; exact rfl
      refine sq_nil ?_
      refine sq_then ?_
      (refine cq_cond rfl (fun hb => ?_) (fun hb => ?_) <;> (try simp only [decide_eq_true_eq, decide_eq_false_iff_not, beq_iff_eq, beq_eq_false_iff_ne, bne_iff_ne, bne_eq_false_iff_eq, ne_eq, Bool.not_eq_true', Bool.not_eq_false', Bool.and_eq_true, Bool.or_eq_true, Bool.and_eq_false_iff, Bool.or_eq_false_iff] at hb) <;> (try (exfalso; omega)))
      · rw [if_pos hb] at hg
        refine cq_region ?_
        apply sq_g; exact g_move (s := .own _ _) rfl; exact rfl
        apply sq_g; exact g_move (s := .av (.val (.int _ _))) rfl; exact rfl
        refine sq_v (v_call_h [(1000, 1), (1001, 2), (1002, 3), (1003, 4), (1004, 5)] hc rfl ⟨rfl, rfl, rfl, rfl, rfl, trivial⟩ rfl) rfl ?_
        refine sq_nil ?_
        refine sq_then ?_
        refine cq_region ?_
        apply sq_g; exact g_arith rfl rfl rfl (by omega); exact rfl
        apply sq_g; exact g_move (s := .av (.val (.int _ _))) rfl; exact rfl
        refine sq_nil ?_
        exact sq_round (g := (i, u)) (i + 1, u.grow (fitN HH PP lo up) PP.length i) ⟨by dsimp only; omega, hu.grow hi', hg⟩ (by dsimp only; omega) (ent ⟨.refl _, .refl _, .refl _, .refl _, .refl _, .int (by dsimp only; omega), trivial⟩ ⟨⟨_, rfl, .refl _⟩, ⟨_, rfl, .refl _⟩, ⟨_, rfl, .refl _⟩, ⟨_, rfl, .refl _⟩, ⟨_, rfl, .refl _⟩, ⟨_, rfl, .refl _⟩, ⟨_, rfl, .refl _⟩, ⟨_, rfl, .refl _⟩, ⟨_, rfl, .refl _⟩, ⟨_, rfl, .refl _⟩, trivial⟩)
      · rw [if_neg (by omega)] at hg
        refine cq_skip ?_
        refine sq_then ?_
        refine cq_region ?_
        apply sq_g; exact g_arith rfl rfl rfl (by omega); exact rfl
        apply sq_g; exact g_move (s := .av (.val (.int _ _))) rfl; exact rfl
        refine sq_nil ?_
        exact sq_round (g := (i, u)) (i + 1, u) ⟨by dsimp only; omega, hu, hg⟩ (by dsimp only; omega) (ent ⟨.refl _, .refl _, .refl _, .refl _, .refl _, .int (by dsimp only; omega), trivial⟩ ⟨⟨_, rfl, .refl _⟩, ⟨_, rfl, .refl _⟩, ⟨_, rfl, .refl _⟩, ⟨_, rfl, .refl _⟩, ⟨_, rfl, .refl _⟩, ⟨_, rfl, .refl _⟩, ⟨_, rfl, .refl _⟩, ⟨_, rfl, .refl _⟩, ⟨_, rfl, .refl _⟩, ⟨_, rfl, .refl _⟩, trivial⟩)
  · have hi' : i = HH.length := by omega
    rw [hi', Nat.sub_self] at hg
    unfold withL at hg
    subst hg
    refine cq_exit ?_
    refine sq_then ?_
    refine cq_seq ?_
    refine cq_region ?_
    apply sq_g; exact g_move (s := .own _ _) rfl; exact rfl
    apply sq_g; exact g_move (s := .own _ _) rfl; exact rfl
    refine sq_v (v_call_h [(1000, 1), (1001, 2), (1002, 3), (1003, 4), (1004, 5)] hsu rfl ⟨rfl, rfl, rfl, rfl, rfl, trivial⟩ rfl) rfl ?_
    apply sq_g; exact g_move (s := .av (.val (.int _ _))) rfl; exact rfl
    apply sq_g; exact g_cmp rfl rfl rfl; exact rfl
    apply sq_g; exact g_assign (s := .own _ _) rfl; exact rfl
    apply sq_g; exact g_assign (s := .av (.val (.bool _))) rfl; exact rfl
    refine sq_nil ?_
    refine sq_then ?_
    refine cq_ret ?_
    exact sq_more (ent (T' := [(6, .own 1 0), (7, .av (vb (decide (sz u.H = sz m.H))))]) (O' := mI 1 (fcl HH PP lo up) u ++ mI 1000 (fcl HH PP lo up) m) ⟨.refl _, .val (congrArg Value.bool (by rw [Bool.eq_iff_iff, beq_iff_eq, decide_eq_true_eq]; omega)), trivial⟩ ⟨⟨_, rfl, .refl _⟩, ⟨_, rfl, .refl _⟩, ⟨_, rfl, .refl _⟩, ⟨_, rfl, .refl _⟩, ⟨_, rfl, .refl _⟩, ⟨_, rfl, .refl _⟩, ⟨_, rfl, .refl _⟩, ⟨_, rfl, .refl _⟩, ⟨_, rfl, .refl _⟩, ⟨_, rfl, .refl _⟩, trivial⟩) (sq_retH2 rfl rfl rfl rfl rfl)
end Go.Proofs.Ytogilkilkmoedaa
namespace Go.Proofs.Ytogilkilkmoedaa
open Go Go.Vc Go.RowKit
set_option maxHeartbeats 4000000
/-! KDQ -/
theorem any_elim {p : Nat → Bool} {n : Nat} (h : ¬ (List.range n).any p = true) : ∀ k, k < n → p k = false := fun k hk => by
  cases e : p k with
  | false => rfl
  | true => exact absurd (any_yes hk e) h
structure RightL (l : List Int) : Prop where
  len : l.length ≤ 256
  at_ : ∀ i, 0 ≤ gz l i ∧ gz l i ≤ 100000
theorem right_of {l : List Int} (h1 : ¬ 256 < l.length) (h2 : bad l = false) : RightL l := by
  refine ⟨by omega, fun i => ?_⟩
  by_cases hi : i < l.length
  · have := any_elim (by unfold bad at h2; rw [h2]; simp) i hi
    unfold badZ at this
    simp at this
    omega
  · rw [gz_out (by omega)]; omega
theorem chkL_ok {H P : List Int} (h : chkL [H, P] = 0) : RightL H ∧ RightL P := by
  unfold chkL at h
  split at h
  · omega
  · rename_i h1
    split at h
    · omega
    · rename_i h2
      have a1 := any_elim h1
      have a2 := any_elim h2
      have b1 := a1 0 (by simp)
      have b2 := a1 1 (by simp)
      have b3 := a2 0 (by simp)
      have b4 := a2 1 (by simp)
      simp only [decide_eq_false_iff_not] at b1 b2
      exact ⟨right_of b1 b3, right_of b2 b4⟩
theorem errC_ok {H P : List Int} {lo up : Int} (h : errC H P lo up = 0) : RightL H ∧ RightL P := by
  unfold errC at h
  split at h
  · rename_i h1; exact absurd h h1
  · rename_i h1; exact chkL_ok (by simpa using h1)
theorem RightL.bi {l : List Int} (h : RightL l) : ∀ i, Bi (gz l i) := fun i => by have := h.at_ i; constructor <;> omega
abbrev pO (F : AV) (m : Mt) (l : List (Nat × Nat)) : Go.Vc.Own := [(20, .cells [.av F, .osl 21, .osl 22, .osl 23, .osl 24]), (21, .row 3 1 m.H.length (zf m.H)), (22, .row 3 1 m.P.length (zf m.P)), (23, .row 4 1 m.D.length (bf m.D)), (24, .row 4 1 m.G.length (bf m.G)), (40, .row 42 2 l.length (qf l))]
abbrev pQ (F : AV) (m : Mt) (l : List (Nat × Nat)) : Go.Vc.Own := [(30, .cells [.av F, .osl 31, .osl 32, .osl 33, .osl 34]), (31, .row 3 1 m.H.length (zf m.H)), (32, .row 3 1 m.P.length (zf m.P)), (33, .row 4 1 m.D.length (bf m.D)), (34, .row 4 1 m.G.length (bf m.G)), (40, .row 42 2 l.length (qf l))]
def pairsL (HH PP : List Int) (lo up : Int) : List (Nat × Nat) := if errC HH PP lo up = 0 then (pairsN (fitN HH PP lo up) HH.length PP.length HH.length).2 else []
theorem pairs_c (HH PP : List Int) (lo up : Int) : CtrR Try.prog 16 [zs HH, zs PP, lim lo up] 42 2 (pairsL HH PP lo up).length (qf (pairsL HH PP lo up)) [vi (errC HH PP lo up)] := by
  refine ctrR _ Try.func16 rfl rfl Try.ntmps16 rfl fun w Z => ?_
  have hchk := check_c HH PP lo up
  simp only [initT, List.map_cons, List.map_nil, Nat.zero_add, Nat.reduceAdd]
  refine cq_seq ?_
  refine cq_region ?_
  apply sq_g; exact g_box_agg rfl; exact rfl
  apply sq_g; exact g_assign (s := .av _) rfl; exact rfl
  apply sq_g; exact g_assign (s := .av (.val (.int _ _))) rfl; exact rfl
  refine sq_nil ?_
  refine sq_then ?_
  refine cq_seq ?_
  refine cq_seq ?_
  refine cq_region ?_
  apply sq_g; exact g_move (s := .av _) rfl; exact rfl
  apply sq_g; exact g_move (s := .av _) rfl; exact rfl
  apply sq_g; exact g_load_agg (us := [.int _ _, .int _ _]) rfl rfl rfl rfl; exact rfl
  apply sq_g; exact g_call (hchk) rfl; exact rfl
  apply sq_g; exact g_assign (s := .av (.val (.int _ _))) rfl; exact rfl
  refine sq_nil ?_
  refine sq_then ?_
  refine cq_seq ?_
  refine cq_region ?_
  apply sq_g; exact g_move (s := .av (.val (.int _ _))) rfl; exact rfl
  apply sq_g; exact g_cmp rfl rfl rfl; exact rfl
  refine sq_nil ?_
  refine sq_then ?_
  (refine cq_cond rfl (fun hb => ?_) (fun hb => ?_) <;> (try simp only [decide_eq_true_eq, decide_eq_false_iff_not, beq_iff_eq, beq_eq_false_iff_ne, bne_iff_ne, bne_eq_false_iff_eq, ne_eq, Bool.not_eq_true', Bool.not_eq_false', Bool.and_eq_true, Bool.or_eq_true, Bool.and_eq_false_iff, Bool.or_eq_false_iff] at hb) <;> (try (exfalso; omega)))
  · have e : pairsL HH PP lo up = [] := by unfold pairsL; rw [if_neg (by omega)]
    rw [e]
    refine cq_seq ?_
    refine cq_region ?_
    apply sq_g; exact g_move (s := .av (.val (.int _ _))) rfl; exact rfl
    apply sq_g; exact g_assign (s := .av _) rfl; exact rfl
    apply sq_g; exact g_assign (s := .av (.val (.int _ _))) rfl; exact rfl
    refine sq_nil ?_
    refine sq_then ?_
    refine cq_ret ?_
    refine sq_then_ret ?_
    exact sq_retRN_nil rfl rfl rfl (τs := [vi (errC HH PP lo up)]) ⟨.tmp rfl, trivial⟩ rfl
  · have he : errC HH PP lo up = 0 := by omega
    have e : pairsL HH PP lo up = (pairsN (fitN HH PP lo up) HH.length PP.length HH.length).2 := by unfold pairsL; rw [if_pos he]
    rw [e, he]
    obtain ⟨rH, rP⟩ := errC_ok he
    have bH := rH.bi
    have bP := rP.bi
    have sH := rH.len
    have sP := rP.len
    have hmost := most_c HH PP lo up bH bP (by omega) (by omega)
    refine cq_skip ?_
    refine sq_then ?_
    refine cq_seq ?_
    refine cq_region ?_
    apply sq_g; exact g_move (s := .av _) rfl; exact rfl
    apply sq_g; exact g_move (s := .av _) rfl; exact rfl
    apply sq_g; exact g_load_agg (us := [.int _ _, .int _ _]) rfl rfl rfl rfl; exact rfl
    refine sq_v (v_call_h [(1, 20), (2, 21), (3, 22), (4, 23), (5, 24)] hmost rfl trivial rfl) rfl ?_
    apply sq_g; exact g_assign (s := .own _ _) rfl; exact rfl
    refine sq_nil ?_
    refine sq_then ?_
    refine cq_seq ?_
    refine cq_region ?_
    apply sq_g; exact g_assign (s := .av _) rfl; exact rfl
    refine sq_nil ?_
    refine sq_then ?_
    refine cq_seq ?_
    refine cq_seq ?_
    refine cq_region ?_
    apply sq_g; exact g_move (s := .av _) rfl; exact rfl
    apply sq_g; exact g_len rfl; exact rfl
    apply sq_g; exact g_move (s := .av (.val (.int _ _))) rfl; exact rfl
    refine sq_nil ?_
    refine sq_then ?_
    refine cq_block ?_
    refine cq_loop (γ := Nat) (fun k => [(0, .av (zs HH)), (1, .av (zs PP)), (9, .own 20 0), (10, .osl 40), (27, .av (vi HH.length)), (28, .av (vi k))]) (fun k => pO (fcl HH PP lo up) (pairsN (fitN HH PP lo up) HH.length PP.length k).1 (pairsN (fitN HH PP lo up) HH.length PP.length k).2) (fun k => k ≤ HH.length) (fun k => HH.length - k) 0 (Nat.zero_le _) (Ent.trans (ent_row (dd := 10) 40 42 2 (qf []) rfl rfl) (ent ⟨.refl _, .refl _, .refl _, .refl _, .refl _, .refl _, trivial⟩ ⟨⟨_, rfl, .refl _⟩, ⟨_, rfl, .refl _⟩, ⟨_, rfl, .refl _⟩, ⟨_, rfl, .refl _⟩, ⟨_, rfl, .refl _⟩, ⟨_, rfl, .refl _⟩, trivial⟩)) ?_
    intro k hk
    have hok := pairsN_ok (fit := (fitN HH PP lo up)) (nP := PP.length) k hk
    have hln := pairsN_len (fit := (fitN HH PP lo up)) (nH := HH.length) (nP := PP.length) k
    have hst : pairsN (fitN HH PP lo up) HH.length PP.length (k + 1) = ((pinsL (fitN HH PP lo up) PP.length k PP.length 0 (pairsN (fitN HH PP lo up) HH.length PP.length k).1).1, (pairsN (fitN HH PP lo up) HH.length PP.length k).2 ++ (pinsL (fitN HH PP lo up) PP.length k PP.length 0 (pairsN (fitN HH PP lo up) HH.length PP.length k).1).2) := rfl
    generalize hml : (pairsN (fitN HH PP lo up) HH.length PP.length k) = ml at hok hln hst ⊢
    obtain ⟨m, l⟩ := ml
    dsimp only at hok hln hst ⊢
    refine cq_seq ?_
    refine cq_region ?_
    apply sq_g; exact g_cmp rfl rfl rfl; exact rfl
    refine sq_nil ?_
    refine sq_then ?_
    refine cq_seq ?_
    (refine cq_cond rfl (fun hb => ?_) (fun hb => ?_) <;> (try simp only [decide_eq_true_eq, decide_eq_false_iff_not, beq_iff_eq, beq_eq_false_iff_ne, bne_iff_ne, bne_eq_false_iff_eq, ne_eq, Bool.not_eq_true', Bool.not_eq_false', Bool.and_eq_true, Bool.or_eq_true, Bool.and_eq_false_iff, Bool.or_eq_false_iff] at hb) <;> (try (exfalso; omega)))
    · have hkl : k < HH.length := by omega
      refine cq_skip ?_
      refine sq_then ?_
      refine cq_seq ?_
      refine cq_block ?_
      refine cq_seq ?_
      refine cq_region ?_
      apply sq_g; exact g_move (s := .av (.val (.int _ _))) rfl; exact rfl
      apply sq_g; exact g_assign (s := .av (.val (.int _ _))) rfl; exact rfl
      refine sq_nil ?_
      refine sq_then ?_
      refine cq_seq ?_
      refine cq_region ?_
      apply sq_g; exact g_move (s := .av _) rfl; exact rfl
      apply sq_g; exact g_len rfl; exact rfl
      apply sq_g; exact g_move (s := .av (.val (.int _ _))) rfl; exact rfl
      refine sq_nil ?_
      refine sq_then ?_
      refine cq_block ?_
      generalize hX : pinsL (fitN HH PP lo up) PP.length k PP.length 0 m = X at hst
      refine cq_loop (γ := Nat) (fun p => [(0, .av (zs HH)), (1, .av (zs PP)), (9, .own 20 0), (10, .osl 40), (27, .av (vi HH.length)), (28, .av (vi k)), (11, .av (vi k)), (32, .av (vi PP.length)), (33, .av (vi p))]) (fun _ => pO (fcl HH PP lo up) m l) (fun p => p ≤ PP.length ∧ pinsL (fitN HH PP lo up) PP.length k (PP.length - p) p m = X) (fun p => PP.length - p) 0 ⟨Nat.zero_le _, by rw [Nat.sub_zero]; exact hX⟩ (ent ⟨.refl _, .refl _, .refl _, .refl _, .refl _, .refl _, .refl _, .refl _, .refl _, trivial⟩ ⟨⟨_, rfl, .refl _⟩, ⟨_, rfl, .refl _⟩, ⟨_, rfl, .refl _⟩, ⟨_, rfl, .refl _⟩, ⟨_, rfl, .refl _⟩, ⟨_, rfl, .refl _⟩, trivial⟩) ?_
      rintro p ⟨hp, hg⟩
      refine cq_seq ?_
      refine cq_region ?_
      apply sq_g; exact g_cmp rfl rfl rfl; exact rfl
      refine sq_nil ?_
      refine sq_then ?_
      refine cq_seq ?_
      (refine cq_cond rfl (fun hb => ?_) (fun hb => ?_) <;> (try simp only [decide_eq_true_eq, decide_eq_false_iff_not, beq_iff_eq, beq_eq_false_iff_ne, bne_iff_ne, bne_eq_false_iff_eq, ne_eq, Bool.not_eq_true', Bool.not_eq_false', Bool.and_eq_true, Bool.or_eq_true, Bool.and_eq_false_iff, Bool.or_eq_false_iff] at hb) <;> (try (exfalso; omega)))
      · have hpl : p < PP.length := by omega
        have hn : PP.length - p = (PP.length - (p + 1)) + 1 := by omega
        rw [hn] at hg
        unfold pinsL at hg
        have cf := fit1_c HH PP lo up bH bP k p hkl hpl
        have hgl := hok.gl
        have wc := with_c HH PP lo up m bH bP (by omega) (by omega) hok k p hkl hpl
        generalize m.with_ (fitN HH PP lo up) PP.length k p = q at wc hg
        focus
          refine cq_skip ?_
          refine sq_then ?_
          refine cq_seq ?_
          refine cq_block ?_
          refine cq_seq ?_
          refine cq_region ?_
          apply sq_g; exact g_move (s := .av (.val (.int _ _))) rfl; exact rfl
          apply sq_g; exact g_assign (s := .av (.val (.int _ _))) rfl; exact rfl
          refine sq_nil ?_
          refine sq_then ?_
          refine cq_seq ?_
          refine cq_seq ?_
          refine cq_region ?_
          apply sq_g; exact g_move (s := .own _ _) rfl; exact rfl
          apply sq_g; exact g_nilCheck rfl; exact rfl
          apply sq_g; exact g_field_own rfl; exact rfl
          apply sq_g; exact g_load_own rfl rfl rfl; exact rfl
          apply sq_g; exact g_move (s := .av (.val (.int _ _))) rfl; exact rfl
          apply sq_g; exact g_index_row rfl rfl rfl rfl (by omega); exact rfl
          apply sq_g; exact g_load_oel (τ := .val _) rfl rfl (by omega) rfl rfl; exact rfl
          apply sq_g; exact g_move (s := .av (.val (.bool _))) rfl; exact rfl
          refine sq_split rfl rfl (fun hb => ?_) (fun hb => ?_) <;> (try simp only [decide_eq_true_eq, decide_eq_false_iff_not, beq_iff_eq, beq_eq_false_iff_ne, bne_iff_ne, bne_eq_false_iff_eq, ne_eq, Bool.not_eq_true', Bool.not_eq_false', Bool.and_eq_true, Bool.or_eq_true, Bool.and_eq_false_iff, Bool.or_eq_false_iff] at hb) <;> (try (exfalso; omega))
          refine sq_off rfl rfl rfl rfl ?_
          refine sq_off rfl rfl rfl rfl ?_
          refine sq_off rfl rfl rfl rfl ?_
          refine sq_off rfl rfl rfl rfl ?_
          refine sq_off rfl rfl rfl rfl ?_
          refine sq_off rfl rfl rfl rfl ?_
          refine sq_off rfl rfl rfl rfl ?_
          refine sq_off rfl rfl rfl rfl ?_
          apply sq_g; exact g_pick (s := .av (.val (.bool _))) rfl rfl; exact rfl
          refine sq_nil ?_
          refine sq_then ?_
          refine cq_cond_t rfl ?_
          refine cq_exit ?_
          refine sq_then ?_
          refine cq_region ?_
          apply sq_g; exact g_arith rfl rfl rfl (by omega); exact rfl
          apply sq_g; exact g_move (s := .av (.val (.int _ _))) rfl; exact rfl
          refine sq_nil ?_
          rotate_left
          apply sq_on; exact g_move (s := .own _ _) rfl; exact rfl; exact rfl; exact rfl
          apply sq_on; exact g_nilCheck rfl; exact rfl; exact rfl; exact rfl
          apply sq_on; exact g_field_own rfl; exact rfl; exact rfl; exact rfl
          apply sq_on; exact g_load_own (s := .av _) rfl rfl rfl; exact rfl; exact rfl; exact rfl
          apply sq_on; exact g_move (s := .av (.val (.int _ _))) rfl; exact rfl; exact rfl; exact rfl
          apply sq_on; exact g_move (s := .av (.val (.int _ _))) rfl; exact rfl; exact rfl; exact rfl
          apply sq_on; exact  g_callc (τs := [_, _]) (n := 3) (cf := fun i => [lz HH, lz PP, blim lo up].getD i .any) cf rfl rfl; exact rfl; exact rfl; exact rfl
          apply sq_on; exact g_not rfl; exact rfl; exact rfl; exact rfl
          apply sq_g; exact g_pick (s := .av (.val (.bool _))) rfl rfl; exact rfl
          refine sq_nil ?_
          refine sq_then ?_
          rotate_left
        · rw [if_pos (by rw [hb]; rfl)] at hg
          exact sq_round (p + 1) ⟨by omega, hg⟩ (by omega) (ent ⟨.refl _, .refl _, .refl _, .refl _, .refl _, .refl _, .refl _, .refl _, .int (by omega), trivial⟩ ⟨⟨_, rfl, .refl _⟩, ⟨_, rfl, .refl _⟩, ⟨_, rfl, .refl _⟩, ⟨_, rfl, .refl _⟩, ⟨_, rfl, .refl _⟩, ⟨_, rfl, .refl _⟩, trivial⟩)
        · have hG : gb m.G p = false := by assumption
          refine cq_cond rfl (fun hb => ?_) (fun hb => ?_)
          · rw [if_pos (by rw [hb]; simp)] at hg
            refine cq_exit ?_
            refine sq_then ?_
            refine cq_region ?_
            apply sq_g; exact g_arith rfl rfl rfl (by omega); exact rfl
            apply sq_g; exact g_move (s := .av (.val (.int _ _))) rfl; exact rfl
            refine sq_nil ?_
            exact sq_round (p + 1) ⟨by omega, hg⟩ (by omega) (ent ⟨.refl _, .refl _, .refl _, .refl _, .refl _, .refl _, .refl _, .refl _, .int (by omega), trivial⟩ ⟨⟨_, rfl, .refl _⟩, ⟨_, rfl, .refl _⟩, ⟨_, rfl, .refl _⟩, ⟨_, rfl, .refl _⟩, ⟨_, rfl, .refl _⟩, ⟨_, rfl, .refl _⟩, trivial⟩)
          · rw [if_neg (by rw [hG, hb]; simp)] at hg
            refine cq_skip ?_
            refine sq_then ?_
            refine cq_seq ?_
            refine cq_region ?_
            apply sq_g; exact g_move (s := .own _ _) rfl; exact rfl
            apply sq_g; exact g_move (s := .av (.val (.int _ _))) rfl; exact rfl
            apply sq_g; exact g_move (s := .av (.val (.int _ _))) rfl; exact rfl
            refine sq_v (v_call_h [(1000, 20), (1001, 21), (1002, 22), (1003, 23), (1004, 24), (1, 30), (2, 31), (3, 32), (4, 33), (5, 34)] wc rfl ⟨rfl, rfl, rfl, rfl, rfl, trivial⟩ rfl) rfl ?_
            apply sq_g; exact g_move (s := .tupR _ _) rfl; exact rfl
            apply sq_g; exact  g_extractP0 rfl rfl; exact rfl
            apply sq_g; exact g_extractR rfl rfl; exact rfl
            apply sq_g; exact g_assign (s := .own _ _) rfl; exact rfl
            apply sq_g; exact g_assign (s := .av (.val (.bool _))) rfl; exact rfl
            refine sq_nil ?_
            refine sq_then ?_
            refine cq_seq ?_
            refine cq_region ?_
            apply sq_g; exact g_move (s := .av (.val (.bool _))) rfl; exact rfl
            refine sq_nil ?_
            refine sq_then ?_
            refine cq_cond rfl (fun hb => ?_) (fun hb => ?_)
            · rw [if_pos hb] at hg
              refine cq_seq ?_
              refine cq_region ?_
              apply sq_g; exact g_move (s := .own _ _) rfl; exact rfl
              apply sq_g; exact g_assign (s := .own _ _) rfl; exact rfl
              refine sq_nil ?_
              refine sq_then ?_
              refine cq_seq ?_
              refine cq_region ?_
              apply sq_g; exact g_move (s := .osl _) rfl; exact rfl
              apply sq_g; exact g_move (s := .av (.val (.int _ _))) rfl; exact rfl
              apply sq_g; exact g_move (s := .av (.val (.int _ _))) rfl; exact rfl
              apply sq_g; exact g_build (is := [0, 1]) (xs := [_, _]) (vs := [_, _]) (tb42 _ _) rfl rfl; exact rfl
              apply sq_g; exact g_one_pr (tq33 _ _) rfl rfl rfl; exact rfl
              refine sq_v (v_push_pr rfl rfl rfl (by omega) rfl) rfl ?_
              apply sq_g; exact g_assign (s := .osl _) rfl; exact rfl
              refine sq_nil ?_
              refine sq_then ?_
              refine cq_exit ?_
              refine sq_then ?_
              refine cq_region ?_
              apply sq_g; exact g_arith rfl rfl rfl (by omega); exact rfl
              apply sq_g; exact g_move (s := .av (.val (.int _ _))) rfl; exact rfl
              refine sq_nil ?_
              rw [← hg] at hst
              refine sq_round (k + 1) (by omega) (by omega) ?_
              rw [hst]
              exact Ent.trans (ent (T' := [(0, .av (zs HH)), (1, .av (zs PP)), (9, .own 30 0), (10, .osl 40), (27, .av (vi HH.length)), (28, .av (vi (k + 1 : Nat)))]) (O' := pQ (fcl HH PP lo up) q.2 (l ++ [(k, p)])) ⟨.refl _, .refl _, .refl _, .refl _, .refl _, .int (by omega), trivial⟩ ⟨⟨_, rfl, .refl _⟩, ⟨_, rfl, .refl _⟩, ⟨_, rfl, .refl _⟩, ⟨_, rfl, .refl _⟩, ⟨_, rfl, .refl _⟩, ⟨_, rfl, .refl _⟩, trivial⟩) (ent_ren [(20, 30), (21, 31), (22, 32), (23, 33), (24, 34)] ⟨rfl, rfl, rfl, rfl, rfl, rfl, trivial⟩ ⟨rfl, rfl, rfl, rfl, rfl, rfl, trivial⟩ rfl rfl)
            · rw [if_neg (by rw [hb]; simp)] at hg
              refine cq_skip ?_
              refine sq_then ?_
              refine cq_region ?_
              apply sq_g; exact g_arith rfl rfl rfl (by omega); exact rfl
              apply sq_g; exact g_move (s := .av (.val (.int _ _))) rfl; exact rfl
              refine sq_nil ?_
              exact sq_round (p + 1) ⟨by omega, hg⟩ (by omega) (ent ⟨.refl _, .refl _, .refl _, .refl _, .refl _, .refl _, .refl _, .refl _, .int (by omega), trivial⟩ ⟨⟨_, rfl, .refl _⟩, ⟨_, rfl, .refl _⟩, ⟨_, rfl, .refl _⟩, ⟨_, rfl, .refl _⟩, ⟨_, rfl, .refl _⟩, ⟨_, rfl, .refl _⟩, trivial⟩)
      · have hpl : p = PP.length := by omega
        rw [hpl, Nat.sub_self] at hg
        unfold pinsL at hg
        rw [← hg, List.append_nil] at hst
        refine cq_exit ?_
        refine sq_then ?_
        refine cq_region ?_
        apply sq_g; exact g_arith rfl rfl rfl (by omega); exact rfl
        apply sq_g; exact g_move (s := .av (.val (.int _ _))) rfl; exact rfl
        refine sq_nil ?_
        refine sq_round (k + 1) (by omega) (by omega) ?_
        rw [hst]
        exact ent ⟨.refl _, .refl _, .refl _, .refl _, .refl _, .int (by omega), trivial⟩ ⟨⟨_, rfl, .refl _⟩, ⟨_, rfl, .refl _⟩, ⟨_, rfl, .refl _⟩, ⟨_, rfl, .refl _⟩, ⟨_, rfl, .refl _⟩, ⟨_, rfl, .refl _⟩, trivial⟩
    · have hkl : k = HH.length := by omega
      subst hkl
      refine cq_exit ?_
      refine sq_then ?_
      refine cq_seq ?_
      refine cq_region ?_
      apply sq_g; exact g_move (s := .osl _) rfl; exact rfl
      apply sq_g; exact g_assign (s := .osl _) rfl; exact rfl
      apply sq_g; exact g_assign (s := .av (.val (.int _ _))) rfl; exact rfl
      refine sq_nil ?_
      refine sq_then ?_
      refine cq_ret ?_
      exact sq_retRN rfl rfl rfl (by rw [hml]) (fun _ _ _ _ => by rw [hml]) (τs := [vi 0]) ⟨.tmp rfl, trivial⟩ rfl
end Go.Proofs.Ytogilkilkmoedaa
