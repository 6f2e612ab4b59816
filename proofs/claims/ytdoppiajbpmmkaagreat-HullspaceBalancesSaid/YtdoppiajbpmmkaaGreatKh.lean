/- A part of the proof that the law returns true at every input and that the input reads behind the call as it read before; this part states nothing of its own that needs a condition of the input. -/
import Derived.Test.YtdoppiajbpmmkaaGreatKg
import Derived.Test.YtdoppiajbpmmkaaGreatGb
set_option linter.unusedVariables false
set_option linter.unusedSimpArgs false
set_option linter.unnecessarySimpa false
namespace Go.Proofs.YtdoppiajbpmmkaaGreat
open Go Go.Vc Go.RowKit
set_option maxHeartbeats 8000000
/-! KDQ -/
theorem has28_c (f : Fc) (hn : f.s.length ≤ 1000) (a : Int) : CtrA Tryz.prog 28 [vi a, .ptr 5 (fcf f)] (vb (!hasB (natL f.s) a)) := by
  have hc := contains_c (natL f.s) a (by simp; omega)
  rw [show zs (natL f.s) = .sl f.s.length 1 (xf f.s) from by rw [xf_natL, zs, List.length_map]] at hc
  refine ctrA _ Tryz.func28 rfl rfl Tryz.ntmps28 rfl fun w Z => ?_
  simp only [initT, List.map_cons, List.map_nil, Nat.zero_add, Nat.reduceAdd]
  refine cq_seq ?_
  refine cq_region ?_
  apply sq_g; exact g_assign (s := .av (.val (.bool _))) rfl; exact rfl
  refine sq_nil ?_
  refine sq_then ?_
  refine cq_seq ?_
  refine cq_region ?_
  apply sq_g; exact g_field rfl; exact rfl
  apply sq_g; exact g_load rfl rfl rfl; exact rfl
  apply sq_g; exact g_move (s := .av (.val (.int _ _))) rfl; exact rfl
  apply sq_g; exact g_call (hc) rfl; exact rfl
  apply sq_g; exact g_not rfl; exact rfl
  apply sq_g; exact g_assign (s := .av (.val (.bool _))) rfl; exact rfl
  refine sq_nil ?_
  refine sq_then ?_
  refine cq_ret ?_
  exact sq_res1 rfl (.tmp rfl) rfl
abbrev kcl (g : Nat) (cap : AV) : AV := .clo g 1 (fun i => [cap].getD i .any)
theorem indexk_c {g : Nat} {p : Int → Bool} {cap : AV} (hg : ∀ n, CtrA Tryz.prog g [vi n, cap] (vb (p n))) (l : List Int) (hn : l.length ≤ 100000) : CtrA Tryz.prog 57 [zs l, kcl g cap] (vi (ixB (fun k => p (gz l k)) l.length)) := by
  refine ctrA _ Tryz.func57 rfl rfl Tryz.ntmps57 rfl fun w Z => ?_
  simp only [initT, List.map_cons, List.map_nil, Nat.zero_add, Nat.reduceAdd]
  refine cq_seq ?_
  refine cq_region ?_
  apply sq_g; exact g_assign (s := .av (.val (.int _ _))) rfl; exact rfl
  refine sq_nil ?_
  refine sq_then ?_
  refine cq_seq ?_
  refine cq_seq ?_
  refine cq_region ?_
  apply sq_g; exact g_move (s := .av _) rfl; exact rfl
  apply sq_g; exact g_len rfl; exact rfl
  apply sq_g; exact g_move (s := .av (.val (.int _ _))) rfl; exact rfl
  refine sq_nil ?_
  refine sq_then ?_
  refine cq_block ?_
  refine cq_loop (γ := Nat) (fun k => [(0, .av (zs l)), (1, .av (kcl g cap)), (6, .av (zs l)), (7, .av (vi l.length)), (8, .av (vi k))]) (fun _ => []) (fun k => k ≤ l.length ∧ ∀ j, j < k → p (gz l j) = false) (fun k => l.length - k) 0 ⟨Nat.zero_le _, by omega⟩ (ent ⟨.refl _, .refl _, .refl _, .refl _, .refl _, trivial⟩ trivial) ?_
  rintro k ⟨hk, hall⟩
  refine cq_seq ?_
  refine cq_region ?_
  apply sq_g; exact g_cmp rfl rfl rfl; exact rfl
  refine sq_nil ?_
  refine sq_then ?_
  refine cq_seq ?_
  (refine cq_cond rfl (fun hb => ?_) (fun hb => ?_) <;> (try simp only [decide_eq_true_eq, decide_eq_false_iff_not, beq_iff_eq, beq_eq_false_iff_ne, bne_iff_ne, bne_eq_false_iff_eq, ne_eq, Bool.not_eq_true', Bool.not_eq_false', Bool.and_eq_true, Bool.or_eq_true, Bool.and_eq_false_iff, Bool.or_eq_false_iff] at hb) <;> (try (exfalso; omega)))
  · have hkl : k < l.length := by omega
    have hgk := hg (gz l k)
    refine cq_skip ?_
    refine sq_then ?_
    refine cq_seq ?_
    refine cq_block ?_
    refine cq_seq ?_
    refine cq_region ?_
    apply sq_g; exact g_move (s := .av (.val (.int _ _))) rfl; exact rfl
    apply sq_g; exact g_assign (s := .av (.val (.int _ _))) rfl; exact rfl
    refine sq_nil ?_
    refine sq_then ?_
    refine cq_seq ?_
    refine cq_region ?_
    apply sq_g; exact g_move (s := .av _) rfl; exact rfl
    apply sq_g; exact g_move (s := .av _) rfl; exact rfl
    apply sq_g; exact g_move (s := .av (.val (.int _ _))) rfl; exact rfl
    apply sq_g; exact g_index rfl rfl rfl (by omega); exact rfl
    apply sq_g; exact g_load (τ := .val (.int _ _)) rfl rfl rfl; exact rfl
    apply sq_g; exact  g_callc (τs := [_]) (n := 1) (cf := fun i => [cap].getD i .any) hgk rfl rfl; exact rfl
    refine sq_nil ?_
    refine sq_then ?_
    (refine cq_cond rfl (fun hb => ?_) (fun hb => ?_) <;> (try simp only [decide_eq_true_eq, decide_eq_false_iff_not, beq_iff_eq, beq_eq_false_iff_ne, bne_iff_ne, bne_eq_false_iff_eq, ne_eq, Bool.not_eq_true', Bool.not_eq_false', Bool.and_eq_true, Bool.or_eq_true, Bool.and_eq_false_iff, Bool.or_eq_false_iff] at hb) <;> (try (exfalso; omega)))
    · have e1 := ixB_hit (p := fun k => p (gz l k)) hkl hall hb
      refine cq_seq ?_
      refine cq_region ?_
      apply sq_g; exact g_move (s := .av (.val (.int _ _))) rfl; exact rfl
      apply sq_g; exact g_assign (s := .av (.val (.int _ _))) rfl; exact rfl
      refine sq_nil ?_
      refine sq_then ?_
      refine cq_ret ?_
      refine sq_inBlock_ret ?_
      refine sq_then_ret ?_
      refine sq_then_ret ?_
      refine sq_inBlock_ret ?_
      refine sq_then_ret ?_
      exact sq_res1 rfl (.tmp rfl) (by rw [e1])
    · refine cq_skip ?_
      refine sq_then ?_
      refine cq_region ?_
      apply sq_g; exact g_arith rfl rfl rfl (by omega); exact rfl
      apply sq_g; exact g_move (s := .av (.val (.int _ _))) rfl; exact rfl
      refine sq_nil ?_
      exact sq_round (k + 1) ⟨by omega, flt_step (p := fun k => p (gz l k)) hall (by simpa using hb)⟩ (by omega) (ent ⟨.refl _, .refl _, .refl _, .refl _, .int (by omega), trivial⟩ trivial)
  · have hkl : k = l.length := by omega
    subst hkl
    have e1 := ixB_no (p := fun k => p (gz l k)) hall
    refine cq_exit ?_
    refine sq_then ?_
    refine cq_seq ?_
    refine cq_region ?_
    apply sq_g; exact g_assign (s := .av (.val (.int _ _))) rfl; exact rfl
    refine sq_nil ?_
    refine sq_then ?_
    refine cq_ret ?_
    exact sq_res1 rfl (.tmp rfl) (by rw [e1])
theorem ix_any (p : Nat → Bool) (n : Nat) : decide (0 ≤ ixB p n) = (List.range n).any p := by
  unfold ixB
  cases hf : (List.range n).find? p with
  | none =>
    have h := List.find?_eq_none.1 hf
    rw [any_ff (fun i hi => by cases e : p i; rfl; exact absurd e (h i (List.mem_range.2 hi)))]
    rfl
  | some j =>
    have h1 := List.find?_some hf
    have h2 := List.mem_range.1 (List.mem_of_find?_eq_some hf)
    rw [any_t h2 h1]
    simp
theorem containsk_c {g : Nat} {p : Int → Bool} {cap : AV} (hg : ∀ n, CtrA Tryz.prog g [vi n, cap] (vb (p n))) (l : List Int) (hn : l.length ≤ 100000) : CtrA Tryz.prog 27 [zs l, kcl g cap] (vb ((List.range l.length).any fun k => p (gz l k))) := by
  refine ctrA _ Tryz.func27 rfl rfl Tryz.ntmps27 rfl fun w Z => ?_
  have hi := indexk_c hg l hn
  simp only [initT, List.map_cons, List.map_nil, Nat.zero_add, Nat.reduceAdd]
  refine cq_seq ?_
  refine cq_region ?_
  apply sq_g; exact g_assign (s := .av (.val (.bool _))) rfl; exact rfl
  refine sq_nil ?_
  refine sq_then ?_
  refine cq_seq ?_
  refine cq_region ?_
  apply sq_g; exact g_move (s := .av _) rfl; exact rfl
  apply sq_g; exact g_move (s := .av _) rfl; exact rfl
  apply sq_g; exact g_call (hi) rfl; exact rfl
  apply sq_g; exact g_cmp rfl rfl rfl; exact rfl
  apply sq_g; exact g_assign (s := .av (.val (.bool _))) rfl; exact rfl
  refine sq_nil ?_
  refine sq_then ?_
  refine cq_ret ?_
  exact sq_res1 rfl (.tmp rfl) (congrArg vb (ix_any _ _))
/-- How many facets have all of some points. -/
def hasAll (f : Fc) (A : List Int) : Bool := !((List.range A.length).any fun k => !hasB (natL f.s) (gz A k))
def cA (L : List Fc) (A : List Int) : Nat → Nat
  | 0 => 0
  | q + 1 => cA L A q + if hasAll (gf L q) A = true then 1 else 0
theorem cA_le (L : List Fc) (A : List Int) : ∀ q, cA L A q ≤ q
  | 0 => Nat.le_refl _
  | q + 1 => by have := cA_le L A q; unfold cA; split <;> omega
abbrev bx (τ : AV) : AV := .ptr 1 (fun _ => τ)
theorem count26_c (L : List Fc) (A : List Int) (hL : L.length ≤ 1000) (hs : ∀ f ∈ L, f.s.length ≤ 1000) (hA : A.length ≤ 100000) : CtrA Tryz.prog 26 [zs A, bx (fs L)] (vi ((cA L A L.length : Nat) : Int)) := by
  have hle := cA_le L A
  refine ctrA _ Tryz.func26 rfl rfl Tryz.ntmps26 rfl fun w Z => ?_
  simp only [initT, List.map_cons, List.map_nil, Nat.zero_add, Nat.reduceAdd]
  refine cq_seq ?_
  refine cq_region ?_
  apply sq_g; exact g_assign (s := .av (.val (.int _ _))) rfl; exact rfl
  refine sq_nil ?_
  refine sq_then ?_
  refine cq_seq ?_
  refine cq_region ?_
  apply sq_g; exact g_assign (s := .av (.val (.int _ _))) rfl; exact rfl
  refine sq_nil ?_
  refine sq_then ?_
  refine cq_seq ?_
  refine cq_seq ?_
  refine cq_region ?_
  apply sq_g; exact g_load rfl rfl rfl; exact rfl
  apply sq_g; exact g_len rfl; exact rfl
  apply sq_g; exact g_move (s := .av (.val (.int _ _))) rfl; exact rfl
  refine sq_nil ?_
  refine sq_then ?_
  refine cq_block ?_
  refine cq_loop (γ := Nat) (fun k => [(0, .av (zs A)), (4, .av (vi ((cA L A k : Nat) : Int))), (7, .av (fs L)), (8, .av (vi L.length)), (9, .av (vi k))]) (fun _ => []) (fun k => k ≤ L.length) (fun k => L.length - k) 0 (Nat.zero_le _) (ent ⟨.refl _, .refl _, .refl _, .refl _, .refl _, trivial⟩ trivial) ?_
  intro k hk
  have hle := hle k
  refine cq_seq ?_
  refine cq_region ?_
  apply sq_g; exact g_cmp rfl rfl rfl; exact rfl
  refine sq_nil ?_
  refine sq_then ?_
  refine cq_seq ?_
  (refine cq_cond rfl (fun hb => ?_) (fun hb => ?_) <;> (try simp only [decide_eq_true_eq, decide_eq_false_iff_not, beq_iff_eq, beq_eq_false_iff_ne, bne_iff_ne, bne_eq_false_iff_eq, ne_eq, Bool.not_eq_true', Bool.not_eq_false', Bool.and_eq_true, Bool.or_eq_true, Bool.and_eq_false_iff, Bool.or_eq_false_iff] at hb) <;> (try (exfalso; omega)))
  · have hkl : k < L.length := by omega
    have e1 : cA L A (k + 1) = cA L A k + if hasAll (gf L k) A = true then 1 else 0 := rfl
    have hff : ∀ j, ff L k j = fcf (gf L k) j := fun _ => rfl
    have hk28 := containsk_c (has28_c (gf L k) (hs _ (gf_mem hkl))) A hA
    refine cq_skip ?_
    refine sq_then ?_
    refine cq_seq ?_
    refine cq_block ?_
    refine cq_seq ?_
    refine cq_region ?_
    apply sq_g; exact g_index rfl rfl rfl (by omega); exact rfl
    apply sq_g; exact  g_load_aggv rfl rfl; exact rfl
    refine sq_v (f_alloc 10 rfl) rfl ?_
    refine sq_s (g_store_aggv rfl rfl (fcf_one (gf L k)) rfl rfl) ?_
    refine sq_nil ?_
    refine sq_then ?_
    refine cq_seq ?_
    refine cq_region ?_
    apply sq_g; exact g_move (s := .av _) rfl; exact rfl
    refine lsq_ent (ent_freezec 6 10 (fcf (gf L k)) rfl rfl rfl) ?_
    apply sq_g; exact g_makeFunc (τs := [_]) rfl; exact rfl
    apply sq_g; exact g_call (hk28) rfl; exact rfl
    apply sq_g; exact g_not rfl; exact rfl
    refine sq_nil ?_
    refine sq_then ?_
    (refine cq_cond rfl (fun hb => ?_) (fun hb => ?_) <;> (try simp only [decide_eq_true_eq, decide_eq_false_iff_not, beq_iff_eq, beq_eq_false_iff_ne, bne_iff_ne, bne_eq_false_iff_eq, ne_eq, Bool.not_eq_true', Bool.not_eq_false', Bool.and_eq_true, Bool.or_eq_true, Bool.and_eq_false_iff, Bool.or_eq_false_iff] at hb) <;> (try (exfalso; omega)))
    · rw [if_pos (show hasAll (gf L k) A = true from by unfold hasAll; rw [hb]; rfl)] at e1
      refine cq_region ?_
      apply sq_g; exact g_move (s := .av (.val (.int _ _))) rfl; exact rfl
      apply sq_g; exact g_arith rfl rfl rfl (by omega); exact rfl
      apply sq_g; exact g_assign (s := .av (.val (.int _ _))) rfl; exact rfl
      refine sq_nil ?_
      refine sq_then ?_
      refine cq_region ?_
      apply sq_g; exact g_arith rfl rfl rfl (by omega); exact rfl
      apply sq_g; exact g_move (s := .av (.val (.int _ _))) rfl; exact rfl
      refine sq_nil ?_
      exact sq_round (k + 1) (by omega) (by omega) (ent ⟨.refl _, .int (by omega), .refl _, .refl _, .int (by omega), trivial⟩ trivial)
    · rw [if_neg (show ¬ hasAll (gf L k) A = true from by unfold hasAll; rw [hb]; decide)] at e1
      refine cq_skip ?_
      refine sq_then ?_
      refine cq_region ?_
      apply sq_g; exact g_arith rfl rfl rfl (by omega); exact rfl
      apply sq_g; exact g_move (s := .av (.val (.int _ _))) rfl; exact rfl
      refine sq_nil ?_
      exact sq_round (k + 1) (by omega) (by omega) (ent ⟨.refl _, .int (by omega), .refl _, .refl _, .int (by omega), trivial⟩ trivial)
  · have hkl : k = L.length := by omega
    subst hkl
    refine cq_exit ?_
    refine sq_then ?_
    refine cq_seq ?_
    refine cq_region ?_
    apply sq_g; exact g_move (s := .av (.val (.int _ _))) rfl; exact rfl
    apply sq_g; exact g_assign (s := .av (.val (.int _ _))) rfl; exact rfl
    refine sq_nil ?_
    refine sq_then ?_
    refine cq_ret ?_
    exact sq_res1 rfl (.tmp rfl) rfl
abbrev ccl (L : List Fc) : AV := kcl 26 (bx (fs L))
theorem zs1_row (a : Int) : ∀ i, i < 1 → ∀ j, j < 1 → ∃ u, [Value.int .i64 a][i * 1 + j]? = some u ∧ zf [a] i j = .val u := fun i hi j hj => by
  obtain ⟨rfl, rfl⟩ : i = 0 ∧ j = 0 := by omega
  exact ⟨_, rfl, rfl⟩
theorem bs26_a (a : Int) (w : World) : (Instr.buildSlice 26 1 ([0].zip [.int .i64 a]).toArray).run Tryz.prog w = .ok (.slice (some ⟨w.heap.size, 0, none⟩) 1 1) (w.alloc (.cells [Value.int .i64 a].toArray 3)) := by kernel_rfl
theorem deg30_c (L : List Fc) (hL : L.length ≤ 1000) (hs : ∀ f ∈ L, f.s.length ≤ 1000) (a : Int) : CtrA Tryz.prog 30 [vi a, bx (ccl L)] (vb (decide (((cA L [a] L.length : Nat) : Int) < 3))) := by
  have hc := count26_c L [a] hL hs (show 1 ≤ 100000 by decide)
  generalize cA L [a] L.length = m at hc
  refine ctrA _ Tryz.func30 rfl rfl Tryz.ntmps30 rfl fun w Z => ?_
  simp only [initT, List.map_cons, List.map_nil, Nat.zero_add, Nat.reduceAdd]
  refine cq_seq ?_
  refine cq_region ?_
  apply sq_g; exact g_assign (s := .av (.val (.bool _))) rfl; exact rfl
  refine sq_nil ?_
  refine sq_then ?_
  refine cq_seq ?_
  refine cq_region ?_
  apply sq_g; exact g_load rfl rfl rfl; exact rfl
  apply sq_g; exact g_move (s := .av (.val (.int _ _))) rfl; exact rfl
  apply sq_g; exact  g_bslice (is := [0]) (xs := [_]) (vs := [_]) (us := [_]) (bs26_a _) rfl rfl rfl (zs1_row a); exact rfl
  apply sq_g; exact  g_callc (τs := [_]) (n := 1) (cf := fun i => [bx (fs L)].getD i .any) hc rfl rfl; exact rfl
  apply sq_g; exact g_cmp rfl rfl rfl; exact rfl
  apply sq_g; exact g_assign (s := .av (.val (.bool _))) rfl; exact rfl
  refine sq_nil ?_
  refine sq_then ?_
  refine cq_ret ?_
  exact sq_res1 rfl (.tmp rfl) rfl
abbrev ep (a b : Int) : AV := .val (.agg #[.int .i64 a, .int .i64 b])
theorem zs2_row (a b : Int) : ∀ i, i < 2 → ∀ j, j < 1 → ∃ u, [Value.int .i64 a, .int .i64 b][i * 1 + j]? = some u ∧ zf [a, b] i j = .val u := fun i hi j hj => by
  obtain rfl : j = 0 := by omega
  rcases (by omega : i = 0 ∨ i = 1) with rfl | rfl <;> exact ⟨_, rfl, rfl⟩
theorem edge32_c (L : List Fc) (hL : L.length ≤ 1000) (hs : ∀ f ∈ L, f.s.length ≤ 1000) (a b : Int) : CtrA Tryz.prog 32 [ep a b, bx (ccl L)] (vb (decide (((cA L [a, b] L.length : Nat) : Int) ≠ 2))) := by
  have hc := count26_c L [a, b] hL hs (show 2 ≤ 100000 by decide)
  generalize cA L [a, b] L.length = m at hc
  refine ctrA _ Tryz.func32 rfl rfl Tryz.ntmps32 rfl fun w Z => ?_
  simp only [initT, List.map_cons, List.map_nil, Nat.zero_add, Nat.reduceAdd]
  refine cq_seq ?_
  refine cq_region ?_
  apply sq_g; exact g_box_agg rfl; exact rfl
  apply sq_g; exact g_assign (s := .av (.val (.bool _))) rfl; exact rfl
  refine sq_nil ?_
  refine sq_then ?_
  refine cq_seq ?_
  refine cq_region ?_
  apply sq_g; exact g_load rfl rfl rfl; exact rfl
  apply sq_g; exact g_index_arr rfl rfl rfl (by decide) rfl; exact rfl
  apply sq_g; exact g_load (τ := .val (.int _ _)) rfl rfl rfl; exact rfl
  apply sq_g; exact g_index_arr rfl rfl rfl (by decide) rfl; exact rfl
  apply sq_g; exact g_load (τ := .val (.int _ _)) rfl rfl rfl; exact rfl
  apply sq_g; exact  g_bslice (is := [0, 1]) (xs := [_, _]) (vs := [_, _]) (us := [_, _]) (bs26_n2 _ _) rfl rfl rfl (zs2_row a b); exact rfl
  apply sq_g; exact  g_callc (τs := [_]) (n := 1) (cf := fun i => [bx (fs L)].getD i .any) hc rfl rfl; exact rfl
  apply sq_g; exact g_cmp rfl rfl rfl; exact rfl
  apply sq_g; exact g_assign (s := .av (.val (.bool _))) rfl; exact rfl
  refine sq_nil ?_
  refine sq_then ?_
  refine cq_ret ?_
  exact sq_res1 rfl (.tmp rfl) (congrArg vb (by rw [Bool.eq_iff_iff]; simp))
theorem indexe_c {p : Int → Int → Bool} {g : Nat} {cap : AV} (E : List (Int × Int)) (hn : E.length ≤ 1000000000) (hg : ∀ a b, CtrA Tryz.prog g [ep a b, cap] (vb (p a b))) : CtrA Tryz.prog 59 [es E, kcl g cap] (vi (ixB (fun k => p (E.getD k (0, 0)).1 (E.getD k (0, 0)).2) E.length)) := by
  refine ctrA _ Tryz.func59 rfl rfl Tryz.ntmps59 rfl fun w Z => ?_
  simp only [initT, List.map_cons, List.map_nil, Nat.zero_add, Nat.reduceAdd]
  refine cq_seq ?_
  refine cq_region ?_
  apply sq_g; exact g_assign (s := .av (.val (.int _ _))) rfl; exact rfl
  refine sq_nil ?_
  refine sq_then ?_
  refine cq_seq ?_
  refine cq_seq ?_
  refine cq_region ?_
  apply sq_g; exact g_move (s := .av _) rfl; exact rfl
  apply sq_g; exact g_len rfl; exact rfl
  apply sq_g; exact g_move (s := .av (.val (.int _ _))) rfl; exact rfl
  refine sq_nil ?_
  refine sq_then ?_
  refine cq_block ?_
  refine cq_loop (γ := Nat) (fun k => [(0, .av (es E)), (1, .av (kcl g cap)), (6, .av (es E)), (7, .av (vi E.length)), (8, .av (vi k))]) (fun _ => []) (fun k => k ≤ E.length ∧ ∀ j, j < k → p (E.getD j (0, 0)).1 (E.getD j (0, 0)).2 = false) (fun k => E.length - k) 0 ⟨Nat.zero_le _, by omega⟩ (ent ⟨.refl _, .refl _, .refl _, .refl _, .refl _, trivial⟩ trivial) ?_
  rintro k ⟨hk, hall⟩
  refine cq_seq ?_
  refine cq_region ?_
  apply sq_g; exact g_cmp rfl rfl rfl; exact rfl
  refine sq_nil ?_
  refine sq_then ?_
  refine cq_seq ?_
  (refine cq_cond rfl (fun hb => ?_) (fun hb => ?_) <;> (try simp only [decide_eq_true_eq, decide_eq_false_iff_not, beq_iff_eq, beq_eq_false_iff_ne, bne_iff_ne, bne_eq_false_iff_eq, ne_eq, Bool.not_eq_true', Bool.not_eq_false', Bool.and_eq_true, Bool.or_eq_true, Bool.and_eq_false_iff, Bool.or_eq_false_iff] at hb) <;> (try (exfalso; omega)))
  · have hkl : k < E.length := by omega
    have hgk := hg (E.getD k (0, 0)).1 (E.getD k (0, 0)).2
    refine cq_skip ?_
    refine sq_then ?_
    refine cq_seq ?_
    refine cq_block ?_
    refine cq_seq ?_
    refine cq_region ?_
    apply sq_g; exact g_move (s := .av (.val (.int _ _))) rfl; exact rfl
    apply sq_g; exact g_assign (s := .av (.val (.int _ _))) rfl; exact rfl
    refine sq_nil ?_
    refine sq_then ?_
    refine cq_seq ?_
    refine cq_region ?_
    apply sq_g; exact g_move (s := .av _) rfl; exact rfl
    apply sq_g; exact g_move (s := .av _) rfl; exact rfl
    apply sq_g; exact g_move (s := .av (.val (.int _ _))) rfl; exact rfl
    apply sq_g; exact g_index rfl rfl rfl (by omega); exact rfl
    apply sq_g; exact g_load_agg (us := [.int _ _, .int _ _]) rfl rfl rfl rfl; exact rfl
    apply sq_g; exact  g_callc (τs := [_]) (n := 1) (cf := fun i => [cap].getD i .any) hgk rfl rfl; exact rfl
    refine sq_nil ?_
    refine sq_then ?_
    (refine cq_cond rfl (fun hb => ?_) (fun hb => ?_) <;> (try simp only [decide_eq_true_eq, decide_eq_false_iff_not, beq_iff_eq, beq_eq_false_iff_ne, bne_iff_ne, bne_eq_false_iff_eq, ne_eq, Bool.not_eq_true', Bool.not_eq_false', Bool.and_eq_true, Bool.or_eq_true, Bool.and_eq_false_iff, Bool.or_eq_false_iff] at hb) <;> (try (exfalso; omega)))
    · have e1 := ixB_hit (p := fun k => p (E.getD k (0, 0)).1 (E.getD k (0, 0)).2) hkl hall hb
      refine cq_seq ?_
      refine cq_region ?_
      apply sq_g; exact g_move (s := .av (.val (.int _ _))) rfl; exact rfl
      apply sq_g; exact g_assign (s := .av (.val (.int _ _))) rfl; exact rfl
      refine sq_nil ?_
      refine sq_then ?_
      refine cq_ret ?_
      refine sq_inBlock_ret ?_
      refine sq_then_ret ?_
      refine sq_then_ret ?_
      refine sq_inBlock_ret ?_
      refine sq_then_ret ?_
      exact sq_res1 rfl (.tmp rfl) (by rw [e1])
    · refine cq_skip ?_
      refine sq_then ?_
      refine cq_region ?_
      apply sq_g; exact g_arith rfl rfl rfl (by omega); exact rfl
      apply sq_g; exact g_move (s := .av (.val (.int _ _))) rfl; exact rfl
      refine sq_nil ?_
      exact sq_round (k + 1) ⟨by omega, flt_step (p := fun k => p (E.getD k (0, 0)).1 (E.getD k (0, 0)).2) hall (by simpa using hb)⟩ (by omega) (ent ⟨.refl _, .refl _, .refl _, .refl _, .int (by omega), trivial⟩ trivial)
  · have hkl : k = E.length := by omega
    subst hkl
    have e1 := ixB_no (p := fun k => p (E.getD k (0, 0)).1 (E.getD k (0, 0)).2) hall
    refine cq_exit ?_
    refine sq_then ?_
    refine cq_seq ?_
    refine cq_region ?_
    apply sq_g; exact g_assign (s := .av (.val (.int _ _))) rfl; exact rfl
    refine sq_nil ?_
    refine sq_then ?_
    refine cq_ret ?_
    exact sq_res1 rfl (.tmp rfl) (by rw [e1])
theorem containse_c {p : Int → Int → Bool} {g : Nat} {cap : AV} (E : List (Int × Int)) (hn : E.length ≤ 1000000000) (hg : ∀ a b, CtrA Tryz.prog g [ep a b, cap] (vb (p a b))) : CtrA Tryz.prog 31 [es E, kcl g cap] (vb ((List.range E.length).any fun k => p (E.getD k (0, 0)).1 (E.getD k (0, 0)).2)) := by
  refine ctrA _ Tryz.func31 rfl rfl Tryz.ntmps31 rfl fun w Z => ?_
  have hi := indexe_c E hn hg
  simp only [initT, List.map_cons, List.map_nil, Nat.zero_add, Nat.reduceAdd]
  refine cq_seq ?_
  refine cq_region ?_
  apply sq_g; exact g_assign (s := .av (.val (.bool _))) rfl; exact rfl
  refine sq_nil ?_
  refine sq_then ?_
  refine cq_seq ?_
  refine cq_region ?_
  apply sq_g; exact g_move (s := .av _) rfl; exact rfl
  apply sq_g; exact g_move (s := .av _) rfl; exact rfl
  apply sq_g; exact g_call (hi) rfl; exact rfl
  apply sq_g; exact g_cmp rfl rfl rfl; exact rfl
  apply sq_g; exact g_assign (s := .av (.val (.bool _))) rfl; exact rfl
  refine sq_nil ?_
  refine sq_then ?_
  refine cq_ret ?_
  exact sq_res1 rfl (.tmp rfl) (congrArg vb (ix_any _ _))
theorem cA_sm (L : List Fc) (A : List Int) : ∀ q, q ≤ L.length → cA L A q = sm (L.take q) (fun F => ind (hasAll F A))
  | 0, _ => rfl
  | q + 1, h => by
    unfold cA
    rw [show L.take (q + 1) = L.take q ++ [gf L q] from by rw [gf_eq (by omega)]; simp, sm_app, cA_sm L A q (by omega)]; rfl
theorem cA_1 (L : List Fc) (a : Nat) : cA L [(a : Int)] L.length = sm L (fun F => ind (decide (a ∈ F.s))) := by
  rw [cA_sm _ _ _ (Nat.le_refl _), List.take_length]
  refine sm_congr fun F _ => congrArg ind ?_
  rw [← hasB_nat]
  show (!((List.range 1).any fun k => !hasB (natL F.s) (gz [(a : Int)] k))) = _
  rw [show List.range 1 = [0] from rfl]
  simp [gz]
theorem cA_2 (L : List Fc) (a b : Nat) : cA L [(a : Int), (b : Int)] L.length = nf L a b := by
  rw [cA_sm _ _ _ (Nat.le_refl _), List.take_length]
  refine sm_congr fun F _ => congrArg ind ?_
  rw [← hasB_nat, ← hasB_nat]
  show (!((List.range 2).any fun k => !hasB (natL F.s) (gz [(a : Int), (b : Int)] k))) = _
  rw [show List.range 2 = [0, 1] from rfl]
  simp [gz]
theorem balances_c (l : List Tr) : CtrA Tryz.prog 6 [ts l] (vb true) := by
  have hA := awake_c
  by_cases hsol : l.length ≤ 6 ∧ chkT l = 0 ∧ Sol l
  case neg =>
    have h1 := lawsolid_n l hsol
    refine ctrA _ Tryz.func6 rfl rfl Tryz.ntmps6 rfl fun w Z => ?_
    simp only [initT, List.map_cons, List.map_nil, Nat.zero_add, Nat.reduceAdd]
    refine cq_seq ?_
    refine cq_region ?_
    apply sq_g; exact g_assign (s := .av (.val (.bool _))) rfl; exact rfl
    refine sq_nil ?_
    refine sq_then ?_
    refine cq_seq ?_
    refine cq_seq ?_
    refine cq_region ?_
    apply sq_g; exact g_move (s := .av _) rfl; exact rfl
    apply sq_g; exact g_call (h1) rfl; exact rfl
    apply sq_g; exact g_not rfl; exact rfl
    refine sq_nil ?_
    refine sq_then ?_
    refine cq_cond_t rfl ?_
    refine cq_seq ?_
    refine cq_region ?_
    apply sq_g; exact g_call (hA) rfl; exact rfl
    apply sq_g; exact g_assign (s := .av (.val (.bool _))) rfl; exact rfl
    refine sq_nil ?_
    refine sq_then ?_
    refine cq_ret ?_
    refine sq_then_ret ?_
    all_goals exact sq_res1 rfl (.tmp rfl) rfl
  obtain ⟨h6, hc, hS⟩ := hsol
  have hf : few l := .inl h6
  have h1 := lawsolid_c l (fun _ _ => hS) (by omega) hf hc
  obtain ⟨hl, _⟩ := hf.le hc
  have S : S3 l := ⟨hl, h6, hS⟩
  have d3 := (dim3_iff l).2 hS
  have v1 := vert_c l hf
  have e1 := edges_q hf hc hS
  have g1 := facs_q l hf
  have lE := edgV_len h6 d3
  have lV := vertV_len h6 d3
  have lF := facets_len l h6
  have lS : ∀ f ∈ facetsL l, f.s.length ≤ 1000 := fun f hf => by have := (facets_ok h6 f hf).2.2.1; omega
  unfold vertQ at v1
  unfold facQ errF at g1
  rw [if_pos hc, hc] at v1
  rw [if_pos hc, if_pos hc, if_neg (by omega), if_neg (by omega)] at g1
  rw [S.vert] at v1 e1 lE lV
  have hn : (natL (VL l)).length = (VL l).length := by simp
  have eu := S.euler
  have q1 := containsk_c (deg30_c (facetsL l) lF lS) (natL (VL l)) (by omega)
  have q2 := containse_c (edgV (facetsL l) (natL (VL l))) lE (edge32_c (facetsL l) lF lS)
  rw [any_ff (fun i hi => by
    rw [hn] at hi
    rw [gz_natL hi, cA_1, decide_eq_false_iff_not]
    have := S.deg (gi_mem hi)
    omega)] at q1
  rw [any_ff (fun i hi => by
    have hm : (edgV (facetsL l) (natL (VL l))).getD i (0, 0) ∈ edgV (facetsL l) (natL (VL l)) := by simp [List.getD, hi]
    obtain ⟨a, b, _, _, e, e2⟩ := S.edge2 hm
    rw [e, cA_2, decide_eq_false_iff_not, e2]
    simp)] at q2
  generalize edgV (facetsL l) (natL (VL l)) = E at e1 q2 eu lE
  rw [← hn] at eu
  generalize natL (VL l) = V at v1 q1 eu hn lV
  generalize facetsL l = L at g1 q1 q2 eu lF lS
  refine ctrA _ Tryz.func6 rfl rfl Tryz.ntmps6 rfl fun w Z => ?_
  simp only [initT, List.map_cons, List.map_nil, Nat.zero_add, Nat.reduceAdd]
  refine cq_seq ?_
  refine cq_region ?_
  apply sq_g; exact g_assign (s := .av (.val (.bool _))) rfl; exact rfl
  refine sq_nil ?_
  refine sq_then ?_
  refine cq_seq ?_
  refine cq_seq ?_
  refine cq_region ?_
  apply sq_g; exact g_move (s := .av _) rfl; exact rfl
  apply sq_g; exact g_call (h1) rfl; exact rfl
  apply sq_g; exact g_not rfl; exact rfl
  refine sq_nil ?_
  refine sq_then ?_
  refine cq_cond_f rfl ?_
  refine cq_skip ?_
  refine sq_then ?_
  refine cq_seq ?_
  refine cq_region ?_
  apply sq_g; exact g_move (s := .av _) rfl; exact rfl
  apply sq_g; exact g_call (v1) rfl; exact rfl
  apply sq_g; exact g_move (s := .av _) rfl; exact rfl
  apply sq_g; exact g_extractT rfl rfl; exact rfl
  apply sq_g; exact g_extractT rfl rfl; exact rfl
  apply sq_g; exact g_assign (s := .av _) rfl; exact rfl
  apply sq_g; exact g_assign (s := .av (.val (.int _ _))) rfl; exact rfl
  refine sq_nil ?_
  refine sq_then ?_
  refine cq_seq ?_
  refine cq_region ?_
  apply sq_g; exact g_move (s := .av _) rfl; exact rfl
  apply sq_g; exact g_call (e1) rfl; exact rfl
  apply sq_g; exact g_move (s := .av _) rfl; exact rfl
  apply sq_g; exact g_extractT rfl rfl; exact rfl
  apply sq_g; exact g_extractT rfl rfl; exact rfl
  apply sq_g; exact g_assign (s := .av _) rfl; exact rfl
  apply sq_g; exact g_assign (s := .av (.val (.int _ _))) rfl; exact rfl
  refine sq_nil ?_
  refine sq_then ?_
  refine cq_seq ?_
  refine cq_region ?_
  apply sq_g; exact g_move (s := .av _) rfl; exact rfl
  apply sq_g; exact g_call (g1) rfl; exact rfl
  apply sq_g; exact g_move (s := .av _) rfl; exact rfl
  apply sq_g; exact g_extractT rfl rfl; exact rfl
  apply sq_g; exact g_extractT rfl rfl; exact rfl
  refine sq_v (f_alloc 10 rfl) rfl ?_
  refine sq_s (g_store' rfl rfl rfl rfl rfl rfl) ?_
  apply sq_g; exact g_assign (s := .av (.val (.int _ _))) rfl; exact rfl
  refine sq_nil ?_
  refine sq_then ?_
  refine cq_seq ?_
  refine cq_seq ?_
  refine cq_region ?_
  apply sq_g; exact g_move (s := .av (.val (.int _ _))) rfl; exact rfl
  apply sq_g; exact g_move (s := .av (.val (.int _ _))) rfl; exact rfl
  apply sq_g; exact g_arith rfl rfl rfl (by omega); exact rfl
  apply sq_g; exact g_move (s := .av (.val (.int _ _))) rfl; exact rfl
  apply sq_g; exact g_arith rfl rfl rfl (by omega); exact rfl
  apply sq_g; exact g_cmp rfl rfl rfl; exact rfl
  apply sq_g; exact g_move (s := .av (.val (.bool _))) rfl; exact rfl
  apply sq_on; exact g_move (s := .av _) rfl; exact rfl; exact rfl; exact rfl
  apply sq_on; exact g_len rfl; exact rfl; exact rfl; exact rfl
  apply sq_on; exact g_load_own (s := .av _) rfl rfl rfl; exact rfl; exact rfl; exact rfl
  apply sq_on; exact g_len rfl; exact rfl; exact rfl; exact rfl
  apply sq_on; exact g_arith rfl rfl rfl (by omega); exact rfl; exact rfl; exact rfl
  apply sq_on; exact g_move (s := .av _) rfl; exact rfl; exact rfl; exact rfl
  apply sq_on; exact g_len rfl; exact rfl; exact rfl; exact rfl
  apply sq_on; exact g_arith rfl rfl rfl (by omega); exact rfl; exact rfl; exact rfl
  apply sq_on; exact g_cmp rfl rfl rfl; exact rfl; exact rfl; exact rfl
  apply sq_g; exact g_pick (s := .av (.val (.bool _))) rfl rfl; exact rfl
  refine sq_nil ?_
  refine sq_then ?_
  (refine cq_cond rfl (fun hb => ?_) (fun hb => ?_) <;> (try simp only [decide_eq_true_eq, decide_eq_false_iff_not, beq_iff_eq, beq_eq_false_iff_ne, bne_iff_ne, bne_eq_false_iff_eq, ne_eq, Bool.not_eq_true', Bool.not_eq_false', Bool.and_eq_true, Bool.or_eq_true, Bool.and_eq_false_iff, Bool.or_eq_false_iff] at hb) <;> (try (exfalso; omega)))
  refine cq_ent (ent_freezec 7 10 (fun _ => fs L) rfl rfl rfl) ?_
  refine cq_skip ?_
  refine sq_then ?_
  refine cq_seq ?_
  refine cq_region ?_
  apply sq_g; exact g_makeFunc (τs := [_]) rfl; exact rfl
  refine sq_v (f_alloc 10 rfl) rfl ?_
  refine sq_s (g_store' rfl rfl rfl rfl rfl rfl) ?_
  refine sq_nil ?_
  refine sq_then ?_
  refine cq_seq ?_
  refine cq_region ?_
  apply sq_g; exact g_move (s := .av _) rfl; exact rfl
  refine lsq_ent (ent_freezec 9 10 (fun _ => ccl L) rfl rfl rfl) ?_
  apply sq_g; exact g_makeFunc (τs := [_]) rfl; exact rfl
  apply sq_g; exact g_call (q1) rfl; exact rfl
  apply sq_g; exact g_not rfl; exact rfl
  apply sq_g; exact g_move (s := .av (.val (.bool _))) rfl; exact rfl
  apply sq_on; exact g_move (s := .av _) rfl; exact rfl; exact rfl; exact rfl
  apply sq_on; exact g_makeFunc (τs := [_]) rfl; exact rfl; exact rfl; exact rfl
  apply sq_on; exact g_call (q2) rfl; exact rfl; exact rfl; exact rfl
  apply sq_on; exact g_not rfl; exact rfl; exact rfl; exact rfl
  apply sq_g; exact g_pick (s := .av (.val (.bool _))) rfl rfl; exact rfl
  apply sq_g; exact g_move (s := .av (.val (.bool _))) rfl; exact rfl
  apply sq_on; exact g_call (hA) rfl; exact rfl; exact rfl; exact rfl
  apply sq_g; exact g_pick (s := .av (.val (.bool _))) rfl rfl; exact rfl
  apply sq_g; exact g_assign (s := .av (.val (.bool _))) rfl; exact rfl
  refine sq_nil ?_
  refine sq_then ?_
  refine cq_ret ?_
  all_goals (first | exact absurd trivial ‹¬True› | exact sq_res1 rfl (.tmp rfl) rfl)
end Go.Proofs.YtdoppiajbpmmkaaGreat
