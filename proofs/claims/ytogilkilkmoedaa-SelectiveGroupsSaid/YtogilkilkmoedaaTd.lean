/- A part of the proof that the law returns true at every input and that the input reads behind the call as it read before; this part states nothing of its own that needs a condition of the input. -/
import Derived.Test.YtogilkilkmoedaaSb
import Derived.Test.YtogilkilkmoedaaTc
set_option linter.unusedVariables false
set_option linter.unusedSimpArgs false
namespace Go.Proofs.Ytogilkilkmoedaa
open Go Go.Vc Go.RowKit
/-! The groups of sizes: the keys rise, the indices of a group rise. -/
theorem sortK_asc (ks : List Int) : (sortK ks).Pairwise (fun a b => a < b) := by
  have h1 : (sortK ks).Pairwise (fun a b => decide (a ≤ b) = true) := List.pairwise_mergeSort (fun a b c h1 h2 => by simp only [decide_eq_true_eq] at *; omega) (fun a b => by simp only [Bool.or_eq_true, decide_eq_true_eq]; omega) _
  have h2 : (sortK ks).Nodup := ((List.mergeSort_perm _ _).nodup_iff).2 (nodup_dd ks)
  exact (List.Pairwise.and h1 h2).imp (fun {a b} h => by
    have := h.1
    simp only [decide_eq_true_eq] at this
    have := h.2
    omega)
theorem gz_asc {l : List Int} (h : l.Pairwise (fun a b => a < b)) {i j : Nat} (hij : i < j) (hj : j < l.length) : gz l i < gz l j := by
  have := (List.pairwise_iff_getElem.1 h) i j (by omega) hj hij
  simp only [gz, List.getD]
  rw [List.getElem?_eq_getElem hj, List.getElem?_eq_getElem (by omega)]
  exact this
theorem mem_idx {l : List Int} {w a x : Int} {k : Nat} : x ∈ idx l w k a ↔ ∃ i : Nat, i < k ∧ gz l i / w = a ∧ x = i := by
  unfold idx
  rw [List.mem_map]
  constructor
  · rintro ⟨i, hi, rfl⟩
    obtain ⟨h1, h2⟩ := List.mem_filter.1 hi
    exact ⟨i, List.mem_range.1 h1, by simpa using h2, rfl⟩
  · rintro ⟨i, h1, h2, rfl⟩
    exact ⟨i, List.mem_filter.2 ⟨List.mem_range.2 h1, by simpa using h2⟩, rfl⟩
theorem idx_asc (l : List Int) (w : Int) (k : Nat) (a : Int) : (idx l w k a).Pairwise (fun a b => a < b) := by
  unfold idx
  rw [List.pairwise_map]
  exact (List.Pairwise.filter _ (List.pairwise_lt_range (n := k))).imp (fun {a b} h => by omega)
theorem gz_at {l : List Int} {x : Int} (h : x ∈ l) : ∃ j, j < l.length ∧ gz l j = x := by
  obtain ⟨j, hj, e⟩ := List.getElem_of_mem h
  exact ⟨j, hj, by simp only [gz, List.getD]; rw [List.getElem?_eq_getElem hj]; exact e⟩
theorem gl_map {K : List Int} {f : Int → List Int} {k : Nat} (h : k < K.length) : gl (K.map f) k = f (gz K k) := by simp [gl, gz, List.getD, h]
end Go.Proofs.Ytogilkilkmoedaa
namespace Go.Proofs.Ytogilkilkmoedaa
open Go Go.Vc Go.RowKit
set_option maxHeartbeats 8000000
/-! KDQ -/
theorem nan_c (x : Int) : CtrA Try.prog 75 [vi x] (vb false) := by
  refine ctrA _ Try.func75 rfl rfl Try.ntmps75 rfl fun w Z => ?_
  simp only [initT, List.map_cons, List.map_nil, Nat.zero_add, Nat.reduceAdd]
  refine cq_seq ?_
  refine cq_region ?_
  apply sq_g; exact g_assign (s := .av (.val (.bool _))) rfl; exact rfl
  refine sq_nil ?_
  refine sq_then ?_
  refine cq_seq ?_
  refine cq_region ?_
  apply sq_g; exact g_move (s := .av (.val (.int _ _))) rfl; exact rfl
  apply sq_g; exact g_move (s := .av (.val (.int _ _))) rfl; exact rfl
  apply sq_g; exact g_cmp rfl rfl rfl; exact rfl
  apply sq_g; exact g_assign (s := .av (.val (.bool _))) rfl; exact rfl
  refine sq_nil ?_
  refine sq_then ?_
  refine cq_ret ?_
  all_goals exact sq_res1 rfl (.tmp rfl) (by simp)
theorem less_c (x y : Int) : CtrA Try.prog 55 [vi x, vi y] (vb (decide (x < y))) := by
  refine ctrA _ Try.func55 rfl rfl Try.ntmps55 rfl fun w Z => ?_
  have c1 := nan_c x
  have c2 := nan_c y
  simp only [initT, List.map_cons, List.map_nil, Nat.zero_add, Nat.reduceAdd]
  refine cq_seq ?_
  refine cq_region ?_
  apply sq_g; exact g_assign (s := .av (.val (.bool _))) rfl; exact rfl
  refine sq_nil ?_
  refine sq_then ?_
  refine cq_seq ?_
  refine cq_region ?_
  apply sq_g; exact g_move (s := .av (.val (.int _ _))) rfl; exact rfl
  apply sq_g; exact g_call (c1) rfl; exact rfl
  apply sq_g; exact g_move (s := .av (.val (.bool _))) rfl; exact rfl
  refine sq_off rfl rfl rfl rfl ?_
  refine sq_off rfl rfl rfl rfl ?_
  refine sq_off rfl rfl rfl rfl ?_
  apply sq_g; exact g_pick (s := .av (.val (.bool _))) rfl rfl; exact rfl
  apply sq_g; exact g_move (s := .av (.val (.bool _))) rfl; exact rfl
  apply sq_on; exact g_move (s := .av (.val (.int _ _))) rfl; exact rfl; exact rfl; exact rfl
  apply sq_on; exact g_move (s := .av (.val (.int _ _))) rfl; exact rfl; exact rfl; exact rfl
  apply sq_on; exact g_cmp rfl rfl rfl; exact rfl; exact rfl; exact rfl
  apply sq_g; exact g_pick (s := .av (.val (.bool _))) rfl rfl; exact rfl
  apply sq_g; exact g_assign (s := .av (.val (.bool _))) rfl; exact rfl
  refine sq_nil ?_
  refine sq_then ?_
  refine cq_ret ?_
  all_goals first | exact sq_res1 rfl (.tmp rfl) rfl | trace_state
theorem issorted_c (l : List Int) (hn : l.length ≤ 1000000) (ha : l.Pairwise (fun a b => a < b)) : CtrA Try.prog 26 [zs l] (vb true) := by
  refine ctrA _ Try.func26 rfl rfl Try.ntmps26 rfl fun w Z => ?_
  simp only [initT, List.map_cons, List.map_nil, Nat.zero_add, Nat.reduceAdd]
  refine cq_seq ?_
  refine cq_region ?_
  apply sq_g; exact g_assign (s := .av (.val (.bool _))) rfl; exact rfl
  refine sq_nil ?_
  refine sq_then ?_
  refine cq_seq ?_
  refine cq_seq ?_
  refine cq_region ?_
  apply sq_g; exact g_move (s := .av _) rfl; exact rfl
  apply sq_g; exact g_len rfl; exact rfl
  apply sq_g; exact g_arith rfl rfl rfl (by omega); exact rfl
  apply sq_g; exact g_assign (s := .av (.val (.int _ _))) rfl; exact rfl
  refine sq_nil ?_
  refine sq_then ?_
  refine cq_block ?_
  refine cq_loop (γ := Int) (fun k => [(0, .av (zs l)), (3, .av (vi k))]) (fun _ => []) (fun k => -1 ≤ k ∧ k < l.length) (fun k => (k + 1).toNat) ((l.length : Int) - 1) ⟨by omega, by omega⟩ (ent ⟨.refl _, .refl _, trivial⟩ trivial) ?_
  rintro k ⟨h1, h2⟩
  refine cq_seq ?_
  refine cq_seq ?_
  refine cq_region ?_
  apply sq_g; exact g_move (s := .av (.val (.int _ _))) rfl; exact rfl
  apply sq_g; exact g_cmp rfl rfl rfl; exact rfl
  refine sq_nil ?_
  refine sq_then ?_
  (refine cq_cond rfl (fun hb => ?_) (fun hb => ?_) <;> (try simp only [decide_eq_true_eq, decide_eq_false_iff_not, beq_iff_eq, beq_eq_false_iff_ne, bne_iff_ne, bne_eq_false_iff_eq, ne_eq, Bool.not_eq_true', Bool.not_eq_false', Bool.and_eq_true, Bool.or_eq_true, Bool.and_eq_false_iff, Bool.or_eq_false_iff] at hb) <;> (try (exfalso; omega)))
  · have hk : k = ((k.toNat : Nat) : Int) := by omega
    have hk1 : k - 1 = (((k - 1).toNat : Nat) : Int) := by omega
    have hlt : gz l (k - 1).toNat < gz l k.toNat := gz_asc ha (by omega) (by omega)
    have c := less_c (gz l k.toNat) (gz l (k - 1).toNat)
    rw [decide_eq_false (by omega)] at c
    refine cq_skip ?_
    refine sq_then ?_
    refine cq_seq ?_
    refine cq_block ?_
    refine cq_seq ?_
    refine cq_drawn ?_
    apply dq_g; exact g_move (s := .av _) rfl; exact rfl
    apply dq_g; exact g_move (s := .av (.val (.int _ _))) rfl; exact rfl
    apply dq_g; exact  g_index (k := k.toNat) rfl rfl hk (by omega); exact rfl
    apply dq_g; exact g_load (τ := .val (.int _ _)) rfl rfl rfl; exact rfl
    apply dq_g; exact g_move (s := .av _) rfl; exact rfl
    apply dq_g; exact g_move (s := .av (.val (.int _ _))) rfl; exact rfl
    apply dq_g; exact g_arith rfl rfl rfl (by omega); exact rfl
    apply dq_g; exact  g_index (k := (k - 1).toNat) rfl rfl hk1 (by omega); exact rfl
    apply dq_g; exact g_load (τ := .val (.int _ _)) rfl rfl rfl; exact rfl
    apply dq_g; exact g_call (c) rfl; exact rfl
    refine dq_nil tm (by kernel_rfl) ?_
    refine sq_then ?_
    refine cq_cond_f rfl ?_
    refine cq_skip ?_
    refine sq_then ?_
    refine cq_region ?_
    apply sq_g; exact g_move (s := .av (.val (.int _ _))) rfl; exact rfl
    apply sq_g; exact g_arith rfl rfl rfl (by omega); exact rfl
    apply sq_g; exact g_assign (s := .av (.val (.int _ _))) rfl; exact rfl
    refine sq_nil ?_
    exact sq_round (k - 1) ⟨by omega, by omega⟩ (by omega) (ent ⟨.refl _, .int (by omega), trivial⟩ trivial)
  · refine cq_exit ?_
    refine sq_then ?_
    refine cq_seq ?_
    refine cq_region ?_
    apply sq_g; exact g_assign (s := .av (.val (.bool _))) rfl; exact rfl
    refine sq_nil ?_
    refine sq_then ?_
    refine cq_ret ?_
    exact sq_res1 rfl (.tmp rfl) rfl
abbrev bs (l : List Bool) : AV := .sl l.length 1 (bf l)
theorem index_b (l : List Bool) (hn : l.length ≤ 1000000) (hall : ∀ i, i < l.length → gb l i = true) : CtrA Try.prog 56 [bs l, vb false] (vi (-1)) := by
  refine ctrA _ Try.func56 rfl rfl Try.ntmps56 rfl fun w Z => ?_
  simp only [initT, List.map_cons, List.map_nil, Nat.zero_add, Nat.reduceAdd]
  refine cq_seq ?_
  refine cq_region ?_
  apply sq_g; exact g_assign (s := .av (.val (.int _ _))) rfl; exact rfl
  refine sq_nil ?_
  refine sq_then ?_
  refine cq_seq ?_
  refine cq_seq ?_
  refine cq_region ?_
  apply sq_g; exact g_move (s := .av _) rfl; exact rfl
  apply sq_g; exact g_len rfl; exact rfl
  apply sq_g; exact g_move (s := .av (.val (.int _ _))) rfl; exact rfl
  refine sq_nil ?_
  refine sq_then ?_
  refine cq_block ?_
  refine cq_loop (γ := Nat) (fun k => [(0, .av (bs l)), (1, .av (vb false)), (7, .av (vi l.length)), (8, .av (vi k))]) (fun _ => []) (fun k => k ≤ l.length) (fun k => l.length - k) 0 (Nat.zero_le _) (ent ⟨.refl _, .refl _, .refl _, .refl _, trivial⟩ trivial) ?_
  intro k hk
  refine cq_seq ?_
  refine cq_region ?_
  apply sq_g; exact g_cmp rfl rfl rfl; exact rfl
  refine sq_nil ?_
  refine sq_then ?_
  refine cq_seq ?_
  (refine cq_cond rfl (fun hb => ?_) (fun hb => ?_) <;> (try simp only [decide_eq_true_eq, decide_eq_false_iff_not, beq_iff_eq, beq_eq_false_iff_ne, bne_iff_ne, bne_eq_false_iff_eq, ne_eq, Bool.not_eq_true', Bool.not_eq_false', Bool.and_eq_true, Bool.or_eq_true, Bool.and_eq_false_iff, Bool.or_eq_false_iff] at hb) <;> (try (exfalso; omega)))
  · have hkl : k < l.length := by omega
    have hg := hall k hkl
    refine cq_skip ?_
    refine sq_then ?_
    refine cq_seq ?_
    refine cq_block ?_
    refine cq_seq ?_
    refine cq_region ?_
    apply sq_g; exact g_move (s := .av (.val (.int _ _))) rfl; exact rfl
    apply sq_g; exact g_assign (s := .av (.val (.int _ _))) rfl; exact rfl
    refine sq_nil ?_
    refine sq_then ?_
    refine cq_seq ?_
    refine cq_region ?_
    apply sq_g; exact g_move (s := .av (.val (.bool _))) rfl; exact rfl
    apply sq_g; exact g_move (s := .av _) rfl; exact rfl
    apply sq_g; exact g_move (s := .av (.val (.int _ _))) rfl; exact rfl
    apply sq_g; exact g_index rfl rfl rfl (by omega); exact rfl
    apply sq_g; exact g_load rfl rfl rfl; exact rfl
    apply sq_g; exact g_eqb rfl rfl; exact rfl
    refine sq_nil ?_
    refine sq_then ?_
    refine cq_cond rfl (fun hb => ?_) (fun hb => ?_)
    · rw [hg] at hb; cases hb
    · refine cq_skip ?_
      refine sq_then ?_
      refine cq_region ?_
      apply sq_g; exact g_arith rfl rfl rfl (by omega); exact rfl
      apply sq_g; exact g_move (s := .av (.val (.int _ _))) rfl; exact rfl
      refine sq_nil ?_
      exact sq_round (k + 1) (by omega) (by omega) (ent ⟨.refl _, .refl _, .refl _, .int (by omega), trivial⟩ trivial)
  · refine cq_exit ?_
    refine sq_then ?_
    refine cq_seq ?_
    refine cq_region ?_
    apply sq_g; exact g_assign (s := .av (.val (.int _ _))) rfl; exact rfl
    refine sq_nil ?_
    refine sq_then ?_
    refine cq_ret ?_
    exact sq_res1 rfl (.tmp rfl) rfl
theorem contains_b (l : List Bool) (hn : l.length ≤ 1000000) (hall : ∀ i, i < l.length → gb l i = true) : CtrA Try.prog 27 [bs l, vb false] (vb false) := by
  refine ctrA _ Try.func27 rfl rfl Try.ntmps27 rfl fun w Z => ?_
  have c := index_b l hn hall
  simp only [initT, List.map_cons, List.map_nil, Nat.zero_add, Nat.reduceAdd]
  refine cq_seq ?_
  refine cq_region ?_
  apply sq_g; exact g_assign (s := .av (.val (.bool _))) rfl; exact rfl
  refine sq_nil ?_
  refine sq_then ?_
  refine cq_seq ?_
  refine cq_region ?_
  apply sq_g; exact g_move (s := .av _) rfl; exact rfl
  apply sq_g; exact g_move (s := .av (.val (.bool _))) rfl; exact rfl
  apply sq_g; exact g_call (c) rfl; exact rfl
  apply sq_g; exact g_cmp rfl rfl rfl; exact rfl
  apply sq_g; exact g_assign (s := .av (.val (.bool _))) rfl; exact rfl
  refine sq_nil ?_
  refine sq_then ?_
  refine cq_ret ?_
  exact sq_res1 rfl (.tmp rfl) rfl
end Go.Proofs.Ytogilkilkmoedaa
namespace Go.Proofs.Ytogilkilkmoedaa
open Go Go.Vc Go.RowKit
set_option maxHeartbeats 8000000
/-! KDQ -/
theorem CtrA.args {P : Program} {f : FuncId} {args args' : List AV} {res : AV} (h : CtrA P f args res) (hle : ∀ (Z : Zone) (w : World) (vs : List Value), All2 (fun τ v => AV.ok Z w τ v) args' vs → All2 (fun τ v => AV.ok Z w τ v) args vs) : CtrA P f args' res :=
  ⟨h.enters, fun w Z vs hZ hvs => h.calls w Z vs hZ (hle Z w vs hvs)⟩
theorem tb24_0 : Try.prog.built 24 [] = some #[.int .i64 0, .int .i64 0] := by kernel_rfl
theorem rcheck_nil (l : List Int) (hl : l.length ≤ 1000000) : CtrA Try.prog 22 [zs l, .val (.slice none 0 0), lim 0 0] (vi (errC l [] 0 0)) :=
  CtrA.args (rcheck_c l [] 0 0 hl (by simp)) fun Z w vs h => by
    match vs, h with
    | [a, b, c], ⟨h1, h2, h3, _⟩ =>
      obtain rfl : b = .slice none 0 0 := h2
      exact ⟨h1, ⟨none, 0, rfl, Nat.le_refl _, Nat.zero_le _, fun h => absurd h (Nat.lt_irrefl 0)⟩, h3, trivial⟩
theorem errG_right {l : List Int} {w : Int} (h : errC l [] 0 0 = 0) (h1 : 1 ≤ w) (h2 : w ≤ 100000) : errG l w = 0 := by
  obtain ⟨a1, _, a3, _⟩ := errC_iff.1 h
  have e : chkL [l] = 0 := by
    have e1 : (List.range [l].length).any (fun k => decide (256 < (gl [l] k).length)) = false := any_no fun k hk => by
      obtain rfl : k = 0 := by simpa using hk
      exact decide_eq_false (by simp [gl]; omega)
    have e2 : (List.range [l].length).any (fun k => bad (gl [l] k)) = false := any_no fun k hk => by
      obtain rfl : k = 0 := by simpa using hk
      simpa [gl] using a3
    unfold chkL
    rw [e1, e2]; rfl
  unfold errG
  rw [e, if_neg (by simp)]
  unfold wideB
  rw [decide_eq_true h1, decide_eq_true h2]; rfl
theorem bf_rep (n : Nat) : ∀ i, i < n → ∀ j, j < 1 → (AV.val ([Value.bool false].getD j undef)) = bf (List.replicate n false) i j := fun i hi j hj => by
  obtain rfl : j = 0 := by omega
  simp [bf, gb, List.getD, hi]
def lastV (K : List Int) (k : Nat) : Int := if k = 0 then -1 else gz K (k - 1)
theorem sorts_c (l : List Int) (w : Int) : CtrA Try.prog 8 [zs l, vi w] (vb true) := by
  refine ctrA _ Try.func8 rfl rfl Try.ntmps8 rfl fun w0 Z => ?_
  have aw := awake_c
  by_cases hl : l.length ≤ 30
  · have hc := rcheck_nil l (by omega)
    simp only [initT, List.map_cons, List.map_nil, Nat.zero_add, Nat.reduceAdd]
    focus
      refine cq_seq ?_
      refine cq_region ?_
      apply sq_g; exact g_assign (s := .av (.val (.bool _))) rfl; exact rfl
      refine sq_nil ?_
      refine sq_then ?_
      refine cq_seq ?_
      refine cq_seq ?_
      refine cq_region ?_
      apply sq_g; exact g_move (s := .av _) rfl; exact rfl
      apply sq_g; exact g_len rfl; exact rfl
      apply sq_g; exact g_cmp rfl rfl rfl; exact rfl
      apply sq_g; exact g_move (s := .av (.val (.bool _))) rfl; exact rfl
      refine sq_split rfl rfl (fun hb => ?_) (fun hb => ?_) <;> (try simp only [decide_eq_true_eq, decide_eq_false_iff_not, beq_iff_eq, beq_eq_false_iff_ne, bne_iff_ne, bne_eq_false_iff_eq, ne_eq, Bool.not_eq_true', Bool.not_eq_false', Bool.and_eq_true, Bool.or_eq_true, Bool.and_eq_false_iff, Bool.or_eq_false_iff] at hb) <;> (try (exfalso; omega))
      apply sq_on; exact g_move (s := .av _) rfl; exact rfl; exact rfl; exact rfl
      apply sq_on; exact  g_build (is := []) (xs := []) (vs := []) tb24_0 rfl rfl; exact rfl; exact rfl; exact rfl
      apply sq_on; exact g_call (hc) rfl; exact rfl; exact rfl; exact rfl
      apply sq_on; exact g_cmp rfl rfl rfl; exact rfl; exact rfl; exact rfl
      apply sq_g; exact g_pick (s := .av (.val (.bool _))) rfl rfl; exact rfl
      apply sq_g; exact g_move (s := .av (.val (.bool _))) rfl; exact rfl
      refine sq_split rfl rfl (fun hb => ?_) (fun hb => ?_) <;> (try simp only [decide_eq_true_eq, decide_eq_false_iff_not, beq_iff_eq, beq_eq_false_iff_ne, bne_iff_ne, bne_eq_false_iff_eq, ne_eq, Bool.not_eq_true', Bool.not_eq_false', Bool.and_eq_true, Bool.or_eq_true, Bool.and_eq_false_iff, Bool.or_eq_false_iff] at hb) <;> (try (exfalso; omega))
      refine sq_off rfl rfl rfl rfl ?_
      refine sq_off rfl rfl rfl rfl ?_
      apply sq_g; exact g_pick (s := .av (.val (.bool _))) rfl rfl; exact rfl
      apply sq_g; exact g_move (s := .av (.val (.bool _))) rfl; exact rfl
      refine sq_off rfl rfl rfl rfl ?_
      refine sq_off rfl rfl rfl rfl ?_
      apply sq_g; exact g_pick (s := .av (.val (.bool _))) rfl rfl; exact rfl
      refine sq_nil ?_
      refine sq_then ?_
      refine cq_cond_t rfl ?_
      refine cq_seq ?_
      refine cq_region ?_
      apply sq_g; exact g_call (aw) rfl; exact rfl
      apply sq_g; exact g_assign (s := .av (.val (.bool _))) rfl; exact rfl
      refine sq_nil ?_
      refine sq_then ?_
      refine cq_ret ?_
      refine sq_then_ret ?_
      rotate_left
      apply sq_on; exact g_move (s := .av (.val (.int _ _))) rfl; exact rfl; exact rfl; exact rfl
      apply sq_on; exact g_cmp rfl rfl rfl; exact rfl; exact rfl; exact rfl
      apply sq_g; exact g_pick (s := .av (.val (.bool _))) rfl rfl; exact rfl
      apply sq_g; exact g_move (s := .av (.val (.bool _))) rfl; exact rfl
      refine sq_split rfl rfl (fun hb => ?_) (fun hb => ?_) <;> (try simp only [decide_eq_true_eq, decide_eq_false_iff_not, beq_iff_eq, beq_eq_false_iff_ne, bne_iff_ne, bne_eq_false_iff_eq, ne_eq, Bool.not_eq_true', Bool.not_eq_false', Bool.and_eq_true, Bool.or_eq_true, Bool.and_eq_false_iff, Bool.or_eq_false_iff] at hb) <;> (try (exfalso; omega))
      refine sq_off rfl rfl rfl rfl ?_
      refine sq_off rfl rfl rfl rfl ?_
      apply sq_g; exact g_pick (s := .av (.val (.bool _))) rfl rfl; exact rfl
      refine sq_nil ?_
      refine sq_then ?_
      refine cq_cond_t rfl ?_
      refine cq_seq ?_
      refine cq_region ?_
      apply sq_g; exact g_call (aw) rfl; exact rfl
      apply sq_g; exact g_assign (s := .av (.val (.bool _))) rfl; exact rfl
      refine sq_nil ?_
      refine sq_then ?_
      refine cq_ret ?_
      refine sq_then_ret ?_
      rotate_left
      apply sq_on; exact g_move (s := .av (.val (.int _ _))) rfl; exact rfl; exact rfl; exact rfl
      apply sq_on; exact g_cmp rfl rfl rfl; exact rfl; exact rfl; exact rfl
      apply sq_g; exact g_pick (s := .av (.val (.bool _))) rfl rfl; exact rfl
      refine sq_nil ?_
      refine sq_then ?_
      rotate_left
    · exact sq_res1 rfl (.tmp rfl) rfl
    · exact sq_res1 rfl (.tmp rfl) rfl
    · rename_i he0
      have hw1 := hb
      (refine cq_cond rfl (fun hb => ?_) (fun hb => ?_) <;> (try simp only [decide_eq_true_eq, decide_eq_false_iff_not, beq_iff_eq, beq_eq_false_iff_ne, bne_iff_ne, bne_eq_false_iff_eq, ne_eq, Bool.not_eq_true', Bool.not_eq_false', Bool.and_eq_true, Bool.or_eq_true, Bool.and_eq_false_iff, Bool.or_eq_false_iff] at hb) <;> (try (exfalso; omega)))
      · refine cq_seq ?_
        refine cq_region ?_
        apply sq_g; exact g_call (aw) rfl; exact rfl
        apply sq_g; exact g_assign (s := .av (.val (.bool _))) rfl; exact rfl
        refine sq_nil ?_
        refine sq_then ?_
        refine cq_ret ?_
        refine sq_then_ret ?_
        exact sq_res1 rfl (.tmp rfl) rfl
      · have he : errC l [] 0 0 = 0 := by omega
        have hG := errG_right (w := w) he (by omega) (by omega)
        obtain ⟨rl, _⟩ := errG_ok hG
        have hp := rl.at_
        have cg := (groups_c l w).roN
        have eL : groupsL l w = (sortK (quots l w)).map (fun a => idx l w l.length a) := by unfold groupsL; rw [if_pos hG]
        rw [hG, eL] at cg
        have hKa := sortK_asc (quots l w)
        have hKm : ∀ a, a ∈ sortK (quots l w) ↔ ∃ i, i < l.length ∧ gz l i / w = a := fun a => by rw [mem_sortK, mem_quots]
        have hKl : (sortK (quots l w)).length ≤ 30 := by
          have := sortK_len (quots l w)
          have : (quots l w).length = l.length := by simp [quots]
          omega
        generalize sortK (quots l w) = K at cg hKa hKm hKl
        have hgl : ∀ k, k < K.length → gl (K.map (fun a => idx l w l.length a)) k = idx l w l.length (gz K k) := fun k hk => gl_map hk
        have hLl : (K.map (fun a => idx l w l.length a)).length = K.length := by simp
        generalize K.map (fun a => idx l w l.length a) = L at cg hgl hLl
        have hq : ∀ i, gz l i / w ≤ 100000 ∧ 0 ≤ gz l i / w := fun i => by
          have := hp i
          have h1 : gz l i / w ≤ gz l i := Int.ediv_le_self w this.1
          have hw0 : 0 ≤ w := by omega
          exact ⟨by omega, Int.ediv_nonneg this.1 hw0⟩
        have hK0 : ∀ k, k < K.length → 0 ≤ gz K k := fun k hk => by
          obtain ⟨i, _, e⟩ := (hKm _).1 (gz_mem hk)
          rw [← e]; exact (hq i).2
        have hml : l.length ≤ maxLen := Nat.le_trans hl (by decide)
        refine cq_skip ?_
        refine sq_then ?_
        refine cq_seq ?_
        refine cq_region ?_
        apply sq_g; exact g_move (s := .av _) rfl; exact rfl
        apply sq_g; exact g_move (s := .av (.val (.int _ _))) rfl; exact rfl
        apply sq_g; exact g_call (cg) rfl; exact rfl
        apply sq_g; exact g_move (s := .av _) rfl; exact rfl
        apply sq_g; exact g_extractT rfl rfl; exact rfl
        apply sq_g; exact g_extractT rfl rfl; exact rfl
        apply sq_g; exact g_assign (s := .av _) rfl; exact rfl
        apply sq_g; exact g_assign (s := .av (.val (.int _ _))) rfl; exact rfl
        refine sq_nil ?_
        refine sq_then ?_
        refine cq_seq ?_
        refine cq_seq ?_
        refine cq_region ?_
        apply sq_g; exact g_move (s := .av (.val (.int _ _))) rfl; exact rfl
        apply sq_g; exact g_cmp rfl rfl rfl; exact rfl
        refine sq_nil ?_
        refine sq_then ?_
        refine cq_cond_f rfl ?_
        refine cq_skip ?_
        refine sq_then ?_
        refine cq_seq ?_
        refine cq_region ?_
        apply sq_g; exact g_move (s := .av _) rfl; exact rfl
        apply sq_g; exact g_len rfl; exact rfl
        refine sq_v (f_make 15 (n := l.length) (zs := [.bool false]) rfl zi4 rfl rfl rfl rfl hml (by omega) rfl) rfl ?_
        apply sq_g; exact g_assign (s := .osl _) rfl; exact rfl
        refine sq_nil ?_
        refine sq_then ?_
        refine cq_seq ?_
        refine cq_region ?_
        apply sq_g; exact g_assign (s := .av (.val (.int _ _))) rfl; exact rfl
        refine sq_nil ?_
        refine sq_then ?_
        refine cq_seq ?_
        refine cq_seq ?_
        refine cq_region ?_
        apply sq_g; exact g_move (s := .av _) rfl; exact rfl
        apply sq_g; exact g_len rfl; exact rfl
        apply sq_g; exact g_move (s := .av (.val (.int _ _))) rfl; exact rfl
        refine sq_nil ?_
        refine sq_then ?_
        refine cq_block ?_
        refine cq_loop (γ := Nat × List Bool) (fun x => [(0, .av (zs l)), (1, .av (vi w)), (7, .osl 15), (8, .av (vi (lastV K x.1))), (42, .av (.sl L.length 1 (gsF L))), (43, .av (vi L.length)), (44, .av (vi x.1))]) (fun x => [(15, .row 4 1 l.length (bf x.2))]) (fun x => x.1 ≤ K.length ∧ x.2.length = l.length ∧ ∀ i, i < l.length → (gb x.2 i = true ↔ ∃ j, j < x.1 ∧ gz l i / w = gz K j)) (fun x => K.length - x.1) (0, List.replicate l.length false) ⟨Nat.zero_le _, by simp, fun i _ => by dsimp only; rw [gb_rep]; simp⟩ (ent ⟨.refl _, .refl _, .refl _, .refl _, .refl _, .refl _, .refl _, trivial⟩ ⟨⟨_, rfl, .row rfl (bf_rep _)⟩, trivial⟩) ?_
        rintro ⟨k, D⟩ ⟨hk, hD, hS⟩
        dsimp only at hk hD hS ⊢
        refine cq_seq ?_
        refine cq_region ?_
        apply sq_g; exact g_cmp rfl rfl rfl; exact rfl
        refine sq_nil ?_
        refine sq_then ?_
        refine cq_seq ?_
        (refine cq_cond rfl (fun hb => ?_) (fun hb => ?_) <;> (try simp only [decide_eq_true_eq, decide_eq_false_iff_not, beq_iff_eq, beq_eq_false_iff_ne, bne_iff_ne, bne_eq_false_iff_eq, ne_eq, Bool.not_eq_true', Bool.not_eq_false', Bool.and_eq_true, Bool.or_eq_true, Bool.and_eq_false_iff, Bool.or_eq_false_iff] at hb) <;> (try (exfalso; omega)))
        · have hkl : k < K.length := by omega
          obtain ⟨i0, hi0, eq0⟩ := (hKm _).1 (gz_mem hkl)
          have hL := congrArg zs (hgl k hkl)
          have hga := idx_asc l w l.length (gz K k)
          have hgm : ∀ x, x ∈ idx l w l.length (gz K k) ↔ ∃ i : Nat, i < l.length ∧ gz l i / w = gz K k ∧ x = i := fun x => mem_idx
          have hgn := idx_len l w l.length (gz K k)
          generalize idx l w l.length (gz K k) = g at hL hga hgm hgn
          have hg0 : 0 < g.length := List.length_pos_of_mem ((hgm _).2 ⟨i0, hi0, eq0, rfl⟩)
          have hgs := issorted_c g (by omega) hga
          refine cq_skip ?_
          refine sq_then ?_
          refine cq_seq ?_
          refine cq_block ?_
          refine cq_seq ?_
          refine cq_region ?_
          apply sq_g; exact g_index rfl rfl rfl (by omega); exact rfl
          apply sq_g; exact  g_load (τ := zs g) rfl rfl hL; exact rfl
          apply sq_g; exact g_assign (s := .av _) rfl; exact rfl
          refine sq_nil ?_
          refine sq_then ?_
          refine cq_seq ?_
          refine cq_seq ?_
          refine cq_region ?_
          apply sq_g; exact g_move (s := .av _) rfl; exact rfl
          apply sq_g; exact g_len rfl; exact rfl
          apply sq_g; exact g_cmp rfl rfl rfl; exact rfl
          apply sq_g; exact g_move (s := .av (.val (.bool _))) rfl; exact rfl
          refine sq_split rfl rfl (fun hb => ?_) (fun hb => ?_) <;> (try simp only [decide_eq_true_eq, decide_eq_false_iff_not, beq_iff_eq, beq_eq_false_iff_ne, bne_iff_ne, bne_eq_false_iff_eq, ne_eq, Bool.not_eq_true', Bool.not_eq_false', Bool.and_eq_true, Bool.or_eq_true, Bool.and_eq_false_iff, Bool.or_eq_false_iff] at hb) <;> (try (exfalso; omega))
          apply sq_on; exact g_move (s := .av _) rfl; exact rfl; exact rfl; exact rfl
          apply sq_on; exact g_call (hgs) rfl; exact rfl; exact rfl; exact rfl
          apply sq_on; exact g_not rfl; exact rfl; exact rfl; exact rfl
          apply sq_g; exact g_pick (s := .av (.val (.bool _))) rfl rfl; exact rfl
          refine sq_nil ?_
          refine sq_then ?_
          refine cq_cond_f rfl ?_
          refine cq_skip ?_
          refine sq_then ?_
          refine cq_seq ?_
          refine cq_seq ?_
          refine cq_region ?_
          apply sq_g; exact g_move (s := .av _) rfl; exact rfl
          apply sq_g; exact g_len rfl; exact rfl
          apply sq_g; exact g_move (s := .av (.val (.int _ _))) rfl; exact rfl
          refine sq_nil ?_
          refine sq_then ?_
          refine cq_block ?_
          obtain ⟨i1, hi1, eq1, ei1⟩ := (hgm _).1 (gz_mem hg0)
          refine cq_loop (γ := Nat × List Bool) (fun x => [(0, .av (zs l)), (1, .av (vi w)), (7, .osl 15), (8, .av (vi (lastV K k))), (10, .av (zs g)), (42, .av (.sl L.length 1 (gsF L))), (43, .av (vi L.length)), (44, .av (vi k)), (56, .av (zs g)), (57, .av (vi g.length)), (58, .av (vi x.1))]) (fun x => [(15, .row 4 1 l.length (bf x.2))]) (fun x => x.1 ≤ g.length ∧ x.2.length = l.length ∧ ∀ i : Nat, i < l.length → (gb x.2 i = true ↔ (∃ j, j < k ∧ gz l i / w = gz K j) ∨ ∃ j, j < x.1 ∧ gz g j = i)) (fun x => g.length - x.1) (0, D) ⟨Nat.zero_le _, hD, fun i hi => by dsimp only; rw [hS i hi]; simp⟩ (ent ⟨.refl _, .refl _, .refl _, .refl _, .refl _, .refl _, .refl _, .refl _, .refl _, .refl _, .refl _, trivial⟩ ⟨⟨_, rfl, .refl _⟩, trivial⟩) ?_
          rintro ⟨j, D2⟩ ⟨hj, hD2, hS2⟩
          dsimp only at hj hD2 hS2 ⊢
          refine cq_seq ?_
          refine cq_region ?_
          apply sq_g; exact g_cmp rfl rfl rfl; exact rfl
          refine sq_nil ?_
          refine sq_then ?_
          refine cq_seq ?_
          (refine cq_cond rfl (fun hb => ?_) (fun hb => ?_) <;> (try simp only [decide_eq_true_eq, decide_eq_false_iff_not, beq_iff_eq, beq_eq_false_iff_ne, bne_iff_ne, bne_eq_false_iff_eq, ne_eq, Bool.not_eq_true', Bool.not_eq_false', Bool.and_eq_true, Bool.or_eq_true, Bool.and_eq_false_iff, Bool.or_eq_false_iff] at hb) <;> (try (exfalso; omega)))
          · have hjl : j < g.length := by omega
            obtain ⟨i2, hi2, eq2, ei2⟩ := (hgm _).1 (gz_mem hjl)
            have hns : gb D2 i2 = false := by
              rw [Bool.eq_false_iff]
              intro hs
              rcases (hS2 i2 hi2).1 hs with ⟨j', h1, h2⟩ | ⟨j', h1, h2⟩
              · have := gz_asc hKa h1 hkl
                omega
              · have := gz_asc hga h1 hjl
                omega
            have qa := hq i2
            have qb := hq i1
            have pa := hp i2
            have pb := hp i1
            have hw0 : 0 < w := by omega
            focus
              refine cq_skip ?_
              refine sq_then ?_
              refine cq_seq ?_
              refine cq_block ?_
              refine cq_seq ?_
              refine cq_region ?_
              apply sq_g; exact g_index rfl rfl rfl (by omega); exact rfl
              apply sq_g; exact g_load (τ := .val (.int _ _)) rfl rfl rfl; exact rfl
              apply sq_g; exact g_assign (s := .av (.val (.int _ _))) rfl; exact rfl
              refine sq_nil ?_
              refine sq_then ?_
              refine cq_seq ?_
              refine cq_seq ?_
              refine cq_drawn ?_
              apply dq_g; exact g_move (s := .av (.val (.int _ _))) rfl; exact rfl
              apply dq_g; exact g_cmp rfl rfl rfl; exact rfl
              apply dq_g; exact g_move (s := .av (.val (.bool _))) rfl; exact rfl
              refine dq_split rfl rfl (fun hb => ?_) (fun hb => ?_) <;> (try simp only [decide_eq_true_eq, decide_eq_false_iff_not, beq_iff_eq, beq_eq_false_iff_ne, bne_iff_ne, bne_eq_false_iff_eq, ne_eq, Bool.not_eq_true', Bool.not_eq_false', Bool.and_eq_true, Bool.or_eq_true, Bool.and_eq_false_iff, Bool.or_eq_false_iff] at hb) <;> (try (exfalso; omega))
              apply dq_on; exact g_move (s := .av (.val (.int _ _))) rfl; exact rfl; exact rfl; exact rfl
              apply dq_on; exact g_move (s := .av _) rfl; exact rfl; exact rfl; exact rfl
              apply dq_on; exact g_len rfl; exact rfl; exact rfl; exact rfl
              apply dq_on; exact g_cmp rfl rfl rfl; exact rfl; exact rfl; exact rfl
              apply dq_g; exact g_pick (s := .av (.val (.bool _))) rfl rfl; exact rfl
              apply dq_g; exact g_move (s := .av (.val (.bool _))) rfl; exact rfl
              refine dq_split rfl rfl (fun hb => ?_) (fun hb => ?_) <;> (try simp only [decide_eq_true_eq, decide_eq_false_iff_not, beq_iff_eq, beq_eq_false_iff_ne, bne_iff_ne, bne_eq_false_iff_eq, ne_eq, Bool.not_eq_true', Bool.not_eq_false', Bool.and_eq_true, Bool.or_eq_true, Bool.and_eq_false_iff, Bool.or_eq_false_iff] at hb) <;> (try (exfalso; omega))
              apply dq_on; exact g_move (s := .osl _) rfl; exact rfl; exact rfl; exact rfl
              apply dq_on; exact g_move (s := .av (.val (.int _ _))) rfl; exact rfl; exact rfl; exact rfl
              apply dq_on; exact  g_index_row (k := i2) rfl rfl rfl ei2 hi2; exact rfl; exact rfl; exact rfl
              apply dq_on; exact  g_load_oel (τ := .val (.bool (gb D2 i2))) rfl rfl hi2 rfl rfl; exact rfl; exact rfl; exact rfl
              apply dq_g; exact g_pick (s := .av (.val (.bool _))) rfl rfl; exact rfl
              apply dq_g; exact g_move (s := .av (.val (.bool _))) rfl; exact rfl
              refine dq_split rfl rfl (fun hb => ?_) (fun hb => ?_) <;> (try simp only [decide_eq_true_eq, decide_eq_false_iff_not, beq_iff_eq, beq_eq_false_iff_ne, bne_iff_ne, bne_eq_false_iff_eq, ne_eq, Bool.not_eq_true', Bool.not_eq_false', Bool.and_eq_true, Bool.or_eq_true, Bool.and_eq_false_iff, Bool.or_eq_false_iff] at hb) <;> (try (exfalso; omega))
              refine dq_off nofun rfl rfl rfl rfl ?_
              refine dq_off nofun rfl rfl rfl rfl ?_
              refine dq_off nofun rfl rfl rfl rfl ?_
              refine dq_off nofun rfl rfl rfl rfl ?_
              refine dq_off nofun rfl rfl rfl rfl ?_
              refine dq_off nofun rfl rfl rfl rfl ?_
              refine dq_off nofun rfl rfl rfl rfl ?_
              refine dq_off nofun rfl rfl rfl rfl ?_
              refine dq_off nofun rfl rfl rfl rfl ?_
              refine dq_off nofun rfl rfl rfl rfl ?_
              refine dq_off nofun rfl rfl rfl rfl ?_
              refine dq_off nofun rfl rfl rfl rfl ?_
              refine dq_off nofun rfl rfl rfl rfl ?_
              refine dq_off nofun rfl rfl rfl rfl ?_
              refine dq_off nofun rfl rfl rfl rfl ?_
              apply dq_g; exact g_pick (s := .av (.val (.bool _))) rfl rfl; exact rfl
              refine dq_nil tm (by kernel_rfl) ?_
              refine sq_then ?_
              refine cq_cond_t rfl ?_
              refine cq_seq ?_
              refine cq_region ?_
              apply sq_g; exact g_assign (s := .av (.val (.bool _))) rfl; exact rfl
              refine sq_nil ?_
              refine sq_then ?_
              refine cq_ret ?_
              refine sq_then_ret ?_
              refine sq_inBlock_ret ?_
              refine sq_then_ret ?_
              refine sq_then_ret ?_
              refine sq_inBlock_ret ?_
              refine sq_then_ret ?_
              refine sq_inBlock_ret ?_
              refine sq_then_ret ?_
              refine sq_then_ret ?_
              refine sq_inBlock_ret ?_
              refine sq_then_ret ?_
              rotate_left
              apply dq_on; exact g_move (s := .av _) rfl; exact rfl; exact rfl; exact rfl
              apply dq_on; exact g_move (s := .av (.val (.int _ _))) rfl; exact rfl; exact rfl; exact rfl
              apply dq_on; exact  g_index (k := i2) rfl rfl ei2 hi2; exact rfl; exact rfl; exact rfl
              apply dq_on; exact g_load (τ := .val (.int _ _)) rfl rfl rfl; exact rfl; exact rfl; exact rfl
              apply dq_on; exact g_move (s := .av (.val (.int _ _))) rfl; exact rfl; exact rfl; exact rfl
              apply dq_on; exact g_quo rfl rfl (by omega) (by omega) (by omega); exact rfl; exact rfl; exact rfl
              apply dq_on; exact g_move (s := .av _) rfl; exact rfl; exact rfl; exact rfl
              apply dq_on; exact g_move (s := .av _) rfl; exact rfl; exact rfl; exact rfl
              apply dq_on; exact  g_index (k := 0) rfl rfl rfl hg0; exact rfl; exact rfl; exact rfl
              apply dq_on; exact g_load (τ := .val (.int _ _)) rfl rfl rfl; exact rfl; exact rfl; exact rfl
              apply dq_on; exact  g_index (k := i1) rfl rfl ei1 hi1; exact rfl; exact rfl; exact rfl
              apply dq_on; exact g_load (τ := .val (.int _ _)) rfl rfl rfl; exact rfl; exact rfl; exact rfl
              apply dq_on; exact g_move (s := .av (.val (.int _ _))) rfl; exact rfl; exact rfl; exact rfl
              apply dq_on; exact g_quo rfl rfl (by omega) (by omega) (by omega); exact rfl; exact rfl; exact rfl
              apply dq_on; exact g_cmp rfl rfl rfl; exact rfl; exact rfl; exact rfl
              apply dq_g; exact g_pick (s := .av (.val (.bool _))) rfl rfl; exact rfl
              refine dq_nil tm (by kernel_rfl) ?_
              refine sq_then ?_
              rotate_left
            · rw [hns] at hb; cases hb
            · (refine cq_cond rfl (fun hb => ?_) (fun hb => ?_) <;> (try simp only [decide_eq_true_eq, decide_eq_false_iff_not, beq_iff_eq, beq_eq_false_iff_ne, bne_iff_ne, bne_eq_false_iff_eq, ne_eq, Bool.not_eq_true', Bool.not_eq_false', Bool.and_eq_true, Bool.or_eq_true, Bool.and_eq_false_iff, Bool.or_eq_false_iff] at hb) <;> (try (exfalso; omega)))
              refine cq_skip ?_
              refine sq_then ?_
              refine cq_region ?_
              apply sq_g; exact g_move (s := .osl _) rfl; exact rfl
              apply sq_g; exact g_move (s := .av (.val (.int _ _))) rfl; exact rfl
              apply sq_g; exact  g_index_row (k := i2) rfl rfl rfl ei2 hi2; exact rfl
              refine sq_s (g_store_oel rfl rfl rfl rfl (by omega) rfl) ?_
              refine sq_nil ?_
              refine sq_then ?_
              refine cq_region ?_
              apply sq_g; exact g_arith rfl rfl rfl (by omega); exact rfl
              apply sq_g; exact g_move (s := .av (.val (.int _ _))) rfl; exact rfl
              refine sq_nil ?_
              exact sq_round (g := (j, D2)) (j + 1, D2.set i2 true) ⟨by dsimp only; omega, by dsimp only; rw [List.length_set]; exact hD2, fun i hi => by
                dsimp only
                rw [gb_set (by omega)]
                constructor
                · intro h
                  split at h
                  · rename_i e
                    subst e
                    exact .inr ⟨j, by omega, ei2⟩
                  · rcases (hS2 i hi).1 h with h | ⟨j', h1, h2⟩
                    · exact .inl h
                    · exact .inr ⟨j', by omega, h2⟩
                · intro h
                  split
                  · rfl
                  · rename_i e
                    refine (hS2 i hi).2 (h.imp id fun ⟨j', h1, h2⟩ => ⟨j', ?_, h2⟩)
                    rcases Nat.lt_or_ge j' j with h3 | h3
                    · exact h3
                    · have : j' = j := by omega
                      subst this
                      omega⟩ (by dsimp only; omega) (ent ⟨.refl _, .refl _, .refl _, .refl _, .refl _, .refl _, .refl _, .refl _, .refl _, .refl _, .int (by dsimp only; omega), trivial⟩ ⟨⟨_, rfl, rle_b rfl hD2.symm (by omega)⟩, trivial⟩)
          · have hjl : j = g.length := by omega
            subst hjl
            have qb := hq i1
            have pb := hp i1
            have hw0 : 0 < w := by omega
            have hlt : lastV K k < gz l i1 / w := by
              unfold lastV
              split
              · omega
              · rw [eq1]; exact gz_asc hKa (by omega) hkl
            refine cq_exit ?_
            refine sq_then ?_
            refine cq_seq ?_
            refine cq_seq ?_
            refine cq_region ?_
            apply sq_g; exact g_move (s := .av _) rfl; exact rfl
            apply sq_g; exact g_move (s := .av _) rfl; exact rfl
            apply sq_g; exact  g_index (k := 0) rfl rfl rfl hg0; exact rfl
            apply sq_g; exact g_load (τ := .val (.int _ _)) rfl rfl rfl; exact rfl
            apply sq_g; exact  g_index (k := i1) rfl rfl ei1 hi1; exact rfl
            apply sq_g; exact g_load (τ := .val (.int _ _)) rfl rfl rfl; exact rfl
            apply sq_g; exact g_move (s := .av (.val (.int _ _))) rfl; exact rfl
            apply sq_g; exact g_quo rfl rfl (by omega) (by omega) (by omega); exact rfl
            apply sq_g; exact g_move (s := .av (.val (.int _ _))) rfl; exact rfl
            apply sq_g; exact g_cmp rfl rfl rfl; exact rfl
            refine sq_nil ?_
            refine sq_then ?_
            (refine cq_cond rfl (fun hb => ?_) (fun hb => ?_) <;> (try simp only [decide_eq_true_eq, decide_eq_false_iff_not, beq_iff_eq, beq_eq_false_iff_ne, bne_iff_ne, bne_eq_false_iff_eq, ne_eq, Bool.not_eq_true', Bool.not_eq_false', Bool.and_eq_true, Bool.or_eq_true, Bool.and_eq_false_iff, Bool.or_eq_false_iff] at hb) <;> (try (exfalso; omega)))
            refine cq_skip ?_
            refine sq_then ?_
            refine cq_region ?_
            apply sq_g; exact g_move (s := .av _) rfl; exact rfl
            apply sq_g; exact g_move (s := .av _) rfl; exact rfl
            apply sq_g; exact  g_index (k := 0) rfl rfl rfl hg0; exact rfl
            apply sq_g; exact g_load (τ := .val (.int _ _)) rfl rfl rfl; exact rfl
            apply sq_g; exact  g_index (k := i1) rfl rfl ei1 hi1; exact rfl
            apply sq_g; exact g_load (τ := .val (.int _ _)) rfl rfl rfl; exact rfl
            apply sq_g; exact g_move (s := .av (.val (.int _ _))) rfl; exact rfl
            apply sq_g; exact g_quo rfl rfl (by omega) (by omega) (by omega); exact rfl
            apply sq_g; exact g_assign (s := .av (.val (.int _ _))) rfl; exact rfl
            refine sq_nil ?_
            refine sq_then ?_
            refine cq_region ?_
            apply sq_g; exact g_arith rfl rfl rfl (by omega); exact rfl
            apply sq_g; exact g_move (s := .av (.val (.int _ _))) rfl; exact rfl
            refine sq_nil ?_
            have elast : lastV K (k + 1) = gz l i1 / w := by unfold lastV; rw [if_neg (by omega), eq1]; rfl
            exact sq_round (g := (k, D)) (k + 1, D2) ⟨by dsimp only; omega, hD2, fun i hi => by
              dsimp only
              rw [hS2 i hi]
              constructor
              · rintro (⟨j, h1, h2⟩ | ⟨j, h1, h2⟩)
                · exact ⟨j, by omega, h2⟩
                · obtain ⟨i', h3, h4, h5⟩ := (hgm _).1 (gz_mem h1)
                  have : i' = i := by omega
                  subst this
                  exact ⟨k, by omega, h4⟩
              · rintro ⟨j, h1, h2⟩
                rcases Nat.lt_or_ge j k with h3 | h3
                · exact .inl ⟨j, h3, h2⟩
                · have : j = k := by omega
                  subst this
                  exact .inr (gz_at ((hgm _).2 ⟨i, hi, h2, rfl⟩))⟩ (by dsimp only; omega) (ent ⟨.refl _, .refl _, .refl _, .int elast.symm, .refl _, .refl _, .int (by dsimp only; omega), trivial⟩ ⟨⟨_, rfl, .refl _⟩, trivial⟩)
        · have hkl : k = K.length := by omega
          subst hkl
          have cb := contains_b D (by omega) (fun i hi => (hS i (by omega)).2 (by
            obtain ⟨j, hj, e⟩ := gz_at ((hKm _).2 ⟨i, by omega, rfl⟩)
            exact ⟨j, hj, e.symm⟩))
          unfold bs at cb
          rw [hD] at cb
          refine cq_exit ?_
          refine sq_then ?_
          refine cq_seq ?_
          refine cq_region ?_
          apply sq_g; exact g_move (s := .osl _) rfl; exact rfl
          apply sq_g; exact g_call_b (cb) rfl; exact rfl
          apply sq_g; exact g_not rfl; exact rfl
          apply sq_g; exact g_move (s := .av (.val (.bool _))) rfl; exact rfl
          apply sq_on; exact g_call (aw) rfl; exact rfl; exact rfl; exact rfl
          apply sq_g; exact g_pick (s := .av (.val (.bool _))) rfl rfl; exact rfl
          apply sq_g; exact g_assign (s := .av (.val (.bool _))) rfl; exact rfl
          refine sq_nil ?_
          refine sq_then ?_
          refine cq_ret ?_
          exact sq_res1 rfl (.tmp rfl) rfl
  · simp only [initT, List.map_cons, List.map_nil, Nat.zero_add, Nat.reduceAdd]
    refine cq_seq ?_
    refine cq_region ?_
    apply sq_g; exact g_assign (s := .av (.val (.bool _))) rfl; exact rfl
    refine sq_nil ?_
    refine sq_then ?_
    refine cq_seq ?_
    refine cq_seq ?_
    refine cq_region ?_
    apply sq_g; exact g_move (s := .av _) rfl; exact rfl
    apply sq_g; exact g_len rfl; exact rfl
    apply sq_g; exact g_cmp rfl rfl rfl; exact rfl
    apply sq_g; exact g_move (s := .av (.val (.bool _))) rfl; exact rfl
    refine sq_split rfl rfl (fun hb => ?_) (fun hb => ?_) <;> (try simp only [decide_eq_true_eq, decide_eq_false_iff_not, beq_iff_eq, beq_eq_false_iff_ne, bne_iff_ne, bne_eq_false_iff_eq, ne_eq, Bool.not_eq_true', Bool.not_eq_false', Bool.and_eq_true, Bool.or_eq_true, Bool.and_eq_false_iff, Bool.or_eq_false_iff] at hb) <;> (try (exfalso; omega))
    refine sq_off rfl rfl rfl rfl ?_
    refine sq_off rfl rfl rfl rfl ?_
    refine sq_off rfl rfl rfl rfl ?_
    refine sq_off rfl rfl rfl rfl ?_
    apply sq_g; exact g_pick (s := .av (.val (.bool _))) rfl rfl; exact rfl
    apply sq_g; exact g_move (s := .av (.val (.bool _))) rfl; exact rfl
    refine sq_off rfl rfl rfl rfl ?_
    refine sq_off rfl rfl rfl rfl ?_
    apply sq_g; exact g_pick (s := .av (.val (.bool _))) rfl rfl; exact rfl
    apply sq_g; exact g_move (s := .av (.val (.bool _))) rfl; exact rfl
    refine sq_off rfl rfl rfl rfl ?_
    refine sq_off rfl rfl rfl rfl ?_
    apply sq_g; exact g_pick (s := .av (.val (.bool _))) rfl rfl; exact rfl
    refine sq_nil ?_
    refine sq_then ?_
    refine cq_cond_t rfl ?_
    refine cq_seq ?_
    refine cq_region ?_
    apply sq_g; exact g_call (aw) rfl; exact rfl
    apply sq_g; exact g_assign (s := .av (.val (.bool _))) rfl; exact rfl
    refine sq_nil ?_
    refine sq_then ?_
    refine cq_ret ?_
    refine sq_then_ret ?_
    all_goals first | exact sq_res1 rfl (.tmp rfl) rfl | (exfalso; omega) | trace_state
end Go.Proofs.Ytogilkilkmoedaa
