/- A part of the proof that the law returns true at every input and that the input reads behind the call as it read before; this part states nothing of its own that needs a condition of the input. -/
import Derived.Test.YtdoppiajbpmmkaaGreatY
import Derived.Test.YtdoppiajbpmmkaaGreatKb
set_option linter.unusedVariables false
set_option linter.unusedSimpArgs false
set_option linter.unnecessarySimpa false
namespace Go.Proofs.YtdoppiajbpmmkaaGreat
open Go Go.Vc Go.RowKit
set_option maxHeartbeats 8000000
/-! KDQ -/
abbrev natL (v : List Nat) : List Int := v.map (fun i : Nat => (i : Int))
/-- The corners of a facet. -/
def cornF (l : List Tr) (f : Fc) : List Nat := hullN (shN (f.s.map (gt l)) f.n)
def vf (l : List Tr) (f : Fc) : List Int := (cornF l f).map (fun i => ((gi f.s i : Nat) : Int))
def rawTo (l : List Tr) (L : List Fc) : Nat → List Int
  | 0 => []
  | k + 1 => rawTo l L k ++ vf l (gf L k)
def rawV (l : List Tr) (L : List Fc) : List Int :=
  if (spn l).dim = -1 then [] else if (spn l).dim = 0 then [0] else
  if (spn l).dim = 1 then [((exLo l (spn l).way l.length : Nat) : Int), ((exHi l (spn l).way l.length : Nat) : Int)] else
  if (spn l).dim = 2 then natL (hullN (shN l (spn l).way)) else rawTo l L L.length
def vertV (l : List Tr) (L : List Fc) : List Int := Lib.compact (sortI (rawV l L))
theorem sortI_len (l : List Int) : (sortI l).length = l.length := by unfold sortI; rw [List.length_mergeSort]
theorem xz (L : List Nat) : ∀ i, i < L.length → ∀ j, j < 1 → xf L i j = zf (natL L) i j := by
  intro i hi j hj
  unfold xf zf gi gz
  simp [List.getD, hi]
theorem bs26_1 (w : World) : (Instr.buildSlice 26 1 #[(0, .int .i64 0)]).run Tryz.prog w = .ok (.slice (some ⟨w.heap.size, 0, none⟩) 1 1) (w.alloc (.cells #[.int .i64 0] 3)) := by kernel_rfl
theorem gi_takeS {s : List Nat} {k : Nat} (h : k < s.length) : s.take (k + 1) = s.take k ++ [gi s k] := by
  rw [gi_eq h, List.take_succ_eq_append_getElem h]
theorem cornF_len (l : List Tr) (f : Fc) (h : f.s.length ≤ 6) : (cornF l f).length ≤ 12 := by
  have := hullN_len (shN (f.s.map (gt l)) f.n)
  rw [shN_len, List.length_map] at this
  unfold cornF; omega
theorem rawTo_len (l : List Tr) (L : List Fc) (hL : ∀ f ∈ L, f.n ≠ tz ∧ f.s.length ≤ 6) : ∀ k, k ≤ L.length → (rawTo l L k).length ≤ 12 * k
  | 0, _ => Nat.le_refl _
  | k + 1, hk => by
    have h1 := rawTo_len l L hL k (by omega)
    have h2 := cornF_len l (gf L k) (hL _ (gf_mem (by omega))).2
    show (rawTo l L k ++ (cornF l (gf L k)).map _).length ≤ _
    rw [List.length_append, List.length_map]; omega
theorem zx_app (X : List Int) (x : Nat) : ∀ i, i < X.length + 1 → ∀ j, j < 1 → rowApp X.length (zf X) (xf [x]) i j = zf (X ++ [(x : Int)]) i j := by
  intro i hi j hj
  unfold rowApp
  by_cases h : i < X.length
  · rw [if_pos h]; unfold zf gz; simp [List.getD, List.getElem?_append_left h]
  · rw [if_neg h]
    have e : i = X.length := by omega
    subst e
    unfold zf gz xf gi
    simp [List.getD]
theorem vertices_c (l : List Tr) (L : List Fc) (τ : AV) (hl : RT l) (hn : l.length ≤ 6) (hτ : (spn l).dim ≠ -1 → (spn l).dim ≠ 0 → (spn l).dim ≠ 1 → (spn l).dim ≠ 2 → τ = .sl L.length 5 (ff L)) (hLn : L.length ≤ 1000) (hL : ∀ f ∈ L, f.n ≠ tz ∧ 0 < f.s.length ∧ f.s.length ≤ 6 ∧ ∀ i ∈ f.s, i < l.length) :
    CtrA Tryz.prog 51 [ts l, τ] (tupOf [zs (vertV l L), vi 0]) := by
  refine ctrA _ Tryz.func51 rfl rfl Tryz.ntmps51 rfl fun w Z => ?_
  have hsp := spanned_c l hl (by omega)
  have hok : SpOk (spn l) := SpOk.to hl l.length
  have hway := spn_way (l := l)
  have hpos := spn_pos (l := l)
  have hv : vertV l L = Lib.compact (sortI (rawV l L)) := rfl
  unfold rawV at hv
  generalize spn l = s at hsp hok hway hpos hτ hv
  simp only [initT, List.map_cons, List.map_nil, Nat.zero_add, Nat.reduceAdd]
  refine cq_seq ?_
  refine cq_region ?_
  apply sq_g; exact g_assign (s := .av _) rfl; exact rfl
  apply sq_g; exact g_assign (s := .av (.val (.int _ _))) rfl; exact rfl
  refine sq_nil ?_
  refine sq_then ?_
  refine cq_seq ?_
  refine cq_region ?_
  apply sq_g; exact g_assign (s := .av _) rfl; exact rfl
  refine sq_nil ?_
  refine sq_then ?_
  refine cq_seq ?_
  refine cq_seq ?_
  refine cq_region ?_
  apply sq_g; exact g_move (s := .av _) rfl; exact rfl
  apply sq_g; exact g_call (hsp) rfl; exact rfl
  refine sq_v (f_alloc 10 rfl) rfl ?_
  refine sq_s (g_store_agg rfl rfl rfl rfl rfl rfl) ?_
  refine sq_nil ?_
  refine sq_then ?_
  refine cq_seq ?_
  refine cq_region ?_
  apply sq_g; exact g_field_own rfl; exact rfl
  apply sq_g; exact g_load_own (s := .av (.val (.int _ _))) rfl rfl rfl; exact rfl
  refine sq_nil ?_
  refine sq_then ?_
  refine cq_block ?_
  refine cq_seq ?_
  refine cq_region ?_
  apply sq_g; exact g_cmp rfl rfl rfl; exact rfl
  apply sq_g; exact g_assign (s := .av (.val (.bool _))) rfl; exact rfl
  refine sq_nil ?_
  refine sq_then ?_
  (refine cq_cond rfl (fun hb => ?_) (fun hb => ?_) <;> (try simp only [decide_eq_true_eq, decide_eq_false_iff_not, beq_iff_eq, beq_eq_false_iff_ne, bne_iff_ne, bne_eq_false_iff_eq, ne_eq, Bool.not_eq_true', Bool.not_eq_false', Bool.and_eq_true, Bool.or_eq_true, Bool.and_eq_false_iff, Bool.or_eq_false_iff] at hb) <;> (try (exfalso; omega)))
  · rw [if_pos hb] at hv
    rw [hv]
    have hs := sort_c 3 [] (by decide)
    have hc := compacti_c 3 (sortI []) (by rw [sortI_len]; decide)
    rw [sortI_len] at hc
    refine cq_ent (ent_row (dd := 6) 70 3 1 (zf []) rfl rfl) ?_
    refine cq_skip ?_
    refine sq_then ?_
    refine cq_seq ?_
    refine cq_region ?_
    apply sq_g; exact g_move (s := .osl _) rfl; exact rfl
    refine sq_v (v_call_w (hs) rfl rfl rfl) rfl ?_
    refine sq_nil ?_
    refine sq_then ?_
    refine cq_seq ?_
    refine cq_region ?_
    apply sq_g; exact g_move (s := .osl _) rfl; exact rfl
    refine sq_v (v_call_wb (hc) rfl rfl rfl) rfl ?_
    apply sq_g; exact g_assign (s := .osl _) rfl; exact rfl
    apply sq_g; exact g_assign (s := .av (.val (.int _ _))) rfl; exact rfl
    refine sq_nil ?_
    refine sq_then ?_
    refine cq_ret ?_
    exact sq_ent (ent_freeze 70 rfl) (sq_resN (rvs := [_, _]) (τs := [_, _]) rfl rfl ⟨.tmp rfl, .tmp rfl, trivial⟩ rfl)
  rw [if_neg hb] at hv
  have hm1 := hb
  refine cq_seq ?_
  refine cq_region ?_
  apply sq_g; exact g_cmp rfl rfl rfl; exact rfl
  apply sq_g; exact g_assign (s := .av (.val (.bool _))) rfl; exact rfl
  refine sq_nil ?_
  refine sq_then ?_
  (refine cq_cond rfl (fun hb => ?_) (fun hb => ?_) <;> (try simp only [decide_eq_true_eq, decide_eq_false_iff_not, beq_iff_eq, beq_eq_false_iff_ne, bne_iff_ne, bne_eq_false_iff_eq, ne_eq, Bool.not_eq_true', Bool.not_eq_false', Bool.and_eq_true, Bool.or_eq_true, Bool.and_eq_false_iff, Bool.or_eq_false_iff] at hb) <;> (try (exfalso; omega)))
  · rw [if_pos hb] at hv
    rw [hv]
    have hs := sort_c 3 [0] (by decide)
    have hc := compacti_c 3 (sortI [0]) (by rw [sortI_len]; decide)
    rw [sortI_len] at hc
    refine cq_region ?_
    refine sq_v (f_bs1 (zf [0]) 70 bs26_1 (fun _ _ => rfl) rfl) rfl ?_
    apply sq_g; exact g_assign (s := .osl _) rfl; exact rfl
    refine sq_nil ?_
    refine sq_then ?_
    refine cq_seq ?_
    refine cq_region ?_
    apply sq_g; exact g_move (s := .osl _) rfl; exact rfl
    refine sq_v (v_call_w (hs) rfl rfl rfl) rfl ?_
    refine sq_nil ?_
    refine sq_then ?_
    refine cq_seq ?_
    refine cq_region ?_
    apply sq_g; exact g_move (s := .osl _) rfl; exact rfl
    refine sq_v (v_call_wb (hc) rfl rfl rfl) rfl ?_
    apply sq_g; exact g_assign (s := .osl _) rfl; exact rfl
    apply sq_g; exact g_assign (s := .av (.val (.int _ _))) rfl; exact rfl
    refine sq_nil ?_
    refine sq_then ?_
    refine cq_ret ?_
    exact sq_ent (ent_freeze 70 rfl) (sq_resN (rvs := [_, _]) (τs := [_, _]) rfl rfl ⟨.tmp rfl, .tmp rfl, trivial⟩ rfl)
  rw [if_neg hb] at hv
  have hm0 := hb
  refine cq_seq ?_
  refine cq_region ?_
  apply sq_g; exact g_cmp rfl rfl rfl; exact rfl
  apply sq_g; exact g_assign (s := .av (.val (.bool _))) rfl; exact rfl
  refine sq_nil ?_
  refine sq_then ?_
  (refine cq_cond rfl (fun hb => ?_) (fun hb => ?_) <;> (try simp only [decide_eq_true_eq, decide_eq_false_iff_not, beq_iff_eq, beq_eq_false_iff_ne, bne_iff_ne, bne_eq_false_iff_eq, ne_eq, Bool.not_eq_true', Bool.not_eq_false', Bool.and_eq_true, Bool.or_eq_true, Bool.and_eq_false_iff, Bool.or_eq_false_iff] at hb) <;> (try (exfalso; omega)))
  · rw [if_pos hb] at hv
    rw [hv]
    have hw : BT 200000 s.way := by
      rcases hok.dim with e | e | e | e | e
      · omega
      · omega
      · exact e.2
      · omega
      · omega
    have hx := extremes_c l s.way hl (hw.le (by decide)) (by omega)
    generalize exLo l s.way l.length = lo at hx ⊢
    generalize exHi l s.way l.length = hi at hx ⊢
    have hs := fun ety => sort_c ety [(lo : Int), (hi : Int)] (show 2 ≤ 1000000 by decide)
    have hc := fun ety => compacti_c ety (sortI [(lo : Int), (hi : Int)]) (by rw [sortI_len]; exact (show 2 ≤ 1000000 by decide))
    simp only [sortI_len] at hc
    refine cq_seq ?_
    refine cq_region ?_
    apply sq_g; exact g_move (s := .av _) rfl; exact rfl
    apply sq_g; exact g_field_own rfl; exact rfl
    apply sq_g; exact g_load_own_agg (us := [.int _ _, .int _ _, .int _ _]) rfl rfl rfl rfl; exact rfl
    apply sq_g; exact g_call (hx) rfl; exact rfl
    refine sq_v (f_alloc 11 rfl) rfl ?_
    refine sq_s (g_store_agg rfl rfl rfl rfl rfl rfl) ?_
    refine sq_nil ?_
    refine sq_then ?_
    refine cq_region ?_
    refine lsq_slice_box (f := fun i => zf [(lo : Int), (hi : Int)] i 0) rfl rfl rfl (by decide) rfl (fun ety => ?_)
    have hs' := hs ety
    have hc' := hc ety
    apply sq_g; exact g_assign (s := .osl _) rfl; exact rfl
    refine sq_nil ?_
    refine sq_then ?_
    refine cq_seq ?_
    refine cq_region ?_
    apply sq_g; exact g_move (s := .osl _) rfl; exact rfl
    refine sq_v (v_call_w (hs') rfl rfl rfl) rfl ?_
    refine sq_nil ?_
    refine sq_then ?_
    refine cq_seq ?_
    refine cq_region ?_
    apply sq_g; exact g_move (s := .osl _) rfl; exact rfl
    refine sq_v (v_call_wb (hc') rfl rfl rfl) rfl ?_
    apply sq_g; exact g_assign (s := .osl _) rfl; exact rfl
    apply sq_g; exact g_assign (s := .av (.val (.int _ _))) rfl; exact rfl
    refine sq_nil ?_
    refine sq_then ?_
    refine cq_ret ?_
    exact sq_ent (ent_freeze 11 rfl) (sq_resN (rvs := [_, _]) (τs := [_, _]) rfl rfl ⟨.tmp rfl, .tmp rfl, trivial⟩ rfl)
  rw [if_neg hb] at hv
  have hd1 := hb
  refine cq_seq ?_
  refine cq_region ?_
  apply sq_g; exact g_cmp rfl rfl rfl; exact rfl
  apply sq_g; exact g_assign (s := .av (.val (.bool _))) rfl; exact rfl
  refine sq_nil ?_
  refine sq_then ?_
  (refine cq_cond rfl (fun hb => ?_) (fun hb => ?_) <;> (try simp only [decide_eq_true_eq, decide_eq_false_iff_not, beq_iff_eq, beq_eq_false_iff_ne, bne_iff_ne, bne_eq_false_iff_eq, ne_eq, Bool.not_eq_true', Bool.not_eq_false', Bool.and_eq_true, Bool.or_eq_true, Bool.and_eq_false_iff, Bool.or_eq_false_iff] at hb) <;> (try (exfalso; omega)))
  · rw [if_pos hb] at hv
    rw [hv]
    have hwy := hway (by omega)
    have hc := corners_c l s.way hwy hn
    rw [sh_err hl hwy (hpos hm1) hn] at hc
    generalize hV : hullN (shN l s.way) = V at hc
    have hVl : V.length ≤ 12 := by have := hullN_len (shN l s.way); rw [shN_len, hV] at this; omega
    have hs := sort_c 3 (natL V) (by simp; omega)
    have hcc := compacti_c 3 (sortI (natL V)) (by rw [sortI_len]; simp; omega)
    rw [sortI_len] at hcc
    have hxz := xz V
    have hnl : V.length = (natL V).length := by simp
    refine cq_seq ?_
    refine cq_region ?_
    apply sq_g; exact g_move (s := .av _) rfl; exact rfl
    apply sq_g; exact g_field_own rfl; exact rfl
    apply sq_g; exact g_load_own_agg (us := [.int _ _, .int _ _, .int _ _]) rfl rfl rfl rfl; exact rfl
    refine sq_v (f_call_rowN 40 (hc) rfl rfl) rfl ?_
    apply sq_g; exact g_move (s := .tupR _ _) rfl; exact rfl
    apply sq_g; exact g_extractR0 rfl; exact rfl
    apply sq_g; exact g_extractR rfl rfl; exact rfl
    apply sq_g; exact g_assign (s := .osl _) rfl; exact rfl
    apply sq_g; exact g_assign (s := .av (.val (.int _ _))) rfl; exact rfl
    refine sq_nil ?_
    refine sq_then ?_
    refine cq_seq ?_
    refine cq_seq ?_
    refine cq_region ?_
    apply sq_g; exact g_move (s := .av (.val (.int _ _))) rfl; exact rfl
    apply sq_g; exact g_cmp rfl rfl rfl; exact rfl
    refine sq_nil ?_
    refine sq_then ?_
    refine cq_cond_f rfl ?_
    refine cq_skip ?_
    refine sq_then ?_
    refine cq_region ?_
    apply sq_g; exact g_move (s := .osl _) rfl; exact rfl
    apply sq_g; exact g_assign (s := .osl _) rfl; exact rfl
    refine sq_nil ?_
    refine sq_then ?_
    refine cq_seq ?_
    refine cq_region ?_
    apply sq_g; exact g_move (s := .osl _) rfl; exact rfl
    refine lsq_ent (ent_upd (upd := [(40, .row 3 1 (natL V).length (zf (natL V)))]) ⟨⟨_, rfl, .row hnl hxz⟩, trivial⟩) ?_
    refine sq_v (v_call_w (hs) rfl rfl rfl) rfl ?_
    refine sq_nil ?_
    refine sq_then ?_
    refine cq_seq ?_
    refine cq_region ?_
    apply sq_g; exact g_move (s := .osl _) rfl; exact rfl
    refine sq_v (v_call_wb (hcc) rfl rfl rfl) rfl ?_
    apply sq_g; exact g_assign (s := .osl _) rfl; exact rfl
    apply sq_g; exact g_assign (s := .av (.val (.int _ _))) rfl; exact rfl
    refine sq_nil ?_
    refine sq_then ?_
    refine cq_ret ?_
    exact sq_ent (ent_freeze 40 rfl) (sq_resN (rvs := [_, _]) (τs := [_, _]) rfl rfl ⟨.tmp rfl, .tmp rfl, trivial⟩ rfl)
  · rw [if_neg hb] at hv
    rw [hv]
    rw [hτ hm1 hm0 hd1 hb]
    have hlen := rawTo_len l L (fun f hf => ⟨(hL f hf).1, (hL f hf).2.2.1⟩)
    refine cq_seq ?_
    refine cq_region ?_
    apply sq_g; exact g_move (s := .av _) rfl; exact rfl
    apply sq_g; exact g_len rfl; exact rfl
    apply sq_g; exact g_move (s := .av (.val (.int _ _))) rfl; exact rfl
    refine sq_nil ?_
    refine sq_then ?_
    refine cq_block ?_
    refine cq_loop (γ := Nat) (fun k => [(0, .av (ts l)), (6, .osl 70), (24, .av (.sl L.length 5 (ff L))), (25, .av (vi L.length)), (26, .av (vi k))]) (fun k => [(70, .row 3 1 (rawTo l L k).length (zf (rawTo l L k)))]) (fun k => k ≤ L.length) (fun k => L.length - k) 0 (Nat.zero_le _) (Ent.trans (ent_row (dd := 6) 70 3 1 (zf []) rfl rfl) (ent ⟨.refl _, .refl _, .refl _, .refl _, .refl _, trivial⟩ ⟨⟨_, rfl, .refl _⟩, trivial⟩)) ?_
    intro k hk
    refine cq_seq ?_
    refine cq_region ?_
    apply sq_g; exact g_cmp rfl rfl rfl; exact rfl
    refine sq_nil ?_
    refine sq_then ?_
    refine cq_seq ?_
    (refine cq_cond rfl (fun hb => ?_) (fun hb => ?_) <;> (try simp only [decide_eq_true_eq, decide_eq_false_iff_not, beq_iff_eq, beq_eq_false_iff_ne, bne_iff_ne, bne_eq_false_iff_eq, ne_eq, Bool.not_eq_true', Bool.not_eq_false', Bool.and_eq_true, Bool.or_eq_true, Bool.and_eq_false_iff, Bool.or_eq_false_iff] at hb) <;> (try (exfalso; omega)))
    · have hkl : k < L.length := by omega
      obtain ⟨f1, f2, f3, f4⟩ := hL (gf L k) (gf_mem hkl)
      have hr : rawTo l L (k + 1) = rawTo l L k ++ vf l (gf L k) := rfl
      have hrl := hlen k hk
      have hff : ∀ j, ff L k j = fcf (gf L k) j := fun _ => rfl
      have hv2 : vf l (gf L k) = (cornF l (gf L k)).map (fun i => ((gi (gf L k).s i : Nat) : Int)) := rfl
      rw [hv2] at hr
      generalize rawTo l L k = X at hr hrl ⊢
      refine cq_skip ?_
      refine sq_then ?_
      refine cq_seq ?_
      refine cq_block ?_
      refine cq_seq ?_
      refine cq_region ?_
      apply sq_g; exact g_index rfl rfl rfl (by omega); exact rfl
      apply sq_g; exact  g_load_aggv rfl rfl; exact rfl
      refine sq_v (f_alloc 10 rfl) rfl ?_
      refine sq_s (g_store_aggv rfl rfl (fcf_one (gf L k)) rfl rfl) ?_
      refine sq_nil ?_
      refine sq_then ?_
      refine cq_seq ?_
      refine cq_region ?_
      apply sq_g; exact g_assign (s := .av _) rfl; exact rfl
      refine sq_nil ?_
      refine sq_then ?_
      refine cq_seq ?_
      refine cq_seq ?_
      refine cq_region ?_
      apply sq_g; exact g_field_own rfl; exact rfl
      apply sq_g; exact g_load_own (s := .av _) rfl rfl rfl; exact rfl
      apply sq_g; exact g_len rfl; exact rfl
      apply sq_g; exact g_move (s := .av (.val (.int _ _))) rfl; exact rfl
      refine sq_nil ?_
      refine sq_then ?_
      refine cq_block ?_
      refine cq_loop (γ := Nat) (fun j => [(0, .av (ts l)), (6, .osl 70), (12, .av (.ptr 5 (fcf (gf L k)))), (24, .av (.sl L.length 5 (ff L))), (25, .av (vi L.length)), (26, .av (vi k)), (13, .osl 71), (31, .av (.sl (gf L k).s.length 1 (xf (gf L k).s))), (32, .av (vi (gf L k).s.length)), (33, .av (vi j))]) (fun j => [(70, .row 3 1 X.length (zf X)), (71, .row 80 3 ((((gf L k).s.take j).map (gt l)).length) (tf (((gf L k).s.take j).map (gt l))))]) (fun j => j ≤ (gf L k).s.length) (fun j => (gf L k).s.length - j) 0 (Nat.zero_le _) (Ent.trans (ent_freezec 12 10 (fcf (gf L k)) rfl rfl rfl) (Ent.trans (ent_row (dd := 13) 71 80 3 (tf []) rfl rfl) (ent ⟨.refl _, .refl _, .refl _, .refl _, .refl _, .refl _, .refl _, .refl _, .refl _, .refl _, trivial⟩ ⟨⟨_, rfl, .refl _⟩, ⟨_, rfl, .refl _⟩, trivial⟩))) ?_
      intro j hj
      refine cq_seq ?_
      refine cq_region ?_
      apply sq_g; exact g_cmp rfl rfl rfl; exact rfl
      refine sq_nil ?_
      refine sq_then ?_
      refine cq_seq ?_
      (refine cq_cond rfl (fun hb => ?_) (fun hb => ?_) <;> (try simp only [decide_eq_true_eq, decide_eq_false_iff_not, beq_iff_eq, beq_eq_false_iff_ne, bne_iff_ne, bne_eq_false_iff_eq, ne_eq, Bool.not_eq_true', Bool.not_eq_false', Bool.and_eq_true, Bool.or_eq_true, Bool.and_eq_false_iff, Bool.or_eq_false_iff] at hb) <;> (try (exfalso; omega)))
      · have hjl : j < (gf L k).s.length := by omega
        have hix := f4 _ (gi_mem hjl)
        have e1 : ((gf L k).s.take (j + 1)).map (gt l) = ((gf L k).s.take j).map (gt l) ++ [gt l (gi (gf L k).s j)] := by rw [gi_takeS hjl, List.map_append]; rfl
        have hl1 : (((gf L k).s.take j).map (gt l)).length ≤ j := by rw [List.length_map, List.length_take]; omega
        generalize ((gf L k).s.take j).map (gt l) = Y at e1 hl1 ⊢
        have hml : Y.length + 1 ≤ maxLen := by simp only [maxLen]; omega
        refine cq_skip ?_
        refine sq_then ?_
        refine cq_seq ?_
        refine cq_block ?_
        refine cq_seq ?_
        refine cq_region ?_
        apply sq_g; exact g_index rfl rfl rfl (by omega); exact rfl
        apply sq_g; exact g_load (τ := .val (.int _ _)) rfl rfl rfl; exact rfl
        apply sq_g; exact g_assign (s := .av (.val (.int _ _))) rfl; exact rfl
        refine sq_nil ?_
        refine sq_then ?_
        refine cq_region ?_
        apply sq_g; exact g_move (s := .osl _) rfl; exact rfl
        apply sq_g; exact g_move (s := .av _) rfl; exact rfl
        apply sq_g; exact g_move (s := .av (.val (.int _ _))) rfl; exact rfl
        apply sq_g; exact g_index rfl rfl rfl (by omega); exact rfl
        apply sq_g; exact g_load_agg (us := [.int _ _, .int _ _, .int _ _]) rfl rfl rfl rfl; exact rfl
        apply sq_g; exact  g_bslice (is := [0]) (xs := [_]) (vs := [_]) (us := [_, _, _]) (tq81 _ _ _) rfl rfl rfl (tf_row _); exact rfl
        refine sq_v (v_append (h := tf [gt l (gi (gf L k).s j)]) (m := 1) rfl rfl rfl (fun i _ j _ => tf_one _ i j) (by omega) hml (by omega)) rfl ?_
        apply sq_g; exact g_assign (s := .osl _) rfl; exact rfl
        refine sq_nil ?_
        refine sq_then ?_
        refine cq_region ?_
        apply sq_g; exact g_arith rfl rfl rfl (by omega); exact rfl
        apply sq_g; exact g_move (s := .av (.val (.int _ _))) rfl; exact rfl
        refine sq_nil ?_
        exact sq_round (j + 1) (by omega) (by omega) (ent ⟨.refl _, .refl _, .refl _, .refl _, .refl _, .refl _, .refl _, .refl _, .refl _, .int (by omega), trivial⟩ ⟨⟨_, rfl, .refl _⟩, ⟨_, rfl, .row (by rw [e1]; simp) (fun i hi j hj => by rw [e1]; exact tf_app _ _ i hi j hj)⟩, trivial⟩)
      · have hjl : j = (gf L k).s.length := by omega
        subst hjl
        rw [List.take_length]
        have hp := RT.pick hl (gf L k).s
        have hcr := corners_c ((gf L k).s.map (gt l)) (gf L k).n f1 (by rw [List.length_map]; exact f3)
        rw [sh_err hp f1 (by rw [List.length_map]; exact f2) (by rw [List.length_map]; exact f3)] at hcr
        rw [show cornF l (gf L k) = hullN (shN ((gf L k).s.map (gt l)) (gf L k).n) from rfl] at hr
        have hVlt : ∀ x ∈ hullN (shN ((gf L k).s.map (gt l)) (gf L k).n), x < (gf L k).s.length := fun x hx => by have := hullN_lt _ x hx; rwa [shN_len, List.length_map] at this
        have hVl := cornF_len l (gf L k) f3
        rw [show cornF l (gf L k) = hullN (shN ((gf L k).s.map (gt l)) (gf L k).n) from rfl] at hVl
        generalize hullN (shN ((gf L k).s.map (gt l)) (gf L k).n) = V at hr hcr hVlt hVl
        refine cq_exit ?_
        refine sq_then ?_
        refine cq_seq ?_
        refine cq_region ?_
        apply sq_g; exact g_move (s := .osl _) rfl; exact rfl
        apply sq_g; exact g_field rfl; exact rfl
        apply sq_g; exact g_load_agg (us := [.int _ _, .int _ _, .int _ _]) rfl rfl rfl rfl; exact rfl
        refine lsq_ent (ent_freeze 71 rfl) ?_
        refine sq_v (f_call_rowN 72 (hcr) rfl rfl) rfl ?_
        apply sq_g; exact g_move (s := .tupR _ _) rfl; exact rfl
        apply sq_g; exact g_extractR0 rfl; exact rfl
        apply sq_g; exact g_extractR rfl rfl; exact rfl
        apply sq_g; exact g_assign (s := .osl _) rfl; exact rfl
        apply sq_g; exact g_assign (s := .av (.val (.int _ _))) rfl; exact rfl
        refine sq_nil ?_
        refine sq_then ?_
        refine cq_seq ?_
        refine cq_seq ?_
        refine cq_region ?_
        apply sq_g; exact g_move (s := .av (.val (.int _ _))) rfl; exact rfl
        apply sq_g; exact g_cmp rfl rfl rfl; exact rfl
        refine sq_nil ?_
        refine sq_then ?_
        refine cq_cond_f rfl ?_
        refine cq_skip ?_
        refine sq_then ?_
        refine cq_seq ?_
        refine cq_region ?_
        apply sq_g; exact g_move (s := .osl _) rfl; exact rfl
        apply sq_g; exact g_len_own rfl rfl; exact rfl
        apply sq_g; exact g_move (s := .av (.val (.int _ _))) rfl; exact rfl
        refine sq_nil ?_
        refine sq_then ?_
        refine cq_block ?_
        refine cq_loop (γ := Nat) (fun m => [(0, .av (ts l)), (6, .osl 70), (12, .av (.ptr 5 (fcf (gf L k)))), (24, .av (.sl L.length 5 (ff L))), (25, .av (vi L.length)), (26, .av (vi k)), (55, .av (.sl V.length 1 (xf V))), (56, .av (vi V.length)), (57, .av (vi m))]) (fun m => [(70, .row 3 1 (X ++ (V.take m).map (fun i => ((gi (gf L k).s i : Nat) : Int))).length (zf (X ++ (V.take m).map (fun i => ((gi (gf L k).s i : Nat) : Int)))))]) (fun m => m ≤ V.length) (fun m => V.length - m) 0 (Nat.zero_le _) (Ent.trans (ent_freeze 72 rfl) (ent ⟨.refl _, .refl _, .refl _, .refl _, .refl _, .refl _, .refl _, .refl _, .refl _, trivial⟩ ⟨⟨_, rfl, by rw [List.take_zero, List.map_nil, List.append_nil]; exact .refl _⟩, trivial⟩)) ?_
        intro m hm
        refine cq_seq ?_
        refine cq_region ?_
        apply sq_g; exact g_cmp rfl rfl rfl; exact rfl
        refine sq_nil ?_
        refine sq_then ?_
        refine cq_seq ?_
        (refine cq_cond rfl (fun hb => ?_) (fun hb => ?_) <;> (try simp only [decide_eq_true_eq, decide_eq_false_iff_not, beq_iff_eq, beq_eq_false_iff_ne, bne_iff_ne, bne_eq_false_iff_eq, ne_eq, Bool.not_eq_true', Bool.not_eq_false', Bool.and_eq_true, Bool.or_eq_true, Bool.and_eq_false_iff, Bool.or_eq_false_iff] at hb) <;> (try (exfalso; omega)))
        · have hml : m < V.length := by omega
          have hix := hVlt _ (gi_mem hml)
          have hff4 : gi V m < (gf L k).s.length := hix
          have e1 : (V.take (m + 1)).map (fun i => ((gi (gf L k).s i : Nat) : Int)) = (V.take m).map (fun i => ((gi (gf L k).s i : Nat) : Int)) ++ [((gi (gf L k).s (gi V m) : Nat) : Int)] := by rw [gi_takeS hml, List.map_append]; rfl
          have hl1 : ((V.take m).map (fun i => ((gi (gf L k).s i : Nat) : Int))).length ≤ m := by rw [List.length_map, List.length_take]; omega
          have e2 : X ++ (V.take (m + 1)).map (fun i => ((gi (gf L k).s i : Nat) : Int)) = (X ++ (V.take m).map (fun i => ((gi (gf L k).s i : Nat) : Int))) ++ [((gi (gf L k).s (gi V m) : Nat) : Int)] := by rw [e1, List.append_assoc]
          have hYl : (X ++ (V.take m).map (fun i => ((gi (gf L k).s i : Nat) : Int))).length ≤ 12 * k + m := by rw [List.length_append]; omega
          generalize X ++ (V.take m).map (fun i => ((gi (gf L k).s i : Nat) : Int)) = Y at hYl e2 ⊢
          have hmx : Y.length + 1 ≤ maxLen := by simp only [maxLen]; omega
          refine cq_skip ?_
          refine sq_then ?_
          refine cq_seq ?_
          refine cq_block ?_
          refine cq_seq ?_
          refine cq_region ?_
          apply sq_g; exact g_index rfl rfl rfl (by omega); exact rfl
          apply sq_g; exact g_load (τ := .val (.int _ _)) rfl rfl rfl; exact rfl
          apply sq_g; exact g_assign (s := .av (.val (.int _ _))) rfl; exact rfl
          refine sq_nil ?_
          refine sq_then ?_
          refine cq_region ?_
          apply sq_g; exact g_move (s := .osl _) rfl; exact rfl
          apply sq_g; exact g_field rfl; exact rfl
          apply sq_g; exact g_load rfl rfl rfl; exact rfl
          apply sq_g; exact g_move (s := .av (.val (.int _ _))) rfl; exact rfl
          apply sq_g; exact g_index rfl rfl rfl (by omega); exact rfl
          apply sq_g; exact g_load (τ := .val (.int _ _)) rfl rfl rfl; exact rfl
          apply sq_g; exact g_one_ix (tq26 _) rfl rfl; exact rfl
          refine sq_v (v_append (h := xf [gi (gf L k).s (gi V m)]) (m := 1) rfl rfl rfl (fun i _ j _ => rfl) (by omega) hmx (by omega)) rfl ?_
          apply sq_g; exact g_assign (s := .osl _) rfl; exact rfl
          refine sq_nil ?_
          refine sq_then ?_
          refine cq_region ?_
          apply sq_g; exact g_arith rfl rfl rfl (by omega); exact rfl
          apply sq_g; exact g_move (s := .av (.val (.int _ _))) rfl; exact rfl
          refine sq_nil ?_
          exact sq_round (m + 1) (by omega) (by omega) (ent ⟨.refl _, .refl _, .refl _, .refl _, .refl _, .refl _, .refl _, .refl _, .int (by omega), trivial⟩ ⟨⟨_, rfl, .row (by rw [e2]; simp) (fun i hi j hj => by rw [e2]; exact zx_app _ _ i hi j hj)⟩, trivial⟩)
        · have hml : m = V.length := by omega
          subst hml
          rw [List.take_length]
          refine cq_exit ?_
          refine sq_then ?_
          refine cq_region ?_
          apply sq_g; exact g_arith rfl rfl rfl (by omega); exact rfl
          apply sq_g; exact g_move (s := .av (.val (.int _ _))) rfl; exact rfl
          refine sq_nil ?_
          exact sq_round (k + 1) (by omega) (by omega) (ent ⟨.refl _, .refl _, .refl _, .refl _, .int (by omega), trivial⟩ ⟨⟨_, rfl, by rw [hr]; exact .refl _⟩, trivial⟩)
    · have hkl : k = L.length := by omega
      subst hkl
      have hlL := hlen L.length (Nat.le_refl _)
      have hs := sort_c 3 (rawTo l L L.length) (by omega)
      have hc := compacti_c 3 (sortI (rawTo l L L.length)) (by rw [sortI_len]; omega)
      rw [sortI_len] at hc
      refine cq_exit ?_
      refine sq_then ?_
      refine cq_seq ?_
      refine cq_region ?_
      apply sq_g; exact g_move (s := .osl _) rfl; exact rfl
      refine sq_v (v_call_w (hs) rfl rfl rfl) rfl ?_
      refine sq_nil ?_
      refine sq_then ?_
      refine cq_seq ?_
      refine cq_region ?_
      apply sq_g; exact g_move (s := .osl _) rfl; exact rfl
      refine sq_v (v_call_wb (hc) rfl rfl rfl) rfl ?_
      apply sq_g; exact g_assign (s := .osl _) rfl; exact rfl
      apply sq_g; exact g_assign (s := .av (.val (.int _ _))) rfl; exact rfl
      refine sq_nil ?_
      refine sq_then ?_
      refine cq_ret ?_
      exact sq_ent (ent_freeze 70 rfl) (sq_resN (rvs := [_, _]) (τs := [_, _]) rfl rfl ⟨.tmp rfl, .tmp rfl, trivial⟩ rfl)
end Go.Proofs.YtdoppiajbpmmkaaGreat
namespace Go.Proofs.YtdoppiajbpmmkaaGreat
open Go Go.Vc Go.RowKit
set_option maxHeartbeats 4000000
/-! KDQ -/
abbrev nilA : AV := .val (.slice none 0 0)
abbrev fs (L : List Fc) : AV := .sl L.length 5 (ff L)
/-- Few points. -/
def few (l : List Tr) : Prop := l.length ≤ 6 ∨ 64 < l.length
theorem few.le {l : List Tr} (h : few l) (h0 : chkT l = 0) : RT l ∧ l.length ≤ 6 := by
  obtain ⟨h1, h2⟩ := RT.of h0
  refine ⟨h1, ?_⟩
  rcases h with h | h
  · exact h
  · omega
def solA (l : List Tr) : AV := if (spn l).dim < 3 then nilA else fs (facetsL l)
theorem sp99_0 (s : Spn) (w : World) : (Instr.field 99 (.agg #[.int .i64 s.dim, .int .i64 s.pt.x, .int .i64 s.pt.y, .int .i64 s.pt.z, .int .i64 s.way.x, .int .i64 s.way.y, .int .i64 s.way.z]) 0).run Tryz.prog w = .ok (.int .i64 s.dim) w := by kernel_rfl
theorem solid_e (l : List Tr) (h : chkT l ≠ 0) : CtrA Tryz.prog 50 [ts l] (tupOf [nilA, nilA, vi (chkT l)]) := by
  refine ctrA _ Tryz.func50 rfl rfl Tryz.ntmps50 rfl fun w Z => ?_
  have hc := check_c l
  generalize chkT l = e at h hc ⊢
  simp only [initT, List.map_cons, List.map_nil, Nat.zero_add, Nat.reduceAdd]
  refine cq_seq ?_
  refine cq_region ?_
  apply sq_g; exact g_assign (s := .av _) rfl; exact rfl
  apply sq_g; exact g_assign (s := .av _) rfl; exact rfl
  apply sq_g; exact g_assign (s := .av (.val (.int _ _))) rfl; exact rfl
  refine sq_nil ?_
  refine sq_then ?_
  refine cq_seq ?_
  refine cq_seq ?_
  refine cq_region ?_
  apply sq_g; exact g_move (s := .av _) rfl; exact rfl
  apply sq_g; exact g_call (hc) rfl; exact rfl
  apply sq_g; exact g_assign (s := .av (.val (.int _ _))) rfl; exact rfl
  refine sq_nil ?_
  refine sq_then ?_
  refine cq_seq ?_
  refine cq_region ?_
  apply sq_g; exact g_move (s := .av (.val (.int _ _))) rfl; exact rfl
  apply sq_g; exact g_cmp rfl rfl rfl; exact rfl
  refine sq_nil ?_
  refine sq_then ?_
  (refine cq_cond rfl (fun hb => ?_) (fun hb => ?_) <;> (try simp only [decide_eq_true_eq, decide_eq_false_iff_not, beq_iff_eq, beq_eq_false_iff_ne, bne_iff_ne, bne_eq_false_iff_eq, ne_eq, Bool.not_eq_true', Bool.not_eq_false', Bool.and_eq_true, Bool.or_eq_true, Bool.and_eq_false_iff, Bool.or_eq_false_iff] at hb) <;> (try (exfalso; omega)))
  refine cq_seq ?_
  refine cq_region ?_
  apply sq_g; exact g_move (s := .av (.val (.int _ _))) rfl; exact rfl
  apply sq_g; exact g_assign (s := .av _) rfl; exact rfl
  apply sq_g; exact g_assign (s := .av _) rfl; exact rfl
  apply sq_g; exact g_assign (s := .av (.val (.int _ _))) rfl; exact rfl
  refine sq_nil ?_
  refine sq_then ?_
  refine cq_ret ?_
  refine sq_then_ret ?_
  exact sq_resN (rvs := [_, _, _]) (τs := [_, _, _]) rfl rfl ⟨.tmp rfl, .tmp rfl, .tmp rfl, trivial⟩ rfl
theorem solid_c (l : List Tr) (hf : few l) (h : chkT l = 0) : CtrA Tryz.prog 50 [ts l] (tupOf [ts l, solA l, vi 0]) := by
  refine ctrA _ Tryz.func50 rfl rfl Tryz.ntmps50 rfl fun w Z => ?_
  have hc := check_c l
  rw [h] at hc
  obtain ⟨hl, hn⟩ := hf.le h
  have hv := (vectors_c l (by omega)).ro
  have hs := spanned_c l hl (by omega)
  have hA : solA l = if (spn l).dim < 3 then nilA else fs (facetsL l) := rfl
  have hfa := (facets_c l hl hn).ro
  generalize spn l = s at hs hA
  simp only [initT, List.map_cons, List.map_nil, Nat.zero_add, Nat.reduceAdd]
  refine cq_seq ?_
  refine cq_region ?_
  apply sq_g; exact g_assign (s := .av _) rfl; exact rfl
  apply sq_g; exact g_assign (s := .av _) rfl; exact rfl
  apply sq_g; exact g_assign (s := .av (.val (.int _ _))) rfl; exact rfl
  refine sq_nil ?_
  refine sq_then ?_
  refine cq_seq ?_
  refine cq_seq ?_
  refine cq_region ?_
  apply sq_g; exact g_move (s := .av _) rfl; exact rfl
  apply sq_g; exact g_call (hc) rfl; exact rfl
  apply sq_g; exact g_assign (s := .av (.val (.int _ _))) rfl; exact rfl
  refine sq_nil ?_
  refine sq_then ?_
  refine cq_seq ?_
  refine cq_region ?_
  apply sq_g; exact g_move (s := .av (.val (.int _ _))) rfl; exact rfl
  apply sq_g; exact g_cmp rfl rfl rfl; exact rfl
  refine sq_nil ?_
  refine sq_then ?_
  refine cq_cond_f rfl ?_
  refine cq_skip ?_
  refine sq_then ?_
  refine cq_seq ?_
  refine cq_region ?_
  apply sq_g; exact g_move (s := .av _) rfl; exact rfl
  apply sq_g; exact g_call (hv) rfl; exact rfl
  apply sq_g; exact g_assign (s := .av _) rfl; exact rfl
  refine sq_nil ?_
  refine sq_then ?_
  refine cq_seq ?_
  refine cq_seq ?_
  refine cq_region ?_
  apply sq_g; exact g_move (s := .av _) rfl; exact rfl
  apply sq_g; exact g_call (hs) rfl; exact rfl
  apply sq_g; exact  g_fieldv (us := [_, _, _, _, _, _, _]) rfl (sp99_0 s); exact rfl
  apply sq_g; exact g_cmp rfl rfl rfl; exact rfl
  refine sq_nil ?_
  refine sq_then ?_
  (refine cq_cond rfl (fun hb => ?_) (fun hb => ?_) <;> (try simp only [decide_eq_true_eq, decide_eq_false_iff_not, beq_iff_eq, beq_eq_false_iff_ne, bne_iff_ne, bne_eq_false_iff_eq, ne_eq, Bool.not_eq_true', Bool.not_eq_false', Bool.and_eq_true, Bool.or_eq_true, Bool.and_eq_false_iff, Bool.or_eq_false_iff] at hb) <;> (try (exfalso; omega)))
  · rw [if_pos hb] at hA
    rw [hA]
    refine cq_seq ?_
    refine cq_region ?_
    apply sq_g; exact g_move (s := .av _) rfl; exact rfl
    apply sq_g; exact g_assign (s := .av _) rfl; exact rfl
    apply sq_g; exact g_assign (s := .av _) rfl; exact rfl
    apply sq_g; exact g_assign (s := .av (.val (.int _ _))) rfl; exact rfl
    refine sq_nil ?_
    refine sq_then ?_
    refine cq_ret ?_
    refine sq_then_ret ?_
    exact sq_resN (rvs := [_, _, _]) (τs := [_, _, _]) rfl rfl ⟨.tmp rfl, .tmp rfl, .tmp rfl, trivial⟩ rfl
  · rw [if_neg hb] at hA
    rw [hA]
    refine cq_skip ?_
    refine sq_then ?_
    refine cq_seq ?_
    refine cq_region ?_
    apply sq_g; exact g_move (s := .av _) rfl; exact rfl
    apply sq_g; exact g_move (s := .av _) rfl; exact rfl
    apply sq_g; exact g_call (hfa) rfl; exact rfl
    apply sq_g; exact g_assign (s := .av _) rfl; exact rfl
    apply sq_g; exact g_assign (s := .av _) rfl; exact rfl
    apply sq_g; exact g_assign (s := .av (.val (.int _ _))) rfl; exact rfl
    refine sq_nil ?_
    refine sq_then ?_
    refine cq_ret ?_
    exact sq_resN (rvs := [_, _, _]) (τs := [_, _, _]) rfl rfl ⟨.tmp rfl, .tmp rfl, .tmp rfl, trivial⟩ rfl
theorem dimn_c (l : List Tr) (hf : few l) : CtrA Tryz.prog 43 [ts l] (tupOf [vi (if chkT l = 0 then (spn l).dim else 0), vi (chkT l)]) := by
  refine ctrA _ Tryz.func43 rfl rfl Tryz.ntmps43 rfl fun w Z => ?_
  have hc := check_c l
  by_cases h : chkT l = 0
  · rw [if_pos h]
    rw [h] at hc ⊢
    obtain ⟨hl, hn⟩ := hf.le h
    have hv := (vectors_c l (by omega)).ro
    have hs := spanned_c l hl (by omega)
    generalize spn l = s at hs ⊢
    simp only [initT, List.map_cons, List.map_nil, Nat.zero_add, Nat.reduceAdd]
    refine cq_seq ?_
    refine cq_region ?_
    apply sq_g; exact g_assign (s := .av (.val (.int _ _))) rfl; exact rfl
    apply sq_g; exact g_assign (s := .av (.val (.int _ _))) rfl; exact rfl
    refine sq_nil ?_
    refine sq_then ?_
    refine cq_seq ?_
    refine cq_seq ?_
    refine cq_region ?_
    apply sq_g; exact g_move (s := .av _) rfl; exact rfl
    apply sq_g; exact g_call (hc) rfl; exact rfl
    apply sq_g; exact g_assign (s := .av (.val (.int _ _))) rfl; exact rfl
    refine sq_nil ?_
    refine sq_then ?_
    refine cq_seq ?_
    refine cq_region ?_
    apply sq_g; exact g_move (s := .av (.val (.int _ _))) rfl; exact rfl
    apply sq_g; exact g_cmp rfl rfl rfl; exact rfl
    refine sq_nil ?_
    refine sq_then ?_
    refine cq_cond_f rfl ?_
    refine cq_skip ?_
    refine sq_then ?_
    refine cq_seq ?_
    refine cq_region ?_
    apply sq_g; exact g_move (s := .av _) rfl; exact rfl
    apply sq_g; exact g_call (hv) rfl; exact rfl
    apply sq_g; exact g_call (hs) rfl; exact rfl
    apply sq_g; exact  g_fieldv (us := [_, _, _, _, _, _, _]) rfl (sp99_0 s); exact rfl
    apply sq_g; exact g_assign (s := .av (.val (.int _ _))) rfl; exact rfl
    apply sq_g; exact g_assign (s := .av (.val (.int _ _))) rfl; exact rfl
    refine sq_nil ?_
    refine sq_then ?_
    refine cq_ret ?_
    exact sq_resN (rvs := [_, _]) (τs := [_, _]) rfl rfl ⟨.tmp rfl, .tmp rfl, trivial⟩ rfl
  · rw [if_neg h]
    generalize chkT l = e at h hc ⊢
    simp only [initT, List.map_cons, List.map_nil, Nat.zero_add, Nat.reduceAdd]
    refine cq_seq ?_
    refine cq_region ?_
    apply sq_g; exact g_assign (s := .av (.val (.int _ _))) rfl; exact rfl
    apply sq_g; exact g_assign (s := .av (.val (.int _ _))) rfl; exact rfl
    refine sq_nil ?_
    refine sq_then ?_
    refine cq_seq ?_
    refine cq_seq ?_
    refine cq_region ?_
    apply sq_g; exact g_move (s := .av _) rfl; exact rfl
    apply sq_g; exact g_call (hc) rfl; exact rfl
    apply sq_g; exact g_assign (s := .av (.val (.int _ _))) rfl; exact rfl
    refine sq_nil ?_
    refine sq_then ?_
    refine cq_seq ?_
    refine cq_region ?_
    apply sq_g; exact g_move (s := .av (.val (.int _ _))) rfl; exact rfl
    apply sq_g; exact g_cmp rfl rfl rfl; exact rfl
    refine sq_nil ?_
    refine sq_then ?_
    (refine cq_cond rfl (fun hb => ?_) (fun hb => ?_) <;> (try simp only [decide_eq_true_eq, decide_eq_false_iff_not, beq_iff_eq, beq_eq_false_iff_ne, bne_iff_ne, bne_eq_false_iff_eq, ne_eq, Bool.not_eq_true', Bool.not_eq_false', Bool.and_eq_true, Bool.or_eq_true, Bool.and_eq_false_iff, Bool.or_eq_false_iff] at hb) <;> (try (exfalso; omega)))
    refine cq_seq ?_
    refine cq_region ?_
    apply sq_g; exact g_move (s := .av (.val (.int _ _))) rfl; exact rfl
    apply sq_g; exact g_assign (s := .av (.val (.int _ _))) rfl; exact rfl
    apply sq_g; exact g_assign (s := .av (.val (.int _ _))) rfl; exact rfl
    refine sq_nil ?_
    refine sq_then ?_
    refine cq_ret ?_
    refine sq_then_ret ?_
    exact sq_resN (rvs := [_, _]) (τs := [_, _]) rfl rfl ⟨.tmp rfl, .tmp rfl, trivial⟩ rfl
def vertQ (l : List Tr) : List Int := if chkT l = 0 then vertV l (facetsL l) else []
theorem facets_len (l : List Tr) (hn : l.length ≤ 6) : (facetsL l).length ≤ 1000 := by
  have h1 := cptF_len (sortF (planesL l))
  rw [sortF_len] at h1
  have := planes_len l hn
  unfold facetsL; omega
theorem facets_ok {l : List Tr} (hn : l.length ≤ 6) : ∀ f ∈ facetsL l, f.n ≠ tz ∧ 0 < f.s.length ∧ f.s.length ≤ 6 ∧ ∀ i ∈ f.s, i < l.length := fun f hf => by
  have hp := facets_sub hf
  have hF := planes_isF hp
  obtain ⟨h1, h2⟩ := fac_s hF
  refine ⟨planes_ne hp, h1, ?_, h2⟩
  rw [hF.s]
  have := onTo_len l f.n f.m l.length
  omega
theorem dim_cases {l : List Tr} (hl : RT l) : (spn l).dim = -1 ∨ (spn l).dim = 0 ∨ (spn l).dim = 1 ∨ (spn l).dim = 2 ∨ (spn l).dim = 3 := by
  rcases (SpOk.to hl l.length).dim with h | h | h | h | h
  · exact .inl h
  · exact .inr (.inl h)
  · exact .inr (.inr (.inl h.1))
  · exact .inr (.inr (.inr (.inl h.1)))
  · exact .inr (.inr (.inr (.inr h.1)))
theorem vertices_q (l : List Tr) (hl : RT l) (hn : l.length ≤ 6) : CtrA Tryz.prog 51 [ts l, solA l] (tupOf [zs (vertV l (facetsL l)), vi 0]) :=
  vertices_c l (facetsL l) (solA l) hl hn (fun h1 h2 h3 h4 => by
    have := dim_cases hl
    unfold solA
    rw [if_neg (by omega)]) (facets_len l hn) (facets_ok hn)
theorem vert_c (l : List Tr) (hf : few l) : CtrA Tryz.prog 14 [ts l] (tupOf [zs (vertQ l), vi (chkT l)]) := by
  by_cases h : chkT l = 0
  · refine ctrA _ Tryz.func14 rfl rfl Tryz.ntmps14 rfl fun w Z => ?_
    obtain ⟨hl, hn⟩ := hf.le h
    have hs := solid_c l hf h
    have hv := vertices_q l hl hn
    unfold vertQ
    rw [if_pos h, h]
    generalize vertV l (facetsL l) = V at hv ⊢
    generalize solA l = A at hs hv
    simp only [initT, List.map_cons, List.map_nil, Nat.zero_add, Nat.reduceAdd]
    refine cq_seq ?_
    refine cq_region ?_
    apply sq_g; exact g_assign (s := .av _) rfl; exact rfl
    apply sq_g; exact g_assign (s := .av (.val (.int _ _))) rfl; exact rfl
    refine sq_nil ?_
    refine sq_then ?_
    refine cq_seq ?_
    refine cq_region ?_
    apply sq_g; exact g_move (s := .av _) rfl; exact rfl
    apply sq_g; exact g_call (hs) rfl; exact rfl
    apply sq_g; exact g_move (s := .av _) rfl; exact rfl
    apply sq_g; exact g_extractT rfl rfl; exact rfl
    apply sq_g; exact g_extractT rfl rfl; exact rfl
    apply sq_g; exact g_extractT rfl rfl; exact rfl
    apply sq_g; exact g_assign (s := .av _) rfl; exact rfl
    apply sq_g; exact g_assign (s := .av _) rfl; exact rfl
    apply sq_g; exact g_assign (s := .av (.val (.int _ _))) rfl; exact rfl
    refine sq_nil ?_
    refine sq_then ?_
    refine cq_seq ?_
    refine cq_seq ?_
    refine cq_region ?_
    apply sq_g; exact g_move (s := .av (.val (.int _ _))) rfl; exact rfl
    apply sq_g; exact g_cmp rfl rfl rfl; exact rfl
    refine sq_nil ?_
    refine sq_then ?_
    refine cq_cond_f rfl ?_
    refine cq_skip ?_
    refine sq_then ?_
    refine cq_seq ?_
    refine cq_region ?_
    apply sq_g; exact g_move (s := .av _) rfl; exact rfl
    apply sq_g; exact g_move (s := .av _) rfl; exact rfl
    apply sq_g; exact g_call (hv) rfl; exact rfl
    apply sq_g; exact g_extractT rfl rfl; exact rfl
    apply sq_g; exact g_extractT rfl rfl; exact rfl
    apply sq_g; exact g_assign (s := .av _) rfl; exact rfl
    apply sq_g; exact g_assign (s := .av (.val (.int _ _))) rfl; exact rfl
    refine sq_nil ?_
    refine sq_then ?_
    refine cq_ret ?_
    exact sq_resN (rvs := [_, _]) (τs := [_, _]) rfl rfl ⟨.tmp rfl, .tmp rfl, trivial⟩ rfl
  · have hs := solid_e l h
    unfold vertQ
    rw [if_neg h]
    generalize chkT l = e at h hs ⊢
    refine CtrA.to (τ := tupOf [nilA, vi e]) ?_ (.tup ⟨.nil, .refl _, trivial⟩)
    refine ctrA _ Tryz.func14 rfl rfl Tryz.ntmps14 rfl fun w Z => ?_
    simp only [initT, List.map_cons, List.map_nil, Nat.zero_add, Nat.reduceAdd]
    refine cq_seq ?_
    refine cq_region ?_
    apply sq_g; exact g_assign (s := .av _) rfl; exact rfl
    apply sq_g; exact g_assign (s := .av (.val (.int _ _))) rfl; exact rfl
    refine sq_nil ?_
    refine sq_then ?_
    refine cq_seq ?_
    refine cq_region ?_
    apply sq_g; exact g_move (s := .av _) rfl; exact rfl
    apply sq_g; exact g_call (hs) rfl; exact rfl
    apply sq_g; exact g_move (s := .av _) rfl; exact rfl
    apply sq_g; exact g_extractT rfl rfl; exact rfl
    apply sq_g; exact g_extractT rfl rfl; exact rfl
    apply sq_g; exact g_extractT rfl rfl; exact rfl
    apply sq_g; exact g_assign (s := .av _) rfl; exact rfl
    apply sq_g; exact g_assign (s := .av _) rfl; exact rfl
    apply sq_g; exact g_assign (s := .av (.val (.int _ _))) rfl; exact rfl
    refine sq_nil ?_
    refine sq_then ?_
    refine cq_seq ?_
    refine cq_seq ?_
    refine cq_region ?_
    apply sq_g; exact g_move (s := .av (.val (.int _ _))) rfl; exact rfl
    apply sq_g; exact g_cmp rfl rfl rfl; exact rfl
    refine sq_nil ?_
    refine sq_then ?_
    (refine cq_cond rfl (fun hb => ?_) (fun hb => ?_) <;> (try simp only [decide_eq_true_eq, decide_eq_false_iff_not, beq_iff_eq, beq_eq_false_iff_ne, bne_iff_ne, bne_eq_false_iff_eq, ne_eq, Bool.not_eq_true', Bool.not_eq_false', Bool.and_eq_true, Bool.or_eq_true, Bool.and_eq_false_iff, Bool.or_eq_false_iff] at hb) <;> (try (exfalso; omega)))
    refine cq_seq ?_
    refine cq_region ?_
    apply sq_g; exact g_move (s := .av (.val (.int _ _))) rfl; exact rfl
    apply sq_g; exact g_assign (s := .av _) rfl; exact rfl
    apply sq_g; exact g_assign (s := .av (.val (.int _ _))) rfl; exact rfl
    refine sq_nil ?_
    refine sq_then ?_
    refine cq_ret ?_
    refine sq_then_ret ?_
    exact sq_resN (rvs := [_, _]) (τs := [_, _]) rfl rfl ⟨.tmp rfl, .tmp rfl, trivial⟩ rfl
def facQ (l : List Tr) : List Fc := if chkT l = 0 then (if (spn l).dim < 3 then [] else facetsL l) else []
def errF (l : List Tr) : Int := if chkT l = 0 then (if (spn l).dim < 3 then 14 else 0) else chkT l
theorem eg48 (x y : Operand) (a : Addr) (n c : Nat) (w : World) : (eqGuard .eql 48 x y (.slice (some a) n c) (.slice none 0 0)).run Tryz.prog w = .ok () w := by kernel_rfl
theorem ev48 (a : Addr) (n c : Nat) (w : World) : (binOp .eql 48 (.slice (some a) n c) (.slice none 0 0)).run Tryz.prog w = .ok (.bool false) w := by kernel_rfl
theorem en48 (x y : Operand) (w : World) : (eqGuard .eql 48 x y (.slice none 0 0) (.slice none 0 0)).run Tryz.prog w = .ok () w := by kernel_rfl
theorem eo48 (w : World) : (binOp .eql 48 (.slice none 0 0) (.slice none 0 0)).run Tryz.prog w = .ok (.bool true) w := by kernel_rfl
theorem facs_c (l : List Tr) (hf : few l) (hne : chkT l = 0 → ¬ (spn l).dim < 3 → 0 < (facetsL l).length) : CtrA Tryz.prog 19 [ts l] (tupOf [fs (facQ l), vi (errF l)]) := by
  by_cases h : chkT l = 0
  · unfold facQ errF
    rw [if_pos h, if_pos h]
    have hs := solid_c l hf h
    unfold solA at hs
    by_cases hd : (spn l).dim < 3
    · rw [if_pos hd] at hs
      rw [if_pos hd, if_pos hd]
      refine CtrA.to (τ := tupOf [nilA, vi 14]) ?_ (.tup ⟨.nil, .refl _, trivial⟩)
      refine ctrA _ Tryz.func19 rfl rfl Tryz.ntmps19 rfl fun w Z => ?_
      simp only [initT, List.map_cons, List.map_nil, Nat.zero_add, Nat.reduceAdd]
      refine cq_seq ?_
      refine cq_region ?_
      apply sq_g; exact g_assign (s := .av _) rfl; exact rfl
      apply sq_g; exact g_assign (s := .av (.val (.int _ _))) rfl; exact rfl
      refine sq_nil ?_
      refine sq_then ?_
      refine cq_seq ?_
      refine cq_region ?_
      apply sq_g; exact g_move (s := .av _) rfl; exact rfl
      apply sq_g; exact g_call (hs) rfl; exact rfl
      apply sq_g; exact g_move (s := .av _) rfl; exact rfl
      apply sq_g; exact g_extractT rfl rfl; exact rfl
      apply sq_g; exact g_extractT rfl rfl; exact rfl
      apply sq_g; exact g_extractT rfl rfl; exact rfl
      apply sq_g; exact g_assign (s := .av _) rfl; exact rfl
      apply sq_g; exact g_assign (s := .av _) rfl; exact rfl
      apply sq_g; exact g_assign (s := .av (.val (.int _ _))) rfl; exact rfl
      refine sq_nil ?_
      refine sq_then ?_
      refine cq_seq ?_
      refine cq_seq ?_
      refine cq_region ?_
      apply sq_g; exact g_move (s := .av (.val (.int _ _))) rfl; exact rfl
      apply sq_g; exact g_cmp rfl rfl rfl; exact rfl
      refine sq_nil ?_
      refine sq_then ?_
      refine cq_cond_f rfl ?_
      refine cq_skip ?_
      refine sq_then ?_
      refine cq_seq ?_
      refine cq_seq ?_
      refine cq_region ?_
      apply sq_g; exact g_move (s := .av _) rfl; exact rfl
      apply sq_g; exact  g_bin rfl rfl (fun w => en48 _ _ w) (fun w => eo48 w); exact rfl
      refine sq_nil ?_
      refine sq_then ?_
      refine cq_cond_t rfl ?_
      refine cq_seq ?_
      refine cq_region ?_
      apply sq_g; exact g_assign (s := .av _) rfl; exact rfl
      apply sq_g; exact g_assign (s := .av (.val (.int _ _))) rfl; exact rfl
      refine sq_nil ?_
      refine sq_then ?_
      refine cq_ret ?_
      refine sq_then_ret ?_
      exact sq_resN (rvs := [_, _]) (τs := [_, _]) rfl rfl ⟨.tmp rfl, .tmp rfl, trivial⟩ rfl
    · rw [if_neg hd] at hs
      rw [if_neg hd, if_neg hd]
      have h0 := hne h hd
      refine ctrA _ Tryz.func19 rfl rfl Tryz.ntmps19 rfl fun w Z => ?_
      generalize facetsL l = L at hs h0 ⊢
      simp only [initT, List.map_cons, List.map_nil, Nat.zero_add, Nat.reduceAdd]
      refine cq_seq ?_
      refine cq_region ?_
      apply sq_g; exact g_assign (s := .av _) rfl; exact rfl
      apply sq_g; exact g_assign (s := .av (.val (.int _ _))) rfl; exact rfl
      refine sq_nil ?_
      refine sq_then ?_
      refine cq_seq ?_
      refine cq_region ?_
      apply sq_g; exact g_move (s := .av _) rfl; exact rfl
      apply sq_g; exact g_call (hs) rfl; exact rfl
      apply sq_g; exact g_move (s := .av _) rfl; exact rfl
      apply sq_g; exact g_extractT rfl rfl; exact rfl
      apply sq_g; exact g_extractT rfl rfl; exact rfl
      apply sq_g; exact g_extractT rfl rfl; exact rfl
      apply sq_g; exact g_assign (s := .av _) rfl; exact rfl
      apply sq_g; exact g_assign (s := .av _) rfl; exact rfl
      apply sq_g; exact g_assign (s := .av (.val (.int _ _))) rfl; exact rfl
      refine sq_nil ?_
      refine sq_then ?_
      refine cq_seq ?_
      refine cq_seq ?_
      refine cq_region ?_
      apply sq_g; exact g_move (s := .av (.val (.int _ _))) rfl; exact rfl
      apply sq_g; exact g_cmp rfl rfl rfl; exact rfl
      refine sq_nil ?_
      refine sq_then ?_
      refine cq_cond_f rfl ?_
      refine cq_skip ?_
      refine sq_then ?_
      refine cq_seq ?_
      refine cq_seq ?_
      refine cq_region ?_
      apply sq_g; exact g_move (s := .av _) rfl; exact rfl
      apply sq_g; exact  g_eqnil_sl (fun a n c w => eg48 _ _ a n c w) (fun a n c w => ev48 a n c w) rfl rfl h0; exact rfl
      refine sq_nil ?_
      refine sq_then ?_
      refine cq_cond_f rfl ?_
      refine cq_skip ?_
      refine sq_then ?_
      refine cq_seq ?_
      refine cq_region ?_
      apply sq_g; exact g_move (s := .av _) rfl; exact rfl
      apply sq_g; exact g_assign (s := .av _) rfl; exact rfl
      apply sq_g; exact g_assign (s := .av (.val (.int _ _))) rfl; exact rfl
      refine sq_nil ?_
      refine sq_then ?_
      refine cq_ret ?_
      exact sq_resN (rvs := [_, _]) (τs := [_, _]) rfl rfl ⟨.tmp rfl, .tmp rfl, trivial⟩ rfl
  · have hs := solid_e l h
    unfold facQ errF
    rw [if_neg h, if_neg h]
    generalize chkT l = e at h hs ⊢
    refine CtrA.to (τ := tupOf [nilA, vi e]) ?_ (.tup ⟨.nil, .refl _, trivial⟩)
    refine ctrA _ Tryz.func19 rfl rfl Tryz.ntmps19 rfl fun w Z => ?_
    simp only [initT, List.map_cons, List.map_nil, Nat.zero_add, Nat.reduceAdd]
    refine cq_seq ?_
    refine cq_region ?_
    apply sq_g; exact g_assign (s := .av _) rfl; exact rfl
    apply sq_g; exact g_assign (s := .av (.val (.int _ _))) rfl; exact rfl
    refine sq_nil ?_
    refine sq_then ?_
    refine cq_seq ?_
    refine cq_region ?_
    apply sq_g; exact g_move (s := .av _) rfl; exact rfl
    apply sq_g; exact g_call (hs) rfl; exact rfl
    apply sq_g; exact g_move (s := .av _) rfl; exact rfl
    apply sq_g; exact g_extractT rfl rfl; exact rfl
    apply sq_g; exact g_extractT rfl rfl; exact rfl
    apply sq_g; exact g_extractT rfl rfl; exact rfl
    apply sq_g; exact g_assign (s := .av _) rfl; exact rfl
    apply sq_g; exact g_assign (s := .av _) rfl; exact rfl
    apply sq_g; exact g_assign (s := .av (.val (.int _ _))) rfl; exact rfl
    refine sq_nil ?_
    refine sq_then ?_
    refine cq_seq ?_
    refine cq_seq ?_
    refine cq_region ?_
    apply sq_g; exact g_move (s := .av (.val (.int _ _))) rfl; exact rfl
    apply sq_g; exact g_cmp rfl rfl rfl; exact rfl
    refine sq_nil ?_
    refine sq_then ?_
    (refine cq_cond rfl (fun hb => ?_) (fun hb => ?_) <;> (try simp only [decide_eq_true_eq, decide_eq_false_iff_not, beq_iff_eq, beq_eq_false_iff_ne, bne_iff_ne, bne_eq_false_iff_eq, ne_eq, Bool.not_eq_true', Bool.not_eq_false', Bool.and_eq_true, Bool.or_eq_true, Bool.and_eq_false_iff, Bool.or_eq_false_iff] at hb) <;> (try (exfalso; omega)))
    refine cq_seq ?_
    refine cq_region ?_
    apply sq_g; exact g_move (s := .av (.val (.int _ _))) rfl; exact rfl
    apply sq_g; exact g_assign (s := .av _) rfl; exact rfl
    apply sq_g; exact g_assign (s := .av (.val (.int _ _))) rfl; exact rfl
    refine sq_nil ?_
    refine sq_then ?_
    refine cq_ret ?_
    refine sq_then_ret ?_
    exact sq_resN (rvs := [_, _]) (τs := [_, _]) rfl rfl ⟨.tmp rfl, .tmp rfl, trivial⟩ rfl
end Go.Proofs.YtdoppiajbpmmkaaGreat
namespace Go.Proofs.YtdoppiajbpmmkaaGreat
open Go Go.Vc Go.RowKit
set_option maxHeartbeats 4000000
/-! KDQ -/
theorem xf_natL (v : List Nat) : xf v = zf (natL v) := by
  funext i j
  unfold xf zf gi gz
  by_cases h : i < v.length
  · simp [List.getD, h]
  · simp [List.getD, List.getElem?_eq_none (Nat.le_of_not_lt h)]
def hasB (s : List Int) (a : Int) : Bool := decide (a ∈ s)
theorem gz_memI {s : List Int} {i : Nat} (h : i < s.length) : gz s i ∈ s := by unfold gz; simp [List.getD, h]
theorem mem_gz {s : List Int} {a : Int} (h : a ∈ s) : ∃ i, i < s.length ∧ gz s i = a := by
  obtain ⟨i, hi, e⟩ := List.getElem_of_mem h
  exact ⟨i, hi, by unfold gz; simp [List.getD, hi, e]⟩
theorem index_c (s : List Int) (a : Int) (hn : s.length ≤ 100000) : CtrA Tryz.prog 58 [zs s, vi a] (vi (ixB (fun k => decide (a = gz s k)) s.length)) := by
  refine ctrA _ Tryz.func58 rfl rfl Tryz.ntmps58 rfl fun w Z => ?_
  simp only [initT, List.map_cons, List.map_nil, Nat.zero_add, Nat.reduceAdd]
  refine cq_seq ?_
  refine cq_region ?_
  apply sq_g; exact g_assign (s := .av (.val (.int _ _))) rfl; exact rfl
  refine sq_nil ?_
  refine sq_then ?_
  refine cq_seq ?_
  refine cq_seq ?_
  refine cq_region ?_
  apply sq_g; exact g_move (s := .av _) rfl; exact rfl
  apply sq_g; exact g_len rfl; exact rfl
  apply sq_g; exact g_move (s := .av (.val (.int _ _))) rfl; exact rfl
  refine sq_nil ?_
  refine sq_then ?_
  refine cq_block ?_
  refine cq_loop (γ := Nat) (fun k => [(0, .av (zs s)), (1, .av (vi a)), (6, .av (zs s)), (7, .av (vi s.length)), (8, .av (vi k))]) (fun _ => []) (fun k => k ≤ s.length ∧ ∀ j, j < k → decide (a = gz s j) = false) (fun k => s.length - k) 0 ⟨Nat.zero_le _, by omega⟩ (ent ⟨.refl _, .refl _, .refl _, .refl _, .refl _, trivial⟩ trivial) ?_
  rintro k ⟨hk, hall⟩
  refine cq_seq ?_
  refine cq_region ?_
  apply sq_g; exact g_cmp rfl rfl rfl; exact rfl
  refine sq_nil ?_
  refine sq_then ?_
  refine cq_seq ?_
  (refine cq_cond rfl (fun hb => ?_) (fun hb => ?_) <;> (try simp only [decide_eq_true_eq, decide_eq_false_iff_not, beq_iff_eq, beq_eq_false_iff_ne, bne_iff_ne, bne_eq_false_iff_eq, ne_eq, Bool.not_eq_true', Bool.not_eq_false', Bool.and_eq_true, Bool.or_eq_true, Bool.and_eq_false_iff, Bool.or_eq_false_iff] at hb) <;> (try (exfalso; omega)))
  · have hkl : k < s.length := by omega
    refine cq_skip ?_
    refine sq_then ?_
    refine cq_seq ?_
    refine cq_block ?_
    refine cq_seq ?_
    refine cq_region ?_
    apply sq_g; exact g_move (s := .av (.val (.int _ _))) rfl; exact rfl
    apply sq_g; exact g_assign (s := .av (.val (.int _ _))) rfl; exact rfl
    refine sq_nil ?_
    refine sq_then ?_
    refine cq_seq ?_
    refine cq_region ?_
    apply sq_g; exact g_move (s := .av (.val (.int _ _))) rfl; exact rfl
    apply sq_g; exact g_move (s := .av _) rfl; exact rfl
    apply sq_g; exact g_move (s := .av (.val (.int _ _))) rfl; exact rfl
    apply sq_g; exact g_index rfl rfl rfl (by omega); exact rfl
    apply sq_g; exact g_load (τ := .val (.int _ _)) rfl rfl rfl; exact rfl
    apply sq_g; exact g_cmp rfl rfl rfl; exact rfl
    refine sq_nil ?_
    refine sq_then ?_
    (refine cq_cond rfl (fun hb => ?_) (fun hb => ?_) <;> (try simp only [decide_eq_true_eq, decide_eq_false_iff_not, beq_iff_eq, beq_eq_false_iff_ne, bne_iff_ne, bne_eq_false_iff_eq, ne_eq, Bool.not_eq_true', Bool.not_eq_false', Bool.and_eq_true, Bool.or_eq_true, Bool.and_eq_false_iff, Bool.or_eq_false_iff] at hb) <;> (try (exfalso; omega)))
    · have e1 := ixB_hit (p := fun k => decide (a = gz s k)) hkl hall (decide_eq_true hb)
      refine cq_seq ?_
      refine cq_region ?_
      apply sq_g; exact g_move (s := .av (.val (.int _ _))) rfl; exact rfl
      apply sq_g; exact g_assign (s := .av (.val (.int _ _))) rfl; exact rfl
      refine sq_nil ?_
      refine sq_then ?_
      refine cq_ret ?_
      refine sq_inBlock_ret ?_
      refine sq_then_ret ?_
      refine sq_then_ret ?_
      refine sq_inBlock_ret ?_
      refine sq_then_ret ?_
      exact sq_res1 rfl (.tmp rfl) (by rw [e1])
    · refine cq_skip ?_
      refine sq_then ?_
      refine cq_region ?_
      apply sq_g; exact g_arith rfl rfl rfl (by omega); exact rfl
      apply sq_g; exact g_move (s := .av (.val (.int _ _))) rfl; exact rfl
      refine sq_nil ?_
      exact sq_round (k + 1) ⟨by omega, flt_step (p := fun k => decide (a = gz s k)) hall (decide_eq_false hb)⟩ (by omega) (ent ⟨.refl _, .refl _, .refl _, .refl _, .int (by omega), trivial⟩ trivial)
  · have hkl : k = s.length := by omega
    subst hkl
    have e1 := ixB_no (p := fun k => decide (a = gz s k)) hall
    refine cq_exit ?_
    refine sq_then ?_
    refine cq_seq ?_
    refine cq_region ?_
    apply sq_g; exact g_assign (s := .av (.val (.int _ _))) rfl; exact rfl
    refine sq_nil ?_
    refine sq_then ?_
    refine cq_ret ?_
    exact sq_res1 rfl (.tmp rfl) (by rw [e1])
theorem ix_has (s : List Int) (a : Int) : decide (0 ≤ ixB (fun k => decide (a = gz s k)) s.length) = hasB s a := by
  unfold hasB
  by_cases h : a ∈ s
  · rw [decide_eq_true h, decide_eq_true_eq]
    obtain ⟨i, hi, e⟩ := mem_gz h
    unfold ixB
    cases hf : (List.range s.length).find? (fun k => decide (a = gz s k)) with
    | none =>
      have := List.find?_eq_none.1 hf i (List.mem_range.2 hi)
      simp [e] at this
    | some j => simp
  · rw [decide_eq_false h, decide_eq_false_iff_not]
    rw [ixB_no (p := fun k => decide (a = gz s k)) (fun j hj => decide_eq_false fun e => h (by rw [e]; exact gz_memI hj))]
    decide
theorem contains_c (s : List Int) (a : Int) (hn : s.length ≤ 100000) : CtrA Tryz.prog 29 [zs s, vi a] (vb (hasB s a)) := by
  refine ctrA _ Tryz.func29 rfl rfl Tryz.ntmps29 rfl fun w Z => ?_
  have hi := index_c s a hn
  simp only [initT, List.map_cons, List.map_nil, Nat.zero_add, Nat.reduceAdd]
  refine cq_seq ?_
  refine cq_region ?_
  apply sq_g; exact g_assign (s := .av (.val (.bool _))) rfl; exact rfl
  refine sq_nil ?_
  refine sq_then ?_
  refine cq_seq ?_
  refine cq_region ?_
  apply sq_g; exact g_move (s := .av _) rfl; exact rfl
  apply sq_g; exact g_move (s := .av (.val (.int _ _))) rfl; exact rfl
  apply sq_g; exact g_call (hi) rfl; exact rfl
  apply sq_g; exact g_cmp rfl rfl rfl; exact rfl
  apply sq_g; exact g_assign (s := .av (.val (.bool _))) rfl; exact rfl
  refine sq_nil ?_
  refine sq_then ?_
  refine cq_ret ?_
  exact sq_res1 rfl (.tmp rfl) (congrArg vb (ix_has s a))
theorem equali_c (s t : List Int) (hn : s.length ≤ 100000) (hm : t.length ≤ 100000) : CtrA Tryz.prog 13 [zs s, zs t] (vb (decide (s = t))) := by
  refine ctrA _ Tryz.func13 rfl rfl Tryz.ntmps13 rfl fun w Z => ?_
  simp only [initT, List.map_cons, List.map_nil, Nat.zero_add, Nat.reduceAdd]
  refine cq_seq ?_
  refine cq_region ?_
  apply sq_g; exact g_assign (s := .av (.val (.bool _))) rfl; exact rfl
  refine sq_nil ?_
  refine sq_then ?_
  refine cq_seq ?_
  refine cq_seq ?_
  refine cq_region ?_
  apply sq_g; exact g_move (s := .av _) rfl; exact rfl
  apply sq_g; exact g_len rfl; exact rfl
  apply sq_g; exact g_move (s := .av _) rfl; exact rfl
  apply sq_g; exact g_len rfl; exact rfl
  apply sq_g; exact g_cmp rfl rfl rfl; exact rfl
  refine sq_nil ?_
  refine sq_then ?_
  (refine cq_cond rfl (fun hb => ?_) (fun hb => ?_) <;> (try simp only [decide_eq_true_eq, decide_eq_false_iff_not, beq_iff_eq, beq_eq_false_iff_ne, bne_iff_ne, bne_eq_false_iff_eq, ne_eq, Bool.not_eq_true', Bool.not_eq_false', Bool.and_eq_true, Bool.or_eq_true, Bool.and_eq_false_iff, Bool.or_eq_false_iff] at hb) <;> (try (exfalso; omega)))
  · refine cq_seq ?_
    refine cq_region ?_
    apply sq_g; exact g_assign (s := .av (.val (.bool _))) rfl; exact rfl
    refine sq_nil ?_
    refine sq_then ?_
    refine cq_ret ?_
    refine sq_then_ret ?_
    exact sq_res1 rfl (.tmp rfl) (congrArg vb (decide_eq_false fun e => by rw [e] at hb; omega).symm)
  have hlen : s.length = t.length := by omega
  refine cq_skip ?_
  refine sq_then ?_
  refine cq_seq ?_
  refine cq_seq ?_
  refine cq_region ?_
  apply sq_g; exact g_move (s := .av _) rfl; exact rfl
  apply sq_g; exact g_len rfl; exact rfl
  apply sq_g; exact g_move (s := .av (.val (.int _ _))) rfl; exact rfl
  refine sq_nil ?_
  refine sq_then ?_
  refine cq_block ?_
  refine cq_loop (γ := Nat) (fun k => [(0, .av (zs s)), (1, .av (zs t)), (11, .av (zs s)), (12, .av (vi s.length)), (13, .av (vi k))]) (fun _ => []) (fun k => k ≤ s.length ∧ ∀ j, j < k → gz s j = gz t j) (fun k => s.length - k) 0 ⟨Nat.zero_le _, by omega⟩ (ent ⟨.refl _, .refl _, .refl _, .refl _, .refl _, trivial⟩ trivial) ?_
  rintro k ⟨hk, hall⟩
  refine cq_seq ?_
  refine cq_region ?_
  apply sq_g; exact g_cmp rfl rfl rfl; exact rfl
  refine sq_nil ?_
  refine sq_then ?_
  refine cq_seq ?_
  (refine cq_cond rfl (fun hb => ?_) (fun hb => ?_) <;> (try simp only [decide_eq_true_eq, decide_eq_false_iff_not, beq_iff_eq, beq_eq_false_iff_ne, bne_iff_ne, bne_eq_false_iff_eq, ne_eq, Bool.not_eq_true', Bool.not_eq_false', Bool.and_eq_true, Bool.or_eq_true, Bool.and_eq_false_iff, Bool.or_eq_false_iff] at hb) <;> (try (exfalso; omega)))
  · have hkl : k < s.length := by omega
    refine cq_skip ?_
    refine sq_then ?_
    refine cq_seq ?_
    refine cq_block ?_
    refine cq_seq ?_
    refine cq_region ?_
    apply sq_g; exact g_move (s := .av (.val (.int _ _))) rfl; exact rfl
    apply sq_g; exact g_assign (s := .av (.val (.int _ _))) rfl; exact rfl
    refine sq_nil ?_
    refine sq_then ?_
    refine cq_seq ?_
    refine cq_drawn ?_
    apply dq_g; exact g_move (s := .av _) rfl; exact rfl
    apply dq_g; exact g_move (s := .av (.val (.int _ _))) rfl; exact rfl
    apply dq_g; exact g_index rfl rfl rfl (by omega); exact rfl
    apply dq_g; exact g_load (τ := .val (.int _ _)) rfl rfl rfl; exact rfl
    apply dq_g; exact g_move (s := .av _) rfl; exact rfl
    apply dq_g; exact g_move (s := .av (.val (.int _ _))) rfl; exact rfl
    apply dq_g; exact g_index rfl rfl rfl (by omega); exact rfl
    apply dq_g; exact g_load (τ := .val (.int _ _)) rfl rfl rfl; exact rfl
    apply dq_g; exact g_cmp rfl rfl rfl; exact rfl
    refine dq_nil tm (by kernel_rfl) ?_
    refine sq_then ?_
    (refine cq_cond rfl (fun hb => ?_) (fun hb => ?_) <;> (try simp only [decide_eq_true_eq, decide_eq_false_iff_not, beq_iff_eq, beq_eq_false_iff_ne, bne_iff_ne, bne_eq_false_iff_eq, ne_eq, Bool.not_eq_true', Bool.not_eq_false', Bool.and_eq_true, Bool.or_eq_true, Bool.and_eq_false_iff, Bool.or_eq_false_iff] at hb) <;> (try (exfalso; omega)))
    · refine cq_seq ?_
      refine cq_region ?_
      apply sq_g; exact g_assign (s := .av (.val (.bool _))) rfl; exact rfl
      refine sq_nil ?_
      refine sq_then ?_
      refine cq_ret ?_
      refine sq_inBlock_ret ?_
      refine sq_then_ret ?_
      refine sq_then_ret ?_
      refine sq_inBlock_ret ?_
      refine sq_then_ret ?_
      exact sq_res1 rfl (.tmp rfl) (congrArg vb (decide_eq_false fun e => hb (by rw [e])).symm)
    · have hall2 : ∀ j, j < k + 1 → gz s j = gz t j := fun j hj => by
        by_cases e : j = k
        · subst e; omega
        · exact hall j (by omega)
      refine cq_skip ?_
      refine sq_then ?_
      refine cq_region ?_
      apply sq_g; exact g_arith rfl rfl rfl (by omega); exact rfl
      apply sq_g; exact g_move (s := .av (.val (.int _ _))) rfl; exact rfl
      refine sq_nil ?_
      exact sq_round (k + 1) ⟨by omega, hall2⟩ (by omega) (ent ⟨.refl _, .refl _, .refl _, .refl _, .int (by omega), trivial⟩ trivial)
  · have hkl : k = s.length := by omega
    subst hkl
    have e1 : s = t := List.ext_getElem hlen fun i h1 h2 => by
      have := hall i h1
      unfold gz at this
      simpa [List.getD, h1, h2] using this
    refine cq_exit ?_
    refine sq_then ?_
    refine cq_seq ?_
    refine cq_region ?_
    apply sq_g; exact g_assign (s := .av (.val (.bool _))) rfl; exact rfl
    refine sq_nil ?_
    refine sq_then ?_
    refine cq_ret ?_
    exact sq_res1 rfl (.tmp rfl) (congrArg vb (decide_eq_true e1).symm)
end Go.Proofs.YtdoppiajbpmmkaaGreat
namespace Go.Proofs.YtdoppiajbpmmkaaGreat
open Go Go.Vc Go.RowKit
set_option maxHeartbeats 8000000
/-! KDQ -/
def ef (E : List (Int × Int)) : Nat → Nat → AV := fun i j => match j with | 0 => vi (E.getD i (0, 0)).1 | _+1 => vi (E.getD i (0, 0)).2
abbrev es (E : List (Int × Int)) : AV := .sl E.length 2 (ef E)
theorem ef_row (a b : Int) : ∀ i, i < 1 → ∀ j, j < 2 → ∃ u, [Value.int .i64 a, .int .i64 b][i * 2 + j]? = some u ∧ ef [(a, b)] i j = .val u := by
  intro i hi j hj
  obtain rfl : i = 0 := by omega
  match j, hj with
  | 0, _ => exact ⟨_, rfl, rfl⟩
  | 1, _ => exact ⟨_, rfl, rfl⟩
theorem ef_one (E : List (Int × Int)) : ∀ i j, (ef E i j).one = true := fun i j => by unfold ef; split <;> rfl
theorem ef_app (E : List (Int × Int)) (p : Int × Int) : ∀ i, i < E.length + 1 → ∀ j, j < 2 → rowApp E.length (ef E) (ef [p]) i j = ef (E ++ [p]) i j := by
  intro i hi j hj
  unfold rowApp ef
  by_cases h : i < E.length
  · rw [if_pos h]; simp [List.getD, List.getElem?_append_left h]
  · rw [if_neg h]
    have e : i = E.length := by omega
    subst e
    simp [List.getD]
/-- How many facets have both. -/
def cnt (L : List Fc) (a b : Int) : Nat → Nat
  | 0 => 0
  | q + 1 => cnt L a b q + if (hasB (natL (gf L q).s) a && hasB (natL (gf L q).s) b) = true then 1 else 0
theorem cnt_le (L : List Fc) (a b : Int) : ∀ q, cnt L a b q ≤ q
  | 0 => Nat.le_refl _
  | q + 1 => by have := cnt_le L a b q; unfold cnt; split <;> omega
def eM (L : List Fc) (V : List Int) (k : Nat) : Nat → List (Int × Int)
  | 0 => []
  | m + 1 => eM L V k m ++ if 2 ≤ cnt L (gz V k) (gz V (k + 1 + m)) L.length then [(gz V k, gz V (k + 1 + m))] else []
def eTo (L : List Fc) (V : List Int) : Nat → List (Int × Int)
  | 0 => []
  | k + 1 => eTo L V k ++ eM L V k (V.length - (k + 1))
def edgV (L : List Fc) (V : List Int) : List (Int × Int) := eTo L V V.length
theorem eM_len (L : List Fc) (V : List Int) (k : Nat) : ∀ m, (eM L V k m).length ≤ m
  | 0 => Nat.le_refl _
  | m + 1 => by have := eM_len L V k m; unfold eM; rw [List.length_append]; split <;> simp <;> omega
theorem eTo_len (L : List Fc) (V : List Int) (hV : V.length ≤ 12000) : ∀ k, (eTo L V k).length ≤ 12000 * k
  | 0 => Nat.le_refl _
  | k + 1 => by have := eTo_len L V hV k; have := eM_len L V k (V.length - (k + 1)); unfold eTo; rw [List.length_append]; omega
theorem edges_c (l : List Tr) (L : List Fc) (V : List Int) (hs : CtrA Tryz.prog 50 [ts l] (tupOf [ts l, fs L, vi 0])) (h0 : 0 < L.length) (hLn : L.length ≤ 1000) (hL : ∀ f ∈ L, f.s.length ≤ 6)
    (hv : CtrA Tryz.prog 51 [ts l, fs L] (tupOf [zs V, vi 0])) (hV : V.length ≤ 12000) : CtrA Tryz.prog 16 [ts l] (tupOf [es (edgV L V), vi 0]) := by
  refine ctrA _ Tryz.func16 rfl rfl Tryz.ntmps16 rfl fun w Z => ?_
  have hlen := eTo_len L V hV
  simp only [initT, List.map_cons, List.map_nil, Nat.zero_add, Nat.reduceAdd]
  refine cq_seq ?_
  refine cq_region ?_
  apply sq_g; exact g_assign (s := .av _) rfl; exact rfl
  apply sq_g; exact g_assign (s := .av (.val (.int _ _))) rfl; exact rfl
  refine sq_nil ?_
  refine sq_then ?_
  refine cq_seq ?_
  refine cq_region ?_
  apply sq_g; exact g_move (s := .av _) rfl; exact rfl
  apply sq_g; exact g_call (hs) rfl; exact rfl
  apply sq_g; exact g_move (s := .av _) rfl; exact rfl
  apply sq_g; exact g_extractT rfl rfl; exact rfl
  apply sq_g; exact g_extractT rfl rfl; exact rfl
  apply sq_g; exact g_extractT rfl rfl; exact rfl
  apply sq_g; exact g_assign (s := .av _) rfl; exact rfl
  apply sq_g; exact g_assign (s := .av _) rfl; exact rfl
  apply sq_g; exact g_assign (s := .av (.val (.int _ _))) rfl; exact rfl
  refine sq_nil ?_
  refine sq_then ?_
  refine cq_seq ?_
  refine cq_seq ?_
  refine cq_region ?_
  apply sq_g; exact g_move (s := .av (.val (.int _ _))) rfl; exact rfl
  apply sq_g; exact g_cmp rfl rfl rfl; exact rfl
  refine sq_nil ?_
  refine sq_then ?_
  refine cq_cond_f rfl ?_
  refine cq_skip ?_
  refine sq_then ?_
  refine cq_seq ?_
  refine cq_seq ?_
  refine cq_region ?_
  apply sq_g; exact g_move (s := .av _) rfl; exact rfl
  apply sq_g; exact  g_eqnil_sl (fun a n c w => eg48 _ _ a n c w) (fun a n c w => ev48 a n c w) rfl rfl h0; exact rfl
  refine sq_nil ?_
  refine sq_then ?_
  refine cq_cond_f rfl ?_
  refine cq_skip ?_
  refine sq_then ?_
  refine cq_seq ?_
  refine cq_region ?_
  apply sq_g; exact g_move (s := .av _) rfl; exact rfl
  apply sq_g; exact g_move (s := .av _) rfl; exact rfl
  apply sq_g; exact g_call (hv) rfl; exact rfl
  apply sq_g; exact g_move (s := .av _) rfl; exact rfl
  apply sq_g; exact g_extractT rfl rfl; exact rfl
  apply sq_g; exact g_extractT rfl rfl; exact rfl
  apply sq_g; exact g_assign (s := .av _) rfl; exact rfl
  apply sq_g; exact g_assign (s := .av (.val (.int _ _))) rfl; exact rfl
  refine sq_nil ?_
  refine sq_then ?_
  refine cq_seq ?_
  refine cq_seq ?_
  refine cq_region ?_
  apply sq_g; exact g_move (s := .av (.val (.int _ _))) rfl; exact rfl
  apply sq_g; exact g_cmp rfl rfl rfl; exact rfl
  refine sq_nil ?_
  refine sq_then ?_
  refine cq_cond_f rfl ?_
  refine cq_skip ?_
  refine sq_then ?_
  refine cq_seq ?_
  refine cq_region ?_
  apply sq_g; exact g_assign (s := .av _) rfl; exact rfl
  refine sq_nil ?_
  refine sq_then ?_
  refine cq_seq ?_
  refine cq_seq ?_
  refine cq_region ?_
  apply sq_g; exact g_move (s := .av _) rfl; exact rfl
  apply sq_g; exact g_len rfl; exact rfl
  apply sq_g; exact g_move (s := .av (.val (.int _ _))) rfl; exact rfl
  refine sq_nil ?_
  refine sq_then ?_
  refine cq_block ?_
  refine cq_loop (γ := Nat) (fun k => [(5, .av (fs L)), (7, .av (zs V)), (8, .osl 70), (36, .av (zs V)), (37, .av (vi V.length)), (38, .av (vi k))]) (fun k => [(70, .row 44 2 (eTo L V k).length (ef (eTo L V k)))]) (fun k => k ≤ V.length) (fun k => V.length - k) 0 (Nat.zero_le _) (Ent.trans (ent_row (dd := 8) 70 44 2 (ef []) rfl rfl) (ent ⟨.refl _, .refl _, .refl _, .refl _, .refl _, .refl _, trivial⟩ ⟨⟨_, rfl, .refl _⟩, trivial⟩)) ?_
  intro k hk
  refine cq_seq ?_
  refine cq_region ?_
  apply sq_g; exact g_cmp rfl rfl rfl; exact rfl
  refine sq_nil ?_
  refine sq_then ?_
  refine cq_seq ?_
  (refine cq_cond rfl (fun hb => ?_) (fun hb => ?_) <;> (try simp only [decide_eq_true_eq, decide_eq_false_iff_not, beq_iff_eq, beq_eq_false_iff_ne, bne_iff_ne, bne_eq_false_iff_eq, ne_eq, Bool.not_eq_true', Bool.not_eq_false', Bool.and_eq_true, Bool.or_eq_true, Bool.and_eq_false_iff, Bool.or_eq_false_iff] at hb) <;> (try (exfalso; omega)))
  · have hkl : k < V.length := by omega
    have e0 : eTo L V (k + 1) = eTo L V k ++ eM L V k (V.length - (k + 1)) := rfl
    have hk1 := hlen k
    generalize eTo L V k = X at e0 hk1 ⊢
    have hml := eM_len L V k
    refine cq_skip ?_
    refine sq_then ?_
    refine cq_seq ?_
    refine cq_block ?_
    refine cq_seq ?_
    refine cq_region ?_
    apply sq_g; exact g_move (s := .av (.val (.int _ _))) rfl; exact rfl
    apply sq_g; exact g_index rfl rfl rfl (by omega); exact rfl
    apply sq_g; exact g_load (τ := .val (.int _ _)) rfl rfl rfl; exact rfl
    apply sq_g; exact g_assign (s := .av (.val (.int _ _))) rfl; exact rfl
    apply sq_g; exact g_assign (s := .av (.val (.int _ _))) rfl; exact rfl
    refine sq_nil ?_
    refine sq_then ?_
    refine cq_seq ?_
    refine cq_region ?_
    apply sq_g; exact g_move (s := .av _) rfl; exact rfl
    apply sq_g; exact g_move (s := .av (.val (.int _ _))) rfl; exact rfl
    apply sq_g; exact g_arith rfl rfl rfl (by omega); exact rfl
    apply sq_g; exact  g_slice (lo := some (.tmp 45)) (hi := none) (l := k + 1) (h := V.length) rfl ⟨_, _, rfl, (by omega)⟩ rfl (by omega) (by omega); exact rfl
    apply sq_g; exact g_len rfl; exact rfl
    apply sq_g; exact g_move (s := .av (.val (.int _ _))) rfl; exact rfl
    refine sq_nil ?_
    refine sq_then ?_
    refine cq_block ?_
    refine cq_loop (γ := Nat) (fun m => [(5, .av (fs L)), (7, .av (zs V)), (8, .osl 70), (36, .av (zs V)), (37, .av (vi V.length)), (38, .av (vi k)), (10, .av (vi (gz V k))), (46, .av (.sl (V.length - (k + 1)) 1 (fun i => zf V (k + 1 + i)))), (47, .av (vi ((V.length - (k + 1) : Nat) : Int))), (48, .av (vi m))]) (fun m => [(70, .row 44 2 (X ++ eM L V k m).length (ef (X ++ eM L V k m)))]) (fun m => m ≤ V.length - (k + 1)) (fun m => V.length - (k + 1) - m) 0 (Nat.zero_le _) (ent ⟨.refl _, .refl _, .refl _, .refl _, .refl _, .refl _, .refl _, .refl _, .refl _, .refl _, trivial⟩ ⟨⟨_, rfl, by rw [show eM L V k 0 = [] from rfl, List.append_nil]; exact .refl _⟩, trivial⟩) ?_
    intro m hm
    refine cq_seq ?_
    refine cq_region ?_
    apply sq_g; exact g_cmp rfl rfl rfl; exact rfl
    refine sq_nil ?_
    refine sq_then ?_
    refine cq_seq ?_
    (refine cq_cond rfl (fun hb => ?_) (fun hb => ?_) <;> (try simp only [decide_eq_true_eq, decide_eq_false_iff_not, beq_iff_eq, beq_eq_false_iff_ne, bne_iff_ne, bne_eq_false_iff_eq, ne_eq, Bool.not_eq_true', Bool.not_eq_false', Bool.and_eq_true, Bool.or_eq_true, Bool.and_eq_false_iff, Bool.or_eq_false_iff] at hb) <;> (try (exfalso; omega)))
    · have hmm : m < V.length - (k + 1) := by omega
      have e1 : eM L V k (m + 1) = eM L V k m ++ if 2 ≤ cnt L (gz V k) (gz V (k + 1 + m)) L.length then [(gz V k, gz V (k + 1 + m))] else [] := rfl
      have e2 : X ++ eM L V k (m + 1) = (X ++ eM L V k m) ++ if 2 ≤ cnt L (gz V k) (gz V (k + 1 + m)) L.length then [(gz V k, gz V (k + 1 + m))] else [] := by rw [e1, List.append_assoc]
      have hYl : (X ++ eM L V k m).length ≤ 12000 * k + 12000 := by rw [List.length_append]; have := hml m; omega
      generalize X ++ eM L V k m = Y at e2 hYl ⊢
      refine cq_skip ?_
      refine sq_then ?_
      refine cq_seq ?_
      refine cq_block ?_
      refine cq_seq ?_
      refine cq_region ?_
      apply sq_g; exact g_index rfl rfl rfl (by omega); exact rfl
      apply sq_g; exact g_load (τ := .val (.int _ _)) rfl rfl rfl; exact rfl
      apply sq_g; exact g_assign (s := .av (.val (.int _ _))) rfl; exact rfl
      refine sq_nil ?_
      refine sq_then ?_
      refine cq_seq ?_
      refine cq_region ?_
      apply sq_g; exact g_assign (s := .av (.val (.int _ _))) rfl; exact rfl
      refine sq_nil ?_
      refine sq_then ?_
      refine cq_seq ?_
      refine cq_seq ?_
      refine cq_region ?_
      apply sq_g; exact g_move (s := .av _) rfl; exact rfl
      apply sq_g; exact g_len rfl; exact rfl
      apply sq_g; exact g_move (s := .av (.val (.int _ _))) rfl; exact rfl
      refine sq_nil ?_
      refine sq_then ?_
      refine cq_block ?_
      refine cq_loop (γ := Nat) (fun q => [(5, .av (fs L)), (7, .av (zs V)), (8, .osl 70), (36, .av (zs V)), (37, .av (vi V.length)), (38, .av (vi k)), (10, .av (vi (gz V k))), (46, .av (.sl (V.length - (k + 1)) 1 (fun i => zf V (k + 1 + i)))), (47, .av (vi ((V.length - (k + 1) : Nat) : Int))), (48, .av (vi m)), (12, .av (vi (gz V (k + 1 + m)))), (13, .av (vi (cnt L (gz V k) (gz V (k + 1 + m)) q))), (52, .av (fs L)), (53, .av (vi L.length)), (54, .av (vi q))]) (fun q => [(70, .row 44 2 Y.length (ef Y))]) (fun q => q ≤ L.length) (fun q => L.length - q) 0 (Nat.zero_le _) (ent ⟨.refl _, .refl _, .refl _, .refl _, .refl _, .refl _, .refl _, .refl _, .refl _, .refl _, .refl _, .refl _, .refl _, .refl _, .refl _, trivial⟩ ⟨⟨_, rfl, .refl _⟩, trivial⟩) ?_
      intro q hq
      have hql := cnt_le L (gz V k) (gz V (k + 1 + m)) q
      refine cq_seq ?_
      refine cq_region ?_
      apply sq_g; exact g_cmp rfl rfl rfl; exact rfl
      refine sq_nil ?_
      refine sq_then ?_
      refine cq_seq ?_
      (refine cq_cond rfl (fun hb => ?_) (fun hb => ?_) <;> (try simp only [decide_eq_true_eq, decide_eq_false_iff_not, beq_iff_eq, beq_eq_false_iff_ne, bne_iff_ne, bne_eq_false_iff_eq, ne_eq, Bool.not_eq_true', Bool.not_eq_false', Bool.and_eq_true, Bool.or_eq_true, Bool.and_eq_false_iff, Bool.or_eq_false_iff] at hb) <;> (try (exfalso; omega)))
      · have hqq : q < L.length := by omega
        have e3 : cnt L (gz V k) (gz V (k + 1 + m)) (q + 1) = cnt L (gz V k) (gz V (k + 1 + m)) q + if (hasB (natL (gf L q).s) (gz V k) && hasB (natL (gf L q).s) (gz V (k + 1 + m))) = true then 1 else 0 := rfl
        have hf6 := hL _ (gf_mem hqq)
        have hc1 := contains_c (natL (gf L q).s) (gz V k) (by simp; omega)
        have hc2 := contains_c (natL (gf L q).s) (gz V (k + 1 + m)) (by simp; omega)
        rw [show zs (natL (gf L q).s) = .sl (gf L q).s.length 1 (xf (gf L q).s) from by rw [xf_natL, zs, List.length_map]] at hc1 hc2
        generalize hasB (natL (gf L q).s) (gz V k) = b1 at e3 hc1
        generalize hasB (natL (gf L q).s) (gz V (k + 1 + m)) = b2 at e3 hc2
        generalize cnt L (gz V k) (gz V (k + 1 + m)) q = c at e3 hql ⊢
        have hfin : ∀ c' : Nat, c' = cnt L (gz V k) (gz V (k + 1 + m)) (q + 1) → (c' : Int) = ((cnt L (gz V k) (gz V (k + 1 + m)) (q + 1) : Nat) : Int) := fun _ h => by rw [h]
        cases b1 <;> cases b2
        · refine cq_skip ?_
          refine sq_then ?_
          refine cq_seq ?_
          refine cq_block ?_
          refine cq_seq ?_
          refine cq_region ?_
          apply sq_g; exact g_index rfl rfl rfl (by omega); exact rfl
          apply sq_g; exact  g_load_aggv rfl rfl; exact rfl
          refine sq_v (f_alloc 10 rfl) rfl ?_
          refine sq_s (g_store_aggv rfl rfl (fcf_one (gf L q)) rfl rfl) ?_
          refine sq_nil ?_
          refine sq_then ?_
          refine cq_seq ?_
          refine cq_region ?_
          apply sq_g; exact g_field_own rfl; exact rfl
          apply sq_g; exact g_load_own (s := .av _) rfl rfl rfl; exact rfl
          apply sq_g; exact g_move (s := .av (.val (.int _ _))) rfl; exact rfl
          apply sq_g; exact g_call (hc1) rfl; exact rfl
          apply sq_g; exact g_move (s := .av (.val (.bool _))) rfl; exact rfl
          refine sq_off rfl rfl rfl rfl ?_
          refine sq_off rfl rfl rfl rfl ?_
          refine sq_off rfl rfl rfl rfl ?_
          refine sq_off rfl rfl rfl rfl ?_
          apply sq_g; exact g_pick (s := .av (.val (.bool _))) rfl rfl; exact rfl
          refine sq_nil ?_
          refine sq_then ?_
          refine cq_cond_f rfl ?_
          refine cq_skip ?_
          refine sq_then ?_
          refine cq_region ?_
          apply sq_g; exact g_arith rfl rfl rfl (by omega); exact rfl
          apply sq_g; exact g_move (s := .av (.val (.int _ _))) rfl; exact rfl
          refine sq_nil ?_
          exact sq_round (q + 1) (by omega) (by omega) (ent ⟨.refl _, .refl _, .refl _, .refl _, .refl _, .refl _, .refl _, .refl _, .refl _, .refl _, .refl _, .int (hfin _ (by rw [e3]; rfl)), .refl _, .refl _, .int (by omega), trivial⟩ ⟨⟨_, rfl, .refl _⟩, trivial⟩)
        · refine cq_skip ?_
          refine sq_then ?_
          refine cq_seq ?_
          refine cq_block ?_
          refine cq_seq ?_
          refine cq_region ?_
          apply sq_g; exact g_index rfl rfl rfl (by omega); exact rfl
          apply sq_g; exact  g_load_aggv rfl rfl; exact rfl
          refine sq_v (f_alloc 10 rfl) rfl ?_
          refine sq_s (g_store_aggv rfl rfl (fcf_one (gf L q)) rfl rfl) ?_
          refine sq_nil ?_
          refine sq_then ?_
          refine cq_seq ?_
          refine cq_region ?_
          apply sq_g; exact g_field_own rfl; exact rfl
          apply sq_g; exact g_load_own (s := .av _) rfl rfl rfl; exact rfl
          apply sq_g; exact g_move (s := .av (.val (.int _ _))) rfl; exact rfl
          apply sq_g; exact g_call (hc1) rfl; exact rfl
          apply sq_g; exact g_move (s := .av (.val (.bool _))) rfl; exact rfl
          refine sq_off rfl rfl rfl rfl ?_
          refine sq_off rfl rfl rfl rfl ?_
          refine sq_off rfl rfl rfl rfl ?_
          refine sq_off rfl rfl rfl rfl ?_
          apply sq_g; exact g_pick (s := .av (.val (.bool _))) rfl rfl; exact rfl
          refine sq_nil ?_
          refine sq_then ?_
          refine cq_cond_f rfl ?_
          refine cq_skip ?_
          refine sq_then ?_
          refine cq_region ?_
          apply sq_g; exact g_arith rfl rfl rfl (by omega); exact rfl
          apply sq_g; exact g_move (s := .av (.val (.int _ _))) rfl; exact rfl
          refine sq_nil ?_
          exact sq_round (q + 1) (by omega) (by omega) (ent ⟨.refl _, .refl _, .refl _, .refl _, .refl _, .refl _, .refl _, .refl _, .refl _, .refl _, .refl _, .int (hfin _ (by rw [e3]; rfl)), .refl _, .refl _, .int (by omega), trivial⟩ ⟨⟨_, rfl, .refl _⟩, trivial⟩)
        · refine cq_skip ?_
          refine sq_then ?_
          refine cq_seq ?_
          refine cq_block ?_
          refine cq_seq ?_
          refine cq_region ?_
          apply sq_g; exact g_index rfl rfl rfl (by omega); exact rfl
          apply sq_g; exact  g_load_aggv rfl rfl; exact rfl
          refine sq_v (f_alloc 10 rfl) rfl ?_
          refine sq_s (g_store_aggv rfl rfl (fcf_one (gf L q)) rfl rfl) ?_
          refine sq_nil ?_
          refine sq_then ?_
          refine cq_seq ?_
          refine cq_region ?_
          apply sq_g; exact g_field_own rfl; exact rfl
          apply sq_g; exact g_load_own (s := .av _) rfl rfl rfl; exact rfl
          apply sq_g; exact g_move (s := .av (.val (.int _ _))) rfl; exact rfl
          apply sq_g; exact g_call (hc1) rfl; exact rfl
          apply sq_g; exact g_move (s := .av (.val (.bool _))) rfl; exact rfl
          apply sq_on; exact g_field_own rfl; exact rfl; exact rfl; exact rfl
          apply sq_on; exact g_load_own (s := .av _) rfl rfl rfl; exact rfl; exact rfl; exact rfl
          apply sq_on; exact g_move (s := .av (.val (.int _ _))) rfl; exact rfl; exact rfl; exact rfl
          apply sq_on; exact g_call (hc2) rfl; exact rfl; exact rfl; exact rfl
          apply sq_g; exact g_pick (s := .av (.val (.bool _))) rfl rfl; exact rfl
          refine sq_nil ?_
          refine sq_then ?_
          refine cq_cond_f rfl ?_
          refine cq_skip ?_
          refine sq_then ?_
          refine cq_region ?_
          apply sq_g; exact g_arith rfl rfl rfl (by omega); exact rfl
          apply sq_g; exact g_move (s := .av (.val (.int _ _))) rfl; exact rfl
          refine sq_nil ?_
          exact sq_round (q + 1) (by omega) (by omega) (ent ⟨.refl _, .refl _, .refl _, .refl _, .refl _, .refl _, .refl _, .refl _, .refl _, .refl _, .refl _, .int (hfin _ (by rw [e3]; rfl)), .refl _, .refl _, .int (by omega), trivial⟩ ⟨⟨_, rfl, .refl _⟩, trivial⟩)
        · refine cq_skip ?_
          refine sq_then ?_
          refine cq_seq ?_
          refine cq_block ?_
          refine cq_seq ?_
          refine cq_region ?_
          apply sq_g; exact g_index rfl rfl rfl (by omega); exact rfl
          apply sq_g; exact  g_load_aggv rfl rfl; exact rfl
          refine sq_v (f_alloc 10 rfl) rfl ?_
          refine sq_s (g_store_aggv rfl rfl (fcf_one (gf L q)) rfl rfl) ?_
          refine sq_nil ?_
          refine sq_then ?_
          refine cq_seq ?_
          refine cq_region ?_
          apply sq_g; exact g_field_own rfl; exact rfl
          apply sq_g; exact g_load_own (s := .av _) rfl rfl rfl; exact rfl
          apply sq_g; exact g_move (s := .av (.val (.int _ _))) rfl; exact rfl
          apply sq_g; exact g_call (hc1) rfl; exact rfl
          apply sq_g; exact g_move (s := .av (.val (.bool _))) rfl; exact rfl
          apply sq_on; exact g_field_own rfl; exact rfl; exact rfl; exact rfl
          apply sq_on; exact g_load_own (s := .av _) rfl rfl rfl; exact rfl; exact rfl; exact rfl
          apply sq_on; exact g_move (s := .av (.val (.int _ _))) rfl; exact rfl; exact rfl; exact rfl
          apply sq_on; exact g_call (hc2) rfl; exact rfl; exact rfl; exact rfl
          apply sq_g; exact g_pick (s := .av (.val (.bool _))) rfl rfl; exact rfl
          refine sq_nil ?_
          refine sq_then ?_
          refine cq_cond_t rfl ?_
          refine cq_region ?_
          apply sq_g; exact g_move (s := .av (.val (.int _ _))) rfl; exact rfl
          apply sq_g; exact g_arith rfl rfl rfl (by omega); exact rfl
          apply sq_g; exact g_assign (s := .av (.val (.int _ _))) rfl; exact rfl
          refine sq_nil ?_
          refine sq_then ?_
          refine cq_region ?_
          apply sq_g; exact g_arith rfl rfl rfl (by omega); exact rfl
          apply sq_g; exact g_move (s := .av (.val (.int _ _))) rfl; exact rfl
          refine sq_nil ?_
          exact sq_round (q + 1) (by omega) (by omega) (ent ⟨.refl _, .refl _, .refl _, .refl _, .refl _, .refl _, .refl _, .refl _, .refl _, .refl _, .refl _, .int (by have := hfin (c + 1) (by rw [e3]; rfl); omega), .refl _, .refl _, .int (by omega), trivial⟩ ⟨⟨_, rfl, .refl _⟩, trivial⟩)
      · have hqq : q = L.length := by omega
        subst hqq
        generalize cnt L (gz V k) (gz V (k + 1 + m)) L.length = c at e2 hql ⊢
        have hmx : Y.length + 1 ≤ maxLen := by simp only [maxLen]; omega
        refine cq_exit ?_
        refine sq_then ?_
        refine cq_seq ?_
        refine cq_region ?_
        apply sq_g; exact g_move (s := .av (.val (.int _ _))) rfl; exact rfl
        apply sq_g; exact g_cmp rfl rfl rfl; exact rfl
        refine sq_nil ?_
        refine sq_then ?_
        (refine cq_cond rfl (fun hb => ?_) (fun hb => ?_) <;> (try simp only [decide_eq_true_eq, decide_eq_false_iff_not, beq_iff_eq, beq_eq_false_iff_ne, bne_iff_ne, bne_eq_false_iff_eq, ne_eq, Bool.not_eq_true', Bool.not_eq_false', Bool.and_eq_true, Bool.or_eq_true, Bool.and_eq_false_iff, Bool.or_eq_false_iff] at hb) <;> (try (exfalso; omega)))
        · rw [if_pos (by omega)] at e2
          refine cq_region ?_
          apply sq_g; exact g_move (s := .osl _) rfl; exact rfl
          apply sq_g; exact g_move (s := .av (.val (.int _ _))) rfl; exact rfl
          apply sq_g; exact g_move (s := .av (.val (.int _ _))) rfl; exact rfl
          apply sq_g; exact g_build (is := [0, 1]) (xs := [_, _]) (vs := [_, _]) (tb44 _ _) rfl rfl; exact rfl
          apply sq_g; exact  g_bslice (is := [0]) (xs := [_]) (vs := [_]) (us := [_, _]) (tq38 _ _) rfl rfl rfl (ef_row _ _); exact rfl
          refine sq_v (v_append (h := ef [(gz V k, gz V (k + 1 + m))]) (m := 1) rfl rfl rfl (fun i _ j _ => ef_one _ i j) (by omega) hmx (by omega)) rfl ?_
          apply sq_g; exact g_assign (s := .osl _) rfl; exact rfl
          refine sq_nil ?_
          refine sq_then ?_
          refine cq_region ?_
          apply sq_g; exact g_arith rfl rfl rfl (by omega); exact rfl
          apply sq_g; exact g_move (s := .av (.val (.int _ _))) rfl; exact rfl
          refine sq_nil ?_
          exact sq_round (m + 1) (by omega) (by omega) (ent ⟨.refl _, .refl _, .refl _, .refl _, .refl _, .refl _, .refl _, .refl _, .refl _, .int (by omega), trivial⟩ ⟨⟨_, rfl, .row (by rw [e2]; simp) (fun i hi j hj => by rw [e2]; exact ef_app _ _ i hi j hj)⟩, trivial⟩)
        · rw [if_neg (by omega), List.append_nil] at e2
          refine cq_skip ?_
          refine sq_then ?_
          refine cq_region ?_
          apply sq_g; exact g_arith rfl rfl rfl (by omega); exact rfl
          apply sq_g; exact g_move (s := .av (.val (.int _ _))) rfl; exact rfl
          refine sq_nil ?_
          exact sq_round (m + 1) (by omega) (by omega) (ent ⟨.refl _, .refl _, .refl _, .refl _, .refl _, .refl _, .refl _, .refl _, .refl _, .int (by omega), trivial⟩ ⟨⟨_, rfl, by rw [e2]; exact .refl _⟩, trivial⟩)
    · have hmm : m = V.length - (k + 1) := by omega
      subst hmm
      refine cq_exit ?_
      refine sq_then ?_
      refine cq_region ?_
      apply sq_g; exact g_arith rfl rfl rfl (by omega); exact rfl
      apply sq_g; exact g_move (s := .av (.val (.int _ _))) rfl; exact rfl
      refine sq_nil ?_
      exact sq_round (k + 1) (by omega) (by omega) (ent ⟨.refl _, .refl _, .refl _, .refl _, .refl _, .int (by omega), trivial⟩ ⟨⟨_, rfl, by rw [e0]; exact .refl _⟩, trivial⟩)
  · have hkl : k = V.length := by omega
    subst hkl
    refine cq_exit ?_
    refine sq_then ?_
    refine cq_seq ?_
    refine cq_region ?_
    apply sq_g; exact g_move (s := .osl _) rfl; exact rfl
    apply sq_g; exact g_assign (s := .osl _) rfl; exact rfl
    apply sq_g; exact g_assign (s := .av (.val (.int _ _))) rfl; exact rfl
    refine sq_nil ?_
    refine sq_then ?_
    refine cq_ret ?_
    exact sq_ent (ent_freeze 70 rfl) (sq_resN (rvs := [_, _]) (τs := [_, _]) rfl rfl ⟨.tmp rfl, .tmp rfl, trivial⟩ rfl)
end Go.Proofs.YtdoppiajbpmmkaaGreat
namespace Go.Proofs.YtdoppiajbpmmkaaGreat
open Go Go.Vc Go.RowKit
set_option maxHeartbeats 8000000
/-! KDQ -/
theorem nn_iff (a b : Tr) : ([a.x, a.y, a.z] = [b.x, b.y, b.z]) ↔ a = b := by
  cases a; cases b; simp
theorem natL_inj {a b : List Nat} : natL a = natL b ↔ a = b := by
  constructor
  · intro h
    have hl : a.length = b.length := by have := congrArg List.length h; simpa using this
    refine List.ext_getElem hl fun i h1 h2 => ?_
    have := congrArg (fun l => l.getD i 0) h
    simp [List.getD, h1, h2] at this
    omega
  · rintro rfl; rfl
theorem same_c (a b : Fc) (ha : a.s.length ≤ 1000) (hb : b.s.length ≤ 1000) : CtrA Tryz.prog 23 [fca a, fca b] (vb (decide (a.n = b.n) && decide (a.m = b.m) && decide (a.s = b.s))) := by
  refine ctrA _ Tryz.func23 rfl rfl Tryz.ntmps23 rfl fun w Z => ?_
  have he := equali_c (natL a.s) (natL b.s) (by simp; omega) (by simp; omega)
  rw [show zs (natL a.s) = .sl a.s.length 1 (xf a.s) from by rw [xf_natL, zs, List.length_map], show zs (natL b.s) = .sl b.s.length 1 (xf b.s) from by rw [xf_natL, zs, List.length_map]] at he
  simp only [initT, List.map_cons, List.map_nil, Nat.zero_add, Nat.reduceAdd]
  focus
    refine cq_seq ?_
    refine cq_region ?_
    apply sq_g; exact  g_box_aggv rfl; exact rfl
    apply sq_g; exact  g_box_aggv rfl; exact rfl
    apply sq_g; exact g_assign (s := .av (.val (.bool _))) rfl; exact rfl
    refine sq_nil ?_
    refine sq_then ?_
    refine cq_seq ?_
    refine cq_region ?_
    apply sq_g; exact g_field rfl; exact rfl
    apply sq_g; exact g_load_agg (us := [.int _ _, .int _ _, .int _ _]) rfl rfl rfl rfl; exact rfl
    apply sq_g; exact g_field rfl; exact rfl
    apply sq_g; exact g_load_agg (us := [.int _ _, .int _ _, .int _ _]) rfl rfl rfl rfl; exact rfl
    apply sq_g; exact g_eql (xs := [_, _, _]) (ys := [_, _, _]) rfl rfl rfl rfl; exact rfl
    apply sq_g; exact g_move (s := .av (.val (.bool _))) rfl; exact rfl
    refine sq_split rfl rfl (fun hb => ?_) (fun hb => ?_) <;> (try simp only [decide_eq_true_eq, decide_eq_false_iff_not, beq_iff_eq, beq_eq_false_iff_ne, bne_iff_ne, bne_eq_false_iff_eq, ne_eq, Bool.not_eq_true', Bool.not_eq_false', Bool.and_eq_true, Bool.or_eq_true, Bool.and_eq_false_iff, Bool.or_eq_false_iff] at hb) <;> (try (exfalso; omega))
    apply sq_on; exact g_field rfl; exact rfl; exact rfl; exact rfl
    apply sq_on; exact g_load (τ := .val (.int _ _)) rfl rfl rfl; exact rfl; exact rfl; exact rfl
    apply sq_on; exact g_field rfl; exact rfl; exact rfl; exact rfl
    apply sq_on; exact g_load (τ := .val (.int _ _)) rfl rfl rfl; exact rfl; exact rfl; exact rfl
    apply sq_on; exact g_cmp rfl rfl rfl; exact rfl; exact rfl; exact rfl
    apply sq_g; exact g_pick (s := .av (.val (.bool _))) rfl rfl; exact rfl
    apply sq_g; exact g_move (s := .av (.val (.bool _))) rfl; exact rfl
    refine sq_split rfl rfl (fun hb => ?_) (fun hb => ?_) <;> (try simp only [decide_eq_true_eq, decide_eq_false_iff_not, beq_iff_eq, beq_eq_false_iff_ne, bne_iff_ne, bne_eq_false_iff_eq, ne_eq, Bool.not_eq_true', Bool.not_eq_false', Bool.and_eq_true, Bool.or_eq_true, Bool.and_eq_false_iff, Bool.or_eq_false_iff] at hb) <;> (try (exfalso; omega))
    apply sq_on; exact g_field rfl; exact rfl; exact rfl; exact rfl
    apply sq_on; exact g_load rfl rfl rfl; exact rfl; exact rfl; exact rfl
    apply sq_on; exact g_field rfl; exact rfl; exact rfl; exact rfl
    apply sq_on; exact g_load rfl rfl rfl; exact rfl; exact rfl; exact rfl
    apply sq_on; exact g_call (he) rfl; exact rfl; exact rfl; exact rfl
    apply sq_g; exact g_pick (s := .av (.val (.bool _))) rfl rfl; exact rfl
    apply sq_g; exact g_assign (s := .av (.val (.bool _))) rfl; exact rfl
    refine sq_nil ?_
    refine sq_then ?_
    refine cq_ret ?_
    rotate_left
    refine sq_off rfl rfl rfl rfl ?_
    refine sq_off rfl rfl rfl rfl ?_
    refine sq_off rfl rfl rfl rfl ?_
    refine sq_off rfl rfl rfl rfl ?_
    refine sq_off rfl rfl rfl rfl ?_
    apply sq_g; exact g_pick (s := .av (.val (.bool _))) rfl rfl; exact rfl
    apply sq_g; exact g_assign (s := .av (.val (.bool _))) rfl; exact rfl
    refine sq_nil ?_
    refine sq_then ?_
    refine cq_ret ?_
    rotate_left
    refine sq_off rfl rfl rfl rfl ?_
    refine sq_off rfl rfl rfl rfl ?_
    refine sq_off rfl rfl rfl rfl ?_
    refine sq_off rfl rfl rfl rfl ?_
    refine sq_off rfl rfl rfl rfl ?_
    apply sq_g; exact g_pick (s := .av (.val (.bool _))) rfl rfl; exact rfl
    apply sq_g; exact g_move (s := .av (.val (.bool _))) rfl; exact rfl
    refine sq_off rfl rfl rfl rfl ?_
    refine sq_off rfl rfl rfl rfl ?_
    refine sq_off rfl rfl rfl rfl ?_
    refine sq_off rfl rfl rfl rfl ?_
    refine sq_off rfl rfl rfl rfl ?_
    apply sq_g; exact g_pick (s := .av (.val (.bool _))) rfl rfl; exact rfl
    apply sq_g; exact g_assign (s := .av (.val (.bool _))) rfl; exact rfl
    refine sq_nil ?_
    refine sq_then ?_
    refine cq_ret ?_
    rotate_left
  all_goals (refine sq_res1 rfl (.tmp rfl) (congrArg vb ?_))
  all_goals (simp only [nn_iff, natL_inj] at *)
  all_goals (simp [*])
def supBest (l : List Tr) (d : Tr) : Int := tdot d (gt l (exHi l d l.length))
def supE (l : List Tr) (d : Tr) : Int := if chkT l ≠ 0 then chkT l else if d = tz then 10 else if rightT d = false then 2 else if l.length = 0 then 13 else 0
def supB (l : List Tr) (d : Tr) : Int := if supE l d = 0 then supBest l d else 0
def supX (l : List Tr) (d : Tr) : List Nat := if supE l d = 0 then onTo l d (supBest l d) l.length else []
theorem right_bt {d : Tr} (h : rightT d = true) : BT 100000 d := by
  simp only [rightT, inB, Bool.and_eq_true, decide_eq_true_eq] at h
  exact ⟨by omega, by omega, by omega⟩
theorem big_right (d : Tr) : decide (0 ≤ ixB (fun k => bigB (gz (tl d) k)) (tl d).length) = !rightT d := by
  have hb := ixB_lt (fun k => bigB (gz (tl d) k)) (tl d).length
  have e0 : gz (tl d) 0 = d.x := rfl
  have e1 : gz (tl d) 1 = d.y := rfl
  have e2 : gz (tl d) 2 = d.z := rfl
  have hl : (tl d).length = 3 := rfl
  cases hr : rightT d with
  | true =>
    have h := right_bt hr
    rw [ixB_no (p := fun k => bigB (gz (tl d) k)) (fun j hj => by
      rw [hl] at hj
      have hx := h.x; have hy := h.y; have hz := h.z
      rcases (by omega : j = 0 ∨ j = 1 ∨ j = 2) with rfl | rfl | rfl
      · rw [e0]; unfold bigB; simp; omega
      · rw [e1]; unfold bigB; simp; omega
      · rw [e2]; unfold bigB; simp; omega)]
    rfl
  | false =>
    rw [Bool.not_false, decide_eq_true_eq]
    unfold ixB
    cases hf : (List.range (tl d).length).find? (fun k => bigB (gz (tl d) k)) with
    | some j => simp
    | none =>
      exfalso
      have h := List.find?_eq_none.1 hf
      have h0 := h 0 (List.mem_range.2 (by rw [hl]; decide))
      have h1 := h 1 (List.mem_range.2 (by rw [hl]; decide))
      have h2 := h 2 (List.mem_range.2 (by rw [hl]; decide))
      rw [e0] at h0; rw [e1] at h1; rw [e2] at h2
      simp only [bigB, Bool.or_eq_true, decide_eq_true_eq] at h0 h1 h2
      have : rightT d = true := by simp only [rightT, inB, Bool.and_eq_true, decide_eq_true_eq]; omega
      rw [hr] at this; cases this
theorem ix44_1 (a b : Nat) (w : World) : (Instr.index 44 (.agg [.int .i64 (a : Int), .int .i64 (b : Int)].toArray) (.int .i64 1)).run Tryz.prog w = .ok (.int .i64 (b : Int)) w := by kernel_rfl
theorem sup_c (l : List Tr) (d : Tr) (hf : few l) : CtrA Tryz.prog 11 [ts l, tp d] (tupOf [vi (supB l d), zs (natL (supX l d)), vi (supE l d)]) := by
  have hc := check_c l
  by_cases h : chkT l = 0
  case neg =>
    have hE : supE l d = chkT l := by unfold supE; rw [if_pos h]
    unfold supB supX
    rw [hE, if_neg h, if_neg h]
    generalize chkT l = e at h hc ⊢
    refine CtrA.to (τ := tupOf [vi 0, nilA, vi e]) ?_ (.tup ⟨.refl _, .nil, .refl _, trivial⟩)
    refine ctrA _ Tryz.func11 rfl rfl Tryz.ntmps11 rfl fun w Z => ?_
    simp only [initT, List.map_cons, List.map_nil, Nat.zero_add, Nat.reduceAdd]
    refine cq_seq ?_
    refine cq_region ?_
    apply sq_g; exact g_box_agg rfl; exact rfl
    apply sq_g; exact g_assign (s := .av (.val (.int _ _))) rfl; exact rfl
    apply sq_g; exact g_assign (s := .av _) rfl; exact rfl
    apply sq_g; exact g_assign (s := .av (.val (.int _ _))) rfl; exact rfl
    refine sq_nil ?_
    refine sq_then ?_
    refine cq_seq ?_
    refine cq_seq ?_
    refine cq_region ?_
    apply sq_g; exact g_move (s := .av _) rfl; exact rfl
    apply sq_g; exact g_call (hc) rfl; exact rfl
    apply sq_g; exact g_assign (s := .av (.val (.int _ _))) rfl; exact rfl
    refine sq_nil ?_
    refine sq_then ?_
    refine cq_seq ?_
    refine cq_region ?_
    apply sq_g; exact g_move (s := .av (.val (.int _ _))) rfl; exact rfl
    apply sq_g; exact g_cmp rfl rfl rfl; exact rfl
    refine sq_nil ?_
    refine sq_then ?_
    (refine cq_cond rfl (fun hb => ?_) (fun hb => ?_) <;> (try simp only [decide_eq_true_eq, decide_eq_false_iff_not, beq_iff_eq, beq_eq_false_iff_ne, bne_iff_ne, bne_eq_false_iff_eq, ne_eq, Bool.not_eq_true', Bool.not_eq_false', Bool.and_eq_true, Bool.or_eq_true, Bool.and_eq_false_iff, Bool.or_eq_false_iff] at hb) <;> (try (exfalso; omega)))
    refine cq_seq ?_
    refine cq_region ?_
    apply sq_g; exact g_move (s := .av (.val (.int _ _))) rfl; exact rfl
    apply sq_g; exact g_assign (s := .av (.val (.int _ _))) rfl; exact rfl
    apply sq_g; exact g_assign (s := .av _) rfl; exact rfl
    apply sq_g; exact g_assign (s := .av (.val (.int _ _))) rfl; exact rfl
    refine sq_nil ?_
    refine sq_then ?_
    refine cq_ret ?_
    refine sq_then_ret ?_
    exact sq_resN (rvs := [_, _, _]) (τs := [_, _, _]) rfl rfl ⟨.tmp rfl, .tmp rfl, .tmp rfl, trivial⟩ rfl
  rw [h] at hc
  obtain ⟨hl, hn⟩ := hf.le h
  have hE : supE l d = if d = tz then 10 else if rightT d = false then 2 else if l.length = 0 then 13 else 0 := by unfold supE; rw [if_neg (by rw [h]; simp)]
  have hcf := containsf_c big_c (tl d) (show 3 ≤ 100000 by decide)
  rw [big_right] at hcf
  by_cases h1 : d = tz
  · rw [if_pos h1] at hE
    unfold supB supX
    rw [hE, if_neg (by decide), if_neg (by decide)]
    refine CtrA.to (τ := tupOf [vi 0, nilA, vi 10]) ?_ (.tup ⟨.refl _, .nil, .refl _, trivial⟩)
    subst h1
    refine ctrA _ Tryz.func11 rfl rfl Tryz.ntmps11 rfl fun w Z => ?_
    simp only [initT, List.map_cons, List.map_nil, Nat.zero_add, Nat.reduceAdd]
    refine cq_seq ?_
    refine cq_region ?_
    apply sq_g; exact g_box_agg rfl; exact rfl
    apply sq_g; exact g_assign (s := .av (.val (.int _ _))) rfl; exact rfl
    apply sq_g; exact g_assign (s := .av _) rfl; exact rfl
    apply sq_g; exact g_assign (s := .av (.val (.int _ _))) rfl; exact rfl
    refine sq_nil ?_
    refine sq_then ?_
    refine cq_seq ?_
    refine cq_seq ?_
    refine cq_region ?_
    apply sq_g; exact g_move (s := .av _) rfl; exact rfl
    apply sq_g; exact g_call (hc) rfl; exact rfl
    apply sq_g; exact g_assign (s := .av (.val (.int _ _))) rfl; exact rfl
    refine sq_nil ?_
    refine sq_then ?_
    refine cq_seq ?_
    refine cq_region ?_
    apply sq_g; exact g_move (s := .av (.val (.int _ _))) rfl; exact rfl
    apply sq_g; exact g_cmp rfl rfl rfl; exact rfl
    refine sq_nil ?_
    refine sq_then ?_
    refine cq_cond_f rfl ?_
    refine cq_skip ?_
    refine sq_then ?_
    refine cq_seq ?_
    refine cq_region ?_
    apply sq_g; exact g_load_agg (us := [.int _ _, .int _ _, .int _ _]) rfl rfl rfl rfl; exact rfl
    refine sq_v (f_alloc 10 rfl) rfl ?_
    refine sq_s (g_store_agg rfl rfl rfl rfl rfl rfl) ?_
    refine sq_nil ?_
    refine sq_then ?_
    refine cq_seq ?_
    refine cq_block ?_
    refine cq_seq ?_
    refine cq_region ?_
    apply sq_g; exact g_load_own_agg (us := [.int _ _, .int _ _, .int _ _]) rfl rfl rfl rfl; exact rfl
    apply sq_g; exact  g_build (is := []) (xs := []) (vs := []) tb80_0 rfl rfl; exact rfl
    apply sq_g; exact g_eql (xs := [_, _, _]) (ys := [_, _, _]) rfl rfl rfl rfl; exact rfl
    apply sq_g; exact g_assign (s := .av (.val (.bool _))) rfl; exact rfl
    refine sq_nil ?_
    refine sq_then ?_
    refine cq_cond_t rfl ?_
    refine cq_seq ?_
    refine cq_region ?_
    apply sq_g; exact g_assign (s := .av (.val (.int _ _))) rfl; exact rfl
    apply sq_g; exact g_assign (s := .av _) rfl; exact rfl
    apply sq_g; exact g_assign (s := .av (.val (.int _ _))) rfl; exact rfl
    refine sq_nil ?_
    refine sq_then ?_
    refine cq_ret ?_
    refine sq_inBlock_ret ?_
    refine sq_then_ret ?_
    exact sq_resN (rvs := [_, _, _]) (τs := [_, _, _]) rfl rfl ⟨.tmp rfl, .tmp rfl, .tmp rfl, trivial⟩ rfl
  rw [if_neg h1] at hE
  by_cases h2 : rightT d = false
  · rw [if_pos h2] at hE
    unfold supB supX
    rw [hE, if_neg (by decide), if_neg (by decide)]
    refine CtrA.to (τ := tupOf [vi 0, nilA, vi 2]) ?_ (.tup ⟨.refl _, .nil, .refl _, trivial⟩)
    rw [h2] at hcf
    refine ctrA _ Tryz.func11 rfl rfl Tryz.ntmps11 rfl fun w Z => ?_
    simp only [initT, List.map_cons, List.map_nil, Nat.zero_add, Nat.reduceAdd]
    refine cq_seq ?_
    refine cq_region ?_
    apply sq_g; exact g_box_agg rfl; exact rfl
    apply sq_g; exact g_assign (s := .av (.val (.int _ _))) rfl; exact rfl
    apply sq_g; exact g_assign (s := .av _) rfl; exact rfl
    apply sq_g; exact g_assign (s := .av (.val (.int _ _))) rfl; exact rfl
    refine sq_nil ?_
    refine sq_then ?_
    refine cq_seq ?_
    refine cq_seq ?_
    refine cq_region ?_
    apply sq_g; exact g_move (s := .av _) rfl; exact rfl
    apply sq_g; exact g_call (hc) rfl; exact rfl
    apply sq_g; exact g_assign (s := .av (.val (.int _ _))) rfl; exact rfl
    refine sq_nil ?_
    refine sq_then ?_
    refine cq_seq ?_
    refine cq_region ?_
    apply sq_g; exact g_move (s := .av (.val (.int _ _))) rfl; exact rfl
    apply sq_g; exact g_cmp rfl rfl rfl; exact rfl
    refine sq_nil ?_
    refine sq_then ?_
    refine cq_cond_f rfl ?_
    refine cq_skip ?_
    refine sq_then ?_
    refine cq_seq ?_
    refine cq_region ?_
    apply sq_g; exact g_load_agg (us := [.int _ _, .int _ _, .int _ _]) rfl rfl rfl rfl; exact rfl
    refine sq_v (f_alloc 10 rfl) rfl ?_
    refine sq_s (g_store_agg rfl rfl rfl rfl rfl rfl) ?_
    refine sq_nil ?_
    refine sq_then ?_
    refine cq_seq ?_
    refine cq_block ?_
    refine cq_seq ?_
    refine cq_region ?_
    apply sq_g; exact g_load_own_agg (us := [.int _ _, .int _ _, .int _ _]) rfl rfl rfl rfl; exact rfl
    apply sq_g; exact  g_build (is := []) (xs := []) (vs := []) tb80_0 rfl rfl; exact rfl
    apply sq_g; exact g_eql (xs := [_, _, _]) (ys := [_, _, _]) rfl rfl rfl rfl; exact rfl
    apply sq_g; exact g_assign (s := .av (.val (.bool _))) rfl; exact rfl
    refine sq_nil ?_
    refine sq_then ?_
    (refine cq_cond rfl (fun hb => ?_) (fun hb => ?_) <;> (try simp only [decide_eq_true_eq, decide_eq_false_iff_not, beq_iff_eq, beq_eq_false_iff_ne, bne_iff_ne, bne_eq_false_iff_eq, ne_eq, Bool.not_eq_true', Bool.not_eq_false', Bool.and_eq_true, Bool.or_eq_true, Bool.and_eq_false_iff, Bool.or_eq_false_iff] at hb) <;> (try (exfalso; omega)))
    · exact absurd ((nn_iff d tz).1 hb) h1
    refine cq_seq ?_
    refine cq_region ?_
    refine lsq_ent (ent_freezec 8 10 (fun i => zf (tl d) i 0) rfl rfl rfl) ?_
    apply sq_g; exact  g_slice_arr (n := 3) rfl (by decide) (by decide); exact rfl
    apply sq_g; exact g_call (hcf) rfl; exact rfl
    apply sq_g; exact g_assign (s := .av (.val (.bool _))) rfl; exact rfl
    refine sq_nil ?_
    refine sq_then ?_
    refine cq_cond_t rfl ?_
    refine cq_seq ?_
    refine cq_region ?_
    apply sq_g; exact g_assign (s := .av (.val (.int _ _))) rfl; exact rfl
    apply sq_g; exact g_assign (s := .av _) rfl; exact rfl
    apply sq_g; exact g_assign (s := .av (.val (.int _ _))) rfl; exact rfl
    refine sq_nil ?_
    refine sq_then ?_
    refine cq_ret ?_
    refine sq_inBlock_ret ?_
    refine sq_then_ret ?_
    exact sq_resN (rvs := [_, _, _]) (τs := [_, _, _]) rfl rfl ⟨.tmp rfl, .tmp rfl, .tmp rfl, trivial⟩ rfl
  rw [if_neg h2] at hE
  have hr : rightT d = true := by simpa using h2
  have hbt := right_bt hr
  rw [hr] at hcf
  by_cases h3 : l.length = 0
  · rw [if_pos h3] at hE
    unfold supB supX
    rw [hE, if_neg (by decide), if_neg (by decide)]
    refine CtrA.to (τ := tupOf [vi 0, nilA, vi 13]) ?_ (.tup ⟨.refl _, .nil, .refl _, trivial⟩)
    refine ctrA _ Tryz.func11 rfl rfl Tryz.ntmps11 rfl fun w Z => ?_
    simp only [initT, List.map_cons, List.map_nil, Nat.zero_add, Nat.reduceAdd]
    refine cq_seq ?_
    refine cq_region ?_
    apply sq_g; exact g_box_agg rfl; exact rfl
    apply sq_g; exact g_assign (s := .av (.val (.int _ _))) rfl; exact rfl
    apply sq_g; exact g_assign (s := .av _) rfl; exact rfl
    apply sq_g; exact g_assign (s := .av (.val (.int _ _))) rfl; exact rfl
    refine sq_nil ?_
    refine sq_then ?_
    refine cq_seq ?_
    refine cq_seq ?_
    refine cq_region ?_
    apply sq_g; exact g_move (s := .av _) rfl; exact rfl
    apply sq_g; exact g_call (hc) rfl; exact rfl
    apply sq_g; exact g_assign (s := .av (.val (.int _ _))) rfl; exact rfl
    refine sq_nil ?_
    refine sq_then ?_
    refine cq_seq ?_
    refine cq_region ?_
    apply sq_g; exact g_move (s := .av (.val (.int _ _))) rfl; exact rfl
    apply sq_g; exact g_cmp rfl rfl rfl; exact rfl
    refine sq_nil ?_
    refine sq_then ?_
    refine cq_cond_f rfl ?_
    refine cq_skip ?_
    refine sq_then ?_
    refine cq_seq ?_
    refine cq_region ?_
    apply sq_g; exact g_load_agg (us := [.int _ _, .int _ _, .int _ _]) rfl rfl rfl rfl; exact rfl
    refine sq_v (f_alloc 10 rfl) rfl ?_
    refine sq_s (g_store_agg rfl rfl rfl rfl rfl rfl) ?_
    refine sq_nil ?_
    refine sq_then ?_
    refine cq_seq ?_
    refine cq_block ?_
    refine cq_seq ?_
    refine cq_region ?_
    apply sq_g; exact g_load_own_agg (us := [.int _ _, .int _ _, .int _ _]) rfl rfl rfl rfl; exact rfl
    apply sq_g; exact  g_build (is := []) (xs := []) (vs := []) tb80_0 rfl rfl; exact rfl
    apply sq_g; exact g_eql (xs := [_, _, _]) (ys := [_, _, _]) rfl rfl rfl rfl; exact rfl
    apply sq_g; exact g_assign (s := .av (.val (.bool _))) rfl; exact rfl
    refine sq_nil ?_
    refine sq_then ?_
    (refine cq_cond rfl (fun hb => ?_) (fun hb => ?_) <;> (try simp only [decide_eq_true_eq, decide_eq_false_iff_not, beq_iff_eq, beq_eq_false_iff_ne, bne_iff_ne, bne_eq_false_iff_eq, ne_eq, Bool.not_eq_true', Bool.not_eq_false', Bool.and_eq_true, Bool.or_eq_true, Bool.and_eq_false_iff, Bool.or_eq_false_iff] at hb) <;> (try (exfalso; omega)))
    · exact absurd ((nn_iff d tz).1 hb) h1
    refine cq_seq ?_
    refine cq_region ?_
    refine lsq_ent (ent_freezec 8 10 (fun i => zf (tl d) i 0) rfl rfl rfl) ?_
    apply sq_g; exact  g_slice_arr (n := 3) rfl (by decide) (by decide); exact rfl
    apply sq_g; exact g_call (hcf) rfl; exact rfl
    apply sq_g; exact g_assign (s := .av (.val (.bool _))) rfl; exact rfl
    refine sq_nil ?_
    refine sq_then ?_
    refine cq_cond_f rfl ?_
    refine cq_seq ?_
    refine cq_region ?_
    apply sq_g; exact g_move (s := .av _) rfl; exact rfl
    apply sq_g; exact g_len rfl; exact rfl
    apply sq_g; exact g_cmp rfl rfl rfl; exact rfl
    apply sq_g; exact g_assign (s := .av (.val (.bool _))) rfl; exact rfl
    refine sq_nil ?_
    refine sq_then ?_
    (refine cq_cond rfl (fun hb => ?_) (fun hb => ?_) <;> (try simp only [decide_eq_true_eq, decide_eq_false_iff_not, beq_iff_eq, beq_eq_false_iff_ne, bne_iff_ne, bne_eq_false_iff_eq, ne_eq, Bool.not_eq_true', Bool.not_eq_false', Bool.and_eq_true, Bool.or_eq_true, Bool.and_eq_false_iff, Bool.or_eq_false_iff] at hb) <;> (try (exfalso; omega)))
    refine cq_seq ?_
    refine cq_region ?_
    apply sq_g; exact g_assign (s := .av (.val (.int _ _))) rfl; exact rfl
    apply sq_g; exact g_assign (s := .av _) rfl; exact rfl
    apply sq_g; exact g_assign (s := .av (.val (.int _ _))) rfl; exact rfl
    refine sq_nil ?_
    refine sq_then ?_
    refine cq_ret ?_
    refine sq_inBlock_ret ?_
    refine sq_then_ret ?_
    exact sq_resN (rvs := [_, _, _]) (τs := [_, _, _]) rfl rfl ⟨.tmp rfl, .tmp rfl, .tmp rfl, trivial⟩ rfl
  rw [if_neg h3] at hE
  have h0 : 0 < l.length := by omega
  have hB : supBest l d = tdot d (gt l (exHi l d l.length)) := rfl
  unfold supB supX
  rw [hE, if_pos rfl, if_pos rfl]
  rw [hB]
  have hv := (vectors_c l (by omega)).ro
  have hx := extremes_c l d hl (hbt.le (by decide)) (by omega)
  have hhi := exHi_lt l d l.length l.length (Nat.le_refl _) h0
  generalize exLo l d l.length = lo at hx
  generalize exHi l d l.length = hi at hx hhi ⊢
  have hd1 : ∀ i, CtrA Tryz.prog 47 [tp d, tp (gt l i)] (vi (tdot d (gt l i))) := fun i => dot_c d (gt l i) hbt (hl i) (by decide)
  have hdh := hd1 hi
  generalize hm : tdot d (gt l hi) = m at hdh ⊢
  refine ctrA _ Tryz.func11 rfl rfl Tryz.ntmps11 rfl fun w Z => ?_
  simp only [initT, List.map_cons, List.map_nil, Nat.zero_add, Nat.reduceAdd]
  refine cq_seq ?_
  refine cq_region ?_
  apply sq_g; exact g_box_agg rfl; exact rfl
  apply sq_g; exact g_assign (s := .av (.val (.int _ _))) rfl; exact rfl
  apply sq_g; exact g_assign (s := .av _) rfl; exact rfl
  apply sq_g; exact g_assign (s := .av (.val (.int _ _))) rfl; exact rfl
  refine sq_nil ?_
  refine sq_then ?_
  refine cq_seq ?_
  refine cq_seq ?_
  refine cq_region ?_
  apply sq_g; exact g_move (s := .av _) rfl; exact rfl
  apply sq_g; exact g_call (hc) rfl; exact rfl
  apply sq_g; exact g_assign (s := .av (.val (.int _ _))) rfl; exact rfl
  refine sq_nil ?_
  refine sq_then ?_
  refine cq_seq ?_
  refine cq_region ?_
  apply sq_g; exact g_move (s := .av (.val (.int _ _))) rfl; exact rfl
  apply sq_g; exact g_cmp rfl rfl rfl; exact rfl
  refine sq_nil ?_
  refine sq_then ?_
  refine cq_cond_f rfl ?_
  refine cq_skip ?_
  refine sq_then ?_
  refine cq_seq ?_
  refine cq_region ?_
  apply sq_g; exact g_load_agg (us := [.int _ _, .int _ _, .int _ _]) rfl rfl rfl rfl; exact rfl
  refine sq_v (f_alloc 10 rfl) rfl ?_
  refine sq_s (g_store_agg rfl rfl rfl rfl rfl rfl) ?_
  refine sq_nil ?_
  refine sq_then ?_
  refine cq_seq ?_
  refine cq_block ?_
  refine cq_seq ?_
  refine cq_region ?_
  apply sq_g; exact g_load_own_agg (us := [.int _ _, .int _ _, .int _ _]) rfl rfl rfl rfl; exact rfl
  apply sq_g; exact  g_build (is := []) (xs := []) (vs := []) tb80_0 rfl rfl; exact rfl
  apply sq_g; exact g_eql (xs := [_, _, _]) (ys := [_, _, _]) rfl rfl rfl rfl; exact rfl
  apply sq_g; exact g_assign (s := .av (.val (.bool _))) rfl; exact rfl
  refine sq_nil ?_
  refine sq_then ?_
  (refine cq_cond rfl (fun hb => ?_) (fun hb => ?_) <;> (try simp only [decide_eq_true_eq, decide_eq_false_iff_not, beq_iff_eq, beq_eq_false_iff_ne, bne_iff_ne, bne_eq_false_iff_eq, ne_eq, Bool.not_eq_true', Bool.not_eq_false', Bool.and_eq_true, Bool.or_eq_true, Bool.and_eq_false_iff, Bool.or_eq_false_iff] at hb) <;> (try (exfalso; omega)))
  · exact absurd ((nn_iff d tz).1 hb) h1
  refine cq_seq ?_
  refine cq_region ?_
  refine lsq_ent (ent_freezec 8 10 (fun i => zf (tl d) i 0) rfl rfl rfl) ?_
  apply sq_g; exact  g_slice_arr (n := 3) rfl (by decide) (by decide); exact rfl
  apply sq_g; exact g_call (hcf) rfl; exact rfl
  apply sq_g; exact g_assign (s := .av (.val (.bool _))) rfl; exact rfl
  refine sq_nil ?_
  refine sq_then ?_
  refine cq_cond_f rfl ?_
  refine cq_seq ?_
  refine cq_region ?_
  apply sq_g; exact g_move (s := .av _) rfl; exact rfl
  apply sq_g; exact g_len rfl; exact rfl
  apply sq_g; exact g_cmp rfl rfl rfl; exact rfl
  apply sq_g; exact g_assign (s := .av (.val (.bool _))) rfl; exact rfl
  refine sq_nil ?_
  refine sq_then ?_
  (refine cq_cond rfl (fun hb => ?_) (fun hb => ?_) <;> (try simp only [decide_eq_true_eq, decide_eq_false_iff_not, beq_iff_eq, beq_eq_false_iff_ne, bne_iff_ne, bne_eq_false_iff_eq, ne_eq, Bool.not_eq_true', Bool.not_eq_false', Bool.and_eq_true, Bool.or_eq_true, Bool.and_eq_false_iff, Bool.or_eq_false_iff] at hb) <;> (try (exfalso; omega)))
  refine cq_skip ?_
  refine sq_then ?_
  refine cq_seq ?_
  refine cq_region ?_
  apply sq_g; exact g_move (s := .av _) rfl; exact rfl
  apply sq_g; exact g_call (hv) rfl; exact rfl
  apply sq_g; exact g_assign (s := .av _) rfl; exact rfl
  refine sq_nil ?_
  refine sq_then ?_
  refine cq_seq ?_
  refine cq_drawn ?_
  apply dq_g; exact g_load_agg (us := [.int _ _, .int _ _, .int _ _]) rfl rfl rfl rfl; exact rfl
  apply dq_g; exact g_move (s := .av _) rfl; exact rfl
  apply dq_g; exact g_move (s := .av _) rfl; exact rfl
  apply dq_g; exact g_load_agg (us := [.int _ _, .int _ _, .int _ _]) rfl rfl rfl rfl; exact rfl
  apply dq_g; exact g_call (hx) rfl; exact rfl
  apply dq_g; exact  g_indexv (us := [_, _]) rfl rfl (fun w => ix44_1 lo hi w); exact rfl
  apply dq_g; exact g_index rfl rfl rfl (by omega); exact rfl
  apply dq_g; exact g_load_agg (us := [.int _ _, .int _ _, .int _ _]) rfl rfl rfl rfl; exact rfl
  apply dq_g; exact g_call (hdh) rfl; exact rfl
  apply dq_g; exact g_assign (s := .av (.val (.int _ _))) rfl; exact rfl
  refine dq_nil tm (by kernel_rfl) ?_
  refine sq_then ?_
  refine cq_seq ?_
  refine cq_region ?_
  apply sq_g; exact g_assign (s := .av _) rfl; exact rfl
  refine sq_nil ?_
  refine sq_then ?_
  refine cq_seq ?_
  refine cq_seq ?_
  refine cq_region ?_
  apply sq_g; exact g_move (s := .av _) rfl; exact rfl
  apply sq_g; exact g_len rfl; exact rfl
  apply sq_g; exact g_move (s := .av (.val (.int _ _))) rfl; exact rfl
  refine sq_nil ?_
  refine sq_then ?_
  refine cq_block ?_
  refine cq_loop (γ := Nat) (fun k => [(8, .av (.ptr 3 (fun i => zf (tl d) i 0))), (10, .av (vi m)), (11, .osl 70), (42, .av (ts l)), (43, .av (vi l.length)), (44, .av (vi k))]) (fun k => [(70, .row 3 1 (onTo l d m k).length (xf (onTo l d m k)))]) (fun k => k ≤ l.length) (fun k => l.length - k) 0 (Nat.zero_le _) (Ent.trans (ent_row (dd := 11) 70 3 1 (xf []) rfl rfl) (ent ⟨.refl _, .refl _, .refl _, .refl _, .refl _, .refl _, trivial⟩ ⟨⟨_, rfl, .refl _⟩, trivial⟩)) ?_
  intro k hk
  refine cq_seq ?_
  refine cq_region ?_
  apply sq_g; exact g_cmp rfl rfl rfl; exact rfl
  refine sq_nil ?_
  refine sq_then ?_
  refine cq_seq ?_
  (refine cq_cond rfl (fun hb => ?_) (fun hb => ?_) <;> (try simp only [decide_eq_true_eq, decide_eq_false_iff_not, beq_iff_eq, beq_eq_false_iff_ne, bne_iff_ne, bne_eq_false_iff_eq, ne_eq, Bool.not_eq_true', Bool.not_eq_false', Bool.and_eq_true, Bool.or_eq_true, Bool.and_eq_false_iff, Bool.or_eq_false_iff] at hb) <;> (try (exfalso; omega)))
  · have hkl : k < l.length := by omega
    have e0 := onTo_succ l d m k
    have hol := onTo_len l d m k
    generalize onTo l d m k = X at e0 hol ⊢
    have hdk := hd1 k
    refine cq_skip ?_
    refine sq_then ?_
    refine cq_seq ?_
    refine cq_block ?_
    refine cq_seq ?_
    refine cq_region ?_
    apply sq_g; exact g_move (s := .av (.val (.int _ _))) rfl; exact rfl
    apply sq_g; exact g_index rfl rfl rfl (by omega); exact rfl
    apply sq_g; exact g_load_agg (us := [.int _ _, .int _ _, .int _ _]) rfl rfl rfl rfl; exact rfl
    refine sq_v (f_alloc 10 rfl) rfl ?_
    apply sq_g; exact g_assign (s := .av (.val (.int _ _))) rfl; exact rfl
    refine sq_s (g_store_agg rfl rfl rfl rfl rfl rfl) ?_
    refine sq_nil ?_
    refine sq_then ?_
    refine cq_seq ?_
    refine cq_region ?_
    apply sq_g; exact g_load_agg (us := [.int _ _, .int _ _, .int _ _]) rfl rfl rfl rfl; exact rfl
    apply sq_g; exact g_load_own_agg (us := [.int _ _, .int _ _, .int _ _]) rfl rfl rfl rfl; exact rfl
    apply sq_g; exact g_call (hdk) rfl; exact rfl
    apply sq_g; exact g_move (s := .av (.val (.int _ _))) rfl; exact rfl
    apply sq_g; exact g_cmp rfl rfl rfl; exact rfl
    refine sq_nil ?_
    refine sq_then ?_
    (refine cq_cond rfl (fun hb => ?_) (fun hb => ?_) <;> (try simp only [decide_eq_true_eq, decide_eq_false_iff_not, beq_iff_eq, beq_eq_false_iff_ne, bne_iff_ne, bne_eq_false_iff_eq, ne_eq, Bool.not_eq_true', Bool.not_eq_false', Bool.and_eq_true, Bool.or_eq_true, Bool.and_eq_false_iff, Bool.or_eq_false_iff] at hb) <;> (try (exfalso; omega)))
    · rw [if_pos hb] at e0
      have hml : X.length + 1 ≤ maxLen := by simp only [maxLen]; omega
      refine cq_region ?_
      apply sq_g; exact g_move (s := .osl _) rfl; exact rfl
      apply sq_g; exact g_move (s := .av (.val (.int _ _))) rfl; exact rfl
      apply sq_g; exact g_one_ix (tq26 _) rfl rfl; exact rfl
      refine sq_v (v_push_ix rfl rfl rfl (by omega) rfl) rfl ?_
      apply sq_g; exact g_assign (s := .osl _) rfl; exact rfl
      refine sq_nil ?_
      refine sq_then ?_
      refine cq_region ?_
      apply sq_g; exact g_arith rfl rfl rfl (by omega); exact rfl
      apply sq_g; exact g_move (s := .av (.val (.int _ _))) rfl; exact rfl
      refine sq_nil ?_
      exact sq_round (k + 1) (by omega) (by omega) (ent ⟨.refl _, .refl _, .refl _, .refl _, .refl _, .int (by omega), trivial⟩ ⟨⟨_, rfl, .row (by rw [e0]) (fun _ _ _ _ => by rw [e0])⟩, trivial⟩)
    · rw [if_neg hb] at e0
      refine cq_skip ?_
      refine sq_then ?_
      refine cq_region ?_
      apply sq_g; exact g_arith rfl rfl rfl (by omega); exact rfl
      apply sq_g; exact g_move (s := .av (.val (.int _ _))) rfl; exact rfl
      refine sq_nil ?_
      exact sq_round (k + 1) (by omega) (by omega) (ent ⟨.refl _, .refl _, .refl _, .refl _, .refl _, .int (by omega), trivial⟩ ⟨⟨_, rfl, .row (by rw [e0]) (fun _ _ _ _ => by rw [e0])⟩, trivial⟩)
  · have hkl : k = l.length := by omega
    subst hkl
    rw [show zs (natL (onTo l d m l.length)) = .sl (onTo l d m l.length).length 1 (xf (onTo l d m l.length)) from by rw [xf_natL, zs, List.length_map]]
    refine cq_exit ?_
    refine sq_then ?_
    refine cq_seq ?_
    refine cq_region ?_
    apply sq_g; exact g_move (s := .av (.val (.int _ _))) rfl; exact rfl
    apply sq_g; exact g_move (s := .osl _) rfl; exact rfl
    apply sq_g; exact g_assign (s := .av (.val (.int _ _))) rfl; exact rfl
    apply sq_g; exact g_assign (s := .osl _) rfl; exact rfl
    apply sq_g; exact g_assign (s := .av (.val (.int _ _))) rfl; exact rfl
    refine sq_nil ?_
    refine sq_then ?_
    refine cq_ret ?_
    exact sq_ent (ent_freeze 70 rfl) (sq_resN (rvs := [_, _, _]) (τs := [_, _, _]) rfl rfl ⟨.tmp rfl, .tmp rfl, .tmp rfl, trivial⟩ rfl)
end Go.Proofs.YtdoppiajbpmmkaaGreat
