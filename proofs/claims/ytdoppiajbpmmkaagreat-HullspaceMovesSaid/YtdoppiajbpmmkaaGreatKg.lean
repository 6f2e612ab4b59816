/- A part of the proof that the law returns true at every input and that the input reads behind the call as it read before; this part states nothing of its own that needs a condition of the input. -/
import Derived.Test.YtdoppiajbpmmkaaGreatKf
set_option linter.unusedVariables false
set_option linter.unusedSimpArgs false
set_option linter.unnecessarySimpa false
namespace Go.Proofs.YtdoppiajbpmmkaaGreat
open Go Go.Vc Go.RowKit
set_option maxHeartbeats 1000000
/-! Moved points: the same hull. -/
def sh2 (b p : Pt) : Pt := ⟨p.x + b.x, p.y + b.y⟩
theorem gp_map2 {l : List Pt} (f : Pt → Pt) {k : Nat} (h : k < l.length) : gp (l.map f) k = f (gp l k) := by
  rw [gp_eq (by rw [List.length_map]; exact h), gp_eq h]; simp
theorem sh2_crs (b p q r : Pt) : crs (sh2 b p) (sh2 b q) (sh2 b r) = crs p q r := by
  have e : ∀ x y, sub (sh2 b x) (sh2 b y) = sub x y := fun x y => by simp only [sub, sh2, Pt.mk.injEq]; omega
  simp only [crs, e]
theorem sh2_eq (b p q : Pt) : sh2 b p = sh2 b q ↔ p = q := by
  cases p; cases q; simp only [sh2, Pt.mk.injEq]; omega
theorem cmpI_add (a b c : Int) : cmpI (a + c) (b + c) = cmpI a b := by
  unfold cmpI
  by_cases h1 : a < b
  · rw [if_pos h1, if_pos (by omega)]
  · rw [if_neg h1, if_neg (by omega)]
    by_cases h2 : b < a
    · rw [if_pos h2, if_pos (by omega)]
    · rw [if_neg h2, if_neg (by omega)]
theorem ordC_sh {l : List Pt} (b : Pt) {i k : Nat} (hi : i < l.length) (hk : k < l.length) : ordC (l.map (sh2 b)) i k = ordC l i k := by
  unfold ordC
  rw [gp_map2 _ hi, gp_map2 _ hk]
  simp only [sh2, cmpI_add]
theorem sink_congr {lt lt' : Nat → Nat → Bool} {n a : Nat} (h : ∀ i k, i < n → k < n → lt i k = lt' i k) : ∀ (j : Nat) (v : List Nat), j < v.length → (∀ k, k < v.length → gi v k < n) → sink lt a v j = sink lt' a v j
  | 0, v, _, _ => rfl
  | j + 1, v, hj, hv => by
    unfold sink
    rw [h _ _ (hv (j + 1) hj) (hv j (by omega))]
    split
    · exact sink_congr h j _ (by rw [swp_len]; omega) (swp_all (p := fun x => x < n) hj (by omega) hv)
    · rfl
theorem isortR_congr {lt lt' : Nat → Nat → Bool} {n a b : Nat} (h : ∀ i k, i < n → k < n → lt i k = lt' i k) : ∀ (m i : Nat) (v : List Nat), b - i = m → b ≤ v.length → (∀ k, k < v.length → gi v k < n) → isortR lt a b v i = isortR lt' a b v i
  | 0, i, v, hm, hb, hv => by rw [isortR_end (by omega), isortR_end (by omega)]
  | m + 1, i, v, hm, hb, hv => by
    have hib : i < b := by omega
    rw [isortR_step hib, isortR_step hib, sink_congr h i v (by omega) hv]
    exact isortR_congr h m (i + 1) _ (by omega) (by rw [sink_len]; exact hb) (sink_all (p := fun x => x < n) (by omega) hv)
theorem ordI_sh (l : List Pt) (b : Pt) : ordI (l.map (sh2 b)) = ordI l := by
  unfold ordI
  rw [List.length_map]
  refine isortR_congr (n := l.length) (fun i k hi hk => ?_) _ _ _ rfl (by simp) (fun k hk => ?_)
  · rw [ordC_sh b hi hk]
  · simp at hk; rw [gi_range hk]; exact hk
theorem pop_sh {l : List Pt} (b : Pt) {i : Nat} (hi : i < l.length) : ∀ st : List Nat, (∀ x ∈ st, x < l.length) → pop (l.map (sh2 b)) i st = pop l i st ∧ ∀ x ∈ pop l i st, x < l.length
  | [], h => ⟨by simp [pop], by simp [pop]⟩
  | [x], h => ⟨by simp [pop], by simpa [pop] using h⟩
  | y :: x :: r, h => by
    have ih := pop_sh b hi (x :: r) (fun z hz => h z (List.mem_cons_of_mem _ hz))
    unfold pop
    rw [gp_map2 _ (h x (by simp)), gp_map2 _ (h y (by simp)), gp_map2 _ hi, sh2_crs]
    split
    · exact ih
    · exact ⟨rfl, h⟩
theorem stk_sh {l : List Pt} (b : Pt) : ∀ (v st : List Nat), (∀ x ∈ v, x < l.length) → (∀ x ∈ st, x < l.length) → v.foldl (fun st i => i :: pop (l.map (sh2 b)) i st) st = v.foldl (fun st i => i :: pop l i st) st
  | [], _, _, _ => rfl
  | i :: v, st, hv, hs => by
    have hi := hv i List.mem_cons_self
    obtain ⟨e, hp⟩ := pop_sh b hi st hs
    rw [List.foldl_cons, List.foldl_cons, e]
    refine stk_sh b v _ (fun x hx => hv x (List.mem_cons_of_mem _ hx)) (fun x hx => ?_)
    rcases List.mem_cons.1 hx with rfl | hx
    · exact hi
    · exact hp x hx
theorem chain_sh {l : List Pt} (b : Pt) {v : List Nat} (hv : ∀ x ∈ v, x < l.length) : chain (l.map (sh2 b)) v = chain l v := by
  unfold chain stk
  rw [stk_sh b v [] hv (fun x hx => by cases hx)]
theorem cpt_sh {l : List Pt} (b : Pt) {v : List Nat} (hv : ∀ x ∈ v, x < l.length) : cpt (l.map (sh2 b)) v = cpt l v := by
  unfold cpt cptTo
  congr 1
  refine List.filter_congr fun i hi => ?_
  have hi := List.mem_range.1 hi
  unfold cptP
  rw [gp_map2 _ (hv _ (gi_mem hi)), gp_map2 _ (hv _ (gi_mem (by omega))), Bool.eq_iff_iff]
  simp only [Bool.or_eq_true, decide_eq_true_eq, ne_eq, sh2_eq]
theorem cpt_mem {l : List Pt} {v : List Nat} {x : Nat} (h : x ∈ cpt l v) : x ∈ v := by
  unfold cpt cptTo at h
  obtain ⟨i, hi, rfl⟩ := List.mem_map.1 h
  exact gi_mem (List.mem_range.1 (List.mem_filter.1 hi).1)
theorem hullN_sh {l : List Pt} (b : Pt) (h1 : errH l = 0) (h2 : errH (l.map (sh2 b)) = 0) : hullN (l.map (sh2 b)) = hullN l := by
  have hc : ∀ {m : List Pt}, errH m = 0 → chk m = 0 := fun {m} h => by
    unfold errH at h
    by_cases e : chk m = 0
    · exact e
    · rw [if_pos e] at h; exact h
  unfold hullN
  rw [if_pos h1, if_pos h2]
  have hO : ordN (l.map (sh2 b)) = ordN l := by unfold ordN; rw [if_pos (hc h1), if_pos (hc h2), ordI_sh]
  have hlt : ∀ x ∈ ordN l, x < l.length := fun x hx => by
    obtain ⟨k, hk, e⟩ := List.getElem_of_mem hx
    rw [← e, ← gi_eq hk]; exact ordN_lt l k hk
  have hct : ∀ x ∈ cpt l (ordN l), x < l.length := fun x hx => hlt x (cpt_mem hx)
  unfold arr
  rw [hO, cpt_sh b hlt, chain_sh b hct, chain_sh b (fun x hx => hct x (List.mem_reverse.1 hx))]
/-! In space. -/
def tadd (b p : Tr) : Tr := ⟨p.x + b.x, p.y + b.y, p.z + b.z⟩
abbrev mvT (b : Tr) (l : List Tr) : List Tr := l.map (tadd b)
def shF (b : Tr) (f : Fc) : Fc := ⟨f.n, f.m + tdot f.n b, f.s⟩
theorem gt_mv {l : List Tr} (b : Tr) {i : Nat} (h : i < l.length) : gt (mvT b l) i = tadd b (gt l i) := by
  rw [gt_eq (by rw [List.length_map]; exact h), gt_eq h]; simp
theorem tadd_sub (b p q : Tr) : tsub (tadd b p) (tadd b q) = tsub p q := by simp only [tsub, tadd, Tr.mk.injEq]; omega
theorem tadd_dot (n b p : Tr) : tdot n (tadd b p) = tdot n p + tdot n b := by simp only [tdot, tadd]; grind
theorem tac_mv (b p q r : Tr) : tac (tadd b p) (tadd b q) (tadd b r) = tac p q r := by simp only [tac, tadd_sub]
theorem mv_back (b : Tr) (l : List Tr) : mvT ⟨-b.x, -b.y, -b.z⟩ (mvT b l) = l := by
  unfold mvT
  rw [List.map_map]
  have : (tadd ⟨-b.x, -b.y, -b.z⟩ ∘ tadd b) = id := by
    funext p
    simp only [Function.comp, tadd, id]
    exact tr_ext (by show p.x + b.x + -b.x = p.x; omega) (by show p.y + b.y + -b.y = p.y; omega) (by show p.z + b.z + -b.z = p.z; omega)
  rw [this, List.map_id]
theorem shF_back (b : Tr) (f : Fc) : shF b (shF ⟨-b.x, -b.y, -b.z⟩ f) = f := by
  cases f with
  | mk n m s =>
    simp only [shF, Fc.mk.injEq, true_and, and_true]
    simp only [tdot]
    grind
theorem shF_back' (b : Tr) (f : Fc) : shF ⟨-b.x, -b.y, -b.z⟩ (shF b f) = f := by
  cases f with
  | mk n m s =>
    simp only [shF, Fc.mk.injEq, true_and, and_true]
    simp only [tdot]
    grind
theorem sol_mv {l : List Tr} (b : Tr) (h : Sol l) : Sol (mvT b l) := by
  obtain ⟨i, j, k, q, h1, h2, h3, h4, hs⟩ := h
  refine ⟨i, j, k, q, by rw [List.length_map]; exact h1, by rw [List.length_map]; exact h2, by rw [List.length_map]; exact h3, by rw [List.length_map]; exact h4, ?_⟩
  rw [gt_mv b h1, gt_mv b h2, gt_mv b h3, gt_mv b h4]
  unfold six
  rw [tac_mv, tadd_sub]
  exact hs
theorem isF_mv {l : List Tr} (b : Tr) {f : Fc} (h : IsF l f) : IsF (mvT b l) (shF b f) := by
  refine ⟨fun i hi => ?_, ?_, ?_⟩
  · rw [List.length_map] at hi
    rw [gt_mv b hi]
    show tdot f.n _ ≤ f.m + tdot f.n b
    rw [tadd_dot]
    have := h.le i hi
    omega
  · show f.s = onTo (mvT b l) f.n (f.m + tdot f.n b) (mvT b l).length
    rw [h.s, List.length_map]
    unfold onTo
    refine List.filter_congr fun i hi => ?_
    rw [gt_mv b (List.mem_range.1 hi), tadd_dot, Bool.eq_iff_iff, decide_eq_true_eq, decide_eq_true_eq]
    omega
  · obtain ⟨k, hk, e⟩ := h.at_
    refine ⟨k, by rw [List.length_map]; exact hk, ?_⟩
    rw [gt_mv b hk]
    show tdot f.n _ = f.m + tdot f.n b
    rw [tadd_dot, e]
theorem outF_mv {l : List Tr} (b : Tr) {x y z : Nat} {n : Tr} (h : OutF l x y z n) : OutF (mvT b l) x y z n := by
  refine ⟨by rw [List.length_map]; exact h.ha, by rw [List.length_map]; exact h.hb, by rw [List.length_map]; exact h.hc, ?_, ?_, fun i hi => ?_⟩
  · rw [gt_mv b h.ha, gt_mv b h.hb, gt_mv b h.hc, tac_mv]; exact h.ne
  · rw [gt_mv b h.ha, gt_mv b h.hb, gt_mv b h.hc, tac_mv]; exact h.ev
  · rw [List.length_map] at hi
    rw [gt_mv b hi, gt_mv b h.ha, tadd_dot, tadd_dot]
    have := h.le i hi
    omega
theorem facets_mv {l : List Tr} (b : Tr) (hS : Sol l) : facetsL (mvT b l) = (facetsL l).map (shF b) := by
  have hS' := sol_mv b hS
  refine LexS.eq facets_mem.1 ?_ fun f => ?_
  · unfold LexS
    rw [List.pairwise_map]
    exact facets_mem.1
  · rw [List.mem_map]
    constructor
    · intro h
      obtain ⟨h1, x, y, z, h2⟩ := (facets_iff hS' f).1 h
      refine ⟨shF ⟨-b.x, -b.y, -b.z⟩ f, (facets_iff hS _).2 ⟨?_, x, y, z, ?_⟩, shF_back b f⟩
      · have := isF_mv ⟨-b.x, -b.y, -b.z⟩ h1
        rwa [mv_back] at this
      · have := outF_mv ⟨-b.x, -b.y, -b.z⟩ h2
        rwa [mv_back] at this
    · rintro ⟨g, hg, rfl⟩
      obtain ⟨h1, x, y, z, h2⟩ := (facets_iff hS g).1 hg
      exact (facets_iff hS' _).2 ⟨isF_mv b h1, x, y, z, outF_mv b h2⟩
theorem shp_add (ax : Nat) (h : ax < 3) (b p : Tr) : shp ax (tadd b p) = sh2 (shp ax b) (shp ax p) := by
  rcases (by omega : ax = 0 ∨ ax = 1 ∨ ax = 2) with rfl | rfl | rfl <;> rfl
theorem gf_map (g : Fc → Fc) (L : List Fc) {q : Nat} (h : q < L.length) : gf (L.map g) q = g (gf L q) := by
  rw [gf_eq (by rw [List.length_map]; exact h), gf_eq h]; simp
theorem cornF_mv {l : List Tr} (b : Tr) {f : Fc} (hl : RT l) (hm : RT (mvT b l)) (hn : f.n ≠ tz) (h0 : 0 < f.s.length) (h6 : f.s.length ≤ 6) (hs : ∀ i ∈ f.s, i < l.length) : cornF (mvT b l) (shF b f) = cornF l f := by
  have e0 : f.s.map (gt (mvT b l)) = (f.s.map (gt l)).map (tadd b) := by
    rw [List.map_map]
    exact List.map_congr_left fun i hi => gt_mv b (hs i hi)
  have e1 : shN (f.s.map (gt (mvT b l))) f.n = (shN (f.s.map (gt l)) f.n).map (sh2 (shp (axN f.n) b)) := by
    rw [e0]
    unfold shN
    simp only [List.map_map]
    exact List.map_congr_left fun i _ => shp_add _ (ax_of hn).2 b (gt l i)
  have a1 := sh_err (hl.pick f.s) hn (by rw [List.length_map]; exact h0) (by rw [List.length_map]; exact h6)
  have a2 := sh_err (hm.pick f.s) hn (by rw [List.length_map]; exact h0) (by rw [List.length_map]; exact h6)
  unfold cornF
  show hullN (shN (f.s.map (gt (mvT b l))) f.n) = _
  rw [e1] at a2 ⊢
  exact hullN_sh _ a1 a2
theorem rawTo_mv {l : List Tr} (b : Tr) {L : List Fc} (hl : RT l) (hm : RT (mvT b l)) (hL : ∀ f ∈ L, f.n ≠ tz ∧ 0 < f.s.length ∧ f.s.length ≤ 6 ∧ ∀ i ∈ f.s, i < l.length) : ∀ k, k ≤ L.length → rawTo (mvT b l) (L.map (shF b)) k = rawTo l L k
  | 0, _ => rfl
  | k + 1, hk => by
    unfold rawTo
    obtain ⟨h1, h2, h3, h4⟩ := hL _ (gf_mem (show k < L.length by omega))
    rw [rawTo_mv b hl hm hL k (by omega), gf_map _ _ (by omega)]
    congr 1
    unfold vf
    rw [cornF_mv b hl hm h1 h2 h3 h4]
    rfl
theorem cnt_mv (b : Tr) (L : List Fc) (x y : Int) : ∀ k, k ≤ L.length → cnt (L.map (shF b)) x y k = cnt L x y k
  | 0, _ => rfl
  | k + 1, hk => by
    unfold cnt
    rw [cnt_mv b L x y k (by omega), gf_map _ _ (by omega)]
    rfl
theorem eM_mv (b : Tr) (L : List Fc) (V : List Int) (k : Nat) : ∀ m, eM (L.map (shF b)) V k m = eM L V k m
  | 0 => rfl
  | m + 1 => by
    unfold eM
    rw [eM_mv b L V k m, List.length_map, cnt_mv b L _ _ _ (Nat.le_refl _)]
theorem eTo_mv (b : Tr) (L : List Fc) (V : List Int) : ∀ k, eTo (L.map (shF b)) V k = eTo L V k
  | 0 => rfl
  | k + 1 => by
    unfold eTo
    rw [eTo_mv b L V k, eM_mv]
theorem edgV_mv (b : Tr) (L : List Fc) (V : List Int) : edgV (L.map (shF b)) V = edgV L V := eTo_mv b L V _
theorem facets_ok2 {l : List Tr} (hn : l.length ≤ 6) : ∀ f ∈ facetsL l, f.n ≠ tz ∧ 0 < f.s.length ∧ f.s.length ≤ 6 ∧ ∀ i ∈ f.s, i < l.length := fun f hf => by
  have hp := facets_sub hf
  have hF := planes_isF hp
  obtain ⟨h1, h2⟩ := fac_s hF
  refine ⟨planes_ne hp, h1, ?_, h2⟩
  rw [hF.s]
  have := List.length_filter_le (fun i => decide (tdot f.n (gt l i) = f.m)) (List.range l.length)
  rw [List.length_range] at this
  unfold onTo
  omega
theorem rawV_mv {l : List Tr} (b : Tr) (hS : Sol l) (hn : l.length ≤ 6) (hl : RT l) (hm : RT (mvT b l)) : rawV (mvT b l) (facetsL (mvT b l)) = rawV l (facetsL l) := by
  have d1 := (dim3_iff l).2 hS
  have d2 := (dim3_iff (mvT b l)).2 (sol_mv b hS)
  unfold rawV
  rw [d1, d2]
  simp only [show ¬ (3 : Int) = -1 by decide, show ¬ (3 : Int) = 0 by decide, show ¬ (3 : Int) = 1 by decide, show ¬ (3 : Int) = 2 by decide, if_false]
  rw [facets_mv b hS, List.length_map]
  exact rawTo_mv b hl hm (facets_ok2 hn) _ (Nat.le_refl _)
end Go.Proofs.YtdoppiajbpmmkaaGreat
namespace Go.Proofs.YtdoppiajbpmmkaaGreat
open Go Go.Vc Go.RowKit
set_option maxHeartbeats 8000000
/-! KDQ -/
theorem ee_eq (a b c d : Int) : ([a, b] == [c, d]) = decide ((a, b) = (c, d)) := by
  rw [Bool.eq_iff_iff]; simp
theorem equale_c (E : List (Int × Int)) (hn : E.length ≤ 1000000000) : CtrA Tryz.prog 18 [es E, es E] (vb true) := by
  refine ctrA _ Tryz.func18 rfl rfl Tryz.ntmps18 rfl fun w Z => ?_
  simp only [initT, List.map_cons, List.map_nil, Nat.zero_add, Nat.reduceAdd]
  refine cq_seq ?_
  refine cq_region ?_
  apply sq_g; exact g_assign (s := .av (.val (.bool _))) rfl; exact rfl
  refine sq_nil ?_
  refine sq_then ?_
  refine cq_seq ?_
  refine cq_seq ?_
  refine cq_region ?_
  apply sq_g; exact g_move (s := .av _) rfl; exact rfl
  apply sq_g; exact g_len rfl; exact rfl
  apply sq_g; exact g_move (s := .av _) rfl; exact rfl
  apply sq_g; exact g_len rfl; exact rfl
  apply sq_g; exact g_cmp rfl rfl rfl; exact rfl
  refine sq_nil ?_
  refine sq_then ?_
  (refine cq_cond rfl (fun hb => ?_) (fun hb => ?_) <;> (try simp only [decide_eq_true_eq, decide_eq_false_iff_not, beq_iff_eq, beq_eq_false_iff_ne, bne_iff_ne, bne_eq_false_iff_eq, ne_eq, Bool.not_eq_true', Bool.not_eq_false', Bool.and_eq_true, Bool.or_eq_true, Bool.and_eq_false_iff, Bool.or_eq_false_iff] at hb) <;> (try (exfalso; omega)))
  · exact absurd trivial ‹¬True›
  refine cq_skip ?_
  refine sq_then ?_
  refine cq_seq ?_
  refine cq_seq ?_
  refine cq_region ?_
  apply sq_g; exact g_move (s := .av _) rfl; exact rfl
  apply sq_g; exact g_len rfl; exact rfl
  apply sq_g; exact g_move (s := .av (.val (.int _ _))) rfl; exact rfl
  refine sq_nil ?_
  refine sq_then ?_
  refine cq_block ?_
  refine cq_loop (γ := Nat) (fun k => [(0, .av (es E)), (1, .av (es E)), (12, .av (vi E.length)), (13, .av (vi k))]) (fun _ => []) (fun k => k ≤ E.length) (fun k => E.length - k) 0 (Nat.zero_le _) (ent ⟨.refl _, .refl _, .refl _, .refl _, trivial⟩ trivial) ?_
  intro k hk
  refine cq_seq ?_
  refine cq_region ?_
  apply sq_g; exact g_cmp rfl rfl rfl; exact rfl
  refine sq_nil ?_
  refine sq_then ?_
  refine cq_seq ?_
  (refine cq_cond rfl (fun hb => ?_) (fun hb => ?_) <;> (try simp only [decide_eq_true_eq, decide_eq_false_iff_not, beq_iff_eq, beq_eq_false_iff_ne, bne_iff_ne, bne_eq_false_iff_eq, ne_eq, Bool.not_eq_true', Bool.not_eq_false', Bool.and_eq_true, Bool.or_eq_true, Bool.and_eq_false_iff, Bool.or_eq_false_iff] at hb) <;> (try (exfalso; omega)))
  · have hkl : k < E.length := by omega
    refine cq_skip ?_
    refine sq_then ?_
    refine cq_seq ?_
    refine cq_block ?_
    refine cq_seq ?_
    refine cq_region ?_
    apply sq_g; exact g_move (s := .av (.val (.int _ _))) rfl; exact rfl
    apply sq_g; exact g_assign (s := .av (.val (.int _ _))) rfl; exact rfl
    refine sq_nil ?_
    refine sq_then ?_
    refine cq_seq ?_
    refine cq_drawn ?_
    apply dq_g; exact g_move (s := .av _) rfl; exact rfl
    apply dq_g; exact g_move (s := .av (.val (.int _ _))) rfl; exact rfl
    apply dq_g; exact g_index rfl rfl rfl (by omega); exact rfl
    apply dq_g; exact g_load_agg (us := [.int _ _, .int _ _]) rfl rfl rfl rfl; exact rfl
    apply dq_g; exact g_move (s := .av _) rfl; exact rfl
    apply dq_g; exact g_move (s := .av (.val (.int _ _))) rfl; exact rfl
    apply dq_g; exact g_index rfl rfl rfl (by omega); exact rfl
    apply dq_g; exact g_load_agg (us := [.int _ _, .int _ _]) rfl rfl rfl rfl; exact rfl
    apply dq_g; exact g_neq (xs := [_, _]) (ys := [_, _]) rfl rfl rfl rfl; exact rfl
    refine dq_nil tm (by kernel_rfl) ?_
    refine sq_then ?_
    (refine cq_cond rfl (fun hb => ?_) (fun hb => ?_) <;> (try simp only [decide_eq_true_eq, decide_eq_false_iff_not, beq_iff_eq, beq_eq_false_iff_ne, bne_iff_ne, bne_eq_false_iff_eq, ne_eq, Bool.not_eq_true', Bool.not_eq_false', Bool.and_eq_true, Bool.or_eq_true, Bool.and_eq_false_iff, Bool.or_eq_false_iff] at hb) <;> (try (exfalso; omega)))
    · first | exact absurd trivial ‹¬True› | exact absurd rfl hb | simp at hb
    refine cq_skip ?_
    refine sq_then ?_
    refine cq_region ?_
    apply sq_g; exact g_arith rfl rfl rfl (by omega); exact rfl
    apply sq_g; exact g_move (s := .av (.val (.int _ _))) rfl; exact rfl
    refine sq_nil ?_
    exact sq_round (k + 1) (by omega) (by omega) (ent ⟨.refl _, .refl _, .refl _, .int (by omega), trivial⟩ trivial)
  · refine cq_exit ?_
    refine sq_then ?_
    refine cq_seq ?_
    refine cq_region ?_
    apply sq_g; exact g_assign (s := .av (.val (.bool _))) rfl; exact rfl
    refine sq_nil ?_
    refine sq_then ?_
    refine cq_ret ?_
    exact sq_res1 rfl (.tmp rfl) rfl
theorem lawsolid_c (l : List Tr) (hs : l.length ≤ 6 → chkT l = 0 → Sol l) (hn : l.length < 128) (hf : few l) (h : chkT l = 0) : CtrA Tryz.prog 25 [ts l] (vb true) := by
  obtain ⟨hl, h6⟩ := hf.le h
  have hS := hs h6 h
  have hfw := fews_c l
  rw [show (decide (l.length ≤ 6) || (decide (64 < l.length) && decide (l.length < 128))) = true from by simp [h6]] at hfw
  have hc := rcheck_c l (by omega)
  rw [h] at hc
  have hr := rank_c l 3 hl h6 (fun _ => rfl) (fun hs => absurd ((sol_iff l).1 hS) hs)
  refine ctrA _ Tryz.func25 rfl rfl Tryz.ntmps25 rfl fun w Z => ?_
  simp only [initT, List.map_cons, List.map_nil, Nat.zero_add, Nat.reduceAdd]
  refine cq_seq ?_
  refine cq_region ?_
  apply sq_g; exact g_assign (s := .av (.val (.bool _))) rfl; exact rfl
  refine sq_nil ?_
  refine sq_then ?_
  refine cq_seq ?_
  refine cq_region ?_
  apply sq_g; exact g_move (s := .av _) rfl; exact rfl
  apply sq_g; exact g_call (hfw) rfl; exact rfl
  apply sq_g; exact g_move (s := .av (.val (.bool _))) rfl; exact rfl
  apply sq_on; exact g_move (s := .av _) rfl; exact rfl; exact rfl; exact rfl
  apply sq_on; exact g_call (hc) rfl; exact rfl; exact rfl; exact rfl
  apply sq_on; exact g_cmp rfl rfl rfl; exact rfl; exact rfl; exact rfl
  apply sq_g; exact g_pick (s := .av (.val (.bool _))) rfl rfl; exact rfl
  apply sq_g; exact g_move (s := .av (.val (.bool _))) rfl; exact rfl
  apply sq_on; exact g_move (s := .av _) rfl; exact rfl; exact rfl; exact rfl
  apply sq_on; exact g_call (hr) rfl; exact rfl; exact rfl; exact rfl
  apply sq_on; exact g_cmp rfl rfl rfl; exact rfl; exact rfl; exact rfl
  apply sq_g; exact g_pick (s := .av (.val (.bool _))) rfl rfl; exact rfl
  apply sq_g; exact g_assign (s := .av (.val (.bool _))) rfl; exact rfl
  refine sq_nil ?_
  refine sq_then ?_
  refine cq_ret ?_
  exact sq_res1 rfl (.tmp rfl) rfl
theorem lawsolid_n (l : List Tr) (hs : ¬ (l.length ≤ 6 ∧ chkT l = 0 ∧ Sol l)) : CtrA Tryz.prog 25 [ts l] (vb false) := by
  have hfw := fews_c l
  cases hq : (decide (l.length ≤ 6) || (decide (64 < l.length) && decide (l.length < 128))) with
  | false =>
    rw [hq] at hfw
    refine ctrA _ Tryz.func25 rfl rfl Tryz.ntmps25 rfl fun w Z => ?_
    simp only [initT, List.map_cons, List.map_nil, Nat.zero_add, Nat.reduceAdd]
    refine cq_seq ?_
    refine cq_region ?_
    apply sq_g; exact g_assign (s := .av (.val (.bool _))) rfl; exact rfl
    refine sq_nil ?_
    refine sq_then ?_
    refine cq_seq ?_
    refine cq_region ?_
    apply sq_g; exact g_move (s := .av _) rfl; exact rfl
    apply sq_g; exact g_call (hfw) rfl; exact rfl
    apply sq_g; exact g_move (s := .av (.val (.bool _))) rfl; exact rfl
    refine sq_off rfl rfl rfl rfl ?_
    refine sq_off rfl rfl rfl rfl ?_
    refine sq_off rfl rfl rfl rfl ?_
    apply sq_g; exact g_pick (s := .av (.val (.bool _))) rfl rfl; exact rfl
    apply sq_g; exact g_move (s := .av (.val (.bool _))) rfl; exact rfl
    refine sq_off rfl rfl rfl rfl ?_
    refine sq_off rfl rfl rfl rfl ?_
    refine sq_off rfl rfl rfl rfl ?_
    apply sq_g; exact g_pick (s := .av (.val (.bool _))) rfl rfl; exact rfl
    apply sq_g; exact g_assign (s := .av (.val (.bool _))) rfl; exact rfl
    refine sq_nil ?_
    refine sq_then ?_
    refine cq_ret ?_
    exact sq_res1 rfl (.tmp rfl) rfl
  | true =>
    rw [hq] at hfw
    have hq2 : l.length ≤ 6 ∨ (64 < l.length ∧ l.length < 128) := by simpa using hq
    have hf : few l := hq2.imp id And.left
    have hc := rcheck_c l (by omega)
    by_cases h : chkT l = 0
    · obtain ⟨hl, h6⟩ := hf.le h
      have hS : ¬ Sol l := fun hS => hs ⟨h6, h, hS⟩
      rw [h] at hc
      have hns : ¬ Solid l := fun hs => hS ((sol_iff l).2 hs)
      have hr := rank_c l (rA l l.length) hl h6 (fun hs => absurd hs hns) (fun _ => rfl)
      have hle := rA_le l l.length
      generalize rA l l.length = r at hr hle
      refine ctrA _ Tryz.func25 rfl rfl Tryz.ntmps25 rfl fun w Z => ?_
      simp only [initT, List.map_cons, List.map_nil, Nat.zero_add, Nat.reduceAdd]
      refine cq_seq ?_
      refine cq_region ?_
      apply sq_g; exact g_assign (s := .av (.val (.bool _))) rfl; exact rfl
      refine sq_nil ?_
      refine sq_then ?_
      refine cq_seq ?_
      refine cq_region ?_
      apply sq_g; exact g_move (s := .av _) rfl; exact rfl
      apply sq_g; exact g_call (hfw) rfl; exact rfl
      apply sq_g; exact g_move (s := .av (.val (.bool _))) rfl; exact rfl
      apply sq_on; exact g_move (s := .av _) rfl; exact rfl; exact rfl; exact rfl
      apply sq_on; exact g_call (hc) rfl; exact rfl; exact rfl; exact rfl
      apply sq_on; exact g_cmp rfl rfl rfl; exact rfl; exact rfl; exact rfl
      apply sq_g; exact g_pick (s := .av (.val (.bool _))) rfl rfl; exact rfl
      apply sq_g; exact g_move (s := .av (.val (.bool _))) rfl; exact rfl
      apply sq_on; exact g_move (s := .av _) rfl; exact rfl; exact rfl; exact rfl
      apply sq_on; exact g_call (hr) rfl; exact rfl; exact rfl; exact rfl
      apply sq_on; exact g_cmp rfl rfl rfl; exact rfl; exact rfl; exact rfl
      apply sq_g; exact g_pick (s := .av (.val (.bool _))) rfl rfl; exact rfl
      apply sq_g; exact g_assign (s := .av (.val (.bool _))) rfl; exact rfl
      refine sq_nil ?_
      refine sq_then ?_
      refine cq_ret ?_
      all_goals (first | exact sq_res1 rfl (.tmp rfl) rfl | exact sq_res1 rfl (.tmp rfl) (congrArg vb (decide_eq_false (by omega)).symm) | exact sq_res1 rfl (.tmp rfl) (congrArg vb (by simp; omega)))
    · generalize chkT l = e at h hc
      refine ctrA _ Tryz.func25 rfl rfl Tryz.ntmps25 rfl fun w Z => ?_
      simp only [initT, List.map_cons, List.map_nil, Nat.zero_add, Nat.reduceAdd]
      refine cq_seq ?_
      refine cq_region ?_
      apply sq_g; exact g_assign (s := .av (.val (.bool _))) rfl; exact rfl
      refine sq_nil ?_
      refine sq_then ?_
      refine cq_seq ?_
      refine cq_region ?_
      apply sq_g; exact g_move (s := .av _) rfl; exact rfl
      apply sq_g; exact g_call (hfw) rfl; exact rfl
      apply sq_g; exact g_move (s := .av (.val (.bool _))) rfl; exact rfl
      apply sq_on; exact g_move (s := .av _) rfl; exact rfl; exact rfl; exact rfl
      apply sq_on; exact g_call (hc) rfl; exact rfl; exact rfl; exact rfl
      apply sq_on; exact g_cmp rfl rfl rfl; exact rfl; exact rfl; exact rfl
      apply sq_g; exact g_pick (s := .av (.val (.bool _))) rfl rfl; exact rfl
      apply sq_g; exact g_move (s := .av (.val (.bool _))) rfl; exact rfl
      refine sq_split rfl rfl (fun hb => ?_) (fun hb => ?_) <;> (try simp only [decide_eq_true_eq, decide_eq_false_iff_not, beq_iff_eq, beq_eq_false_iff_ne, bne_iff_ne, bne_eq_false_iff_eq, ne_eq, Bool.not_eq_true', Bool.not_eq_false', Bool.and_eq_true, Bool.or_eq_true, Bool.and_eq_false_iff, Bool.or_eq_false_iff] at hb) <;> (try (exfalso; omega))
      refine sq_off rfl rfl rfl rfl ?_
      refine sq_off rfl rfl rfl rfl ?_
      refine sq_off rfl rfl rfl rfl ?_
      apply sq_g; exact g_pick (s := .av (.val (.bool _))) rfl rfl; exact rfl
      apply sq_g; exact g_assign (s := .av (.val (.bool _))) rfl; exact rfl
      refine sq_nil ?_
      refine sq_then ?_
      refine cq_ret ?_
      all_goals (first | exact sq_res1 rfl (.tmp rfl) rfl | exact sq_res1 rfl (.tmp rfl) (congrArg vb (by simp; omega)))
theorem tdot_cm (a b : Tr) : tdot a b = tdot b a := by unfold tdot; grind
/-- The closure of the law: one facet is the other, moved. -/
theorem same35_c (b : Tr) (f g : Fc) (hb : BT 100000 b) (hn : BT 1000000000000 f.n) (hm : Bn 1000000000000000000 f.m) (hf : f.s.length ≤ 1000) (hg : g = shF b f) : CtrA Tryz.prog 35 [fca f, fca g, bt b] (vb true) := by
  have he := equali_c (natL f.s) (natL f.s) (by simp; omega) (by simp; omega)
  rw [decide_eq_true rfl] at he
  rw [show zs (natL f.s) = .sl f.s.length 1 (xf f.s) from by rw [xf_natL, zs, List.length_map]] at he
  subst hg
  refine ctrA _ Tryz.func35 rfl rfl Tryz.ntmps35 rfl fun w Z => ?_
  have e : tdot f.n b = b.x * f.n.x + b.y * f.n.y + b.z * f.n.z := by rw [tdot_cm]; rfl
  obtain ⟨m1, n1⟩ := bn_mul hb.x hn.x
  obtain ⟨m2, n2⟩ := bn_mul hb.y hn.y
  obtain ⟨m3, n3⟩ := bn_mul hb.z hn.z
  unfold shF
  rw [e]
  obtain ⟨hm1, hm2⟩ := hm
  simp only [initT, List.map_cons, List.map_nil, Nat.zero_add, Nat.reduceAdd]
  focus
    refine cq_seq ?_
    refine cq_region ?_
    apply sq_g; exact  g_box_aggv rfl; exact rfl
    apply sq_g; exact  g_box_aggv rfl; exact rfl
    apply sq_g; exact g_assign (s := .av (.val (.bool _))) rfl; exact rfl
    refine sq_nil ?_
    refine sq_then ?_
    refine cq_seq ?_
    refine cq_region ?_
    apply sq_g; exact g_field rfl; exact rfl
    apply sq_g; exact g_load (τ := .val (.int _ _)) rfl rfl rfl; exact rfl
    apply sq_g; exact g_field rfl; exact rfl
    apply sq_g; exact g_index_arr rfl rfl rfl (by decide) rfl; exact rfl
    apply sq_g; exact g_load (τ := .val (.int _ _)) rfl rfl rfl; exact rfl
    apply sq_g; exact g_arith rfl rfl rfl (by omega); exact rfl
    apply sq_g; exact g_field rfl; exact rfl
    apply sq_g; exact g_load (τ := .val (.int _ _)) rfl rfl rfl; exact rfl
    apply sq_g; exact g_field rfl; exact rfl
    apply sq_g; exact g_index_arr rfl rfl rfl (by decide) rfl; exact rfl
    apply sq_g; exact g_load (τ := .val (.int _ _)) rfl rfl rfl; exact rfl
    apply sq_g; exact g_arith rfl rfl rfl (by omega); exact rfl
    apply sq_g; exact g_arith rfl rfl rfl (by omega); exact rfl
    apply sq_g; exact g_field rfl; exact rfl
    apply sq_g; exact g_load (τ := .val (.int _ _)) rfl rfl rfl; exact rfl
    apply sq_g; exact g_field rfl; exact rfl
    apply sq_g; exact g_index_arr rfl rfl rfl (by decide) rfl; exact rfl
    apply sq_g; exact g_load (τ := .val (.int _ _)) rfl rfl rfl; exact rfl
    apply sq_g; exact g_arith rfl rfl rfl (by omega); exact rfl
    apply sq_g; exact g_arith rfl rfl rfl (by omega); exact rfl
    apply sq_g; exact g_assign (s := .av (.val (.int _ _))) rfl; exact rfl
    refine sq_nil ?_
    refine sq_then ?_
    refine cq_seq ?_
    refine cq_region ?_
    apply sq_g; exact g_field rfl; exact rfl
    apply sq_g; exact g_load_agg (us := [.int _ _, .int _ _, .int _ _]) rfl rfl rfl rfl; exact rfl
    apply sq_g; exact g_field rfl; exact rfl
    apply sq_g; exact g_load_agg (us := [.int _ _, .int _ _, .int _ _]) rfl rfl rfl rfl; exact rfl
    apply sq_g; exact g_eql (xs := [_, _, _]) (ys := [_, _, _]) rfl rfl rfl rfl; exact rfl
    apply sq_g; exact g_move (s := .av (.val (.bool _))) rfl; exact rfl
    refine sq_split rfl rfl (fun hb => ?_) (fun hb => ?_) <;> (try simp only [decide_eq_true_eq, decide_eq_false_iff_not, beq_iff_eq, beq_eq_false_iff_ne, bne_iff_ne, bne_eq_false_iff_eq, ne_eq, Bool.not_eq_true', Bool.not_eq_false', Bool.and_eq_true, Bool.or_eq_true, Bool.and_eq_false_iff, Bool.or_eq_false_iff] at hb) <;> (try (exfalso; omega))
    apply sq_on; exact g_field rfl; exact rfl; exact rfl; exact rfl
    apply sq_on; exact g_load (τ := .val (.int _ _)) rfl rfl rfl; exact rfl; exact rfl; exact rfl
    apply sq_on; exact g_move (s := .av (.val (.int _ _))) rfl; exact rfl; exact rfl; exact rfl
    apply sq_on; exact g_arith rfl rfl rfl (by omega); exact rfl; exact rfl; exact rfl
    apply sq_on; exact g_field rfl; exact rfl; exact rfl; exact rfl
    apply sq_on; exact g_load (τ := .val (.int _ _)) rfl rfl rfl; exact rfl; exact rfl; exact rfl
    apply sq_on; exact g_cmp rfl rfl rfl; exact rfl; exact rfl; exact rfl
    apply sq_g; exact g_pick (s := .av (.val (.bool _))) rfl rfl; exact rfl
    apply sq_g; exact g_move (s := .av (.val (.bool _))) rfl; exact rfl
    refine sq_split rfl rfl (fun hb => ?_) (fun hb => ?_) <;> (try simp only [decide_eq_true_eq, decide_eq_false_iff_not, beq_iff_eq, beq_eq_false_iff_ne, bne_iff_ne, bne_eq_false_iff_eq, ne_eq, Bool.not_eq_true', Bool.not_eq_false', Bool.and_eq_true, Bool.or_eq_true, Bool.and_eq_false_iff, Bool.or_eq_false_iff] at hb) <;> (try (exfalso; omega))
    apply sq_on; exact g_field rfl; exact rfl; exact rfl; exact rfl
    apply sq_on; exact g_load rfl rfl rfl; exact rfl; exact rfl; exact rfl
    apply sq_on; exact g_field rfl; exact rfl; exact rfl; exact rfl
    apply sq_on; exact g_load rfl rfl rfl; exact rfl; exact rfl; exact rfl
    apply sq_on; exact g_call (he) rfl; exact rfl; exact rfl; exact rfl
    apply sq_g; exact g_pick (s := .av (.val (.bool _))) rfl rfl; exact rfl
    apply sq_g; exact g_assign (s := .av (.val (.bool _))) rfl; exact rfl
    refine sq_nil ?_
    refine sq_then ?_
    refine cq_ret ?_
    rotate_left
    refine sq_off rfl rfl rfl rfl ?_
    refine sq_off rfl rfl rfl rfl ?_
    refine sq_off rfl rfl rfl rfl ?_
    refine sq_off rfl rfl rfl rfl ?_
    refine sq_off rfl rfl rfl rfl ?_
    apply sq_g; exact g_pick (s := .av (.val (.bool _))) rfl rfl; exact rfl
    apply sq_g; exact g_assign (s := .av (.val (.bool _))) rfl; exact rfl
    refine sq_nil ?_
    refine sq_then ?_
    refine cq_ret ?_
    rotate_left
    refine sq_off rfl rfl rfl rfl ?_
    refine sq_off rfl rfl rfl rfl ?_
    refine sq_off rfl rfl rfl rfl ?_
    refine sq_off rfl rfl rfl rfl ?_
    refine sq_off rfl rfl rfl rfl ?_
    refine sq_off rfl rfl rfl rfl ?_
    refine sq_off rfl rfl rfl rfl ?_
    apply sq_g; exact g_pick (s := .av (.val (.bool _))) rfl rfl; exact rfl
    apply sq_g; exact g_move (s := .av (.val (.bool _))) rfl; exact rfl
    refine sq_off rfl rfl rfl rfl ?_
    refine sq_off rfl rfl rfl rfl ?_
    refine sq_off rfl rfl rfl rfl ?_
    refine sq_off rfl rfl rfl rfl ?_
    refine sq_off rfl rfl rfl rfl ?_
    apply sq_g; exact g_pick (s := .av (.val (.bool _))) rfl rfl; exact rfl
    apply sq_g; exact g_assign (s := .av (.val (.bool _))) rfl; exact rfl
    refine sq_nil ?_
    refine sq_then ?_
    refine cq_ret ?_
    rotate_left
  all_goals (first | exact absurd trivial ‹¬True› | exact sq_res1 rfl (.tmp rfl) rfl | exact sq_res1 rfl (.tmp rfl) (congrArg vb (by simp)))
abbrev mcl (b : Tr) : AV := .clo 35 1 (fun i => [bt b].getD i .any)
theorem eqfunc_c (L M : List Fc) (b : Tr) (hn : L.length ≤ 1000) (hlen : M.length = L.length) (hs : ∀ k, k < L.length → CtrA Tryz.prog 35 [fca (gf L k), fca (gf M k), bt b] (vb true)) : CtrA Tryz.prog 36 [fs L, fs M, mcl b] (vb true) := by
  refine ctrA _ Tryz.func36 rfl rfl Tryz.ntmps36 rfl fun w Z => ?_
  simp only [initT, List.map_cons, List.map_nil, Nat.zero_add, Nat.reduceAdd]
  refine cq_seq ?_
  refine cq_region ?_
  apply sq_g; exact g_assign (s := .av (.val (.bool _))) rfl; exact rfl
  refine sq_nil ?_
  refine sq_then ?_
  refine cq_seq ?_
  refine cq_seq ?_
  refine cq_region ?_
  apply sq_g; exact g_move (s := .av _) rfl; exact rfl
  apply sq_g; exact g_len rfl; exact rfl
  apply sq_g; exact g_move (s := .av _) rfl; exact rfl
  apply sq_g; exact g_len rfl; exact rfl
  apply sq_g; exact g_cmp rfl rfl rfl; exact rfl
  refine sq_nil ?_
  refine sq_then ?_
  (refine cq_cond rfl (fun hb => ?_) (fun hb => ?_) <;> (try simp only [decide_eq_true_eq, decide_eq_false_iff_not, beq_iff_eq, beq_eq_false_iff_ne, bne_iff_ne, bne_eq_false_iff_eq, ne_eq, Bool.not_eq_true', Bool.not_eq_false', Bool.and_eq_true, Bool.or_eq_true, Bool.and_eq_false_iff, Bool.or_eq_false_iff] at hb) <;> (try (exfalso; omega)))
  refine cq_skip ?_
  refine sq_then ?_
  refine cq_seq ?_
  refine cq_seq ?_
  refine cq_region ?_
  apply sq_g; exact g_move (s := .av _) rfl; exact rfl
  apply sq_g; exact g_len rfl; exact rfl
  apply sq_g; exact g_move (s := .av (.val (.int _ _))) rfl; exact rfl
  refine sq_nil ?_
  refine sq_then ?_
  refine cq_block ?_
  refine cq_loop (γ := Nat) (fun k => [(0, .av (fs L)), (1, .av (fs M)), (2, .av (mcl b)), (15, .av (fs L)), (16, .av (vi L.length)), (17, .av (vi k))]) (fun _ => []) (fun k => k ≤ L.length) (fun k => L.length - k) 0 (Nat.zero_le _) (ent ⟨.refl _, .refl _, .refl _, .refl _, .refl _, .refl _, trivial⟩ trivial) ?_
  intro k hk
  refine cq_seq ?_
  refine cq_region ?_
  apply sq_g; exact g_cmp rfl rfl rfl; exact rfl
  refine sq_nil ?_
  refine sq_then ?_
  refine cq_seq ?_
  (refine cq_cond rfl (fun hb => ?_) (fun hb => ?_) <;> (try simp only [decide_eq_true_eq, decide_eq_false_iff_not, beq_iff_eq, beq_eq_false_iff_ne, bne_iff_ne, bne_eq_false_iff_eq, ne_eq, Bool.not_eq_true', Bool.not_eq_false', Bool.and_eq_true, Bool.or_eq_true, Bool.and_eq_false_iff, Bool.or_eq_false_iff] at hb) <;> (try (exfalso; omega)))
  · have hkl : k < L.length := by omega
    have hc := hs k hkl
    refine cq_skip ?_
    refine sq_then ?_
    refine cq_seq ?_
    refine cq_block ?_
    refine cq_seq ?_
    refine cq_region ?_
    apply sq_g; exact g_move (s := .av (.val (.int _ _))) rfl; exact rfl
    apply sq_g; exact g_index rfl rfl rfl (by omega); exact rfl
    apply sq_g; exact  g_load_aggv rfl rfl; exact rfl
    refine sq_v (f_alloc 10 rfl) rfl ?_
    apply sq_g; exact g_assign (s := .av (.val (.int _ _))) rfl; exact rfl
    refine sq_s (g_store_aggv rfl rfl (fcf_one (gf L k)) rfl rfl) ?_
    refine sq_nil ?_
    refine sq_then ?_
    refine cq_seq ?_
    refine cq_region ?_
    apply sq_g; exact g_move (s := .av _) rfl; exact rfl
    apply sq_g; exact g_move (s := .av (.val (.int _ _))) rfl; exact rfl
    apply sq_g; exact g_index rfl rfl rfl (by omega); exact rfl
    apply sq_g; exact  g_load_aggv rfl rfl; exact rfl
    refine sq_v (f_alloc 11 rfl) rfl ?_
    refine sq_s (g_store_aggv rfl rfl (fcf_one (gf M k)) rfl rfl) ?_
    refine sq_nil ?_
    refine sq_then ?_
    refine cq_seq ?_
    refine cq_region ?_
    apply sq_g; exact g_move (s := .av _) rfl; exact rfl
    apply sq_g; exact  g_load_own_aggv (f := fcf (gf L k)) rfl rfl rfl; exact rfl
    apply sq_g; exact  g_load_own_aggv (f := fcf (gf M k)) rfl rfl rfl; exact rfl
    apply sq_g; exact  g_callc (τs := [_, _]) (n := 1) (cf := fun i => [bt b].getD i .any) hc rfl rfl; exact rfl
    apply sq_g; exact g_not rfl; exact rfl
    refine sq_nil ?_
    refine sq_then ?_
    refine cq_cond_f rfl ?_
    refine cq_skip ?_
    refine sq_then ?_
    refine cq_region ?_
    apply sq_g; exact g_arith rfl rfl rfl (by omega); exact rfl
    apply sq_g; exact g_move (s := .av (.val (.int _ _))) rfl; exact rfl
    refine sq_nil ?_
    exact sq_round (k + 1) (by omega) (by omega) (ent ⟨.refl _, .refl _, .refl _, .refl _, .refl _, .int (by omega), trivial⟩ trivial)
  · refine cq_exit ?_
    refine sq_then ?_
    refine cq_seq ?_
    refine cq_region ?_
    apply sq_g; exact g_assign (s := .av (.val (.bool _))) rfl; exact rfl
    refine sq_nil ?_
    refine sq_then ?_
    refine cq_ret ?_
    exact sq_res1 rfl (.tmp rfl) rfl
end Go.Proofs.YtdoppiajbpmmkaaGreat
namespace Go.Proofs.YtdoppiajbpmmkaaGreat
open Go Go.Vc Go.RowKit
set_option maxHeartbeats 8000000
/-! KDQ -/
theorem mv_snoc (b : Tr) {l : List Tr} {k : Nat} (h : k < l.length) : mvT b (l.take (k + 1)) = mvT b (l.take k) ++ [tadd b (gt l k)] := by
  rw [gt_take h]; simp
theorem vertV_len {l : List Tr} (h6 : l.length ≤ 6) (h3 : (spn l).dim = 3) : (vertV l (facetsL l)).length ≤ 12000 := by
  unfold vertV
  have h1 := compact_len (sortI (rawV l (facetsL l)))
  rw [sortI_len] at h1
  have h2 : (rawV l (facetsL l)).length ≤ 12000 := by
    unfold rawV
    rw [h3]
    simp only [show ¬ (3 : Int) = -1 by decide, show ¬ (3 : Int) = 0 by decide, show ¬ (3 : Int) = 1 by decide, show ¬ (3 : Int) = 2 by decide, if_false]
    have := rawTo_len l (facetsL l) (fun f hf => ⟨(facets_ok h6 f hf).1, (facets_ok h6 f hf).2.2.1⟩) _ (Nat.le_refl _)
    have := facets_len l h6
    omega
  omega
theorem edges_q {l : List Tr} (hf : few l) (h : chkT l = 0) (hS : Sol l) : CtrA Tryz.prog 16 [ts l] (tupOf [es (edgV (facetsL l) (vertV l (facetsL l))), vi 0]) := by
  obtain ⟨hl, h6⟩ := hf.le h
  have h3 := (dim3_iff l).2 hS
  have e : solA l = fs (facetsL l) := by unfold solA; rw [if_neg (by omega)]
  have hs := solid_c l hf h
  have hv := vertices_q l hl h6
  rw [e] at hs hv
  exact edges_c l (facetsL l) (vertV l (facetsL l)) hs (facets_pos hl h3) (facets_len l h6) (fun f hf => (facets_ok h6 f hf).2.2.1) hv (vertV_len h6 h3)
theorem edgV_len {l : List Tr} (h6 : l.length ≤ 6) (h3 : (spn l).dim = 3) : (edgV (facetsL l) (vertV l (facetsL l))).length ≤ 1000000000 := by
  have h1 := vertV_len h6 h3
  have h2 := eTo_len (facetsL l) _ h1 (vertV l (facetsL l)).length
  unfold edgV
  omega
theorem fac_bd {l : List Tr} (hl : RT l) {f : Fc} (h : f ∈ facetsL l) : BT 1000000000000 f.n ∧ Bn 1000000000000000000 f.m := by
  have hp := facets_sub h
  obtain ⟨a, b, c, ho⟩ := planes_out hp
  have hb : BT 80000000000 f.n := by rw [ho.ev]; exact (BT.ac (hl a) (hl b) (hl c)).pr
  obtain ⟨k, hk, e⟩ := (planes_isF hp).at_
  refine ⟨hb.le (by decide), ?_⟩
  rw [← e]
  obtain ⟨m1, n1⟩ := bn_mul hb.x (hl k).x
  obtain ⟨m2, n2⟩ := bn_mul hb.y (hl k).y
  obtain ⟨m3, n3⟩ := bn_mul hb.z (hl k).z
  unfold tdot
  constructor <;> omega
theorem right_bd {b : Tr} (h : rightT b = true) : BT 100000 b := right_bt h
theorem moves_c (l : List Tr) (b : Tr) : CtrA Tryz.prog 7 [ts l, tp b] (vb true) := by
  have hA := awake_c
  by_cases hsol : l.length ≤ 6 ∧ chkT l = 0 ∧ Sol l
  case neg =>
    have h1 := lawsolid_n l hsol
    refine ctrA _ Tryz.func7 rfl rfl Tryz.ntmps7 rfl fun w Z => ?_
    simp only [initT, List.map_cons, List.map_nil, Nat.zero_add, Nat.reduceAdd]
    refine cq_seq ?_
    refine cq_region ?_
    apply sq_g; exact g_box_agg rfl; exact rfl
    apply sq_g; exact g_assign (s := .av (.val (.bool _))) rfl; exact rfl
    refine sq_nil ?_
    refine sq_then ?_
    refine cq_seq ?_
    refine cq_seq ?_
    refine cq_region ?_
    apply sq_g; exact g_move (s := .av _) rfl; exact rfl
    apply sq_g; exact g_call (h1) rfl; exact rfl
    apply sq_g; exact g_not rfl; exact rfl
    apply sq_g; exact g_move (s := .av (.val (.bool _))) rfl; exact rfl
    refine sq_off rfl rfl rfl rfl ?_
    refine sq_off rfl rfl rfl rfl ?_
    refine sq_off rfl rfl rfl rfl ?_
    apply sq_g; exact g_pick (s := .av (.val (.bool _))) rfl rfl; exact rfl
    refine sq_nil ?_
    refine sq_then ?_
    refine cq_cond_t rfl ?_
    refine cq_seq ?_
    refine cq_region ?_
    apply sq_g; exact g_call (hA) rfl; exact rfl
    apply sq_g; exact g_assign (s := .av (.val (.bool _))) rfl; exact rfl
    refine sq_nil ?_
    refine sq_then ?_
    refine cq_ret ?_
    refine sq_then_ret ?_
    all_goals exact sq_res1 rfl (.tmp rfl) rfl
  obtain ⟨h6, hc, hS⟩ := hsol
  have hf : few l := .inl h6
  have h1 := lawsolid_c l (fun _ _ => hS) (by omega) hf hc
  have h2 := rright_c b
  cases hr : rightT b with
  | false =>
    rw [hr] at h2
    refine ctrA _ Tryz.func7 rfl rfl Tryz.ntmps7 rfl fun w Z => ?_
    simp only [initT, List.map_cons, List.map_nil, Nat.zero_add, Nat.reduceAdd]
    refine cq_seq ?_
    refine cq_region ?_
    apply sq_g; exact g_box_agg rfl; exact rfl
    apply sq_g; exact g_assign (s := .av (.val (.bool _))) rfl; exact rfl
    refine sq_nil ?_
    refine sq_then ?_
    refine cq_seq ?_
    refine cq_seq ?_
    refine cq_region ?_
    apply sq_g; exact g_move (s := .av _) rfl; exact rfl
    apply sq_g; exact g_call (h1) rfl; exact rfl
    apply sq_g; exact g_not rfl; exact rfl
    apply sq_g; exact g_move (s := .av (.val (.bool _))) rfl; exact rfl
    apply sq_on; exact g_load_agg (us := [.int _ _, .int _ _, .int _ _]) rfl rfl rfl rfl; exact rfl; exact rfl; exact rfl
    apply sq_on; exact g_call (h2) rfl; exact rfl; exact rfl; exact rfl
    apply sq_on; exact g_not rfl; exact rfl; exact rfl; exact rfl
    apply sq_g; exact g_pick (s := .av (.val (.bool _))) rfl rfl; exact rfl
    refine sq_nil ?_
    refine sq_then ?_
    refine cq_cond_t rfl ?_
    refine cq_seq ?_
    refine cq_region ?_
    apply sq_g; exact g_call (hA) rfl; exact rfl
    apply sq_g; exact g_assign (s := .av (.val (.bool _))) rfl; exact rfl
    refine sq_nil ?_
    refine sq_then ?_
    refine cq_ret ?_
    refine sq_then_ret ?_
    all_goals exact sq_res1 rfl (.tmp rfl) rfl
  | true =>
  rw [hr] at h2
  have hbB := right_bd hr
  obtain ⟨hl, _⟩ := hf.le hc
  have hm6 : (mvT b l).length ≤ 6 := by simpa using h6
  have hrc := rcheck_c (mvT b l) (by omega)
  have hbx := hbB.x; have hby := hbB.y; have hbz := hbB.z
  refine ctrA _ Tryz.func7 rfl rfl Tryz.ntmps7 rfl fun w Z => ?_
  simp only [initT, List.map_cons, List.map_nil, Nat.zero_add, Nat.reduceAdd]
  refine cq_seq ?_
  refine cq_region ?_
  apply sq_g; exact g_box_agg rfl; exact rfl
  apply sq_g; exact g_assign (s := .av (.val (.bool _))) rfl; exact rfl
  refine sq_nil ?_
  refine sq_then ?_
  refine cq_seq ?_
  refine cq_seq ?_
  refine cq_region ?_
  apply sq_g; exact g_move (s := .av _) rfl; exact rfl
  apply sq_g; exact g_call (h1) rfl; exact rfl
  apply sq_g; exact g_not rfl; exact rfl
  apply sq_g; exact g_move (s := .av (.val (.bool _))) rfl; exact rfl
  apply sq_on; exact g_load_agg (us := [.int _ _, .int _ _, .int _ _]) rfl rfl rfl rfl; exact rfl; exact rfl; exact rfl
  apply sq_on; exact g_call (h2) rfl; exact rfl; exact rfl; exact rfl
  apply sq_on; exact g_not rfl; exact rfl; exact rfl; exact rfl
  apply sq_g; exact g_pick (s := .av (.val (.bool _))) rfl rfl; exact rfl
  refine sq_nil ?_
  refine sq_then ?_
  refine cq_cond_f rfl ?_
  refine cq_skip ?_
  refine sq_then ?_
  refine cq_seq ?_
  refine cq_region ?_
  apply sq_g; exact g_assign (s := .av _) rfl; exact rfl
  refine sq_nil ?_
  refine sq_then ?_
  refine cq_seq ?_
  refine cq_seq ?_
  refine cq_region ?_
  apply sq_g; exact g_move (s := .av _) rfl; exact rfl
  apply sq_g; exact g_len rfl; exact rfl
  apply sq_g; exact g_move (s := .av (.val (.int _ _))) rfl; exact rfl
  refine sq_nil ?_
  refine sq_then ?_
  refine cq_block ?_
  refine cq_loop (γ := Nat) (fun k => [(0, .av (ts l)), (3, .av (bt b)), (5, .osl 70), (30, .av (ts l)), (31, .av (vi l.length)), (32, .av (vi k))]) (fun k => [(70, .row 67 3 (mvT b (l.take k)).length (tf (mvT b (l.take k))))]) (fun k => k ≤ l.length) (fun k => l.length - k) 0 (Nat.zero_le _) (Ent.trans (ent_row (dd := 5) 70 67 3 (tf []) rfl rfl) (ent ⟨.refl _, .refl _, .refl _, .refl _, .refl _, .refl _, trivial⟩ ⟨⟨_, rfl, .refl _⟩, trivial⟩)) ?_
  intro k hk
  have hkn : (mvT b (l.take k)).length ≤ 6 := by simp; omega
  have hmx : (mvT b (l.take k)).length + 1 ≤ maxLen := by simp only [maxLen]; omega
  refine cq_seq ?_
  refine cq_region ?_
  apply sq_g; exact g_cmp rfl rfl rfl; exact rfl
  refine sq_nil ?_
  refine sq_then ?_
  refine cq_seq ?_
  (refine cq_cond rfl (fun hb => ?_) (fun hb => ?_) <;> (try simp only [decide_eq_true_eq, decide_eq_false_iff_not, beq_iff_eq, beq_eq_false_iff_ne, bne_iff_ne, bne_eq_false_iff_eq, ne_eq, Bool.not_eq_true', Bool.not_eq_false', Bool.and_eq_true, Bool.or_eq_true, Bool.and_eq_false_iff, Bool.or_eq_false_iff] at hb) <;> (try (exfalso; omega)))
  · have hkl : k < l.length := by omega
    have hgx := (hl k).x
    have hgy := (hl k).y
    have hgz := (hl k).z
    have esn := mv_snoc b hkl
    generalize mvT b (l.take k) = M at esn hkn hmx ⊢
    refine cq_skip ?_
    refine sq_then ?_
    refine cq_seq ?_
    refine cq_block ?_
    refine cq_seq ?_
    refine cq_region ?_
    apply sq_g; exact g_index rfl rfl rfl (by omega); exact rfl
    apply sq_g; exact g_load_agg (us := [.int _ _, .int _ _, .int _ _]) rfl rfl rfl rfl; exact rfl
    refine sq_v (f_alloc 10 rfl) rfl ?_
    refine sq_s (g_store_agg rfl rfl rfl rfl rfl rfl) ?_
    refine sq_nil ?_
    refine sq_then ?_
    refine cq_region ?_
    apply sq_g; exact g_move (s := .osl _) rfl; exact rfl
    apply sq_g; exact g_field_own rfl; exact rfl
    apply sq_g; exact g_load_own (s := .av (.val (.int _ _))) rfl rfl rfl; exact rfl
    apply sq_g; exact g_field rfl; exact rfl
    apply sq_g; exact g_load (τ := .val (.int _ _)) rfl rfl rfl; exact rfl
    apply sq_g; exact g_arith rfl rfl rfl (by omega); exact rfl
    apply sq_g; exact g_field_own rfl; exact rfl
    apply sq_g; exact g_load_own (s := .av (.val (.int _ _))) rfl rfl rfl; exact rfl
    apply sq_g; exact g_field rfl; exact rfl
    apply sq_g; exact g_load (τ := .val (.int _ _)) rfl rfl rfl; exact rfl
    apply sq_g; exact g_arith rfl rfl rfl (by omega); exact rfl
    apply sq_g; exact g_field_own rfl; exact rfl
    apply sq_g; exact g_load_own (s := .av (.val (.int _ _))) rfl rfl rfl; exact rfl
    apply sq_g; exact g_field rfl; exact rfl
    apply sq_g; exact g_load (τ := .val (.int _ _)) rfl rfl rfl; exact rfl
    apply sq_g; exact g_arith rfl rfl rfl (by omega); exact rfl
    apply sq_g; exact g_build (is := [0, 1, 2]) (xs := [_, _, _]) (vs := [_, _, _]) (tb67 _ _ _) rfl rfl; exact rfl
    apply sq_g; exact  g_bslice (is := [0]) (xs := [_]) (vs := [_]) (us := [_, _, _]) (tq22 _ _ _) rfl rfl rfl (tf_row (tadd b (gt l k))); exact rfl
    refine sq_v (v_append (h := tf [tadd b (gt l k)]) (m := 1) rfl rfl rfl (fun i _ j _ => tf_one _ i j) (by omega) hmx (by omega)) rfl ?_
    apply sq_g; exact g_assign (s := .osl _) rfl; exact rfl
    refine sq_nil ?_
    refine sq_then ?_
    refine cq_region ?_
    apply sq_g; exact g_arith rfl rfl rfl (by omega); exact rfl
    apply sq_g; exact g_move (s := .av (.val (.int _ _))) rfl; exact rfl
    refine sq_nil ?_
    exact sq_round (k + 1) (by omega) (by omega) (ent ⟨.refl _, .refl _, .refl _, .refl _, .refl _, .int (by omega), trivial⟩ ⟨⟨_, rfl, .row (by rw [esn]; simp) (fun i hi j hj => by rw [esn]; exact tf_app _ _ i hi j hj)⟩, trivial⟩)
  · have hkl : k = l.length := by omega
    subst hkl
    rw [List.take_length]
    refine cq_ent (ent_freeze 70 rfl) ?_
    by_cases hmc : chkT (mvT b l) = 0
    · rw [hmc] at hrc
      have hfm : few (mvT b l) := .inl hm6
      obtain ⟨hml, _⟩ := hfm.le hmc
      have hSm := sol_mv b hS
      have d3 := (dim3_iff l).2 hS
      have d3m := (dim3_iff (mvT b l)).2 hSm
      have eF := facets_mv b hS
      have eV : vertV (mvT b l) (facetsL (mvT b l)) = vertV l (facetsL l) := by unfold vertV; rw [rawV_mv b hS h6 hl hml]
      have v1 := vert_c l hf
      have v2 := vert_c (mvT b l) hfm
      have e1 := edges_q hf hc hS
      have e2 := edges_q hfm hmc hSm
      have g1 := facs_q l hf
      have g2 := facs_q (mvT b l) hfm
      unfold vertQ at v1 v2
      unfold facQ errF at g1 g2
      rw [if_pos hc, hc] at v1
      rw [if_pos hmc, hmc] at v2
      rw [if_pos hc, if_pos hc, if_neg (by omega), if_neg (by omega)] at g1
      rw [if_pos hmc, if_pos hmc, if_neg (by omega), if_neg (by omega)] at g2
      rw [eV] at v2 e2
      rw [eF] at g2 e2
      rw [edgV_mv] at e2
      have lE := edgV_len h6 d3
      have lV := vertV_len h6 d3
      have lF := facets_len l h6
      have q1 := equali_c (vertV l (facetsL l)) (vertV l (facetsL l)) (by omega) (by omega)
      rw [decide_eq_true rfl] at q1
      have q2 := equale_c (edgV (facetsL l) (vertV l (facetsL l))) lE
      have q3 := eqfunc_c (facetsL l) ((facetsL l).map (shF b)) b lF (by simp) (fun k hk => by
        have hm := gf_mem hk
        obtain ⟨b1, b2⟩ := fac_bd hl hm
        exact same35_c b _ _ hbB b1 b2 (by have := (facets_ok h6 _ hm).2.2.1; omega) (gf_map _ _ hk))
      generalize edgV (facetsL l) (vertV l (facetsL l)) = EE at e1 e2 q2
      generalize vertV l (facetsL l) = VV at v1 v2 q1
      generalize (facetsL l).map (shF b) = F2 at g2 q3
      generalize facetsL l = F1 at g1 q3
      clear eF eV lE lV lF d3 d3m
      refine cq_exit ?_
      refine sq_then ?_
      refine cq_seq ?_
      refine cq_seq ?_
      refine cq_region ?_
      apply sq_g; exact g_move (s := .av _) rfl; exact rfl
      apply sq_g; exact g_call (hrc) rfl; exact rfl
      apply sq_g; exact g_cmp rfl rfl rfl; exact rfl
      refine sq_nil ?_
      refine sq_then ?_
      refine cq_cond_f rfl ?_
      refine cq_skip ?_
      refine sq_then ?_
      refine cq_seq ?_
      refine cq_region ?_
      apply sq_g; exact g_move (s := .av _) rfl; exact rfl
      apply sq_g; exact g_call (v1) rfl; exact rfl
      apply sq_g; exact g_move (s := .av _) rfl; exact rfl
      apply sq_g; exact g_extractT rfl rfl; exact rfl
      apply sq_g; exact g_extractT rfl rfl; exact rfl
      apply sq_g; exact g_assign (s := .av _) rfl; exact rfl
      apply sq_g; exact g_assign (s := .av (.val (.int _ _))) rfl; exact rfl
      refine sq_nil ?_
      refine sq_then ?_
      refine cq_seq ?_
      refine cq_region ?_
      apply sq_g; exact g_move (s := .av _) rfl; exact rfl
      apply sq_g; exact g_call (v2) rfl; exact rfl
      apply sq_g; exact g_move (s := .av _) rfl; exact rfl
      apply sq_g; exact g_extractT rfl rfl; exact rfl
      apply sq_g; exact g_extractT rfl rfl; exact rfl
      apply sq_g; exact g_assign (s := .av _) rfl; exact rfl
      apply sq_g; exact g_assign (s := .av (.val (.int _ _))) rfl; exact rfl
      refine sq_nil ?_
      refine sq_then ?_
      refine cq_seq ?_
      refine cq_region ?_
      apply sq_g; exact g_move (s := .av _) rfl; exact rfl
      apply sq_g; exact g_call (e1) rfl; exact rfl
      apply sq_g; exact g_move (s := .av _) rfl; exact rfl
      apply sq_g; exact g_extractT rfl rfl; exact rfl
      apply sq_g; exact g_extractT rfl rfl; exact rfl
      apply sq_g; exact g_assign (s := .av _) rfl; exact rfl
      apply sq_g; exact g_assign (s := .av (.val (.int _ _))) rfl; exact rfl
      refine sq_nil ?_
      refine sq_then ?_
      refine cq_seq ?_
      refine cq_region ?_
      apply sq_g; exact g_move (s := .av _) rfl; exact rfl
      apply sq_g; exact g_call (e2) rfl; exact rfl
      apply sq_g; exact g_move (s := .av _) rfl; exact rfl
      apply sq_g; exact g_extractT rfl rfl; exact rfl
      apply sq_g; exact g_extractT rfl rfl; exact rfl
      apply sq_g; exact g_assign (s := .av _) rfl; exact rfl
      apply sq_g; exact g_assign (s := .av (.val (.int _ _))) rfl; exact rfl
      refine sq_nil ?_
      refine sq_then ?_
      refine cq_seq ?_
      refine cq_region ?_
      apply sq_g; exact g_move (s := .av _) rfl; exact rfl
      apply sq_g; exact g_call (g1) rfl; exact rfl
      apply sq_g; exact g_move (s := .av _) rfl; exact rfl
      apply sq_g; exact g_extractT rfl rfl; exact rfl
      apply sq_g; exact g_extractT rfl rfl; exact rfl
      apply sq_g; exact g_assign (s := .av _) rfl; exact rfl
      apply sq_g; exact g_assign (s := .av (.val (.int _ _))) rfl; exact rfl
      refine sq_nil ?_
      refine sq_then ?_
      refine cq_seq ?_
      refine cq_region ?_
      apply sq_g; exact g_move (s := .av _) rfl; exact rfl
      apply sq_g; exact g_call (g2) rfl; exact rfl
      apply sq_g; exact g_move (s := .av _) rfl; exact rfl
      apply sq_g; exact g_extractT rfl rfl; exact rfl
      apply sq_g; exact g_extractT rfl rfl; exact rfl
      apply sq_g; exact g_assign (s := .av _) rfl; exact rfl
      apply sq_g; exact g_assign (s := .av (.val (.int _ _))) rfl; exact rfl
      refine sq_nil ?_
      refine sq_then ?_
      refine cq_seq ?_
      refine cq_region ?_
      apply sq_g; exact g_makeFunc (τs := [_]) rfl; exact rfl
      apply sq_g; exact g_assign (s := .av _) rfl; exact rfl
      refine sq_nil ?_
      refine sq_then ?_
      refine cq_seq ?_
      refine cq_region ?_
      apply sq_g; exact g_move (s := .av (.val (.int _ _))) rfl; exact rfl
      apply sq_g; exact g_move (s := .av (.val (.int _ _))) rfl; exact rfl
      apply sq_g; exact g_arith rfl rfl rfl (by omega); exact rfl
      apply sq_g; exact g_move (s := .av (.val (.int _ _))) rfl; exact rfl
      apply sq_g; exact g_arith rfl rfl rfl (by omega); exact rfl
      apply sq_g; exact g_move (s := .av (.val (.int _ _))) rfl; exact rfl
      apply sq_g; exact g_arith rfl rfl rfl (by omega); exact rfl
      apply sq_g; exact g_move (s := .av (.val (.int _ _))) rfl; exact rfl
      apply sq_g; exact g_arith rfl rfl rfl (by omega); exact rfl
      apply sq_g; exact g_move (s := .av (.val (.int _ _))) rfl; exact rfl
      apply sq_g; exact g_arith rfl rfl rfl (by omega); exact rfl
      apply sq_g; exact g_cmp rfl rfl rfl; exact rfl
      apply sq_g; exact g_move (s := .av (.val (.bool _))) rfl; exact rfl
      apply sq_on; exact g_move (s := .av _) rfl; exact rfl; exact rfl; exact rfl
      apply sq_on; exact g_move (s := .av _) rfl; exact rfl; exact rfl; exact rfl
      apply sq_on; exact g_call (q1) rfl; exact rfl; exact rfl; exact rfl
      apply sq_g; exact g_pick (s := .av (.val (.bool _))) rfl rfl; exact rfl
      apply sq_g; exact g_move (s := .av (.val (.bool _))) rfl; exact rfl
      apply sq_on; exact g_move (s := .av _) rfl; exact rfl; exact rfl; exact rfl
      apply sq_on; exact g_move (s := .av _) rfl; exact rfl; exact rfl; exact rfl
      apply sq_on; exact g_call (q2) rfl; exact rfl; exact rfl; exact rfl
      apply sq_g; exact g_pick (s := .av (.val (.bool _))) rfl rfl; exact rfl
      apply sq_g; exact g_move (s := .av (.val (.bool _))) rfl; exact rfl
      apply sq_on; exact g_move (s := .av _) rfl; exact rfl; exact rfl; exact rfl
      apply sq_on; exact g_move (s := .av _) rfl; exact rfl; exact rfl; exact rfl
      apply sq_on; exact g_move (s := .av _) rfl; exact rfl; exact rfl; exact rfl
      apply sq_on; exact g_call (q3) rfl; exact rfl; exact rfl; exact rfl
      apply sq_g; exact g_pick (s := .av (.val (.bool _))) rfl rfl; exact rfl
      apply sq_g; exact g_move (s := .av (.val (.bool _))) rfl; exact rfl
      apply sq_on; exact g_call (hA) rfl; exact rfl; exact rfl; exact rfl
      apply sq_g; exact g_pick (s := .av (.val (.bool _))) rfl rfl; exact rfl
      apply sq_g; exact g_assign (s := .av (.val (.bool _))) rfl; exact rfl
      refine sq_nil ?_
      refine sq_then ?_
      refine cq_ret ?_
      all_goals (first | exact absurd trivial ‹¬True› | exact sq_res1 rfl (.tmp rfl) rfl)
    · generalize chkT (mvT b l) = e at hmc hrc
      refine cq_exit ?_
      refine sq_then ?_
      refine cq_seq ?_
      refine cq_seq ?_
      refine cq_region ?_
      apply sq_g; exact g_move (s := .av _) rfl; exact rfl
      apply sq_g; exact g_call (hrc) rfl; exact rfl
      apply sq_g; exact g_cmp rfl rfl rfl; exact rfl
      refine sq_nil ?_
      refine sq_then ?_
      (refine cq_cond rfl (fun hb => ?_) (fun hb => ?_) <;> (try simp only [decide_eq_true_eq, decide_eq_false_iff_not, beq_iff_eq, beq_eq_false_iff_ne, bne_iff_ne, bne_eq_false_iff_eq, ne_eq, Bool.not_eq_true', Bool.not_eq_false', Bool.and_eq_true, Bool.or_eq_true, Bool.and_eq_false_iff, Bool.or_eq_false_iff] at hb) <;> (try (exfalso; omega)))
      refine cq_seq ?_
      refine cq_region ?_
      apply sq_g; exact g_call (hA) rfl; exact rfl
      apply sq_g; exact g_assign (s := .av (.val (.bool _))) rfl; exact rfl
      refine sq_nil ?_
      refine sq_then ?_
      refine cq_ret ?_
      refine sq_then_ret ?_
      all_goals exact sq_res1 rfl (.tmp rfl) rfl
end Go.Proofs.YtdoppiajbpmmkaaGreat
