/- A part of the proof that the law returns true at every input and that the input reads behind the call as it read before; this part states nothing of its own that needs a condition of the input. -/
import Derived.Test.YtogilkilkmoedaaX
import Derived.Test.YtogilkilkmoedaaGa
set_option linter.unusedVariables false
set_option linter.unusedSimpArgs false
namespace Go.Proofs.Ytogilkilkmoedaa
open Go Go.Vc Go.RowKit
set_option maxHeartbeats 4000000
/-! KDQ -/
def wideB (w : Int) : Bool := decide (1 ≤ w) && decide (w ≤ 100000)
theorem wide_c (w : Int) : CtrA Try.prog 46 [vi w] (vb (wideB w)) := by
  refine ctrA _ Try.func46 rfl rfl Try.ntmps46 rfl fun w Z => ?_
  simp only [initT, List.map_cons, List.map_nil, Nat.zero_add, Nat.reduceAdd]
  focus
    refine cq_seq ?_
    refine cq_region ?_
    apply sq_g; exact g_assign (s := .av (.val (.bool _))) rfl; exact rfl
    refine sq_nil ?_
    refine sq_then ?_
    refine cq_seq ?_
    refine cq_region ?_
    apply sq_g; exact g_move (s := .av (.val (.int _ _))) rfl; exact rfl
    apply sq_g; exact g_cmp rfl rfl rfl; exact rfl
    apply sq_g; exact g_move (s := .av (.val (.bool _))) rfl; exact rfl
    refine sq_split rfl rfl (fun hb => ?_) (fun hb => ?_) <;> (try simp only [decide_eq_true_eq, decide_eq_false_iff_not, beq_iff_eq, beq_eq_false_iff_ne, bne_iff_ne, bne_eq_false_iff_eq, ne_eq, Bool.not_eq_true', Bool.not_eq_false', Bool.and_eq_true, Bool.or_eq_true, Bool.and_eq_false_iff, Bool.or_eq_false_iff] at hb) <;> (try (exfalso; omega))
    apply sq_on; exact g_move (s := .av (.val (.int _ _))) rfl; exact rfl; exact rfl; exact rfl
    apply sq_on; exact g_cmp rfl rfl rfl; exact rfl; exact rfl; exact rfl
    apply sq_g; exact g_pick (s := .av (.val (.bool _))) rfl rfl; exact rfl
    apply sq_g; exact g_assign (s := .av (.val (.bool _))) rfl; exact rfl
    refine sq_nil ?_
    refine sq_then ?_
    refine cq_ret ?_
    rotate_left
    refine sq_off rfl rfl rfl rfl ?_
    refine sq_off rfl rfl rfl rfl ?_
    apply sq_g; exact g_pick (s := .av (.val (.bool _))) rfl rfl; exact rfl
    apply sq_g; exact g_assign (s := .av (.val (.bool _))) rfl; exact rfl
    refine sq_nil ?_
    refine sq_then ?_
    refine cq_ret ?_
    rotate_left
  all_goals (refine sq_res1 rfl (.tmp rfl) (congrArg vb ?_); unfold wideB; rw [Bool.eq_iff_iff]; simp; try omega)
def errG (l : List Int) (w : Int) : Int := if chkL [l] ≠ 0 then chkL [l] else if wideB w then 0 else 2
theorem tq50_1 (vs : List Value) (w : World) (hl : vs.length = 1) (h1 : ∀ v ∈ vs, v.oneCell' = true) : (Instr.buildSlice 50 1 (List.zip [0] vs).toArray).run Try.prog w = .ok (.slice (some ⟨w.heap.size, 0, none⟩) 1 1) (w.alloc (.cells vs.toArray 22)) := by
  match vs, hl with
  | [u], _ =>
    have e1 := cells_one (h1 u (by simp))
    have hz : Try.prog.info? 22 = some ((Try.prog.info? 22).getD default) := by kernel_rfl
    have hs : (sizeOf 22).run Try.prog w = .ok 1 w := by kernel_rfl
    have hu : Try.prog.underlying 50 = some (.slice 22) := by kernel_rfl
    have hzero : (zeroValue 22).run Try.prog w = .ok (.slice none 0 0) w := by kernel_rfl
    have hr : Array.map (fun x => (Value.slice none 0 0).cells[x % (Value.slice none 0 0).cells.size]!) (Array.range 1) = #[.slice none 0 0] := by kernel_rfl
    simp [Instr.buildSlice, hr, Instr.fill, e1, newRow]
theorem errG_ok {l : List Int} {w : Int} (h : errG l w = 0) : RightL l ∧ 1 ≤ w ∧ w ≤ 100000 := by
  unfold errG at h
  split at h
  · rename_i h1; exact absurd h h1
  · rename_i h1
    split at h
    · rename_i h2
      unfold wideB at h2
      simp only [Bool.and_eq_true, decide_eq_true_eq] at h2
      refine ⟨?_, h2⟩
      have h1 : chkL [l] = 0 := by omega
      unfold chkL at h1
      split at h1
      · omega
      · rename_i a1
        split at h1
        · omega
        · rename_i a2
          have b1 := any_elim a1 0 (by simp)
          have b2 := any_elim a2 0 (by simp)
          simp only [decide_eq_false_iff_not] at b1
          exact right_of b1 b2
    · omega
def groupsL (l : List Int) (w : Int) : List (List Int) := if errG l w = 0 then (sortK (quots l w)).map (fun a => idx l w l.length a) else []
def gsF (L : List (List Int)) : Nat → Nat → AV := fun i _ => zs (gl L i)
theorem mem_sortK {a : Int} {ks : List Int} : a ∈ sortK ks ↔ a ∈ ks := by
  unfold sortK
  rw [(List.mergeSort_perm _ _).mem_iff, mem_dd]
theorem gz_mem {l : List Int} {i : Nat} (h : i < l.length) : gz l i ∈ l := by
  unfold gz
  rw [List.getD, List.getElem?_eq_getElem h]
  exact List.getElem_mem h
theorem sortK_len (ks : List Int) : (sortK ks).length ≤ ks.length := by
  unfold sortK
  rw [List.length_mergeSort]
  induction ks with
  | nil => exact Nat.le_refl _
  | cons a l ih =>
    unfold dd
    split
    · simp; omega
    · simp; exact ih
theorem groups_c (l : List Int) (w : Int) : CtrR Try.prog 25 [zs l, vi w] 22 1 (groupsL l w).length (gsF (groupsL l w)) [vi (errG l w)] := by
  refine ctrR _ Try.func25 rfl rfl Try.ntmps25 rfl fun w0 Z => ?_
  have hchk := check1_c [l] (by simp)
  have hwd := wide_c w
  simp only [initT, List.map_cons, List.map_nil, Nat.zero_add, Nat.reduceAdd]
  refine cq_seq ?_
  refine cq_region ?_
  apply sq_g; exact g_assign (s := .av _) rfl; exact rfl
  apply sq_g; exact g_assign (s := .av (.val (.int _ _))) rfl; exact rfl
  refine sq_nil ?_
  refine sq_then ?_
  refine cq_seq ?_
  refine cq_seq ?_
  refine cq_region ?_
  apply sq_g; exact g_move (s := .av _) rfl; exact rfl
  apply sq_g; exact  g_bslice_av (is := [0]) (xs := [_]) (τs := [zs l]) (fun vs w h1 h2 => tq50_1 vs w h1 h2) rfl rfl rfl rfl rfl; exact rfl
  apply sq_g; exact g_call (hchk) rfl; exact rfl
  apply sq_g; exact g_assign (s := .av (.val (.int _ _))) rfl; exact rfl
  refine sq_nil ?_
  refine sq_then ?_
  refine cq_seq ?_
  refine cq_region ?_
  apply sq_g; exact g_move (s := .av (.val (.int _ _))) rfl; exact rfl
  apply sq_g; exact g_cmp rfl rfl rfl; exact rfl
  refine sq_nil ?_
  refine sq_then ?_
  (refine cq_cond rfl (fun hb => ?_) (fun hb => ?_) <;> (try simp only [decide_eq_true_eq, decide_eq_false_iff_not, beq_iff_eq, beq_eq_false_iff_ne, bne_iff_ne, bne_eq_false_iff_eq, ne_eq, Bool.not_eq_true', Bool.not_eq_false', Bool.and_eq_true, Bool.or_eq_true, Bool.and_eq_false_iff, Bool.or_eq_false_iff] at hb) <;> (try (exfalso; omega)))
  · have e1 : errG l w = chkL [l] := by unfold errG; rw [if_pos hb]
    have e2 : groupsL l w = [] := by unfold groupsL; rw [if_neg (by omega)]
    rw [e1, e2]
    refine cq_seq ?_
    refine cq_region ?_
    apply sq_g; exact g_move (s := .av (.val (.int _ _))) rfl; exact rfl
    apply sq_g; exact g_assign (s := .av _) rfl; exact rfl
    apply sq_g; exact g_assign (s := .av (.val (.int _ _))) rfl; exact rfl
    refine sq_nil ?_
    refine sq_then ?_
    refine cq_ret ?_
    refine sq_then_ret ?_
    exact sq_retRN_nil rfl rfl rfl (τs := [vi (chkL [l])]) ⟨.tmp rfl, trivial⟩ rfl
  · have h0 : chkL [l] = 0 := by omega
    refine cq_skip ?_
    refine sq_then ?_
    refine cq_seq ?_
    refine cq_seq ?_
    refine cq_region ?_
    apply sq_g; exact g_move (s := .av (.val (.int _ _))) rfl; exact rfl
    apply sq_g; exact g_call (hwd) rfl; exact rfl
    apply sq_g; exact g_not rfl; exact rfl
    refine sq_nil ?_
    refine sq_then ?_
    refine cq_cond rfl (fun hb => ?_) (fun hb => ?_)
    · have hw : wideB w = false := by simpa using hb
      have e1 : errG l w = 2 := by unfold errG; rw [if_neg (by omega), hw]; rfl
      have e2 : groupsL l w = [] := by unfold groupsL; rw [if_neg (by omega)]
      rw [e1, e2]
      refine cq_seq ?_
      refine cq_region ?_
      apply sq_g; exact g_assign (s := .av _) rfl; exact rfl
      apply sq_g; exact g_assign (s := .av (.val (.int _ _))) rfl; exact rfl
      refine sq_nil ?_
      refine sq_then ?_
      refine cq_ret ?_
      refine sq_then_ret ?_
      exact sq_retRN_nil rfl rfl rfl (τs := [vi 2]) ⟨.tmp rfl, trivial⟩ rfl
    · have hw : wideB w = true := by simpa using hb
      have e1 : errG l w = 0 := by unfold errG; rw [if_neg (by omega), hw]; rfl
      have e2 : groupsL l w = (sortK (quots l w)).map (fun a => idx l w l.length a) := by unfold groupsL; rw [if_pos e1]
      obtain ⟨hr, hw1, hw2⟩ := errG_ok e1
      rw [e1, e2]
      have hlen := hr.len
      have hg := grouped_c l w hr ⟨hw1, by omega⟩
      have hk := keys_c (quots l w) l.length (fun a => zs (idx l w l.length a))
      have hs := sorted_c (quots l w) l.length (fun a => zs (idx l w l.length a)) (by omega)
      have hsl : (sortK (quots l w)).length ≤ 256 := by have := sortK_len (quots l w); simp [quots] at this ⊢; omega
      have hmem : ∀ i, i < (sortK (quots l w)).length → gz (sortK (quots l w)) i ∈ quots l w := fun i hi => mem_sortK.1 (gz_mem hi)
      generalize hK : sortK (quots l w) = K at hs hsl hmem ⊢
      refine cq_skip ?_
      refine sq_then ?_
      refine cq_seq ?_
      refine cq_region ?_
      apply sq_g; exact g_move (s := .av _) rfl; exact rfl
      apply sq_g; exact g_move (s := .av (.val (.int _ _))) rfl; exact rfl
      apply sq_g; exact g_call (hg) rfl; exact rfl
      apply sq_g; exact g_assign (s := .av _) rfl; exact rfl
      refine sq_nil ?_
      refine sq_then ?_
      refine cq_seq ?_
      refine cq_region ?_
      apply sq_g; exact g_assign (s := .av _) rfl; exact rfl
      refine sq_nil ?_
      refine sq_then ?_
      refine cq_seq ?_
      refine cq_seq ?_
      refine cq_region ?_
      apply sq_g; exact g_move (s := .av _) rfl; exact rfl
      apply sq_g; exact g_call (hk) rfl; exact rfl
      refine sq_v (f_call_row 40 (hs) rfl rfl) rfl ?_
      apply sq_g; exact g_len_own rfl rfl; exact rfl
      apply sq_g; exact g_move (s := .av (.val (.int _ _))) rfl; exact rfl
      refine sq_nil ?_
      refine sq_then ?_
      refine cq_block ?_
      generalize hM : K.map (fun a => idx l w l.length a) = M
      have hMl : M.length = K.length := by rw [← hM]; simp
      have hMk : ∀ k, k < K.length → gl M k = idx l w l.length (gz K k) := fun k hk => by rw [← hM]; simp [gl, gz, List.getD, hk]
      refine cq_loop (γ := Nat) (fun k => [(7, .av (mpG l w)), (8, .osl 50), (25, .osl 40), (26, .av (vi K.length)), (27, .av (vi k))]) (fun k => [(40, .row 3 1 K.length (zf K)), (50, .row 22 1 k (gsF M))]) (fun k => k ≤ K.length) (fun k => K.length - k) 0 (Nat.zero_le _) (Ent.trans (ent_row (dd := 8) 50 22 1 (gsF M) rfl rfl) (ent ⟨.refl _, .refl _, .refl _, .refl _, .refl _, trivial⟩ ⟨⟨_, rfl, .refl _⟩, ⟨_, rfl, .refl _⟩, trivial⟩)) ?_
      intro k hk
      refine cq_seq ?_
      refine cq_region ?_
      apply sq_g; exact g_cmp rfl rfl rfl; exact rfl
      refine sq_nil ?_
      refine sq_then ?_
      refine cq_seq ?_
      (refine cq_cond rfl (fun hb => ?_) (fun hb => ?_) <;> (try simp only [decide_eq_true_eq, decide_eq_false_iff_not, beq_iff_eq, beq_eq_false_iff_ne, bne_iff_ne, bne_eq_false_iff_eq, ne_eq, Bool.not_eq_true', Bool.not_eq_false', Bool.and_eq_true, Bool.or_eq_true, Bool.and_eq_false_iff, Bool.or_eq_false_iff] at hb) <;> (try (exfalso; omega)))
      · have hkl : k < K.length := by omega
        have hq := hr.q hw1 (hmem k hkl)
        have hml : k + 1 ≤ maxLen := by simp only [maxLen]; omega
        have hone : ∀ i, i < 1 → ∀ j, j < 1 → ((fun i (_ : Nat) => [zs (idx l w l.length (gz K k))].getD i AV.any) i j).one = true := fun i hi j hj => by
          obtain rfl : i = 0 := by omega
          rfl
        refine cq_skip ?_
        refine sq_then ?_
        refine cq_seq ?_
        refine cq_block ?_
        refine cq_seq ?_
        refine cq_region ?_
        apply sq_g; exact g_index_row rfl rfl rfl rfl (by omega); exact rfl
        apply sq_g; exact g_load_oel (τ := .val (.int _ _)) rfl rfl (by omega) rfl rfl; exact rfl
        apply sq_g; exact g_assign (s := .av (.val (.int _ _))) rfl; exact rfl
        refine sq_nil ?_
        refine sq_then ?_
        refine cq_region ?_
        apply sq_g; exact g_move (s := .osl _) rfl; exact rfl
        apply sq_g; exact g_move (s := .av _) rfl; exact rfl
        apply sq_g; exact g_move (s := .av (.val (.int _ _))) rfl; exact rfl
        apply sq_g; exact  g_lookup_mp ⟨_, zero22⟩ rfl rfl (by omega) (hmem k hkl); exact rfl
        apply sq_g; exact  g_bslice_av (is := [0]) (xs := [_]) (τs := [zs (idx l w l.length (gz K k))]) (fun vs w h1 h2 => tq50_1 vs w h1 h2) rfl rfl rfl rfl rfl; exact rfl
        refine sq_v (v_append (h := fun i _ => [zs (idx l w l.length (gz K k))].getD i .any) (m := 1) rfl rfl rfl hone (by omega) hml (by omega)) rfl ?_
        apply sq_g; exact g_assign (s := .osl _) rfl; exact rfl
        refine sq_nil ?_
        refine sq_then ?_
        refine cq_region ?_
        apply sq_g; exact g_arith rfl rfl rfl (by omega); exact rfl
        apply sq_g; exact g_move (s := .av (.val (.int _ _))) rfl; exact rfl
        refine sq_nil ?_
        refine sq_round (k + 1) (by omega) (by omega) (ent ⟨.refl _, .refl _, .refl _, .refl _, .int (by omega), trivial⟩ ⟨⟨_, rfl, .refl _⟩, ⟨_, rfl, .row rfl (fun i hi j hj => ?_)⟩, trivial⟩)
        unfold rowApp
        by_cases h : i < k
        · rw [if_pos h]
        · rw [if_neg h]
          obtain rfl : i = k := by omega
          simp [gsF, hMk i hkl]
      · have hkl : k = K.length := by omega
        subst hkl
        refine cq_exit ?_
        refine sq_then ?_
        refine cq_seq ?_
        refine cq_region ?_
        apply sq_g; exact g_move (s := .osl _) rfl; exact rfl
        apply sq_g; exact g_assign (s := .osl _) rfl; exact rfl
        apply sq_g; exact g_assign (s := .av (.val (.int _ _))) rfl; exact rfl
        refine sq_nil ?_
        refine sq_then ?_
        refine cq_ret ?_
        exact sq_retRN rfl rfl rfl (by rw [hMl]) (fun _ _ _ _ => rfl) (τs := [vi 0]) ⟨.tmp rfl, trivial⟩ rfl
end Go.Proofs.Ytogilkilkmoedaa
namespace Go.Proofs.Ytogilkilkmoedaa
open Go Go.Vc Go.RowKit Go.Maps
/-! What the plan counts. -/
/-- The differences that have come. -/
def keysC (L : List (Int × Int)) : List Int := L.map (fun p => p.1 - p.2)
/-- What has been counted at d. -/
def cntC (m : Int → Int → Int) (L : List (Int × Int)) (d : Int) : Int := ((L.filter (fun p => p.1 - p.2 == d)).map (fun p => m p.1 p.2)).sum
theorem cntC_nil (m : Int → Int → Int) (d : Int) : cntC m [] d = 0 := rfl
theorem cntC_snoc (m : Int → Int → Int) (L : List (Int × Int)) (a b d : Int) : cntC m (L ++ [(a, b)]) d = if d = a - b then cntC m L d + m a b else cntC m L d := by
  unfold cntC
  rw [List.filter_append, List.map_append, List.sum_append]
  split
  · rename_i h; subst h; simp
  · rename_i h
    have : ¬ (a - b = d) := fun e => h e.symm
    simp [this]
theorem cntC_out (m : Int → Int → Int) (L : List (Int × Int)) (d : Int) (h : d ∉ keysC L) : cntC m L d = 0 := by
  unfold cntC
  rw [List.filter_eq_nil_iff.2]
  · rfl
  · intro p hp
    simp only [beq_iff_eq]
    intro e
    exact h (List.mem_map.2 ⟨p, hp, e⟩)
theorem sum_perm {l l' : List Int} (h : l.Perm l') : l.sum = l'.sum := by
  induction h with
  | nil => rfl
  | cons x _ ih => simp only [List.sum_cons, ih]
  | swap x y l => simp only [List.sum_cons]; omega
  | trans _ _ h1 h2 => exact h1.trans h2
theorem cntC_perm (m : Int → Int → Int) {L L' : List (Int × Int)} (h : L.Perm L') (d : Int) : cntC m L d = cntC m L' d := by
  unfold cntC
  exact sum_perm ((h.filter _).map _)
theorem keysC_perm {L L' : List (Int × Int)} (h : L.Perm L') (d : Int) : d ∈ keysC L ↔ d ∈ keysC L' := (h.map _).mem_iff
theorem cntC_bd (m : Int → Int → Int) (B : Int) (hB : 0 ≤ B) (hm : ∀ a b, 0 ≤ m a b ∧ m a b ≤ B) (d : Int) : ∀ L : List (Int × Int), 0 ≤ cntC m L d ∧ cntC m L d ≤ (L.length : Int) * B := by
  intro L
  unfold cntC
  induction L with
  | nil => simp
  | cons p L ih =>
    have h := hm p.1 p.2
    have hs : ((p :: L).length : Int) * B = (L.length : Int) * B + B := by simp [Int.add_mul]
    rw [hs]
    by_cases hp : p.1 - p.2 = d
    · rw [List.filter_cons_of_pos (by simp [hp])]
      simp only [List.map_cons, List.sum_cons]
      omega
    · rw [List.filter_cons_of_neg (by simp [hp])]
      omega
/-- All pairs of keys. -/
def prodK (k1 k2 : List Int) : List (Int × Int) := k1.flatMap (fun a => k2.map (fun b => (a, b)))
theorem prodK_snoc (k1 k2 : List Int) (a : Int) : prodK (k1 ++ [a]) k2 = prodK k1 k2 ++ k2.map (fun b => (a, b)) := by simp [prodK]
theorem flat_perm {α β : Type} {f : α → List β} {l l' : List α} (h : l.Perm l') : (l.flatMap f).Perm (l'.flatMap f) := by
  induction h with
  | nil => exact List.Perm.refl _
  | cons x _ ih => simp only [List.flatMap_cons]; exact ih.append_left _
  | swap x y l => simp only [List.flatMap_cons, ← List.append_assoc]; exact List.perm_append_comm.append_right _
  | trans _ _ h1 h2 => exact h1.trans h2
theorem prodK_perm {k1 k1' k2 k2' : List Int} (h1 : k1.Perm k1') (h2 : k2.Perm k2') : (prodK k1 k2).Perm (prodK k1' k2') := by
  refine (flat_perm h1).trans ?_
  clear h1
  unfold prodK
  induction k1' with
  | nil => exact List.Perm.refl _
  | cons a l ih => simp only [List.flatMap_cons]; exact (h2.map _).append (ih)
theorem perm_dd {vis ks : List Int} (hn : vis.Nodup) (h1 : ∀ a ∈ vis, a ∈ ks) (h2 : ∀ a ∈ ks, a ∈ vis) : vis.Perm (dd ks) :=
  (List.perm_ext_iff_of_nodup hn (nodup_dd ks)).2 fun a => by rw [mem_dd]; exact ⟨h1 a, h2 a⟩
theorem dd_len (ks : List Int) : (dd ks).length ≤ ks.length := by
  induction ks with
  | nil => exact Nat.le_refl _
  | cons a l ih =>
    unfold dd
    split
    · simp; omega
    · simp; exact ih
/-- What stands in the end. -/
def planK (m : Int → Int → Int) (k1 k2 : List Int) : List (Int × Int) := (sortK (keysC (prodK (dd k1) (dd k2)))).map (fun d => (d, cntC m (prodK (dd k1) (dd k2)) d))
theorem sortP_map {vis ks : List Int} {g : Int → Int} (hn : vis.Nodup) (h : ∀ a, a ∈ vis ↔ a ∈ ks) : sortP (vis.map (fun d => (d, g d))) = (sortK ks).map (fun d => (d, g d)) := by
  have tr : ∀ a b c : Int × Int, decide (a.1 ≤ b.1) = true → decide (b.1 ≤ c.1) = true → decide (a.1 ≤ c.1) = true := fun a b c h1 h2 => by simp only [decide_eq_true_eq] at *; omega
  have to : ∀ a b : Int × Int, (decide (a.1 ≤ b.1) || decide (b.1 ≤ a.1)) = true := fun a b => by simp only [Bool.or_eq_true, decide_eq_true_eq]; omega
  have tr' : ∀ a b c : Int, decide (a ≤ b) = true → decide (b ≤ c) = true → decide (a ≤ c) = true := fun a b c h1 h2 => by simp only [decide_eq_true_eq] at *; omega
  have to' : ∀ a b : Int, (decide (a ≤ b) || decide (b ≤ a)) = true := fun a b => by simp only [Bool.or_eq_true, decide_eq_true_eq]; omega
  have hp : vis.Perm (sortK ks) := ((List.perm_ext_iff_of_nodup hn (nodup_dd ks)).2 fun a => by rw [mem_dd]; exact h a).trans (List.mergeSort_perm _ _).symm
  refine List.Perm.eq_of_pairwise (le := fun a b => decide (a.1 ≤ b.1) = true) (fun a b ha hb h1 h2 => ?_) (List.pairwise_mergeSort tr to _) (List.pairwise_map.2 (List.pairwise_mergeSort tr' to' _)) ((List.mergeSort_perm _ _).trans (hp.map _))
  simp only [decide_eq_true_eq] at h1 h2
  obtain ⟨x, _, rfl⟩ := List.mem_map.1 ((List.mergeSort_perm _ _).mem_iff.1 ha)
  obtain ⟨y, _, rfl⟩ := List.mem_map.1 hb
  simp only at h1 h2
  have : x = y := by omega
  rw [this]
end Go.Proofs.Ytogilkilkmoedaa
namespace Go.Proofs.Ytogilkilkmoedaa
open Go Go.Vc Go.RowKit
set_option maxHeartbeats 8000000
/-! KDQ -/
def errP (H P : List Int) (w : Int) : Int := if chkL [H] ≠ 0 then chkL [H] else if chkL [P] ≠ 0 then chkL [P] else if wideB w then 0 else 2
def minL (H P : List Int) (w : Int) (a b : Int) : Int := ((min (idx H w H.length a).length (idx P w P.length b).length : Nat) : Int)
def planL (H P : List Int) (w : Int) : List (Int × Int) := if errP H P w = 0 then planK (minL H P w) (quots H w) (quots P w) else []
theorem chk1_ok {l : List Int} (h : chkL [l] = 0) : RightL l := by
  unfold chkL at h
  split at h
  · omega
  · rename_i a1
    split at h
    · omega
    · rename_i a2
      have b1 := any_elim a1 0 (by simp)
      have b2 := any_elim a2 0 (by simp)
      simp only [decide_eq_false_iff_not] at b1
      exact right_of b1 b2
theorem idx_len (l : List Int) (w : Int) (k : Nat) (a : Int) : (idx l w k a).length ≤ k := by
  unfold idx
  rw [List.length_map]
  exact Nat.le_trans (List.length_filter_le _ _) (by simp)
theorem df_row (p q : Int) : ∀ i, i < 1 → ∀ j, j < 2 → ∃ u, [Value.int .i64 p, .int .i64 q][i * 2 + j]? = some u ∧ df [(p, q)] i j = .val u := by
  intro i hi j hj
  obtain rfl : i = 0 := by omega
  match j, hj with
  | 0, _ => exact ⟨_, rfl, rfl⟩
  | 1, _ => exact ⟨_, rfl, rfl⟩
theorem df_one (l : List (Int × Int)) : ∀ i j, (df l i j).one = true := fun i j => by unfold df; split <;> rfl
theorem df_app (l : List (Int × Int)) (p : Int × Int) : ∀ i, i < l.length + 1 → ∀ j, j < 2 → rowApp l.length (df l) (df [p]) i j = df (l ++ [p]) i j := by
  intro i hi j hj
  unfold rowApp df gp
  rw [getD_app]
  by_cases h : i < l.length
  · rw [if_pos h, if_pos h]
  · rw [if_neg h, if_neg h]
    have e : i = l.length := by omega
    subst e
    simp
theorem prodK_len (a b : List Int) : (prodK a b).length = a.length * b.length := by
  induction a with
  | nil => simp [prodK]
  | cons x l ih => unfold prodK at ih ⊢; simp only [List.flatMap_cons, List.length_append, List.length_map, ih, List.length_cons]; rw [Nat.add_mul]; omega
theorem leftK_le (ks vis : List Int) : leftK ks vis ≤ ks.length := List.length_filter_le _ _
theorem sq256 {a b : Nat} (h1 : a ≤ 256) (h2 : b ≤ 256) : a * b ≤ 65536 := Nat.mul_le_mul h1 h2
theorem plan_c (H P : List Int) (w : Int) : CtrR Try.prog 20 [zs H, zs P, vi w] 42 2 (planL H P w).length (df (planL H P w)) [vi (errP H P w)] := by
  refine ctrR _ Try.func20 rfl rfl Try.ntmps20 rfl fun w0 Z => ?_
  have hwd := wide_c w
  simp only [initT, List.map_cons, List.map_nil, Nat.zero_add, Nat.reduceAdd]
  refine cq_seq ?_
  refine cq_region ?_
  apply sq_g; exact g_assign (s := .av _) rfl; exact rfl
  apply sq_g; exact g_assign (s := .av (.val (.int _ _))) rfl; exact rfl
  refine sq_nil ?_
  refine sq_then ?_
  refine cq_seq ?_
  refine cq_seq ?_
  refine cq_region ?_
  apply sq_g; exact g_move (s := .av _) rfl; exact rfl
  apply sq_g; exact g_move (s := .av _) rfl; exact rfl
  apply sq_g; exact  g_bslice_av (is := [0, 1]) (xs := [_, _]) (τs := [zs H, zs P]) (fun vs w h1 h2 => tq50_2 vs w h1 h2) rfl rfl rfl rfl rfl; exact rfl
  apply sq_g; exact g_len rfl; exact rfl
  apply sq_g; exact g_move (s := .av (.val (.int _ _))) rfl; exact rfl
  refine sq_nil ?_
  refine sq_then ?_
  refine cq_block ?_
  refine cq_loop (γ := Nat) (fun k => [(0, .av (zs H)), (1, .av (zs P)), (2, .av (vi w)), (21, .av (zss [H, P])), (22, .av (vi 2)), (23, .av (vi k))]) (fun _ => []) (fun k => k ≤ 2 ∧ (1 ≤ k → chkL [H] = 0) ∧ (2 ≤ k → chkL [P] = 0)) (fun k => 2 - k) 0 ⟨by omega, by omega, by omega⟩ (ent ⟨.refl _, .refl _, .refl _, .refl _, .refl _, .refl _, trivial⟩ trivial) ?_
  rintro k ⟨hk, hk1, hk2⟩
  refine cq_seq ?_
  refine cq_region ?_
  apply sq_g; exact g_cmp rfl rfl rfl; exact rfl
  refine sq_nil ?_
  refine sq_then ?_
  refine cq_seq ?_
  (refine cq_cond rfl (fun hb => ?_) (fun hb => ?_) <;> (try simp only [decide_eq_true_eq, decide_eq_false_iff_not, beq_iff_eq, beq_eq_false_iff_ne, bne_iff_ne, bne_eq_false_iff_eq, ne_eq, Bool.not_eq_true', Bool.not_eq_false', Bool.and_eq_true, Bool.or_eq_true, Bool.and_eq_false_iff, Bool.or_eq_false_iff] at hb) <;> (try (exfalso; omega)))
  · have hkl : k < 2 := by omega
    have hL := gl_zs (L := [H, P]) (k := k) hkl
    have hlen : [H, P].length = 2 := rfl
    have hchk := check1_c [gl [H, P] k] (by simp)
    refine cq_skip ?_
    refine sq_then ?_
    refine cq_seq ?_
    refine cq_block ?_
    refine cq_seq ?_
    refine cq_region ?_
    apply sq_g; exact g_index rfl rfl rfl (by omega); exact rfl
    apply sq_g; exact  g_load (τ := zs (gl [H, P] k)) rfl rfl hL; exact rfl
    apply sq_g; exact g_assign (s := .av _) rfl; exact rfl
    refine sq_nil ?_
    refine sq_then ?_
    refine cq_seq ?_
    refine cq_region ?_
    apply sq_g; exact g_move (s := .av _) rfl; exact rfl
    apply sq_g; exact  g_bslice_av (is := [0]) (xs := [_]) (τs := [zs (gl [H, P] k)]) (fun vs w h1 h2 => tq50_1 vs w h1 h2) rfl rfl rfl rfl rfl; exact rfl
    apply sq_g; exact g_call (hchk) rfl; exact rfl
    apply sq_g; exact g_assign (s := .av (.val (.int _ _))) rfl; exact rfl
    refine sq_nil ?_
    refine sq_then ?_
    refine cq_seq ?_
    refine cq_region ?_
    apply sq_g; exact g_move (s := .av (.val (.int _ _))) rfl; exact rfl
    apply sq_g; exact g_cmp rfl rfl rfl; exact rfl
    refine sq_nil ?_
    refine sq_then ?_
    (refine cq_cond rfl (fun hb => ?_) (fun hb => ?_) <;> (try simp only [decide_eq_true_eq, decide_eq_false_iff_not, beq_iff_eq, beq_eq_false_iff_ne, bne_iff_ne, bne_eq_false_iff_eq, ne_eq, Bool.not_eq_true', Bool.not_eq_false', Bool.and_eq_true, Bool.or_eq_true, Bool.and_eq_false_iff, Bool.or_eq_false_iff] at hb) <;> (try (exfalso; omega)))
    · have e1 : errP H P w = chkL [gl [H, P] k] := by
        unfold errP
        match k, hkl, hb, hk1 with
        | 0, _, hb, _ => rw [if_pos (show chkL [H] ≠ 0 from hb)]; rfl
        | 1, _, hb, hk1 => rw [if_neg (by have := hk1 (by omega); omega), if_pos (show chkL [P] ≠ 0 from hb)]; rfl
      have e2 : planL H P w = [] := by unfold planL; rw [if_neg (by omega)]
      rw [e1, e2]
      refine cq_seq ?_
      refine cq_region ?_
      apply sq_g; exact g_move (s := .av (.val (.int _ _))) rfl; exact rfl
      apply sq_g; exact g_assign (s := .av _) rfl; exact rfl
      apply sq_g; exact g_assign (s := .av (.val (.int _ _))) rfl; exact rfl
      refine sq_nil ?_
      refine sq_then ?_
      refine cq_ret ?_
      refine sq_inBlock_ret ?_
      refine sq_then_ret ?_
      refine sq_then_ret ?_
      refine sq_inBlock_ret ?_
      refine sq_then_ret ?_
      exact sq_retRN_nil rfl rfl rfl (τs := [vi (chkL [gl [H, P] k])]) ⟨.tmp rfl, trivial⟩ rfl
    · refine cq_skip ?_
      refine sq_then ?_
      refine cq_region ?_
      apply sq_g; exact g_arith rfl rfl rfl (by omega); exact rfl
      apply sq_g; exact g_move (s := .av (.val (.int _ _))) rfl; exact rfl
      refine sq_nil ?_
      refine sq_round (k + 1) ⟨by omega, fun h => ?_, fun h => ?_⟩ (by omega) (ent ⟨.refl _, .refl _, .refl _, .refl _, .refl _, .int (by omega), trivial⟩ trivial)
      · match k, hkl, hb, hk1 with
        | 0, _, hb, _ => exact hb
        | 1, _, _, hk1 => exact hk1 (by omega)
      · match k, hkl, hb with
        | 0, _, hb => omega
        | 1, _, hb => exact hb
  · have hkl : k = 2 := by omega
    subst hkl
    have h1 := hk1 (by omega)
    have h2 := hk2 (by omega)
    refine cq_exit ?_
    refine sq_then ?_
    refine cq_seq ?_
    refine cq_seq ?_
    refine cq_region ?_
    apply sq_g; exact g_move (s := .av (.val (.int _ _))) rfl; exact rfl
    apply sq_g; exact g_call (hwd) rfl; exact rfl
    apply sq_g; exact g_not rfl; exact rfl
    refine sq_nil ?_
    refine sq_then ?_
    refine cq_cond rfl (fun hb => ?_) (fun hb => ?_)
    · have hw : wideB w = false := by simpa using hb
      have e1 : errP H P w = 2 := by unfold errP; rw [if_neg (by omega), if_neg (by omega), hw]; rfl
      have e2 : planL H P w = [] := by unfold planL; rw [if_neg (by omega)]
      rw [e1, e2]
      refine cq_seq ?_
      refine cq_region ?_
      apply sq_g; exact g_assign (s := .av _) rfl; exact rfl
      apply sq_g; exact g_assign (s := .av (.val (.int _ _))) rfl; exact rfl
      refine sq_nil ?_
      refine sq_then ?_
      refine cq_ret ?_
      refine sq_then_ret ?_
      exact sq_retRN_nil rfl rfl rfl (τs := [vi 2]) ⟨.tmp rfl, trivial⟩ rfl
    · have hw : wideB w = true := by simpa using hb
      have e1 : errP H P w = 0 := by unfold errP; rw [if_neg (by omega), if_neg (by omega), hw]; rfl
      have e2 : planL H P w = planK (minL H P w) (quots H w) (quots P w) := by unfold planL; rw [if_pos e1]
      rw [e1, e2]
      have hw1 : 1 ≤ w ∧ w ≤ 100000 := by unfold wideB at hw; simpa using hw
      have hrH := chk1_ok h1
      have hrP := chk1_ok h2
      have gH := grouped_c H w hrH ⟨hw1.1, by omega⟩
      have gP := grouped_c P w hrP ⟨hw1.1, by omega⟩
      refine cq_skip ?_
      refine sq_then ?_
      refine cq_seq ?_
      refine cq_region ?_
      refine sq_v (f_makeMap 60 (fun _ => 0) rfl) rfl ?_
      apply sq_g; exact g_assign (s := .osl _) rfl; exact rfl
      refine sq_nil ?_
      refine sq_then ?_
      refine cq_seq ?_
      refine cq_seq ?_
      refine cq_region ?_
      apply sq_g; exact g_move (s := .av _) rfl; exact rfl
      apply sq_g; exact g_move (s := .av (.val (.int _ _))) rfl; exact rfl
      apply sq_g; exact g_call (gH) rfl; exact rfl
      refine sq_v (f_range 61 rfl rfl) rfl ?_
      refine sq_nil ?_
      refine sq_then ?_
      refine cq_block ?_
      have l1 : (quots H w).length ≤ 256 := by have := hrH.len; simp [quots]; omega
      have l2 : (quots P w).length ≤ 256 := by have := hrP.len; simp [quots]; omega
      have l3 := dd_len (quots P w)
      have q1 : ∀ a ∈ quots H w, 0 ≤ a ∧ a ≤ 100000 := fun a ha => hrH.q hw1.1 ha
      have q2 : ∀ a ∈ quots P w, 0 ≤ a ∧ a ≤ 100000 := fun a ha => hrP.q hw1.1 ha
      have hmin : ∀ a b, 0 ≤ minL H P w a b ∧ minL H P w a b ≤ 256 := fun a b => by
        have := idx_len H w H.length a
        have := hrH.len
        unfold minL; omega
      have hcb := fun (L : List (Int × Int)) (d : Int) => cntC_bd (minL H P w) 256 (by omega) hmin d L
      refine cq_loop (γ := List Int × Option Int × List (Int × Int)) (fun _ => [(1, .av (zs P)), (2, .av (vi w)), (11, .osl 60), (41, .osl 61)]) (fun g => [(60, .im Try.prog 3 (keysC g.2.2) g.2.2.length (cntC (minL H P w) g.2.2)), (61, .it Try.prog 3 (quots H w) H.length (fun a => zs (idx H w H.length a)) g.1 g.2.1)]) (fun g => g.1.Nodup ∧ (∀ a ∈ g.1, a ∈ quots H w) ∧ g.1.length + leftK (quots H w) g.1 ≤ (quots H w).length ∧ g.2.2.Perm (prodK g.1 (dd (quots P w)))) (fun g => leftK (quots H w) g.1) ([], none, []) ⟨List.nodup_nil, fun _ h => (by cases h), by have := leftK_le (quots H w) []; simpa using this, List.Perm.refl _⟩ (ent ⟨.refl _, .refl _, .refl _, .refl _, trivial⟩ ⟨⟨_, rfl, .refl _⟩, ⟨_, rfl, .refl _⟩, trivial⟩) ?_
      rintro ⟨vis, cur, L⟩ ⟨hn1, hs1, hc1, hp1⟩
      dsimp only at hn1 hs1 hc1 hp1 ⊢
      have hLl : L.length ≤ 65536 := by rw [hp1.length_eq, prodK_len]; exact sq256 (by omega) (by omega)
      refine cq_seq ?_
      refine cq_region ?_
      refine it_next (k := 3) Try.underlying3 rfl rfl rfl (fun hdone => ?_) (fun a ha hna => ?_)
      · apply sq_g; exact g_extractT rfl rfl; exact rfl
        refine sq_nil ?_
        refine sq_then ?_
        refine cq_seq ?_
        refine cq_cond_f rfl ?_
        refine cq_exit ?_
        refine sq_then ?_
        refine cq_seq ?_
        refine cq_region ?_
        apply sq_g; exact g_assign (s := .av _) rfl; exact rfl
        refine sq_nil ?_
        refine sq_then ?_
        refine cq_seq ?_
        refine cq_seq ?_
        refine cq_region ?_
        apply sq_g; exact g_move (s := .osl _) rfl; exact rfl
        have hpf : L.Perm (prodK (dd (quots H w)) (dd (quots P w))) := hp1.trans (prodK_perm (perm_dd hn1 hs1 hdone) (List.Perm.refl _))
        have hkl : (keysC L).length ≤ 65536 := by simpa [keysC] using hLl
        have hcL := hcb L
        refine lsq_more (Ent.trans (ent_freeze_im 60 rfl) (ent (T' := [(16, .av (.val (.slice none 0 0))), (67, .av (.mp Try.prog 3 (keysC L) L.length (fun a => .val (.int .i64 (cntC (minL H P w) L a)))))]) (O' := []) ⟨.refl _, .refl _, trivial⟩ trivial)) ?_
        have hkm : ∀ d ∈ keysC L, -100000 ≤ d ∧ d ≤ 100000 := fun d hd => by
          obtain ⟨p, hp, rfl⟩ := List.mem_map.1 hd
          have := hpf.mem_iff.1 hp
          unfold prodK at this
          obtain ⟨a, ha, h⟩ := List.mem_flatMap.1 this
          obtain ⟨b, hb, rfl⟩ := List.mem_map.1 h
          have := q1 a (mem_dd.1 ha)
          have := q2 b (mem_dd.1 hb)
          dsimp only; omega
        refine sq_v (f_range 63 rfl rfl) rfl ?_
        refine sq_nil ?_
        refine sq_then ?_
        refine cq_block ?_
        refine cq_loop (γ := List Int × Option Int) (fun _ => [(16, .osl 70), (68, .osl 63)]) (fun g => [(63, .it Try.prog 3 (keysC L) L.length (fun a => .val (.int .i64 (cntC (minL H P w) L a))) g.1 g.2), (70, .row 42 2 (g.1.map (fun d => (d, cntC (minL H P w) L d))).length (df (g.1.map (fun d => (d, cntC (minL H P w) L d)))))]) (fun g => g.1.Nodup ∧ (∀ d ∈ g.1, d ∈ keysC L) ∧ g.1.length + leftK (keysC L) g.1 ≤ (keysC L).length) (fun g => leftK (keysC L) g.1) ([], none) ⟨List.nodup_nil, fun _ h => (by cases h), by have := leftK_le (keysC L) []; simpa using this⟩ (Ent.trans (ent_row (dd := 16) 70 42 2 (df []) rfl rfl) (ent ⟨.refl _, .refl _, trivial⟩ ⟨⟨_, rfl, .refl _⟩, ⟨_, rfl, .refl _⟩, trivial⟩)) ?_
        rintro ⟨vis3, cur3⟩ ⟨hn3, hs3, hc3⟩
        dsimp only at hn3 hs3 hc3 ⊢
        refine cq_seq ?_
        refine cq_region ?_
        refine it_next (k := 3) Try.underlying3 rfl rfl rfl (fun hdone => ?_) (fun d hd hnd => ?_)
        · have hlen3 : (vis3.map (fun d => (d, cntC (minL H P w) L d))).length ≤ 1000000 := by rw [List.length_map]; omega
          have hnd3 : ((vis3.map (fun d => (d, cntC (minL H P w) L d))).map (·.1)).Nodup := by rw [List.map_map]; simpa [Function.comp_def] using hn3
          have hsf := sortf_c (vis3.map (fun d => (d, cntC (minL H P w) L d))) hnd3 hlen3
          have hfin : sortP (vis3.map (fun d => (d, cntC (minL H P w) L d))) = planK (minL H P w) (quots H w) (quots P w) := by
            rw [sortP_map (g := fun d => cntC (minL H P w) L d) (ks := keysC (prodK (dd (quots H w)) (dd (quots P w)))) hn3 (fun d => ⟨fun h => (keysC_perm hpf d).1 (hs3 d h), fun h => hdone d ((keysC_perm hpf d).2 h)⟩)]
            unfold planK
            exact List.map_congr_left fun d _ => by rw [cntC_perm _ hpf]
          rw [hfin] at hsf
          have hlfin : (vis3.map (fun d => (d, cntC (minL H P w) L d))).length = (planK (minL H P w) (quots H w) (quots P w)).length := by rw [← hfin]; simp [sortP]
          apply sq_g; exact g_extractT rfl rfl; exact rfl
          refine sq_nil ?_
          refine sq_then ?_
          refine cq_seq ?_
          refine cq_cond_f rfl ?_
          refine cq_exit ?_
          refine sq_then ?_
          refine cq_seq ?_
          refine cq_region ?_
          apply sq_g; exact g_move (s := .osl _) rfl; exact rfl
          refine sq_v (v_call_w (hsf) rfl rfl rfl) rfl ?_
          refine sq_nil ?_
          refine sq_then ?_
          refine cq_seq ?_
          refine cq_region ?_
          apply sq_g; exact g_move (s := .osl _) rfl; exact rfl
          apply sq_g; exact g_assign (s := .osl _) rfl; exact rfl
          apply sq_g; exact g_assign (s := .av (.val (.int _ _))) rfl; exact rfl
          refine sq_nil ?_
          refine sq_then ?_
          refine cq_ret ?_
          exact sq_retRN rfl rfl rfl hlfin (fun _ _ _ _ => rfl) (τs := [vi 0]) ⟨.tmp rfl, trivial⟩ rfl
        · have hd1 := hkm d hd
          have hlt := leftK_lt hd hnd
          have hlen3 : (vis3.map (fun d => (d, cntC (minL H P w) L d))).length ≤ 65536 := by rw [List.length_map]; omega
          have hml : (vis3.map (fun d => (d, cntC (minL H P w) L d))).length + 1 ≤ maxLen := by simp only [maxLen]; omega
          apply sq_g; exact g_extractT rfl rfl; exact rfl
          refine sq_nil ?_
          refine sq_then ?_
          refine cq_seq ?_
          refine cq_cond_t rfl ?_
          refine cq_skip ?_
          refine sq_then ?_
          refine cq_block ?_
          refine cq_seq ?_
          refine cq_region ?_
          apply sq_g; exact  g_entry rfl rfl; exact rfl
          apply sq_g; exact g_extractT rfl rfl; exact rfl
          apply sq_g; exact g_extractT rfl rfl; exact rfl
          apply sq_g; exact g_assign (s := .av (.val (.int _ _))) rfl; exact rfl
          apply sq_g; exact g_assign (s := .av (.val (.int _ _))) rfl; exact rfl
          refine sq_nil ?_
          refine sq_then ?_
          refine cq_region ?_
          apply sq_g; exact g_move (s := .osl _) rfl; exact rfl
          apply sq_g; exact g_move (s := .av (.val (.int _ _))) rfl; exact rfl
          apply sq_g; exact g_move (s := .av (.val (.int _ _))) rfl; exact rfl
          apply sq_g; exact g_build (is := [0, 1]) (xs := [_, _]) (vs := [_, _]) (tb42 _ _) rfl rfl; exact rfl
          apply sq_g; exact  g_bslice (is := [0]) (xs := [_]) (vs := [_]) (us := [_, _]) (tq33 _ _) rfl rfl rfl (df_row _ _); exact rfl
          refine sq_v (v_append (h := df [(d, cntC (minL H P w) L d)]) (m := 1) rfl rfl rfl (fun i _ j _ => df_one _ i j) (by omega) hml (by omega)) rfl ?_
          apply sq_g; exact g_assign (s := .osl _) rfl; exact rfl
          refine sq_nil ?_
          refine sq_inBlock ?_
          refine sq_round (g := (vis3, cur3)) (vis3 ++ [d], some d) ⟨List.nodup_append.2 ⟨hn3, List.nodup_cons.2 ⟨List.not_mem_nil, List.nodup_nil⟩, fun x hx y hy e => by rw [List.mem_singleton.1 hy] at e; exact hnd (e ▸ hx)⟩, fun x hx => (List.mem_append.1 hx).elim (hs3 x) (fun h => by rw [List.mem_singleton.1 h]; exact hd), by dsimp only; rw [List.length_append, List.length_singleton]; omega⟩ hlt ?_
          dsimp only
          rw [List.map_append]
          exact ent ⟨.refl _, .refl _, trivial⟩ ⟨⟨_, rfl, .refl _⟩, ⟨_, rfl, .row (by simp) (df_app _ _)⟩, trivial⟩
      · have ha1 := q1 a ha
        apply sq_g; exact g_extractT rfl rfl; exact rfl
        refine sq_nil ?_
        refine sq_then ?_
        refine cq_seq ?_
        refine cq_cond_t rfl ?_
        refine cq_skip ?_
        refine sq_then ?_
        refine cq_block ?_
        refine cq_seq ?_
        refine cq_region ?_
        apply sq_g; exact  g_entry rfl rfl; exact rfl
        apply sq_g; exact g_extractT rfl rfl; exact rfl
        apply sq_g; exact g_extractT rfl rfl; exact rfl
        apply sq_g; exact g_assign (s := .av (.val (.int _ _))) rfl; exact rfl
        apply sq_g; exact g_assign (s := .av _) rfl; exact rfl
        refine sq_nil ?_
        refine sq_then ?_
        refine cq_seq ?_
        refine cq_region ?_
        apply sq_g; exact g_move (s := .av _) rfl; exact rfl
        apply sq_g; exact g_move (s := .av (.val (.int _ _))) rfl; exact rfl
        apply sq_g; exact g_call (gP) rfl; exact rfl
        refine sq_v (f_range 62 rfl rfl) rfl ?_
        refine sq_nil ?_
        refine sq_then ?_
        refine cq_block ?_
        refine cq_loop (γ := List Int × Option Int) (fun _ => [(1, .av (zs P)), (2, .av (vi w)), (11, .osl 60), (41, .osl 61), (12, .av (vi a)), (13, .av (zs (idx H w H.length a))), (50, .osl 62)]) (fun g => [(60, .im Try.prog 3 (keysC (L ++ g.1.map (fun b => (a, b)))) (L ++ g.1.map (fun b => (a, b))).length (cntC (minL H P w) (L ++ g.1.map (fun b => (a, b))))), (61, .it Try.prog 3 (quots H w) H.length (fun a => zs (idx H w H.length a)) (vis ++ [a]) (some a)), (62, .it Try.prog 3 (quots P w) P.length (fun a => zs (idx P w P.length a)) g.1 g.2)]) (fun g => g.1.Nodup ∧ (∀ b ∈ g.1, b ∈ quots P w) ∧ g.1.length + leftK (quots P w) g.1 ≤ (quots P w).length) (fun g => leftK (quots P w) g.1) ([], none) ⟨List.nodup_nil, fun _ h => (by cases h), by have := leftK_le (quots P w) []; simpa using this⟩ (ent ⟨.refl _, .refl _, .refl _, .refl _, .refl _, .refl _, .refl _, trivial⟩ ⟨⟨_, rfl, by rw [List.map_nil, List.append_nil]; exact .refl _⟩, ⟨_, rfl, .refl _⟩, ⟨_, rfl, .refl _⟩, trivial⟩) ?_
        rintro ⟨vis2, cur2⟩ ⟨hn2, hs2, hc2⟩
        dsimp only at hn2 hs2 hc2 ⊢
        refine cq_seq ?_
        refine cq_region ?_
        refine it_next (k := 3) Try.underlying3 rfl rfl rfl (fun hdone => ?_) (fun b hbk hnb => ?_)
        · apply sq_g; exact g_extractT rfl rfl; exact rfl
          refine sq_nil ?_
          refine sq_then ?_
          refine cq_seq ?_
          refine cq_cond_f rfl ?_
          refine cq_exit ?_
          refine sq_then_exit ?_
          refine sq_then_exit ?_
          refine sq_inBlock_exit ?_
          refine sq_inBlock ?_
          have hlt := leftK_lt ha hna
          exact sq_round (g := (vis, cur, L)) (vis ++ [a], some a, L ++ vis2.map (fun b => (a, b))) ⟨List.nodup_append.2 ⟨hn1, List.nodup_cons.2 ⟨List.not_mem_nil, List.nodup_nil⟩, fun x hx y hy e => by rw [List.mem_singleton.1 hy] at e; exact hna (e ▸ hx)⟩, fun x hx => (List.mem_append.1 hx).elim (hs1 x) (fun h => by rw [List.mem_singleton.1 h]; exact ha), by dsimp only; rw [List.length_append, List.length_singleton]; omega, by dsimp only; rw [prodK_snoc]; exact hp1.append ((perm_dd hn2 hs2 hdone).map _)⟩ hlt (ent ⟨.refl _, .refl _, .refl _, .refl _, trivial⟩ ⟨⟨_, rfl, .refl _⟩, ⟨_, rfl, .refl _⟩, trivial⟩)
        · have hb1 := q2 b hbk
          generalize hLL : L ++ vis2.map (fun b => (a, b)) = LL
          have hLLl : LL.length ≤ 70000 := by rw [← hLL, List.length_append, List.length_map]; omega
          have hcLL := hcb LL (a - b)
          have hi1 := idx_len H w H.length a
          have hi2 := idx_len P w P.length b
          have hH256 := hrH.len
          have hmx : LL.length < maxLen := by simp only [maxLen]; omega
          have hif : (if a - b ∈ keysC LL then cntC (minL H P w) LL (a - b) else 0) = cntC (minL H P w) LL (a - b) := by
            split
            · rfl
            · rename_i h; exact (cntC_out _ _ _ h).symm
          apply sq_g; exact g_extractT rfl rfl; exact rfl
          refine sq_nil ?_
          refine sq_then ?_
          refine cq_seq ?_
          refine cq_cond_t rfl ?_
          refine cq_skip ?_
          refine sq_then ?_
          refine cq_block ?_
          refine cq_seq ?_
          refine cq_region ?_
          apply sq_g; exact  g_entry rfl rfl; exact rfl
          apply sq_g; exact g_extractT rfl rfl; exact rfl
          apply sq_g; exact g_extractT rfl rfl; exact rfl
          apply sq_g; exact g_assign (s := .av (.val (.int _ _))) rfl; exact rfl
          apply sq_g; exact g_assign (s := .av _) rfl; exact rfl
          refine sq_nil ?_
          refine sq_then ?_
          refine cq_region ?_
          apply sq_g; exact g_move (s := .osl _) rfl; exact rfl
          apply sq_g; exact g_move (s := .av (.val (.int _ _))) rfl; exact rfl
          apply sq_g; exact g_move (s := .av (.val (.int _ _))) rfl; exact rfl
          apply sq_g; exact g_arith rfl rfl rfl (by omega); exact rfl
          apply sq_g; exact  g_lookup_im (fun w => by kernel_rfl) rfl rfl rfl (by omega); exact rfl
          apply sq_g; exact g_move (s := .av _) rfl; exact rfl
          apply sq_g; exact g_len rfl; exact rfl
          apply sq_g; exact g_move (s := .av _) rfl; exact rfl
          apply sq_g; exact g_len rfl; exact rfl
          apply sq_g; exact g_min rfl rfl; exact rfl
          apply sq_g; exact g_arith rfl rfl rfl (by omega); exact rfl
          refine sq_s (g_update_im rfl rfl rfl rfl (by omega) hmx) ?_
          refine sq_nil ?_
          refine sq_inBlock ?_
          have hLL' : L ++ (vis2 ++ [b]).map (fun b => (a, b)) = LL ++ [(a, b)] := by rw [List.map_append, ← List.append_assoc, hLL]; rfl
          have hlt := leftK_lt hbk hnb
          refine sq_round (g := (vis2, cur2)) (vis2 ++ [b], some b) ⟨List.nodup_append.2 ⟨hn2, List.nodup_cons.2 ⟨List.not_mem_nil, List.nodup_nil⟩, fun x hx y hy e => by rw [List.mem_singleton.1 hy] at e; exact hnb (e ▸ hx)⟩, fun x hx => (List.mem_append.1 hx).elim (hs2 x) (fun h => by rw [List.mem_singleton.1 h]; exact hbk), by dsimp only; rw [List.length_append, List.length_singleton]; omega⟩ hlt ?_
          dsimp only
          rw [hLL']
          refine Ent.trans (ent_im 60 rfl (ks' := keysC (LL ++ [(a, b)])) (n' := (LL ++ [(a, b)]).length) (c' := cntC (minL H P w) (LL ++ [(a, b)])) (fun x => ?_) (by simp) (fun x _ => ?_)) (ent ⟨.refl _, .refl _, .refl _, .refl _, .refl _, .refl _, .refl _, trivial⟩ ⟨⟨_, rfl, .refl _⟩, ⟨_, rfl, .refl _⟩, ⟨_, rfl, .refl _⟩, trivial⟩)
          · rw [mem_insK]
            simp only [keysC, List.map_append, List.map_cons, List.map_nil, List.mem_append, List.mem_singleton]
            exact or_comm
          · rw [cntC_snoc, hif]
            by_cases hx : x = a - b
            · rw [if_pos hx, if_pos hx, hx]
              unfold minL
              split <;> omega
            · rw [if_neg hx, if_neg hx]
end Go.Proofs.Ytogilkilkmoedaa
namespace Go.Proofs.Ytogilkilkmoedaa
open Go Go.Vc Go.RowKit
set_option maxHeartbeats 8000000
/-! KDQ -/
theorem CtrR.told {P : Program} {f : FuncId} {args : List AV} {ety sz n n' : Nat} {fr fr' : Nat → Nat → AV} {ρs : List AV} (h : CtrR P f args ety sz n fr ρs) (hn : n = n') (he : ∀ i, i < n → ∀ j, j < sz → fr i j = fr' i j) : CtrR P f args ety sz n' fr' ρs := by
  subst hn
  refine ⟨h.enters, fun w Z vs hZ hvs => (h.calls w Z vs hZ hvs).mono ?_⟩
  rintro e w' ⟨v, r, Z', h1, h2, h3, h4, h5, h6, h7⟩
  refine ⟨v, r, Z', h1, h2, h3, h4, h5, h6, ?_⟩
  rcases h7 with h7 | ⟨b, cap, arr, e1, e2, e3, e4, e5, e6, e7, e8⟩
  · exact .inl h7
  · exact .inr ⟨b, cap, arr, e1, e2, e3, e4, e5, e6, e7, fun i hi j hj => by rw [← he i hi j hj]; exact e8 i hi j hj⟩
def hasZ (l : List Int) (v : Int) : Bool := (List.range l.length).any (fun k => gz l k == v)
theorem index_c (l : List Int) (v : Int) (hn : l.length ≤ 1000000) : CtrA Try.prog 62 [zs l, vi v] (vi (ixB (fun k => gz l k == v) l.length)) := by
  refine ctrA _ Try.func62 rfl rfl Try.ntmps62 rfl fun w Z => ?_
  simp only [initT, List.map_cons, List.map_nil, Nat.zero_add, Nat.reduceAdd]
  refine cq_seq ?_
  refine cq_region ?_
  apply sq_g; exact g_assign (s := .av (.val (.int _ _))) rfl; exact rfl
  refine sq_nil ?_
  refine sq_then ?_
  refine cq_seq ?_
  refine cq_seq ?_
  refine cq_region ?_
  apply sq_g; exact g_move (s := .av _) rfl; exact rfl
  apply sq_g; exact g_len rfl; exact rfl
  apply sq_g; exact g_move (s := .av (.val (.int _ _))) rfl; exact rfl
  refine sq_nil ?_
  refine sq_then ?_
  refine cq_block ?_
  refine cq_loop (γ := Nat) (fun k => [(0, .av (zs l)), (1, .av (vi v)), (6, .av (zs l)), (7, .av (vi l.length)), (8, .av (vi k))]) (fun _ => []) (fun k => k ≤ l.length ∧ ∀ j, j < k → (gz l j == v) = false) (fun k => l.length - k) 0 ⟨Nat.zero_le _, by omega⟩ (ent ⟨.refl _, .refl _, .refl _, .refl _, .refl _, trivial⟩ trivial) ?_
  rintro k ⟨hk, hall⟩
  refine cq_seq ?_
  refine cq_region ?_
  apply sq_g; exact g_cmp rfl rfl rfl; exact rfl
  refine sq_nil ?_
  refine sq_then ?_
  refine cq_seq ?_
  (refine cq_cond rfl (fun hb => ?_) (fun hb => ?_) <;> (try simp only [decide_eq_true_eq, decide_eq_false_iff_not, beq_iff_eq, beq_eq_false_iff_ne, bne_iff_ne, bne_eq_false_iff_eq, ne_eq, Bool.not_eq_true', Bool.not_eq_false', Bool.and_eq_true, Bool.or_eq_true, Bool.and_eq_false_iff, Bool.or_eq_false_iff] at hb) <;> (try (exfalso; omega)))
  · have hkl : k < l.length := by omega
    refine cq_skip ?_
    refine sq_then ?_
    refine cq_seq ?_
    refine cq_block ?_
    refine cq_seq ?_
    refine cq_region ?_
    apply sq_g; exact g_move (s := .av (.val (.int _ _))) rfl; exact rfl
    apply sq_g; exact g_assign (s := .av (.val (.int _ _))) rfl; exact rfl
    refine sq_nil ?_
    refine sq_then ?_
    refine cq_seq ?_
    refine cq_region ?_
    apply sq_g; exact g_move (s := .av (.val (.int _ _))) rfl; exact rfl
    apply sq_g; exact g_move (s := .av _) rfl; exact rfl
    apply sq_g; exact g_move (s := .av (.val (.int _ _))) rfl; exact rfl
    apply sq_g; exact g_index rfl rfl rfl (by omega); exact rfl
    apply sq_g; exact g_load (τ := .val (.int _ _)) rfl rfl rfl; exact rfl
    apply sq_g; exact g_cmp rfl rfl rfl; exact rfl
    refine sq_nil ?_
    refine sq_then ?_
    (refine cq_cond rfl (fun hb => ?_) (fun hb => ?_) <;> (try simp only [decide_eq_true_eq, decide_eq_false_iff_not, beq_iff_eq, beq_eq_false_iff_ne, bne_iff_ne, bne_eq_false_iff_eq, ne_eq, Bool.not_eq_true', Bool.not_eq_false', Bool.and_eq_true, Bool.or_eq_true, Bool.and_eq_false_iff, Bool.or_eq_false_iff] at hb) <;> (try (exfalso; omega)))
    · have e1 := ixB_hit (p := fun k => gz l k == v) hkl hall (beq_iff_eq.2 hb.symm)
      refine cq_seq ?_
      refine cq_region ?_
      apply sq_g; exact g_move (s := .av (.val (.int _ _))) rfl; exact rfl
      apply sq_g; exact g_assign (s := .av (.val (.int _ _))) rfl; exact rfl
      refine sq_nil ?_
      refine sq_then ?_
      refine cq_ret ?_
      refine sq_inBlock_ret ?_
      refine sq_then_ret ?_
      refine sq_then_ret ?_
      refine sq_inBlock_ret ?_
      refine sq_then_ret ?_
      exact sq_res1 rfl (.tmp rfl) (by rw [e1])
    · refine cq_skip ?_
      refine sq_then ?_
      refine cq_region ?_
      apply sq_g; exact g_arith rfl rfl rfl (by omega); exact rfl
      apply sq_g; exact g_move (s := .av (.val (.int _ _))) rfl; exact rfl
      refine sq_nil ?_
      exact sq_round (k + 1) ⟨by omega, lt_step hall (beq_eq_false_iff_ne.2 (fun e => hb e.symm))⟩ (by omega) (ent ⟨.refl _, .refl _, .refl _, .refl _, .int (by omega), trivial⟩ trivial)
  · have hkl : k = l.length := by omega
    subst hkl
    have e1 := ixB_no (p := fun k => gz l k == v) hall
    refine cq_exit ?_
    refine sq_then ?_
    refine cq_seq ?_
    refine cq_region ?_
    apply sq_g; exact g_assign (s := .av (.val (.int _ _))) rfl; exact rfl
    refine sq_nil ?_
    refine sq_then ?_
    refine cq_ret ?_
    exact sq_res1 rfl (.tmp rfl) (by rw [e1])
theorem contains_c (l : List Int) (v : Int) (hn : l.length ≤ 1000000) : CtrA Try.prog 37 [zs l, vi v] (vb (hasZ l v)) := by
  refine ctrA _ Try.func37 rfl rfl Try.ntmps37 rfl fun w Z => ?_
  simp only [initT, List.map_cons, List.map_nil, Nat.zero_add, Nat.reduceAdd]
  refine cq_seq ?_
  refine cq_region ?_
  apply sq_g; exact g_assign (s := .av (.val (.bool _))) rfl; exact rfl
  refine sq_nil ?_
  refine sq_then ?_
  refine cq_seq ?_
  refine cq_region ?_
  apply sq_g; exact g_move (s := .av _) rfl; exact rfl
  apply sq_g; exact g_move (s := .av (.val (.int _ _))) rfl; exact rfl
  apply sq_g; exact g_call (index_c l v hn) rfl; exact rfl
  apply sq_g; exact g_cmp rfl rfl rfl; exact rfl
  apply sq_g; exact g_assign (s := .av (.val (.bool _))) rfl; exact rfl
  refine sq_nil ?_
  refine sq_then ?_
  refine cq_ret ?_
  exact sq_res1 rfl (.tmp rfl) (congrArg vb (ixB_any _ _))
def eqZ (a b : List Int) : Bool := decide (a.length = b.length) && (List.range a.length).all (fun k => gz a k == gz b k)
theorem all_yes {p : Nat → Bool} {n : Nat} (h : ∀ k, k < n → p k = true) : (List.range n).all p = true := List.all_eq_true.2 fun k hk => h k (List.mem_range.1 hk)
theorem all_no {p : Nat → Bool} {n k : Nat} (hk : k < n) (h : p k = false) : (List.range n).all p = false := by
  rw [Bool.eq_false_iff]
  intro h2
  have := List.all_eq_true.1 h2 k (List.mem_range.2 hk)
  rw [h] at this; cases this
theorem equalz_c (a b : List Int) (hn : a.length ≤ 1000000) : CtrA Try.prog 31 [zs a, zs b] (vb (eqZ a b)) := by
  refine ctrA _ Try.func31 rfl rfl Try.ntmps31 rfl fun w Z => ?_
  simp only [initT, List.map_cons, List.map_nil, Nat.zero_add, Nat.reduceAdd]
  refine cq_seq ?_
  refine cq_region ?_
  apply sq_g; exact g_assign (s := .av (.val (.bool _))) rfl; exact rfl
  refine sq_nil ?_
  refine sq_then ?_
  refine cq_seq ?_
  refine cq_seq ?_
  refine cq_region ?_
  apply sq_g; exact g_move (s := .av _) rfl; exact rfl
  apply sq_g; exact g_len rfl; exact rfl
  apply sq_g; exact g_move (s := .av _) rfl; exact rfl
  apply sq_g; exact g_len rfl; exact rfl
  apply sq_g; exact g_cmp rfl rfl rfl; exact rfl
  refine sq_nil ?_
  refine sq_then ?_
  (refine cq_cond rfl (fun hb => ?_) (fun hb => ?_) <;> (try simp only [decide_eq_true_eq, decide_eq_false_iff_not, beq_iff_eq, beq_eq_false_iff_ne, bne_iff_ne, bne_eq_false_iff_eq, ne_eq, Bool.not_eq_true', Bool.not_eq_false', Bool.and_eq_true, Bool.or_eq_true, Bool.and_eq_false_iff, Bool.or_eq_false_iff] at hb) <;> (try (exfalso; omega)))
  · have e1 : eqZ a b = false := by unfold eqZ; rw [decide_eq_false (by omega)]; rfl
    refine cq_seq ?_
    refine cq_region ?_
    apply sq_g; exact g_assign (s := .av (.val (.bool _))) rfl; exact rfl
    refine sq_nil ?_
    refine sq_then ?_
    refine cq_ret ?_
    refine sq_then_ret ?_
    exact sq_res1 rfl (.tmp rfl) (by rw [e1])
  · have hl : a.length = b.length := by omega
    refine cq_skip ?_
    refine sq_then ?_
    refine cq_seq ?_
    refine cq_seq ?_
    refine cq_region ?_
    apply sq_g; exact g_move (s := .av _) rfl; exact rfl
    apply sq_g; exact g_len rfl; exact rfl
    apply sq_g; exact g_move (s := .av (.val (.int _ _))) rfl; exact rfl
    refine sq_nil ?_
    refine sq_then ?_
    refine cq_block ?_
    refine cq_loop (γ := Nat) (fun k => [(0, .av (zs a)), (1, .av (zs b)), (12, .av (vi a.length)), (13, .av (vi k))]) (fun _ => []) (fun k => k ≤ a.length ∧ ∀ j, j < k → (gz a j == gz b j) = true) (fun k => a.length - k) 0 ⟨Nat.zero_le _, by omega⟩ (ent ⟨.refl _, .refl _, .refl _, .refl _, trivial⟩ trivial) ?_
    rintro k ⟨hk, hall⟩
    refine cq_seq ?_
    refine cq_region ?_
    apply sq_g; exact g_cmp rfl rfl rfl; exact rfl
    refine sq_nil ?_
    refine sq_then ?_
    refine cq_seq ?_
    (refine cq_cond rfl (fun hb => ?_) (fun hb => ?_) <;> (try simp only [decide_eq_true_eq, decide_eq_false_iff_not, beq_iff_eq, beq_eq_false_iff_ne, bne_iff_ne, bne_eq_false_iff_eq, ne_eq, Bool.not_eq_true', Bool.not_eq_false', Bool.and_eq_true, Bool.or_eq_true, Bool.and_eq_false_iff, Bool.or_eq_false_iff] at hb) <;> (try (exfalso; omega)))
    · have hkl : k < a.length := by omega
      refine cq_skip ?_
      refine sq_then ?_
      refine cq_seq ?_
      refine cq_block ?_
      refine cq_seq ?_
      refine cq_region ?_
      apply sq_g; exact g_move (s := .av (.val (.int _ _))) rfl; exact rfl
      apply sq_g; exact g_assign (s := .av (.val (.int _ _))) rfl; exact rfl
      refine sq_nil ?_
      refine sq_then ?_
      refine cq_seq ?_
      refine cq_drawn ?_
      apply dq_g; exact g_move (s := .av _) rfl; exact rfl
      apply dq_g; exact g_move (s := .av (.val (.int _ _))) rfl; exact rfl
      apply dq_g; exact g_index rfl rfl rfl (by omega); exact rfl
      apply dq_g; exact g_load (τ := .val (.int _ _)) rfl rfl rfl; exact rfl
      apply dq_g; exact g_move (s := .av _) rfl; exact rfl
      apply dq_g; exact g_move (s := .av (.val (.int _ _))) rfl; exact rfl
      apply dq_g; exact g_index rfl rfl rfl (by omega); exact rfl
      apply dq_g; exact g_load (τ := .val (.int _ _)) rfl rfl rfl; exact rfl
      apply dq_g; exact g_cmp rfl rfl rfl; exact rfl
      refine dq_nil tm (by kernel_rfl) ?_
      refine sq_then ?_
      (refine cq_cond rfl (fun hb => ?_) (fun hb => ?_) <;> (try simp only [decide_eq_true_eq, decide_eq_false_iff_not, beq_iff_eq, beq_eq_false_iff_ne, bne_iff_ne, bne_eq_false_iff_eq, ne_eq, Bool.not_eq_true', Bool.not_eq_false', Bool.and_eq_true, Bool.or_eq_true, Bool.and_eq_false_iff, Bool.or_eq_false_iff] at hb) <;> (try (exfalso; omega)))
      · have e1 : eqZ a b = false := by unfold eqZ; rw [all_no (p := fun k => gz a k == gz b k) hkl (beq_eq_false_iff_ne.2 hb), Bool.and_false]
        refine cq_seq ?_
        refine cq_region ?_
        apply sq_g; exact g_assign (s := .av (.val (.bool _))) rfl; exact rfl
        refine sq_nil ?_
        refine sq_then ?_
        refine cq_ret ?_
        refine sq_inBlock_ret ?_
        refine sq_then_ret ?_
        refine sq_then_ret ?_
        refine sq_inBlock_ret ?_
        refine sq_then_ret ?_
        exact sq_res1 rfl (.tmp rfl) (by rw [e1])
      · refine cq_skip ?_
        refine sq_then ?_
        refine cq_region ?_
        apply sq_g; exact g_arith rfl rfl rfl (by omega); exact rfl
        apply sq_g; exact g_move (s := .av (.val (.int _ _))) rfl; exact rfl
        refine sq_nil ?_
        exact sq_round (k + 1) ⟨by omega, lt_step hall (beq_iff_eq.2 (by omega))⟩ (by omega) (ent ⟨.refl _, .refl _, .refl _, .int (by omega), trivial⟩ trivial)
    · have hkl : k = a.length := by omega
      subst hkl
      have e1 : eqZ a b = true := by unfold eqZ; rw [decide_eq_true hl, all_yes hall]; rfl
      refine cq_exit ?_
      refine sq_then ?_
      refine cq_seq ?_
      refine cq_region ?_
      apply sq_g; exact g_assign (s := .av (.val (.bool _))) rfl; exact rfl
      refine sq_nil ?_
      refine sq_then ?_
      refine cq_ret ?_
      exact sq_res1 rfl (.tmp rfl) (by rw [e1])
abbrev dfs (l : List (Int × Int)) : AV := .sl l.length 2 (df l)
def eqP (a b : List (Int × Int)) : Bool := decide (a.length = b.length) && (List.range a.length).all (fun k => gp a k == gp b k)
theorem equalp_c (a b : List (Int × Int)) (hn : a.length ≤ 1000000) : CtrA Try.prog 35 [dfs a, dfs b] (vb (eqP a b)) := by
  refine ctrA _ Try.func35 rfl rfl Try.ntmps35 rfl fun w Z => ?_
  simp only [initT, List.map_cons, List.map_nil, Nat.zero_add, Nat.reduceAdd]
  refine cq_seq ?_
  refine cq_region ?_
  apply sq_g; exact g_assign (s := .av (.val (.bool _))) rfl; exact rfl
  refine sq_nil ?_
  refine sq_then ?_
  refine cq_seq ?_
  refine cq_seq ?_
  refine cq_region ?_
  apply sq_g; exact g_move (s := .av _) rfl; exact rfl
  apply sq_g; exact g_len rfl; exact rfl
  apply sq_g; exact g_move (s := .av _) rfl; exact rfl
  apply sq_g; exact g_len rfl; exact rfl
  apply sq_g; exact g_cmp rfl rfl rfl; exact rfl
  refine sq_nil ?_
  refine sq_then ?_
  (refine cq_cond rfl (fun hb => ?_) (fun hb => ?_) <;> (try simp only [decide_eq_true_eq, decide_eq_false_iff_not, beq_iff_eq, beq_eq_false_iff_ne, bne_iff_ne, bne_eq_false_iff_eq, ne_eq, Bool.not_eq_true', Bool.not_eq_false', Bool.and_eq_true, Bool.or_eq_true, Bool.and_eq_false_iff, Bool.or_eq_false_iff] at hb) <;> (try (exfalso; omega)))
  · have e1 : eqP a b = false := by unfold eqP; rw [decide_eq_false (by omega)]; rfl
    refine cq_seq ?_
    refine cq_region ?_
    apply sq_g; exact g_assign (s := .av (.val (.bool _))) rfl; exact rfl
    refine sq_nil ?_
    refine sq_then ?_
    refine cq_ret ?_
    refine sq_then_ret ?_
    exact sq_res1 rfl (.tmp rfl) (by rw [e1])
  · have hl : a.length = b.length := by omega
    refine cq_skip ?_
    refine sq_then ?_
    refine cq_seq ?_
    refine cq_seq ?_
    refine cq_region ?_
    apply sq_g; exact g_move (s := .av _) rfl; exact rfl
    apply sq_g; exact g_len rfl; exact rfl
    apply sq_g; exact g_move (s := .av (.val (.int _ _))) rfl; exact rfl
    refine sq_nil ?_
    refine sq_then ?_
    refine cq_block ?_
    refine cq_loop (γ := Nat) (fun k => [(0, .av (dfs a)), (1, .av (dfs b)), (12, .av (vi a.length)), (13, .av (vi k))]) (fun _ => []) (fun k => k ≤ a.length ∧ ∀ j, j < k → (gp a j == gp b j) = true) (fun k => a.length - k) 0 ⟨Nat.zero_le _, by omega⟩ (ent ⟨.refl _, .refl _, .refl _, .refl _, trivial⟩ trivial) ?_
    rintro k ⟨hk, hall⟩
    refine cq_seq ?_
    refine cq_region ?_
    apply sq_g; exact g_cmp rfl rfl rfl; exact rfl
    refine sq_nil ?_
    refine sq_then ?_
    refine cq_seq ?_
    (refine cq_cond rfl (fun hb => ?_) (fun hb => ?_) <;> (try simp only [decide_eq_true_eq, decide_eq_false_iff_not, beq_iff_eq, beq_eq_false_iff_ne, bne_iff_ne, bne_eq_false_iff_eq, ne_eq, Bool.not_eq_true', Bool.not_eq_false', Bool.and_eq_true, Bool.or_eq_true, Bool.and_eq_false_iff, Bool.or_eq_false_iff] at hb) <;> (try (exfalso; omega)))
    · have hkl : k < a.length := by omega
      refine cq_skip ?_
      refine sq_then ?_
      refine cq_seq ?_
      refine cq_block ?_
      refine cq_seq ?_
      refine cq_region ?_
      apply sq_g; exact g_move (s := .av (.val (.int _ _))) rfl; exact rfl
      apply sq_g; exact g_assign (s := .av (.val (.int _ _))) rfl; exact rfl
      refine sq_nil ?_
      refine sq_then ?_
      refine cq_seq ?_
      refine cq_drawn ?_
      apply dq_g; exact g_move (s := .av _) rfl; exact rfl
      apply dq_g; exact g_move (s := .av (.val (.int _ _))) rfl; exact rfl
      apply dq_g; exact g_index rfl rfl rfl (by omega); exact rfl
      apply dq_g; exact g_load_agg (us := [.int _ _, .int _ _]) rfl rfl rfl rfl; exact rfl
      apply dq_g; exact g_move (s := .av _) rfl; exact rfl
      apply dq_g; exact g_move (s := .av (.val (.int _ _))) rfl; exact rfl
      apply dq_g; exact g_index rfl rfl rfl (by omega); exact rfl
      apply dq_g; exact g_load_agg (us := [.int _ _, .int _ _]) rfl rfl rfl rfl; exact rfl
      apply dq_g; exact  g_neq (xs := [(gp a k).1, (gp a k).2]) (ys := [(gp b k).1, (gp b k).2]) rfl rfl rfl rfl; exact rfl
      refine dq_nil tm (by kernel_rfl) ?_
      refine sq_then ?_
      refine cq_cond rfl (fun hb => ?_) (fun hb => ?_)
      · have hne : (gp a k == gp b k) = false := by
          rw [beq_eq_false_iff_ne]
          intro e
          rw [e] at hb
          simp at hb
        have e1 : eqP a b = false := by unfold eqP; rw [all_no (p := fun k => gp a k == gp b k) hkl hne, Bool.and_false]
        refine cq_seq ?_
        refine cq_region ?_
        apply sq_g; exact g_assign (s := .av (.val (.bool _))) rfl; exact rfl
        refine sq_nil ?_
        refine sq_then ?_
        refine cq_ret ?_
        refine sq_inBlock_ret ?_
        refine sq_then_ret ?_
        refine sq_then_ret ?_
        refine sq_inBlock_ret ?_
        refine sq_then_ret ?_
        exact sq_res1 rfl (.tmp rfl) (by rw [e1])
      · have heq : (gp a k == gp b k) = true := by
          rw [beq_iff_eq]
          simp at hb
          exact Prod.ext hb.1 hb.2
        refine cq_skip ?_
        refine sq_then ?_
        refine cq_region ?_
        apply sq_g; exact g_arith rfl rfl rfl (by omega); exact rfl
        apply sq_g; exact g_move (s := .av (.val (.int _ _))) rfl; exact rfl
        refine sq_nil ?_
        exact sq_round (k + 1) ⟨by omega, lt_step hall heq⟩ (by omega) (ent ⟨.refl _, .refl _, .refl _, .int (by omega), trivial⟩ trivial)
    · have hkl : k = a.length := by omega
      subst hkl
      have e1 : eqP a b = true := by unfold eqP; rw [decide_eq_true hl, all_yes hall]; rfl
      refine cq_exit ?_
      refine sq_then ?_
      refine cq_seq ?_
      refine cq_region ?_
      apply sq_g; exact g_assign (s := .av (.val (.bool _))) rfl; exact rfl
      refine sq_nil ?_
      refine sq_then ?_
      refine cq_ret ?_
      exact sq_res1 rfl (.tmp rfl) (by rw [e1])
end Go.Proofs.Ytogilkilkmoedaa
namespace Go.Proofs.Ytogilkilkmoedaa
open Go Go.Vc Go.RowKit
set_option maxHeartbeats 8000000
/-! KDQ -/
/-- The error of ascending indices below n, from i on. -/
def ixE (l : List Int) (n : Nat) : Nat → Nat → Int
  | 0, _ => 0
  | c + 1, i => if gz l i < 0 ∨ (n : Int) ≤ gz l i then 2 else if 0 < i ∧ gz l i ≤ gz l (i - 1) then 9 else ixE l n c (i + 1)
def idxE (l : List Int) (n : Nat) : Int := ixE l n l.length 0
def uncov (HH PP : List Int) (lo up : Int) (h p : List Int) (i k : Nat) : Bool := fitN HH PP lo up i k && !hasZ h i && !hasZ p k
def proveZ (HH PP : List Int) (lo up : Int) (h p : List Int) : Int :=
  if errC HH PP lo up ≠ 0 then errC HH PP lo up else if idxE h HH.length ≠ 0 then idxE h HH.length else if idxE p PP.length ≠ 0 then idxE p PP.length else
  if (List.range HH.length).any (fun i => (List.range PP.length).any (fun k => uncov HH PP lo up h p i k)) then 15 else 0
def blkF (lo up : Int) (h p : List Int) : Nat → AV := fun i => [vi lo, vi up, zs h, zs p].getD i .any
def pk (h p : List Int) (k : Nat) : List Int := if k = 0 then h else p
def nk (a b : Nat) (k : Nat) : Nat := if k = 0 then a else b
def row70 (h p : List Int) (a b : Nat) : Nat → Nat → AV := fun i j => match j with | 0 => zs (pk h p i) | _ => vi (nk a b i)
theorem row70_one (h p : List Int) (a b i : Nat) : ∀ j, (row70 h p a b i j).one = true := fun j => by unfold row70; split <;> rfl
theorem fill69 (parts : List (Nat × Value)) : Try.prog.built 69 parts = Instr.fill (fun i => (#[(0, 1), (1, 1)] : Array (Nat × Nat))[i]?) #[.slice none 0 0, .int .i64 0] parts := by kernel_rfl
theorem tb69 (l : List Int) (n : Int) : ∀ (Z : Zone) (w : World) (vs : List Value), All2 (fun τ v => AV.ok Z w τ v) [zs l, vi n] vs → ∃ cs : List Value, Try.prog.built 69 ([0, 1].zip vs) = some cs.toArray ∧ cs.length = 2 ∧ ∀ i, i < 2 → ∃ u, cs[i]? = some u ∧ ((fun i => [zs l, vi n].getD i .any) i).ok Z w u := by
  intro Z w vs hvs
  match vs, hvs with
  | [a, b], ⟨h1, h2, _⟩ =>
    have e1 := cells_one (AV.one_cells (τ := zs l) rfl h1)
    have e2 := cells_one (AV.one_cells (τ := vi n) rfl h2)
    refine ⟨[a, b], ?_, rfl, fun i hi => ?_⟩
    · rw [fill69]; simp [Instr.fill, e1, e2]
    · match i, hi with
      | 0, _ => exact ⟨_, rfl, h1⟩
      | 1, _ => exact ⟨_, rfl, h2⟩
theorem run70 (a b c d : Value) (w : World) (e1 : a.cells = #[a]) (e2 : b.cells = #[b]) (e3 : c.cells = #[c]) (e4 : d.cells = #[d]) : (Instr.buildSlice 70 2 #[(0, .agg #[a, b]), (1, .agg #[c, d])]).run Try.prog w = .ok (.slice (some ⟨w.heap.size, 0, none⟩) 2 2) (w.alloc (.cells #[a, b, c, d] 69)) := by kernel_rfl
theorem tq70 (h p : List Int) (m n : Nat) : ∀ (Z : Zone) (w : World) (vs : List Value), All2 (fun τ v => AV.ok Z w τ v) [.agg 2 (fun i => [zs h, vi m].getD i .any), .agg 2 (fun i => [zs p, vi n].getD i .any)] vs → ∃ cs : List Value, (Instr.buildSlice 70 2 ([0, 1].zip vs).toArray).run Try.prog w = .ok (.slice (some ⟨w.heap.size, 0, none⟩) 2 2) (w.alloc (.cells cs.toArray 69)) ∧ ∀ i, i < 2 → ∀ j, j < 2 → ∃ u, cs[i * 2 + j]? = some u ∧ (row70 h p m n i j).ok Z w u := by
  intro Z w vs hvs
  match vs, hvs with
  | [_, _], ⟨⟨c1, rfl, l1, h1⟩, ⟨c2, rfl, l2, h2⟩, _⟩ =>
    match c1, c2, l1, l2 with
    | [a, b], [c, d], _, _ =>
      obtain ⟨_, q1, k1⟩ := h1 0 (by omega)
      obtain ⟨_, q2, k2⟩ := h1 1 (by omega)
      obtain ⟨_, q3, k3⟩ := h2 0 (by omega)
      obtain ⟨_, q4, k4⟩ := h2 1 (by omega)
      cases q1; cases q2; cases q3; cases q4
      refine ⟨[a, b, c, d], run70 a b c d w (cells_one (AV.one_cells (τ := zs h) rfl k1)) (cells_one (AV.one_cells (τ := vi m) rfl k2)) (cells_one (AV.one_cells (τ := zs p) rfl k3)) (cells_one (AV.one_cells (τ := vi n) rfl k4)), fun i hi j hj => ?_⟩
      match i, j, hi, hj with
      | 0, 0, _, _ => exact ⟨_, rfl, k1⟩
      | 0, 1, _, _ => exact ⟨_, rfl, k2⟩
      | 1, 0, _, _ => exact ⟨_, rfl, k3⟩
      | 1, 1, _, _ => exact ⟨_, rfl, k4⟩
theorem prove_c (HH PP : List Int) (lo up : Int) (h p : List Int) (sh : h.length ≤ 1000000) (sp : p.length ≤ 1000000) : CtrA Try.prog 13 [zs HH, zs PP, .agg 4 (blkF lo up h p)] (vi (proveZ HH PP lo up h p)) := by
  refine ctrA _ Try.func13 rfl rfl Try.ntmps13 rfl fun w0 Z => ?_
  have hchk := check_c HH PP lo up
  simp only [initT, List.map_cons, List.map_nil, Nat.zero_add, Nat.reduceAdd]
  refine cq_seq ?_
  refine cq_region ?_
  apply sq_g; exact  g_box_aggv rfl; exact rfl
  apply sq_g; exact g_assign (s := .av (.val (.int _ _))) rfl; exact rfl
  refine sq_nil ?_
  refine sq_then ?_
  refine cq_seq ?_
  refine cq_seq ?_
  refine cq_region ?_
  apply sq_g; exact g_move (s := .av _) rfl; exact rfl
  apply sq_g; exact g_move (s := .av _) rfl; exact rfl
  apply sq_g; exact g_field rfl; exact rfl
  apply sq_g; exact g_load_agg (us := [.int _ _, .int _ _]) rfl rfl rfl rfl; exact rfl
  apply sq_g; exact g_call (hchk) rfl; exact rfl
  apply sq_g; exact g_assign (s := .av (.val (.int _ _))) rfl; exact rfl
  refine sq_nil ?_
  refine sq_then ?_
  refine cq_seq ?_
  refine cq_region ?_
  apply sq_g; exact g_move (s := .av (.val (.int _ _))) rfl; exact rfl
  apply sq_g; exact g_cmp rfl rfl rfl; exact rfl
  refine sq_nil ?_
  refine sq_then ?_
  (refine cq_cond rfl (fun hb => ?_) (fun hb => ?_) <;> (try simp only [decide_eq_true_eq, decide_eq_false_iff_not, beq_iff_eq, beq_eq_false_iff_ne, bne_iff_ne, bne_eq_false_iff_eq, ne_eq, Bool.not_eq_true', Bool.not_eq_false', Bool.and_eq_true, Bool.or_eq_true, Bool.and_eq_false_iff, Bool.or_eq_false_iff] at hb) <;> (try (exfalso; omega)))
  · have e1 : proveZ HH PP lo up h p = errC HH PP lo up := by unfold proveZ; rw [if_pos hb]
    refine cq_seq ?_
    refine cq_region ?_
    apply sq_g; exact g_move (s := .av (.val (.int _ _))) rfl; exact rfl
    apply sq_g; exact g_assign (s := .av (.val (.int _ _))) rfl; exact rfl
    refine sq_nil ?_
    refine sq_then ?_
    refine cq_ret ?_
    refine sq_then_ret ?_
    exact sq_res1 rfl (.tmp rfl) (by rw [e1])
  · have he : errC HH PP lo up = 0 := by omega
    obtain ⟨rH, rP⟩ := errC_ok he
    have bH := rH.bi
    have bP := rP.bi
    have sH := rH.len
    have sP := rP.len
    have e0 : proveZ HH PP lo up h p = if idxE h HH.length ≠ 0 then idxE h HH.length else if idxE p PP.length ≠ 0 then idxE p PP.length else if (List.range HH.length).any (fun i => (List.range PP.length).any (fun k => uncov HH PP lo up h p i k)) then 15 else 0 := by unfold proveZ; rw [if_neg (by omega)]
    refine cq_skip ?_
    refine sq_then ?_
    refine cq_seq ?_
    refine cq_seq ?_
    refine cq_region ?_
    apply sq_g; exact g_field rfl; exact rfl
    apply sq_g; exact g_load rfl rfl rfl; exact rfl
    apply sq_g; exact g_move (s := .av _) rfl; exact rfl
    apply sq_g; exact g_len rfl; exact rfl
    apply sq_g; exact  g_build_gen (is := [0, 1]) (xs := [_, _]) (τs := [zs h, vi HH.length]) rfl rfl (tb69 h HH.length); exact rfl
    apply sq_g; exact g_field rfl; exact rfl
    apply sq_g; exact g_load rfl rfl rfl; exact rfl
    apply sq_g; exact g_move (s := .av _) rfl; exact rfl
    apply sq_g; exact g_len rfl; exact rfl
    apply sq_g; exact  g_build_gen (is := [0, 1]) (xs := [_, _]) (τs := [zs p, vi PP.length]) rfl rfl (tb69 p PP.length); exact rfl
    apply sq_g; exact  g_bslice_gen (is := [0, 1]) (xs := [_, _]) (τs := [.agg 2 (fun i => [zs h, vi HH.length].getD i .any), .agg 2 (fun i => [zs p, vi PP.length].getD i .any)]) (row := row70 h p HH.length PP.length) rfl rfl (tq70 h p HH.length PP.length) rfl; exact rfl
    apply sq_g; exact g_len rfl; exact rfl
    apply sq_g; exact g_move (s := .av (.val (.int _ _))) rfl; exact rfl
    refine sq_nil ?_
    refine sq_then ?_
    refine cq_block ?_
    refine cq_loop (γ := Nat) (fun k => [(0, .av (zs HH)), (1, .av (zs PP)), (5, .av (.ptr 4 (blkF lo up h p))), (34, .av (.sl 2 2 (row70 h p HH.length PP.length))), (35, .av (vi 2)), (36, .av (vi k))]) (fun _ => []) (fun k => k ≤ 2 ∧ (1 ≤ k → idxE h HH.length = 0) ∧ (2 ≤ k → idxE p PP.length = 0)) (fun k => 2 - k) 0 ⟨by omega, by omega, by omega⟩ (ent ⟨.refl _, .refl _, .refl _, .refl _, .refl _, .refl _, trivial⟩ trivial) ?_
    rintro k ⟨hk, hk1, hk2⟩
    refine cq_seq ?_
    refine cq_region ?_
    apply sq_g; exact g_cmp rfl rfl rfl; exact rfl
    refine sq_nil ?_
    refine sq_then ?_
    refine cq_seq ?_
    (refine cq_cond rfl (fun hb => ?_) (fun hb => ?_) <;> (try simp only [decide_eq_true_eq, decide_eq_false_iff_not, beq_iff_eq, beq_eq_false_iff_ne, bne_iff_ne, bne_eq_false_iff_eq, ne_eq, Bool.not_eq_true', Bool.not_eq_false', Bool.and_eq_true, Bool.or_eq_true, Bool.and_eq_false_iff, Bool.or_eq_false_iff] at hb) <;> (try (exfalso; omega)))
    · have hkl : k < 2 := by omega
      have hres : ∀ e, e ≠ 0 → idxE (pk h p k) (nk HH.length PP.length k) = e → proveZ HH PP lo up h p = e := by
        intro e hne h1
        rw [e0]
        match k, hkl, hk1, h1 with
        | 0, _, _, h1 =>
          have h1 : idxE h HH.length = e := h1
          rw [if_pos (by omega)]; exact h1
        | 1, _, hk1, h1 =>
          have h1 : idxE p PP.length = e := h1
          rw [if_neg (by have := hk1 (by omega); omega), if_pos (by omega)]; exact h1
      have hnx : idxE (pk h p k) (nk HH.length PP.length k) = 0 → (1 ≤ k + 1 → idxE h HH.length = 0) ∧ (2 ≤ k + 1 → idxE p PP.length = 0) := by
        intro h1
        match k, hkl, hk1, h1 with
        | 0, _, _, h1 => exact ⟨fun _ => h1, fun h => by omega⟩
        | 1, _, hk1, h1 => exact ⟨fun _ => hk1 (by omega), fun _ => h1⟩
      have hpl : (pk h p k).length ≤ 1000000 := by unfold pk; split <;> assumption
      have hnk : nk HH.length PP.length k ≤ 256 := by unfold nk; split <;> assumption
      refine cq_skip ?_
      refine sq_then ?_
      refine cq_seq ?_
      refine cq_block ?_
      refine cq_seq ?_
      refine cq_region ?_
      apply sq_g; exact g_index rfl rfl rfl (by omega); exact rfl
      apply sq_g; exact  g_load_aggv (k := 2) rfl rfl; exact rfl
      refine sq_v (f_alloc 10 rfl) rfl ?_
      refine sq_s (g_store_aggv (k := 2) rfl rfl (fun j _ => row70_one _ _ _ _ k j) rfl rfl) ?_
      refine sq_nil ?_
      refine sq_then ?_
      refine cq_seq ?_
      refine cq_region ?_
      apply sq_g; exact g_field_own rfl; exact rfl
      apply sq_g; exact g_load_own (s := .av _) rfl rfl rfl; exact rfl
      apply sq_g; exact g_len rfl; exact rfl
      apply sq_g; exact g_move (s := .av (.val (.int _ _))) rfl; exact rfl
      refine sq_nil ?_
      refine sq_then ?_
      refine cq_block ?_
      generalize hlk : pk h p k = lk at hres hnx hpl
      generalize hnn : nk HH.length PP.length k = n at hres hnx hnk
      refine cq_loop (γ := Nat) (fun i => [(0, .av (zs HH)), (1, .av (zs PP)), (5, .av (.ptr 4 (blkF lo up h p))), (34, .av (.sl 2 2 (row70 h p HH.length PP.length))), (35, .av (vi 2)), (36, .av (vi k)), (9, .own 10 0), (41, .av (zs lk)), (42, .av (vi lk.length)), (43, .av (vi i))]) (fun _ => [(10, .cells [.av (zs lk), .av (vi n)])]) (fun i => i ≤ lk.length ∧ ixE lk n (lk.length - i) i = idxE lk n) (fun i => lk.length - i) 0 ⟨Nat.zero_le _, by unfold idxE; rw [Nat.sub_zero]⟩ (by subst hlk hnn; exact ent ⟨.refl _, .refl _, .refl _, .refl _, .refl _, .refl _, .refl _, .refl _, .refl _, .refl _, trivial⟩ ⟨⟨_, rfl, .refl _⟩, trivial⟩) ?_
      rintro i ⟨hi, hg⟩
      refine cq_seq ?_
      refine cq_region ?_
      apply sq_g; exact g_cmp rfl rfl rfl; exact rfl
      refine sq_nil ?_
      refine sq_then ?_
      refine cq_seq ?_
      (refine cq_cond rfl (fun hb => ?_) (fun hb => ?_) <;> (try simp only [decide_eq_true_eq, decide_eq_false_iff_not, beq_iff_eq, beq_eq_false_iff_ne, bne_iff_ne, bne_eq_false_iff_eq, ne_eq, Bool.not_eq_true', Bool.not_eq_false', Bool.and_eq_true, Bool.or_eq_true, Bool.and_eq_false_iff, Bool.or_eq_false_iff] at hb) <;> (try (exfalso; omega)))
      · have hil : i < lk.length := by omega
        have hn : lk.length - i = (lk.length - (i + 1)) + 1 := by omega
        rw [hn] at hg
        unfold ixE at hg
        focus
          refine cq_skip ?_
          refine sq_then ?_
          refine cq_seq ?_
          refine cq_block ?_
          refine cq_seq ?_
          refine cq_region ?_
          apply sq_g; exact g_move (s := .av (.val (.int _ _))) rfl; exact rfl
          apply sq_g; exact g_index rfl rfl rfl (by omega); exact rfl
          apply sq_g; exact g_load (τ := .val (.int _ _)) rfl rfl rfl; exact rfl
          apply sq_g; exact g_assign (s := .av (.val (.int _ _))) rfl; exact rfl
          apply sq_g; exact g_assign (s := .av (.val (.int _ _))) rfl; exact rfl
          refine sq_nil ?_
          refine sq_then ?_
          refine cq_block ?_
          refine cq_seq ?_
          refine cq_region ?_
          apply sq_g; exact g_move (s := .av (.val (.int _ _))) rfl; exact rfl
          apply sq_g; exact g_cmp rfl rfl rfl; exact rfl
          apply sq_g; exact g_move (s := .av (.val (.bool _))) rfl; exact rfl
          refine sq_split rfl rfl (fun hb => ?_) (fun hb => ?_) <;> (try simp only [decide_eq_true_eq, decide_eq_false_iff_not, beq_iff_eq, beq_eq_false_iff_ne, bne_iff_ne, bne_eq_false_iff_eq, ne_eq, Bool.not_eq_true', Bool.not_eq_false', Bool.and_eq_true, Bool.or_eq_true, Bool.and_eq_false_iff, Bool.or_eq_false_iff] at hb) <;> (try (exfalso; omega))
          refine sq_off rfl rfl rfl rfl ?_
          refine sq_off rfl rfl rfl rfl ?_
          refine sq_off rfl rfl rfl rfl ?_
          refine sq_off rfl rfl rfl rfl ?_
          apply sq_g; exact g_pick (s := .av (.val (.bool _))) rfl rfl; exact rfl
          apply sq_g; exact g_assign (s := .av (.val (.bool _))) rfl; exact rfl
          refine sq_nil ?_
          refine sq_then ?_
          refine cq_cond_t rfl ?_
          refine cq_seq ?_
          refine cq_region ?_
          apply sq_g; exact g_assign (s := .av (.val (.int _ _))) rfl; exact rfl
          refine sq_nil ?_
          refine sq_then ?_
          refine cq_ret ?_
          refine sq_inBlock_ret ?_
          refine sq_inBlock_ret ?_
          refine sq_then_ret ?_
          refine sq_then_ret ?_
          refine sq_inBlock_ret ?_
          refine sq_inBlock_ret ?_
          refine sq_then_ret ?_
          refine sq_then_ret ?_
          refine sq_inBlock_ret ?_
          refine sq_then_ret ?_
          rotate_left
          apply sq_on; exact g_move (s := .av (.val (.int _ _))) rfl; exact rfl; exact rfl; exact rfl
          apply sq_on; exact g_field_own rfl; exact rfl; exact rfl; exact rfl
          apply sq_on; exact g_load_own (s := .av (.val (.int _ _))) rfl rfl rfl; exact rfl; exact rfl; exact rfl
          apply sq_on; exact g_cmp rfl rfl rfl; exact rfl; exact rfl; exact rfl
          apply sq_g; exact g_pick (s := .av (.val (.bool _))) rfl rfl; exact rfl
          apply sq_g; exact g_assign (s := .av (.val (.bool _))) rfl; exact rfl
          refine sq_nil ?_
          refine sq_then ?_
          rotate_left
        · rw [if_pos (.inl hb)] at hg
          have e1 := hres 2 (by omega) hg.symm
          exact sq_res1 rfl (.tmp rfl) (by rw [e1])
        · have hb0 := hb
          (refine cq_cond rfl (fun hb => ?_) (fun hb => ?_) <;> (try simp only [decide_eq_true_eq, decide_eq_false_iff_not, beq_iff_eq, beq_eq_false_iff_ne, bne_iff_ne, bne_eq_false_iff_eq, ne_eq, Bool.not_eq_true', Bool.not_eq_false', Bool.and_eq_true, Bool.or_eq_true, Bool.and_eq_false_iff, Bool.or_eq_false_iff] at hb) <;> (try (exfalso; omega)))
          · rw [if_pos (.inr hb)] at hg
            have e1 := hres 2 (by omega) hg.symm
            refine cq_seq ?_
            refine cq_region ?_
            apply sq_g; exact g_assign (s := .av (.val (.int _ _))) rfl; exact rfl
            refine sq_nil ?_
            refine sq_then ?_
            refine cq_ret ?_
            refine sq_inBlock_ret ?_
            refine sq_inBlock_ret ?_
            refine sq_then_ret ?_
            refine sq_then_ret ?_
            refine sq_inBlock_ret ?_
            refine sq_inBlock_ret ?_
            refine sq_then_ret ?_
            refine sq_then_ret ?_
            refine sq_inBlock_ret ?_
            refine sq_then_ret ?_
            exact sq_res1 rfl (.tmp rfl) (by rw [e1])
          · rw [if_neg (by omega)] at hg
            focus
              refine cq_seq ?_
              refine cq_region ?_
              apply sq_g; exact g_move (s := .av (.val (.int _ _))) rfl; exact rfl
              apply sq_g; exact g_cmp rfl rfl rfl; exact rfl
              apply sq_g; exact g_move (s := .av (.val (.bool _))) rfl; exact rfl
              refine sq_split rfl rfl (fun hb => ?_) (fun hb => ?_) <;> (try simp only [decide_eq_true_eq, decide_eq_false_iff_not, beq_iff_eq, beq_eq_false_iff_ne, bne_iff_ne, bne_eq_false_iff_eq, ne_eq, Bool.not_eq_true', Bool.not_eq_false', Bool.and_eq_true, Bool.or_eq_true, Bool.and_eq_false_iff, Bool.or_eq_false_iff] at hb) <;> (try (exfalso; omega))
              apply sq_on; exact g_field_own rfl; exact rfl; exact rfl; exact rfl
              apply sq_on; exact g_load_own (s := .av _) rfl rfl rfl; exact rfl; exact rfl; exact rfl
              apply sq_on; exact g_move (s := .av (.val (.int _ _))) rfl; exact rfl; exact rfl; exact rfl
              apply sq_on; exact g_arith rfl rfl rfl (by omega); exact rfl; exact rfl; exact rfl
              apply sq_on; exact  g_index (k := i - 1) rfl rfl (by omega) (by omega); exact rfl; exact rfl; exact rfl
              apply sq_on; exact g_load (τ := .val (.int _ _)) rfl rfl rfl; exact rfl; exact rfl; exact rfl
              apply sq_on; exact g_move (s := .av (.val (.int _ _))) rfl; exact rfl; exact rfl; exact rfl
              apply sq_on; exact g_cmp rfl rfl rfl; exact rfl; exact rfl; exact rfl
              apply sq_g; exact g_pick (s := .av (.val (.bool _))) rfl rfl; exact rfl
              apply sq_g; exact g_assign (s := .av (.val (.bool _))) rfl; exact rfl
              refine sq_nil ?_
              refine sq_then ?_
              rotate_left
              refine sq_off rfl rfl rfl rfl ?_
              refine sq_off rfl rfl rfl rfl ?_
              refine sq_off rfl rfl rfl rfl ?_
              refine sq_off rfl rfl rfl rfl ?_
              refine sq_off rfl rfl rfl rfl ?_
              refine sq_off rfl rfl rfl rfl ?_
              refine sq_off rfl rfl rfl rfl ?_
              refine sq_off rfl rfl rfl rfl ?_
              apply sq_g; exact g_pick (s := .av (.val (.bool _))) rfl rfl; exact rfl
              apply sq_g; exact g_assign (s := .av (.val (.bool _))) rfl; exact rfl
              refine sq_nil ?_
              refine sq_then ?_
              refine cq_cond_f rfl ?_
              refine cq_skip ?_
              refine sq_then ?_
              refine cq_region ?_
              apply sq_g; exact g_arith rfl rfl rfl (by omega); exact rfl
              apply sq_g; exact g_move (s := .av (.val (.int _ _))) rfl; exact rfl
              refine sq_nil ?_
              rotate_left
            · have hb1 := hb
              (refine cq_cond rfl (fun hb => ?_) (fun hb => ?_) <;> (try simp only [decide_eq_true_eq, decide_eq_false_iff_not, beq_iff_eq, beq_eq_false_iff_ne, bne_iff_ne, bne_eq_false_iff_eq, ne_eq, Bool.not_eq_true', Bool.not_eq_false', Bool.and_eq_true, Bool.or_eq_true, Bool.and_eq_false_iff, Bool.or_eq_false_iff] at hb) <;> (try (exfalso; omega)))
              · rw [if_pos ⟨by omega, hb⟩] at hg
                have e1 := hres 9 (by omega) hg.symm
                refine cq_seq ?_
                refine cq_region ?_
                apply sq_g; exact g_assign (s := .av (.val (.int _ _))) rfl; exact rfl
                refine sq_nil ?_
                refine sq_then ?_
                refine cq_ret ?_
                refine sq_inBlock_ret ?_
                refine sq_inBlock_ret ?_
                refine sq_then_ret ?_
                refine sq_then_ret ?_
                refine sq_inBlock_ret ?_
                refine sq_inBlock_ret ?_
                refine sq_then_ret ?_
                refine sq_then_ret ?_
                refine sq_inBlock_ret ?_
                refine sq_then_ret ?_
                exact sq_res1 rfl (.tmp rfl) (by rw [e1])
              · rw [if_neg (by omega)] at hg
                refine cq_skip ?_
                refine sq_then ?_
                refine cq_region ?_
                apply sq_g; exact g_arith rfl rfl rfl (by omega); exact rfl
                apply sq_g; exact g_move (s := .av (.val (.int _ _))) rfl; exact rfl
                refine sq_nil ?_
                exact sq_round (i + 1) ⟨by omega, hg⟩ (by omega) (ent ⟨.refl _, .refl _, .refl _, .refl _, .refl _, .refl _, .refl _, .refl _, .refl _, .int (by omega), trivial⟩ ⟨⟨_, rfl, .refl _⟩, trivial⟩)
            · rw [if_neg (by omega)] at hg
              exact sq_round (i + 1) ⟨by omega, hg⟩ (by omega) (ent ⟨.refl _, .refl _, .refl _, .refl _, .refl _, .refl _, .refl _, .refl _, .refl _, .int (by omega), trivial⟩ ⟨⟨_, rfl, .refl _⟩, trivial⟩)
      · have hil : i = lk.length := by omega
        rw [hil, Nat.sub_self] at hg
        unfold ixE at hg
        have hz := hnx hg.symm
        refine cq_exit ?_
        refine sq_then ?_
        refine cq_region ?_
        apply sq_g; exact g_arith rfl rfl rfl (by omega); exact rfl
        apply sq_g; exact g_move (s := .av (.val (.int _ _))) rfl; exact rfl
        refine sq_nil ?_
        exact sq_round (k + 1) ⟨by omega, hz⟩ (by omega) (ent ⟨.refl _, .refl _, .refl _, .refl _, .refl _, .int (by omega), trivial⟩ trivial)
    · have hkl : k = 2 := by omega
      subst hkl
      have z1 := hk1 (by omega)
      have z2 := hk2 (by omega)
      rw [if_neg (by omega), if_neg (by omega)] at e0
      refine cq_exit ?_
      refine sq_then ?_
      refine cq_seq ?_
      refine cq_seq ?_
      refine cq_region ?_
      apply sq_g; exact g_move (s := .av _) rfl; exact rfl
      apply sq_g; exact g_len rfl; exact rfl
      apply sq_g; exact g_move (s := .av (.val (.int _ _))) rfl; exact rfl
      refine sq_nil ?_
      refine sq_then ?_
      refine cq_block ?_
      refine cq_loop (γ := Nat) (fun a => [(0, .av (zs HH)), (1, .av (zs PP)), (5, .av (.ptr 4 (blkF lo up h p))), (72, .av (zs HH)), (73, .av (vi HH.length)), (74, .av (vi a))]) (fun _ => []) (fun a => a ≤ HH.length ∧ ∀ j, j < a → ((List.range PP.length).any (fun k => uncov HH PP lo up h p j k)) = false) (fun a => HH.length - a) 0 ⟨Nat.zero_le _, by omega⟩ (ent ⟨.refl _, .refl _, .refl _, .refl _, .refl _, .refl _, trivial⟩ trivial) ?_
      rintro a ⟨ha, hall⟩
      refine cq_seq ?_
      refine cq_region ?_
      apply sq_g; exact g_cmp rfl rfl rfl; exact rfl
      refine sq_nil ?_
      refine sq_then ?_
      refine cq_seq ?_
      (refine cq_cond rfl (fun hb => ?_) (fun hb => ?_) <;> (try simp only [decide_eq_true_eq, decide_eq_false_iff_not, beq_iff_eq, beq_eq_false_iff_ne, bne_iff_ne, bne_eq_false_iff_eq, ne_eq, Bool.not_eq_true', Bool.not_eq_false', Bool.and_eq_true, Bool.or_eq_true, Bool.and_eq_false_iff, Bool.or_eq_false_iff] at hb) <;> (try (exfalso; omega)))
      · have hal : a < HH.length := by omega
        refine cq_skip ?_
        refine sq_then ?_
        refine cq_seq ?_
        refine cq_block ?_
        refine cq_seq ?_
        refine cq_region ?_
        apply sq_g; exact g_move (s := .av (.val (.int _ _))) rfl; exact rfl
        apply sq_g; exact g_index rfl rfl rfl (by omega); exact rfl
        apply sq_g; exact g_load (τ := .val (.int _ _)) rfl rfl rfl; exact rfl
        apply sq_g; exact g_assign (s := .av (.val (.int _ _))) rfl; exact rfl
        apply sq_g; exact g_assign (s := .av (.val (.int _ _))) rfl; exact rfl
        refine sq_nil ?_
        refine sq_then ?_
        refine cq_seq ?_
        refine cq_region ?_
        apply sq_g; exact g_move (s := .av _) rfl; exact rfl
        apply sq_g; exact g_len rfl; exact rfl
        apply sq_g; exact g_move (s := .av (.val (.int _ _))) rfl; exact rfl
        refine sq_nil ?_
        refine sq_then ?_
        refine cq_block ?_
        refine cq_loop (γ := Nat) (fun b => [(0, .av (zs HH)), (1, .av (zs PP)), (5, .av (.ptr 4 (blkF lo up h p))), (72, .av (zs HH)), (73, .av (vi HH.length)), (74, .av (vi a)), (12, .av (vi a)), (13, .av (vi (gz HH a))), (79, .av (zs PP)), (80, .av (vi PP.length)), (81, .av (vi b))]) (fun _ => []) (fun b => b ≤ PP.length ∧ ∀ j, j < b → uncov HH PP lo up h p a j = false) (fun b => PP.length - b) 0 ⟨Nat.zero_le _, by omega⟩ (ent ⟨.refl _, .refl _, .refl _, .refl _, .refl _, .refl _, .refl _, .refl _, .refl _, .refl _, .refl _, trivial⟩ trivial) ?_
        rintro b ⟨hbb, hall2⟩
        refine cq_seq ?_
        refine cq_region ?_
        apply sq_g; exact g_cmp rfl rfl rfl; exact rfl
        refine sq_nil ?_
        refine sq_then ?_
        refine cq_seq ?_
        (refine cq_cond rfl (fun hb => ?_) (fun hb => ?_) <;> (try simp only [decide_eq_true_eq, decide_eq_false_iff_not, beq_iff_eq, beq_eq_false_iff_ne, bne_iff_ne, bne_eq_false_iff_eq, ne_eq, Bool.not_eq_true', Bool.not_eq_false', Bool.and_eq_true, Bool.or_eq_true, Bool.and_eq_false_iff, Bool.or_eq_false_iff] at hb) <;> (try (exfalso; omega)))
        · have hbl : b < PP.length := by omega
          have cf : CtrA Try.prog 36 [vi (gz HH a), vi (gz PP b), lim lo up] (vb (fitN HH PP lo up a b)) := fits_c (gz HH a) (gz PP b) lo up (bH a) (bP b)
          have c1 := contains_c h a sh
          have c2 := contains_c p b sp
          focus
            refine cq_skip ?_
            refine sq_then ?_
            refine cq_seq ?_
            refine cq_block ?_
            refine cq_seq ?_
            refine cq_region ?_
            apply sq_g; exact g_move (s := .av (.val (.int _ _))) rfl; exact rfl
            apply sq_g; exact g_index rfl rfl rfl (by omega); exact rfl
            apply sq_g; exact g_load (τ := .val (.int _ _)) rfl rfl rfl; exact rfl
            apply sq_g; exact g_assign (s := .av (.val (.int _ _))) rfl; exact rfl
            apply sq_g; exact g_assign (s := .av (.val (.int _ _))) rfl; exact rfl
            refine sq_nil ?_
            refine sq_then ?_
            refine cq_seq ?_
            refine cq_region ?_
            apply sq_g; exact g_move (s := .av (.val (.int _ _))) rfl; exact rfl
            apply sq_g; exact g_move (s := .av (.val (.int _ _))) rfl; exact rfl
            apply sq_g; exact g_field rfl; exact rfl
            apply sq_g; exact g_load_agg (us := [.int _ _, .int _ _]) rfl rfl rfl rfl; exact rfl
            apply sq_g; exact g_call (cf) rfl; exact rfl
            apply sq_g; exact g_move (s := .av (.val (.bool _))) rfl; exact rfl
            refine sq_split rfl rfl (fun hb => ?_) (fun hb => ?_) <;> (try simp only [decide_eq_true_eq, decide_eq_false_iff_not, beq_iff_eq, beq_eq_false_iff_ne, bne_iff_ne, bne_eq_false_iff_eq, ne_eq, Bool.not_eq_true', Bool.not_eq_false', Bool.and_eq_true, Bool.or_eq_true, Bool.and_eq_false_iff, Bool.or_eq_false_iff] at hb) <;> (try (exfalso; omega))
            apply sq_on; exact g_field rfl; exact rfl; exact rfl; exact rfl
            apply sq_on; exact g_load rfl rfl rfl; exact rfl; exact rfl; exact rfl
            apply sq_on; exact g_move (s := .av (.val (.int _ _))) rfl; exact rfl; exact rfl; exact rfl
            apply sq_on; exact g_call (c1) rfl; exact rfl; exact rfl; exact rfl
            apply sq_on; exact g_not rfl; exact rfl; exact rfl; exact rfl
            apply sq_g; exact g_pick (s := .av (.val (.bool _))) rfl rfl; exact rfl
            apply sq_g; exact g_move (s := .av (.val (.bool _))) rfl; exact rfl
            refine sq_split rfl rfl (fun hb => ?_) (fun hb => ?_) <;> (try simp only [decide_eq_true_eq, decide_eq_false_iff_not, beq_iff_eq, beq_eq_false_iff_ne, bne_iff_ne, bne_eq_false_iff_eq, ne_eq, Bool.not_eq_true', Bool.not_eq_false', Bool.and_eq_true, Bool.or_eq_true, Bool.and_eq_false_iff, Bool.or_eq_false_iff] at hb) <;> (try (exfalso; omega))
            apply sq_on; exact g_field rfl; exact rfl; exact rfl; exact rfl
            apply sq_on; exact g_load rfl rfl rfl; exact rfl; exact rfl; exact rfl
            apply sq_on; exact g_move (s := .av (.val (.int _ _))) rfl; exact rfl; exact rfl; exact rfl
            apply sq_on; exact g_call (c2) rfl; exact rfl; exact rfl; exact rfl
            apply sq_on; exact g_not rfl; exact rfl; exact rfl; exact rfl
            apply sq_g; exact g_pick (s := .av (.val (.bool _))) rfl rfl; exact rfl
            refine sq_nil ?_
            refine sq_then ?_
            rotate_left
            refine sq_off rfl rfl rfl rfl ?_
            refine sq_off rfl rfl rfl rfl ?_
            refine sq_off rfl rfl rfl rfl ?_
            refine sq_off rfl rfl rfl rfl ?_
            refine sq_off rfl rfl rfl rfl ?_
            apply sq_g; exact g_pick (s := .av (.val (.bool _))) rfl rfl; exact rfl
            refine sq_nil ?_
            refine sq_then ?_
            refine cq_cond_f rfl ?_
            refine cq_skip ?_
            refine sq_then ?_
            refine cq_region ?_
            apply sq_g; exact g_arith rfl rfl rfl (by omega); exact rfl
            apply sq_g; exact g_move (s := .av (.val (.int _ _))) rfl; exact rfl
            refine sq_nil ?_
            rotate_left
            refine sq_off rfl rfl rfl rfl ?_
            refine sq_off rfl rfl rfl rfl ?_
            refine sq_off rfl rfl rfl rfl ?_
            refine sq_off rfl rfl rfl rfl ?_
            refine sq_off rfl rfl rfl rfl ?_
            apply sq_g; exact g_pick (s := .av (.val (.bool _))) rfl rfl; exact rfl
            apply sq_g; exact g_move (s := .av (.val (.bool _))) rfl; exact rfl
            refine sq_off rfl rfl rfl rfl ?_
            refine sq_off rfl rfl rfl rfl ?_
            refine sq_off rfl rfl rfl rfl ?_
            refine sq_off rfl rfl rfl rfl ?_
            refine sq_off rfl rfl rfl rfl ?_
            apply sq_g; exact g_pick (s := .av (.val (.bool _))) rfl rfl; exact rfl
            refine sq_nil ?_
            refine sq_then ?_
            refine cq_cond_f rfl ?_
            refine cq_skip ?_
            refine sq_then ?_
            refine cq_region ?_
            apply sq_g; exact g_arith rfl rfl rfl (by omega); exact rfl
            apply sq_g; exact g_move (s := .av (.val (.int _ _))) rfl; exact rfl
            refine sq_nil ?_
            rotate_left
          · have hf : fitN HH PP lo up a b = true := by assumption
            have hh : hasZ h a = false := by simpa using hb
            refine cq_cond rfl (fun hb => ?_) (fun hb => ?_)
            · have hp : hasZ p b = false := by simpa using hb
              have hy := any_yes (p := fun i => (List.range PP.length).any (fun k => uncov HH PP lo up h p i k)) hal (any_yes (p := fun k => uncov HH PP lo up h p a k) hbl (by unfold uncov; rw [hf, hh, hp]; rfl))
              rw [if_pos hy] at e0
              refine cq_seq ?_
              refine cq_region ?_
              apply sq_g; exact g_assign (s := .av (.val (.int _ _))) rfl; exact rfl
              refine sq_nil ?_
              refine sq_then ?_
              refine cq_ret ?_
              refine sq_inBlock_ret ?_
              refine sq_then_ret ?_
              refine sq_then_ret ?_
              refine sq_inBlock_ret ?_
              refine sq_inBlock_ret ?_
              refine sq_then_ret ?_
              refine sq_then_ret ?_
              refine sq_inBlock_ret ?_
              refine sq_then_ret ?_
              exact sq_res1 rfl (.tmp rfl) (by rw [e0])
            · have hp : hasZ p b = true := by simpa using hb
              refine cq_skip ?_
              refine sq_then ?_
              refine cq_region ?_
              apply sq_g; exact g_arith rfl rfl rfl (by omega); exact rfl
              apply sq_g; exact g_move (s := .av (.val (.int _ _))) rfl; exact rfl
              refine sq_nil ?_
              exact sq_round (b + 1) ⟨by omega, lt_step hall2 (by unfold uncov; rw [hp]; simp)⟩ (by omega) (ent ⟨.refl _, .refl _, .refl _, .refl _, .refl _, .refl _, .refl _, .refl _, .refl _, .refl _, .int (by omega), trivial⟩ trivial)
          · have hh : hasZ h a = true := by simpa using hb
            exact sq_round (b + 1) ⟨by omega, lt_step hall2 (by unfold uncov; rw [hh]; simp)⟩ (by omega) (ent ⟨.refl _, .refl _, .refl _, .refl _, .refl _, .refl _, .refl _, .refl _, .refl _, .refl _, .int (by omega), trivial⟩ trivial)
          · exact sq_round (b + 1) ⟨by omega, lt_step hall2 (by unfold uncov; rw [hb]; simp)⟩ (by omega) (ent ⟨.refl _, .refl _, .refl _, .refl _, .refl _, .refl _, .refl _, .refl _, .refl _, .refl _, .int (by omega), trivial⟩ trivial)
        · have hbl : b = PP.length := by omega
          subst hbl
          have hno := any_no hall2
          refine cq_exit ?_
          refine sq_then ?_
          refine cq_region ?_
          apply sq_g; exact g_arith rfl rfl rfl (by omega); exact rfl
          apply sq_g; exact g_move (s := .av (.val (.int _ _))) rfl; exact rfl
          refine sq_nil ?_
          exact sq_round (a + 1) ⟨by omega, lt_step hall hno⟩ (by omega) (ent ⟨.refl _, .refl _, .refl _, .refl _, .refl _, .int (by omega), trivial⟩ trivial)
      · have hal : a = HH.length := by omega
        subst hal
        have hno := any_no hall
        rw [if_neg (by rw [hno]; simp)] at e0
        refine cq_exit ?_
        refine sq_then ?_
        refine cq_seq ?_
        refine cq_region ?_
        apply sq_g; exact g_assign (s := .av (.val (.int _ _))) rfl; exact rfl
        refine sq_nil ?_
        refine sq_then ?_
        refine cq_ret ?_
        exact sq_res1 rfl (.tmp rfl) (by rw [e0])
end Go.Proofs.Ytogilkilkmoedaa
namespace Go.Proofs.Ytogilkilkmoedaa
open Go Go.Vc Go.RowKit
set_option maxHeartbeats 8000000
/-! KDQ -/
theorem sortK_eq {ks l : List Int} (hp : (dd ks).Perm l) (hs : l.Pairwise (fun a b => decide (a ≤ b) = true)) : sortK ks = l := by
  unfold sortK
  rw [mergeSort_of_perm_i hp]
  exact List.mergeSort_of_pairwise hs
theorem a_pairs : pairsL [10, 12, 15] [9, 10, 11] 1 3 = [(0, 0), (1, 1)] := by kernel_rfl
theorem a_perr : errC [10, 12, 15] [9, 10, 11] 1 3 = 0 := by kernel_rfl
theorem a_groups : groupsL [3, 9, 4, 11, 5] 4 = [[0], [2, 4], [1, 3]] := by
  unfold groupsL
  rw [if_pos (by kernel_rfl), sortK_eq (l := [0, 1, 2]) (by decide) (by decide)]
  kernel_rfl
theorem a_gerr : errG [3, 9, 4, 11, 5] 4 = 0 := by kernel_rfl
theorem a_plan : planL [10, 12, 15] [9, 10, 11] 4 = [(0, 1), (1, 2)] := by
  unfold planL planK
  rw [if_pos (by kernel_rfl), sortK_eq (l := [0, 1]) (by decide) (by decide)]
  kernel_rfl
theorem a_plerr : errP [10, 12, 15] [9, 10, 11] 4 = 0 := by kernel_rfl
theorem a_pr1 : proveZ [10, 12, 15] [9, 10, 11] 1 3 [0, 1] [] = 0 := by kernel_rfl
theorem a_pr2 : proveZ [10, 12, 15] [9, 10, 11] 1 3 [0] [] = 15 := by kernel_rfl
theorem bs_ha (w : World) : (Instr.buildSlice 22 3 #[(0, .int .i64 (10)), (1, .int .i64 (12)), (2, .int .i64 (15))]).run Try.prog w = .ok (.slice (some ⟨w.heap.size, 0, none⟩) 3 3) (w.alloc (.cells #[.int .i64 (10), .int .i64 (12), .int .i64 (15)] 3)) := by kernel_rfl
theorem rw_ha : ∀ i, i < 3 → ∀ j, j < 1 → ∃ u, ([.int .i64 (10), .int .i64 (12), .int .i64 (15)] : List Value)[i * 1 + j]? = some u ∧ zf [10, 12, 15] i j = .val u := by
  intro i hi j hj
  obtain rfl : j = 0 := by omega
  match i, hi with
  | 0, _ => exact ⟨_, rfl, rfl⟩
  | 1, _ => exact ⟨_, rfl, rfl⟩
  | 2, _ => exact ⟨_, rfl, rfl⟩
theorem bs_pa (w : World) : (Instr.buildSlice 22 3 #[(0, .int .i64 (9)), (1, .int .i64 (10)), (2, .int .i64 (11))]).run Try.prog w = .ok (.slice (some ⟨w.heap.size, 0, none⟩) 3 3) (w.alloc (.cells #[.int .i64 (9), .int .i64 (10), .int .i64 (11)] 3)) := by kernel_rfl
theorem rw_pa : ∀ i, i < 3 → ∀ j, j < 1 → ∃ u, ([.int .i64 (9), .int .i64 (10), .int .i64 (11)] : List Value)[i * 1 + j]? = some u ∧ zf [9, 10, 11] i j = .val u := by
  intro i hi j hj
  obtain rfl : j = 0 := by omega
  match i, hi with
  | 0, _ => exact ⟨_, rfl, rfl⟩
  | 1, _ => exact ⟨_, rfl, rfl⟩
  | 2, _ => exact ⟨_, rfl, rfl⟩
theorem bs_ga (w : World) : (Instr.buildSlice 22 5 #[(0, .int .i64 (3)), (1, .int .i64 (9)), (2, .int .i64 (4)), (3, .int .i64 (11)), (4, .int .i64 (5))]).run Try.prog w = .ok (.slice (some ⟨w.heap.size, 0, none⟩) 5 5) (w.alloc (.cells #[.int .i64 (3), .int .i64 (9), .int .i64 (4), .int .i64 (11), .int .i64 (5)] 3)) := by kernel_rfl
theorem rw_ga : ∀ i, i < 5 → ∀ j, j < 1 → ∃ u, ([.int .i64 (3), .int .i64 (9), .int .i64 (4), .int .i64 (11), .int .i64 (5)] : List Value)[i * 1 + j]? = some u ∧ zf [3, 9, 4, 11, 5] i j = .val u := by
  intro i hi j hj
  obtain rfl : j = 0 := by omega
  match i, hi with
  | 0, _ => exact ⟨_, rfl, rfl⟩
  | 1, _ => exact ⟨_, rfl, rfl⟩
  | 2, _ => exact ⟨_, rfl, rfl⟩
  | 3, _ => exact ⟨_, rfl, rfl⟩
  | 4, _ => exact ⟨_, rfl, rfl⟩
theorem bs_r01 (w : World) : (Instr.buildSlice 22 2 #[(0, .int .i64 (0)), (1, .int .i64 (1))]).run Try.prog w = .ok (.slice (some ⟨w.heap.size, 0, none⟩) 2 2) (w.alloc (.cells #[.int .i64 (0), .int .i64 (1)] 3)) := by kernel_rfl
theorem rw_r01 : ∀ i, i < 2 → ∀ j, j < 1 → ∃ u, ([.int .i64 (0), .int .i64 (1)] : List Value)[i * 1 + j]? = some u ∧ zf [0, 1] i j = .val u := by
  intro i hi j hj
  obtain rfl : j = 0 := by omega
  match i, hi with
  | 0, _ => exact ⟨_, rfl, rfl⟩
  | 1, _ => exact ⟨_, rfl, rfl⟩
theorem bs_r0 (w : World) : (Instr.buildSlice 22 1 #[(0, .int .i64 (0))]).run Try.prog w = .ok (.slice (some ⟨w.heap.size, 0, none⟩) 1 1) (w.alloc (.cells #[.int .i64 (0)] 3)) := by kernel_rfl
theorem rw_r0 : ∀ i, i < 1 → ∀ j, j < 1 → ∃ u, ([.int .i64 (0)] : List Value)[i * 1 + j]? = some u ∧ zf [0] i j = .val u := by
  intro i hi j hj
  obtain rfl : j = 0 := by omega
  match i, hi with
  | 0, _ => exact ⟨_, rfl, rfl⟩
theorem bs_r24 (w : World) : (Instr.buildSlice 22 2 #[(0, .int .i64 (2)), (1, .int .i64 (4))]).run Try.prog w = .ok (.slice (some ⟨w.heap.size, 0, none⟩) 2 2) (w.alloc (.cells #[.int .i64 (2), .int .i64 (4)] 3)) := by kernel_rfl
theorem rw_r24 : ∀ i, i < 2 → ∀ j, j < 1 → ∃ u, ([.int .i64 (2), .int .i64 (4)] : List Value)[i * 1 + j]? = some u ∧ zf [2, 4] i j = .val u := by
  intro i hi j hj
  obtain rfl : j = 0 := by omega
  match i, hi with
  | 0, _ => exact ⟨_, rfl, rfl⟩
  | 1, _ => exact ⟨_, rfl, rfl⟩
theorem bs_r13 (w : World) : (Instr.buildSlice 22 2 #[(0, .int .i64 (1)), (1, .int .i64 (3))]).run Try.prog w = .ok (.slice (some ⟨w.heap.size, 0, none⟩) 2 2) (w.alloc (.cells #[.int .i64 (1), .int .i64 (3)] 3)) := by kernel_rfl
theorem rw_r13 : ∀ i, i < 2 → ∀ j, j < 1 → ∃ u, ([.int .i64 (1), .int .i64 (3)] : List Value)[i * 1 + j]? = some u ∧ zf [1, 3] i j = .val u := by
  intro i hi j hj
  obtain rfl : j = 0 := by omega
  match i, hi with
  | 0, _ => exact ⟨_, rfl, rfl⟩
  | 1, _ => exact ⟨_, rfl, rfl⟩
theorem tq33_2 (a b c d : Int) (w : World) : (Instr.buildSlice 33 2 #[(0, .agg #[.int .i64 a, .int .i64 b]), (1, .agg #[.int .i64 c, .int .i64 d])]).run Try.prog w = .ok (.slice (some ⟨w.heap.size, 0, none⟩) 2 2) (w.alloc (.cells #[.int .i64 a, .int .i64 b, .int .i64 c, .int .i64 d] 42)) := by kernel_rfl
theorem df2_row (a b c d : Int) : ∀ i, i < 2 → ∀ j, j < 2 → ∃ u, [Value.int .i64 a, .int .i64 b, .int .i64 c, .int .i64 d][i * 2 + j]? = some u ∧ df [(a, b), (c, d)] i j = .val u := by
  intro i hi j hj
  match i, j, hi, hj with
  | 0, 0, _, _ => exact ⟨_, rfl, rfl⟩
  | 0, 1, _, _ => exact ⟨_, rfl, rfl⟩
  | 1, 0, _, _ => exact ⟨_, rfl, rfl⟩
  | 1, 1, _, _ => exact ⟨_, rfl, rfl⟩
theorem run26 (a b s : Value) (e1 : a.cells = #[a]) (e2 : b.cells = #[b]) (e3 : s.cells = #[s]) : Try.prog.built 26 [(0, .agg #[a, b]), (1, s)] = some #[a, b, s, .slice none 0 0] := by
  have hf : ∀ parts, Try.prog.built 26 parts = Instr.fill (fun i => (#[(0, 2), (2, 1), (3, 1)] : Array (Nat × Nat))[i]?) #[.int .i64 0, .int .i64 0, .slice none 0 0, .slice none 0 0] parts := fun parts => by kernel_rfl
  rw [hf]
  have e4 : (Value.agg #[a, b]).cells = #[a, b] := rfl
  simp [Instr.fill, e3, e4]
theorem tb26 (lo up : Int) (h : List Int) : ∀ (Z : Zone) (w : World) (vs : List Value), All2 (fun τ v => AV.ok Z w τ v) [lim lo up, zs h] vs → ∃ cs : List Value, Try.prog.built 26 ([0, 1].zip vs) = some cs.toArray ∧ cs.length = 4 ∧ ∀ i, i < 4 → ∃ u, cs[i]? = some u ∧ (blkF lo up h [] i).ok Z w u := by
  intro Z w vs hvs
  match vs, hvs with
  | [a, s], ⟨h1, h2, _⟩ =>
    obtain rfl : a = .agg #[.int .i64 lo, .int .i64 up] := h1
    have e3 := cells_one (AV.one_cells (τ := zs h) rfl h2)
    refine ⟨[.int .i64 lo, .int .i64 up, s, .slice none 0 0], run26 _ _ s rfl rfl e3, rfl, fun i hi => ?_⟩
    match i, hi with
    | 0, _ => exact ⟨_, rfl, rfl⟩
    | 1, _ => exact ⟨_, rfl, rfl⟩
    | 2, _ => exact ⟨_, rfl, h2⟩
    | 3, _ => exact ⟨_, rfl, none, 0, rfl, Nat.le_refl _, Nat.zero_le _, fun h => by simp at h⟩
abbrev gss (L : List (List Int)) : AV := .sl L.length 1 (gsF L)
theorem awake_c : CtrA Try.prog 12 [] (vb true) := by
  refine ctrA _ Try.func12 rfl rfl Try.ntmps12 rfl fun w Z => ?_
  have cP : CtrA Try.prog 16 [zs [10, 12, 15], zs [9, 10, 11], lim 1 3] (tupOf [dfs [(0, 0), (1, 1)], vi 0]) := by
    have := pairs_c [10, 12, 15] [9, 10, 11] 1 3
    rw [a_pairs, a_perr] at this
    exact (CtrR.told (fr' := df [(0, 0), (1, 1)]) this rfl (fun i hi j hj => by
      have : i < 2 := hi
      match i, j, this, hj with
      | 0, 0, _, _ => rfl
      | 0, 1, _, _ => rfl
      | 1, 0, _, _ => rfl
      | 1, 1, _, _ => rfl)).roN
  have cL : CtrA Try.prog 20 [zs [10, 12, 15], zs [9, 10, 11], vi 4] (tupOf [dfs [(0, 1), (1, 2)], vi 0]) := by
    have := plan_c [10, 12, 15] [9, 10, 11] 4
    rw [a_plan, a_plerr] at this
    exact this.roN
  have cG : CtrA Try.prog 25 [zs [3, 9, 4, 11, 5], vi 4] (tupOf [gss [[0], [2, 4], [1, 3]], vi 0]) := by
    have := groups_c [3, 9, 4, 11, 5] 4
    rw [a_groups, a_gerr] at this
    exact this.roN
  have q1 : CtrA Try.prog 35 [dfs [(0, 0), (1, 1)], dfs [(0, 0), (1, 1)]] (vb true) := by
    have := equalp_c [(0, 0), (1, 1)] [(0, 0), (1, 1)] (by simp)
    rwa [show eqP [(0, 0), (1, 1)] [(0, 0), (1, 1)] = true by kernel_rfl] at this
  have q2 : CtrA Try.prog 35 [dfs [(0, 1), (1, 2)], dfs [(0, 1), (1, 2)]] (vb true) := by
    have := equalp_c [(0, 1), (1, 2)] [(0, 1), (1, 2)] (by simp)
    rwa [show eqP [(0, 1), (1, 2)] [(0, 1), (1, 2)] = true by kernel_rfl] at this
  have p1 := prove_c [10, 12, 15] [9, 10, 11] 1 3 [0, 1] [] (by simp) (by simp)
  have p2 := prove_c [10, 12, 15] [9, 10, 11] 1 3 [0] [] (by simp) (by simp)
  rw [a_pr1] at p1
  rw [a_pr2] at p2
  have z1 : CtrA Try.prog 31 [zs [0], zs [0]] (vb true) := by
    have := equalz_c [0] [0] (by simp)
    rwa [show eqZ [0] [0] = true by kernel_rfl] at this
  have z2 : CtrA Try.prog 31 [zs [2, 4], zs [2, 4]] (vb true) := by
    have := equalz_c [2, 4] [2, 4] (by simp)
    rwa [show eqZ [2, 4] [2, 4] = true by kernel_rfl] at this
  have z3 : CtrA Try.prog 31 [zs [1, 3], zs [1, 3]] (vb true) := by
    have := equalz_c [1, 3] [1, 3] (by simp)
    rwa [show eqZ [1, 3] [1, 3] = true by kernel_rfl] at this
  simp only [initT, List.map_cons, List.map_nil, Nat.zero_add, Nat.reduceAdd]
  refine cq_seq ?_
  refine cq_region ?_
  apply sq_g; exact g_assign (s := .av (.val (.bool _))) rfl; exact rfl
  refine sq_nil ?_
  refine sq_then ?_
  refine cq_seq ?_
  refine cq_region ?_
  apply sq_g; exact  g_bslice (n := 3) (is := [0, 1, 2]) (xs := [_, _, _]) (vs := [_, _, _]) (us := [.int .i64 (10), .int .i64 (12), .int .i64 (15)]) (row := zf [10, 12, 15]) bs_ha rfl rfl rfl rw_ha; exact rfl
  apply sq_g; exact  g_bslice (n := 3) (is := [0, 1, 2]) (xs := [_, _, _]) (vs := [_, _, _]) (us := [.int .i64 (9), .int .i64 (10), .int .i64 (11)]) (row := zf [9, 10, 11]) bs_pa rfl rfl rfl rw_pa; exact rfl
  apply sq_g; exact  g_build (is := [0, 1]) (xs := [_, _]) (vs := [_, _]) (tb24 1 3) rfl rfl; exact rfl
  refine sq_v (f_alloc 10 rfl) rfl ?_
  apply sq_g; exact g_assign (s := .av _) rfl; exact rfl
  apply sq_g; exact g_assign (s := .av _) rfl; exact rfl
  refine sq_s (g_store_agg rfl rfl rfl rfl rfl rfl) ?_
  refine sq_nil ?_
  refine sq_then ?_
  refine cq_seq ?_
  refine cq_region ?_
  apply sq_g; exact g_move (s := .av _) rfl; exact rfl
  apply sq_g; exact g_move (s := .av _) rfl; exact rfl
  apply sq_g; exact g_load_own_agg (us := [.int _ _, .int _ _]) rfl rfl rfl rfl; exact rfl
  apply sq_g; exact g_call (cP) rfl; exact rfl
  apply sq_g; exact g_move (s := .av _) rfl; exact rfl
  apply sq_g; exact g_extractT rfl rfl; exact rfl
  apply sq_g; exact g_extractT rfl rfl; exact rfl
  apply sq_g; exact g_assign (s := .av _) rfl; exact rfl
  apply sq_g; exact g_assign (s := .av (.val (.int _ _))) rfl; exact rfl
  refine sq_nil ?_
  refine sq_then ?_
  refine cq_seq ?_
  refine cq_region ?_
  apply sq_g; exact g_move (s := .av _) rfl; exact rfl
  apply sq_g; exact g_move (s := .av _) rfl; exact rfl
  apply sq_g; exact g_call (cL) rfl; exact rfl
  apply sq_g; exact g_move (s := .av _) rfl; exact rfl
  apply sq_g; exact g_extractT rfl rfl; exact rfl
  apply sq_g; exact g_extractT rfl rfl; exact rfl
  apply sq_g; exact g_assign (s := .av _) rfl; exact rfl
  apply sq_g; exact g_assign (s := .av (.val (.int _ _))) rfl; exact rfl
  refine sq_nil ?_
  refine sq_then ?_
  refine cq_seq ?_
  refine cq_region ?_
  apply sq_g; exact  g_bslice (n := 5) (is := [0, 1, 2, 3, 4]) (xs := [_, _, _, _, _]) (vs := [_, _, _, _, _]) (us := [.int .i64 (3), .int .i64 (9), .int .i64 (4), .int .i64 (11), .int .i64 (5)]) (row := zf [3, 9, 4, 11, 5]) bs_ga rfl rfl rfl rw_ga; exact rfl
  apply sq_g; exact g_call (cG) rfl; exact rfl
  apply sq_g; exact g_move (s := .av _) rfl; exact rfl
  apply sq_g; exact g_extractT rfl rfl; exact rfl
  apply sq_g; exact g_extractT rfl rfl; exact rfl
  apply sq_g; exact g_assign (s := .av _) rfl; exact rfl
  apply sq_g; exact g_assign (s := .av (.val (.int _ _))) rfl; exact rfl
  refine sq_nil ?_
  refine sq_then ?_
  refine cq_seq ?_
  refine cq_seq ?_
  refine cq_region ?_
  apply sq_g; exact g_move (s := .av (.val (.int _ _))) rfl; exact rfl
  apply sq_g; exact g_move (s := .av (.val (.int _ _))) rfl; exact rfl
  apply sq_g; exact g_arith rfl rfl rfl (by omega); exact rfl
  apply sq_g; exact g_move (s := .av (.val (.int _ _))) rfl; exact rfl
  apply sq_g; exact g_arith rfl rfl rfl (by omega); exact rfl
  apply sq_g; exact g_cmp rfl rfl rfl; exact rfl
  apply sq_g; exact g_move (s := .av (.val (.bool _))) rfl; exact rfl
  apply sq_on; exact g_move (s := .av _) rfl; exact rfl; exact rfl; exact rfl
  apply sq_on; exact g_build (is := [0, 1]) (xs := [_, _]) (vs := [_, _]) (tb42 _ _) rfl rfl; exact rfl; exact rfl; exact rfl
  apply sq_on; exact g_build (is := [0, 1]) (xs := [_, _]) (vs := [_, _]) (tb42 _ _) rfl rfl; exact rfl; exact rfl; exact rfl
  apply sq_on; exact  g_bslice (is := [0, 1]) (xs := [_, _]) (vs := [_, _]) (us := [_, _, _, _]) (tq33_2 _ _ _ _) rfl rfl rfl (df2_row _ _ _ _); exact rfl; exact rfl; exact rfl
  apply sq_on; exact g_call (q1) rfl; exact rfl; exact rfl; exact rfl
  apply sq_on; exact g_not rfl; exact rfl; exact rfl; exact rfl
  apply sq_g; exact g_pick (s := .av (.val (.bool _))) rfl rfl; exact rfl
  apply sq_g; exact g_move (s := .av (.val (.bool _))) rfl; exact rfl
  apply sq_on; exact g_move (s := .av _) rfl; exact rfl; exact rfl; exact rfl
  apply sq_on; exact g_build (is := [0, 1]) (xs := [_, _]) (vs := [_, _]) (tb42 _ _) rfl rfl; exact rfl; exact rfl; exact rfl
  apply sq_on; exact g_build (is := [0, 1]) (xs := [_, _]) (vs := [_, _]) (tb42 _ _) rfl rfl; exact rfl; exact rfl; exact rfl
  apply sq_on; exact  g_bslice (is := [0, 1]) (xs := [_, _]) (vs := [_, _]) (us := [_, _, _, _]) (tq33_2 _ _ _ _) rfl rfl rfl (df2_row _ _ _ _); exact rfl; exact rfl; exact rfl
  apply sq_on; exact g_call (q2) rfl; exact rfl; exact rfl; exact rfl
  apply sq_on; exact g_not rfl; exact rfl; exact rfl; exact rfl
  apply sq_g; exact g_pick (s := .av (.val (.bool _))) rfl rfl; exact rfl
  apply sq_g; exact g_move (s := .av (.val (.bool _))) rfl; exact rfl
  apply sq_on; exact g_move (s := .av _) rfl; exact rfl; exact rfl; exact rfl
  apply sq_on; exact g_len rfl; exact rfl; exact rfl; exact rfl
  apply sq_on; exact g_cmp rfl rfl rfl; exact rfl; exact rfl; exact rfl
  apply sq_g; exact g_pick (s := .av (.val (.bool _))) rfl rfl; exact rfl
  refine sq_nil ?_
  refine sq_then ?_
  refine cq_cond_f rfl ?_
  refine cq_skip ?_
  refine sq_then ?_
  refine cq_seq ?_
  refine cq_seq ?_
  refine cq_region ?_
  apply sq_g; exact g_move (s := .av _) rfl; exact rfl
  apply sq_g; exact g_move (s := .av _) rfl; exact rfl
  apply sq_g; exact g_load_own_agg (us := [.int _ _, .int _ _]) rfl rfl rfl rfl; exact rfl
  apply sq_g; exact  g_bslice (n := 2) (is := [0, 1]) (xs := [_, _]) (vs := [_, _]) (us := [.int .i64 (0), .int .i64 (1)]) (row := zf [0, 1]) bs_r01 rfl rfl rfl rw_r01; exact rfl
  apply sq_g; exact  g_build_gen (is := [0, 1]) (xs := [_, _]) (τs := [lim 1 3, zs [0, 1]]) (n := 4) (f := blkF 1 3 [0, 1] []) rfl rfl (tb26 1 3 [0, 1]); exact rfl
  apply sq_g; exact g_call (p1) rfl; exact rfl
  apply sq_g; exact g_cmp rfl rfl rfl; exact rfl
  apply sq_g; exact g_move (s := .av (.val (.bool _))) rfl; exact rfl
  apply sq_on; exact g_move (s := .av _) rfl; exact rfl; exact rfl; exact rfl
  apply sq_on; exact g_move (s := .av _) rfl; exact rfl; exact rfl; exact rfl
  apply sq_on; exact g_load_own_agg (us := [.int _ _, .int _ _]) rfl rfl rfl rfl; exact rfl; exact rfl; exact rfl
  apply sq_on; exact  g_bslice (n := 1) (is := [0]) (xs := [_]) (vs := [_]) (us := [.int .i64 (0)]) (row := zf [0]) bs_r0 rfl rfl rfl rw_r0; exact rfl; exact rfl; exact rfl
  apply sq_on; exact  g_build_gen (is := [0, 1]) (xs := [_, _]) (τs := [lim 1 3, zs [0]]) (n := 4) (f := blkF 1 3 [0] []) rfl rfl (tb26 1 3 [0]); exact rfl; exact rfl; exact rfl
  apply sq_on; exact g_call (p2) rfl; exact rfl; exact rfl; exact rfl
  apply sq_on; exact g_cmp rfl rfl rfl; exact rfl; exact rfl; exact rfl
  apply sq_g; exact g_pick (s := .av (.val (.bool _))) rfl rfl; exact rfl
  refine sq_nil ?_
  refine sq_then ?_
  refine cq_cond_f rfl ?_
  refine cq_skip ?_
  refine sq_then ?_
  refine cq_seq ?_
  refine cq_region ?_
  apply sq_g; exact g_move (s := .av _) rfl; exact rfl
  apply sq_g; exact  g_index (k := 0) rfl rfl rfl (by decide); exact rfl
  apply sq_g; exact  g_load (τ := zs [0]) rfl rfl rfl; exact rfl
  apply sq_g; exact  g_bslice (n := 1) (is := [0]) (xs := [_]) (vs := [_]) (us := [.int .i64 (0)]) (row := zf [0]) bs_r0 rfl rfl rfl rw_r0; exact rfl
  apply sq_g; exact g_call (z1) rfl; exact rfl
  apply sq_g; exact g_move (s := .av (.val (.bool _))) rfl; exact rfl
  apply sq_on; exact g_move (s := .av _) rfl; exact rfl; exact rfl; exact rfl
  apply sq_on; exact  g_index (k := 1) rfl rfl rfl (by decide); exact rfl; exact rfl; exact rfl
  apply sq_on; exact  g_load (τ := zs [2, 4]) rfl rfl rfl; exact rfl; exact rfl; exact rfl
  apply sq_on; exact  g_bslice (n := 2) (is := [0, 1]) (xs := [_, _]) (vs := [_, _]) (us := [.int .i64 (2), .int .i64 (4)]) (row := zf [2, 4]) bs_r24 rfl rfl rfl rw_r24; exact rfl; exact rfl; exact rfl
  apply sq_on; exact g_call (z2) rfl; exact rfl; exact rfl; exact rfl
  apply sq_g; exact g_pick (s := .av (.val (.bool _))) rfl rfl; exact rfl
  apply sq_g; exact g_move (s := .av (.val (.bool _))) rfl; exact rfl
  apply sq_on; exact g_move (s := .av _) rfl; exact rfl; exact rfl; exact rfl
  apply sq_on; exact  g_index (k := 2) rfl rfl rfl (by decide); exact rfl; exact rfl; exact rfl
  apply sq_on; exact  g_load (τ := zs [1, 3]) rfl rfl rfl; exact rfl; exact rfl; exact rfl
  apply sq_on; exact  g_bslice (n := 2) (is := [0, 1]) (xs := [_, _]) (vs := [_, _]) (us := [.int .i64 (1), .int .i64 (3)]) (row := zf [1, 3]) bs_r13 rfl rfl rfl rw_r13; exact rfl; exact rfl; exact rfl
  apply sq_on; exact g_call (z3) rfl; exact rfl; exact rfl; exact rfl
  apply sq_g; exact g_pick (s := .av (.val (.bool _))) rfl rfl; exact rfl
  apply sq_g; exact g_assign (s := .av (.val (.bool _))) rfl; exact rfl
  refine sq_nil ?_
  refine sq_then ?_
  refine cq_ret ?_
  exact sq_res1 rfl (.tmp rfl) rfl
end Go.Proofs.Ytogilkilkmoedaa
