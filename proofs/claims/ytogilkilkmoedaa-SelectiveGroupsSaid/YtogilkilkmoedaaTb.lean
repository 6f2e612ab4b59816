/- A part of the proof that the law returns true at every input and that the input reads behind the call as it read before; this part states nothing of its own that needs a condition of the input. -/
import Derived.Test.YtogilkilkmoedaaX
import Derived.Test.YtogilkilkmoedaaTa
set_option linter.unusedVariables false
set_option linter.unusedSimpArgs false
namespace Go.Proofs.Ytogilkilkmoedaa
open Go Go.Vc Go.RowKit
set_option maxHeartbeats 8000000
/-! KDQ -/
instance mt98 : MapTy Try.prog 98 3 4 := ⟨Try.underlying98, Try.underlying3⟩
def usedB (l : List (Int × Int)) (i : Nat) (p : Int) : Bool := (List.range i).any (fun k => (gp l k).2 == p)
/-- The error of pairs, from i on. -/
def vrE (HH PP : List Int) (lo up : Int) (l : List (Int × Int)) : Nat → Nat → Int
  | 0, _ => 0
  | c + 1, i =>
    if (gp l i).1 < 0 ∨ (HH.length : Int) ≤ (gp l i).1 ∨ (gp l i).2 < 0 ∨ (PP.length : Int) ≤ (gp l i).2 then 2
    else if 0 < i ∧ (gp l i).1 ≤ (gp l (i - 1)).1 then 9
    else if usedB l i (gp l i).2 = true then 7
    else if fitN HH PP lo up (gp l i).1.toNat (gp l i).2.toNat = false then 15
    else vrE HH PP lo up l c (i + 1)
def verZ (HH PP : List Int) (lo up : Int) (l : List (Int × Int)) : Int := if errC HH PP lo up ≠ 0 then errC HH PP lo up else if 256 < l.length then 5 else vrE HH PP lo up l l.length 0
def prF (lo up : Int) (l : List (Int × Int)) : Nat → AV := fun i => [vi lo, vi up, dfs l].getD i .any
theorem usedB_succ (l : List (Int × Int)) (i : Nat) (p : Int) : usedB l (i + 1) p = true ↔ p = (gp l i).2 ∨ usedB l i p = true := by
  unfold usedB
  rw [List.range_succ, List.any_append]
  simp only [List.any_cons, List.any_nil, Bool.or_false, Bool.or_eq_true, beq_iff_eq]
  constructor
  · rintro (h | h)
    · exact .inr h
    · exact .inl h.symm
  · rintro (h | h)
    · exact .inr h.symm
    · exact .inl h
theorem verify_c (HH PP : List Int) (lo up : Int) (l : List (Int × Int)) : CtrA Try.prog 32 [zs HH, zs PP, .agg 3 (prF lo up l)] (vi (verZ HH PP lo up l)) := by
  refine ctrA _ Try.func32 rfl rfl Try.ntmps32 rfl fun w0 Z => ?_
  have hchk := check_c HH PP lo up
  simp only [initT, List.map_cons, List.map_nil, Nat.zero_add, Nat.reduceAdd]
  refine cq_seq ?_
  refine cq_region ?_
  apply sq_g; exact  g_box_aggv rfl; exact rfl
  apply sq_g; exact g_assign (s := .av (.val (.int _ _))) rfl; exact rfl
  refine sq_nil ?_
  refine sq_then ?_
  refine cq_seq ?_
  refine cq_seq ?_
  refine cq_region ?_
  apply sq_g; exact g_move (s := .av _) rfl; exact rfl
  apply sq_g; exact g_move (s := .av _) rfl; exact rfl
  apply sq_g; exact g_field rfl; exact rfl
  apply sq_g; exact g_load_agg (us := [.int _ _, .int _ _]) rfl rfl rfl rfl; exact rfl
  apply sq_g; exact g_call (hchk) rfl; exact rfl
  apply sq_g; exact g_assign (s := .av (.val (.int _ _))) rfl; exact rfl
  refine sq_nil ?_
  refine sq_then ?_
  refine cq_seq ?_
  refine cq_region ?_
  apply sq_g; exact g_move (s := .av (.val (.int _ _))) rfl; exact rfl
  apply sq_g; exact g_cmp rfl rfl rfl; exact rfl
  refine sq_nil ?_
  refine sq_then ?_
  (refine cq_cond rfl (fun hb => ?_) (fun hb => ?_) <;> (try simp only [decide_eq_true_eq, decide_eq_false_iff_not, beq_iff_eq, beq_eq_false_iff_ne, bne_iff_ne, bne_eq_false_iff_eq, ne_eq, Bool.not_eq_true', Bool.not_eq_false', Bool.and_eq_true, Bool.or_eq_true, Bool.and_eq_false_iff, Bool.or_eq_false_iff] at hb) <;> (try (exfalso; omega)))
  · have e1 : verZ HH PP lo up l = errC HH PP lo up := by unfold verZ; rw [if_pos hb]
    refine cq_seq ?_
    refine cq_region ?_
    apply sq_g; exact g_move (s := .av (.val (.int _ _))) rfl; exact rfl
    apply sq_g; exact g_assign (s := .av (.val (.int _ _))) rfl; exact rfl
    refine sq_nil ?_
    refine sq_then ?_
    refine cq_ret ?_
    refine sq_then_ret ?_
    exact sq_res1 rfl (.tmp rfl) (by rw [e1])
  · have he : errC HH PP lo up = 0 := by omega
    obtain ⟨rH, rP⟩ := errC_ok he
    have bH := rH.bi
    have bP := rP.bi
    have sH := rH.len
    have sP := rP.len
    have e0 : verZ HH PP lo up l = if 256 < l.length then 5 else vrE HH PP lo up l l.length 0 := by unfold verZ; rw [if_neg (by omega)]
    refine cq_skip ?_
    refine sq_then ?_
    refine cq_seq ?_
    refine cq_seq ?_
    refine cq_region ?_
    apply sq_g; exact g_field rfl; exact rfl
    apply sq_g; exact g_load rfl rfl rfl; exact rfl
    apply sq_g; exact g_len rfl; exact rfl
    apply sq_g; exact g_cmp rfl rfl rfl; exact rfl
    refine sq_nil ?_
    refine sq_then ?_
    (refine cq_cond rfl (fun hb => ?_) (fun hb => ?_) <;> (try simp only [decide_eq_true_eq, decide_eq_false_iff_not, beq_iff_eq, beq_eq_false_iff_ne, bne_iff_ne, bne_eq_false_iff_eq, ne_eq, Bool.not_eq_true', Bool.not_eq_false', Bool.and_eq_true, Bool.or_eq_true, Bool.and_eq_false_iff, Bool.or_eq_false_iff] at hb) <;> (try (exfalso; omega)))
    · rw [if_pos (by omega)] at e0
      refine cq_seq ?_
      refine cq_region ?_
      apply sq_g; exact g_assign (s := .av (.val (.int _ _))) rfl; exact rfl
      refine sq_nil ?_
      refine sq_then ?_
      refine cq_ret ?_
      refine sq_then_ret ?_
      exact sq_res1 rfl (.tmp rfl) (by rw [e0])
    · rw [if_neg (by omega)] at e0
      have sl : l.length ≤ 256 := by omega
      obtain ⟨R, eR⟩ : ∃ R, vrE HH PP lo up l l.length 0 = R := ⟨_, rfl⟩
      rw [eR] at e0
      refine cq_skip ?_
      refine sq_then ?_
      refine cq_seq ?_
      refine cq_region ?_
      refine sq_v (f_makeMapV 60 (fun _ => .bool true) rfl) rfl ?_
      apply sq_g; exact g_assign (s := .osl _) rfl; exact rfl
      refine sq_nil ?_
      refine sq_then ?_
      refine cq_seq ?_
      refine cq_seq ?_
      refine cq_region ?_
      apply sq_g; exact g_field rfl; exact rfl
      apply sq_g; exact g_load rfl rfl rfl; exact rfl
      apply sq_g; exact g_len rfl; exact rfl
      apply sq_g; exact g_move (s := .av (.val (.int _ _))) rfl; exact rfl
      refine sq_nil ?_
      refine sq_then ?_
      refine cq_block ?_
      refine cq_loop (γ := Nat × List Int) (fun x => [(0, .av (zs HH)), (1, .av (zs PP)), (5, .av (.ptr 3 (prF lo up l))), (8, .osl 60), (25, .av (dfs l)), (26, .av (vi l.length)), (27, .av (vi x.1))]) (fun x => [(60, .vm Try.prog 3 x.2 x.1 (fun _ => .bool true))]) (fun x => x.1 ≤ l.length ∧ (∀ a, a ∈ x.2 ↔ usedB l x.1 a = true) ∧ vrE HH PP lo up l (l.length - x.1) x.1 = R) (fun x => l.length - x.1) (0, []) ⟨Nat.zero_le _, fun a => by simp [usedB], by simpa using eR⟩ (ent ⟨.refl _, .refl _, .refl _, .refl _, .refl _, .refl _, .refl _, trivial⟩ ⟨⟨_, rfl, .refl _⟩, trivial⟩) ?_
      rintro ⟨i, ks⟩ ⟨hi, hks, hg⟩
      dsimp only at hi hks hg ⊢
      refine cq_seq ?_
      refine cq_region ?_
      apply sq_g; exact g_cmp rfl rfl rfl; exact rfl
      refine sq_nil ?_
      refine sq_then ?_
      refine cq_seq ?_
      (refine cq_cond rfl (fun hb => ?_) (fun hb => ?_) <;> (try simp only [decide_eq_true_eq, decide_eq_false_iff_not, beq_iff_eq, beq_eq_false_iff_ne, bne_iff_ne, bne_eq_false_iff_eq, ne_eq, Bool.not_eq_true', Bool.not_eq_false', Bool.and_eq_true, Bool.or_eq_true, Bool.and_eq_false_iff, Bool.or_eq_false_iff] at hb) <;> (try (exfalso; omega)))
      · have hil : i < l.length := by omega
        have hn : l.length - i = (l.length - (i + 1)) + 1 := by omega
        rw [hn] at hg
        unfold vrE at hg
        focus
          refine cq_skip ?_
          refine sq_then ?_
          refine cq_seq ?_
          refine cq_block ?_
          refine cq_seq ?_
          refine cq_region ?_
          apply sq_g; exact g_move (s := .av (.val (.int _ _))) rfl; exact rfl
          apply sq_g; exact g_index rfl rfl rfl (by omega); exact rfl
          apply sq_g; exact g_load_agg (us := [.int _ _, .int _ _]) rfl rfl rfl rfl; exact rfl
          refine sq_v (f_alloc 10 rfl) rfl ?_
          apply sq_g; exact g_assign (s := .av (.val (.int _ _))) rfl; exact rfl
          refine sq_s (g_store_agg rfl rfl rfl rfl rfl rfl) ?_
          refine sq_nil ?_
          refine sq_then ?_
          refine cq_seq ?_
          refine cq_block ?_
          refine cq_seq ?_
          refine cq_region ?_
          apply sq_g; exact g_index_own rfl rfl rfl (by decide); exact rfl
          apply sq_g; exact g_load_own (s := .av (.val (.int _ _))) rfl rfl rfl; exact rfl
          apply sq_g; exact g_cmp rfl rfl rfl; exact rfl
          apply sq_g; exact g_move (s := .av (.val (.bool _))) rfl; exact rfl
          refine sq_split rfl rfl (fun hb => ?_) (fun hb => ?_) <;> (try simp only [decide_eq_true_eq, decide_eq_false_iff_not, beq_iff_eq, beq_eq_false_iff_ne, bne_iff_ne, bne_eq_false_iff_eq, ne_eq, Bool.not_eq_true', Bool.not_eq_false', Bool.and_eq_true, Bool.or_eq_true, Bool.and_eq_false_iff, Bool.or_eq_false_iff] at hb) <;> (try (exfalso; omega))
          refine sq_off rfl rfl rfl rfl ?_
          refine sq_off rfl rfl rfl rfl ?_
          refine sq_off rfl rfl rfl rfl ?_
          refine sq_off rfl rfl rfl rfl ?_
          refine sq_off rfl rfl rfl rfl ?_
          apply sq_g; exact g_pick (s := .av (.val (.bool _))) rfl rfl; exact rfl
          apply sq_g; exact g_move (s := .av (.val (.bool _))) rfl; exact rfl
          refine sq_off rfl rfl rfl rfl ?_
          refine sq_off rfl rfl rfl rfl ?_
          refine sq_off rfl rfl rfl rfl ?_
          apply sq_g; exact g_pick (s := .av (.val (.bool _))) rfl rfl; exact rfl
          apply sq_g; exact g_move (s := .av (.val (.bool _))) rfl; exact rfl
          refine sq_off rfl rfl rfl rfl ?_
          refine sq_off rfl rfl rfl rfl ?_
          refine sq_off rfl rfl rfl rfl ?_
          refine sq_off rfl rfl rfl rfl ?_
          refine sq_off rfl rfl rfl rfl ?_
          apply sq_g; exact g_pick (s := .av (.val (.bool _))) rfl rfl; exact rfl
          apply sq_g; exact g_assign (s := .av (.val (.bool _))) rfl; exact rfl
          refine sq_nil ?_
          refine sq_then ?_
          refine cq_cond_t rfl ?_
          refine cq_seq ?_
          refine cq_region ?_
          apply sq_g; exact g_assign (s := .av (.val (.int _ _))) rfl; exact rfl
          refine sq_nil ?_
          refine sq_then ?_
          refine cq_ret ?_
          refine sq_inBlock_ret ?_
          refine sq_then_ret ?_
          refine sq_inBlock_ret ?_
          refine sq_then_ret ?_
          refine sq_then_ret ?_
          refine sq_inBlock_ret ?_
          refine sq_then_ret ?_
          rotate_left
          apply sq_on; exact g_index_own rfl rfl rfl (by decide); exact rfl; exact rfl; exact rfl
          apply sq_on; exact g_load_own (s := .av (.val (.int _ _))) rfl rfl rfl; exact rfl; exact rfl; exact rfl
          apply sq_on; exact g_move (s := .av _) rfl; exact rfl; exact rfl; exact rfl
          apply sq_on; exact g_len rfl; exact rfl; exact rfl; exact rfl
          apply sq_on; exact g_cmp rfl rfl rfl; exact rfl; exact rfl; exact rfl
          apply sq_g; exact g_pick (s := .av (.val (.bool _))) rfl rfl; exact rfl
          apply sq_g; exact g_move (s := .av (.val (.bool _))) rfl; exact rfl
          refine sq_split rfl rfl (fun hb => ?_) (fun hb => ?_) <;> (try simp only [decide_eq_true_eq, decide_eq_false_iff_not, beq_iff_eq, beq_eq_false_iff_ne, bne_iff_ne, bne_eq_false_iff_eq, ne_eq, Bool.not_eq_true', Bool.not_eq_false', Bool.and_eq_true, Bool.or_eq_true, Bool.and_eq_false_iff, Bool.or_eq_false_iff] at hb) <;> (try (exfalso; omega))
          refine sq_off rfl rfl rfl rfl ?_
          refine sq_off rfl rfl rfl rfl ?_
          refine sq_off rfl rfl rfl rfl ?_
          apply sq_g; exact g_pick (s := .av (.val (.bool _))) rfl rfl; exact rfl
          apply sq_g; exact g_move (s := .av (.val (.bool _))) rfl; exact rfl
          refine sq_off rfl rfl rfl rfl ?_
          refine sq_off rfl rfl rfl rfl ?_
          refine sq_off rfl rfl rfl rfl ?_
          refine sq_off rfl rfl rfl rfl ?_
          refine sq_off rfl rfl rfl rfl ?_
          apply sq_g; exact g_pick (s := .av (.val (.bool _))) rfl rfl; exact rfl
          apply sq_g; exact g_assign (s := .av (.val (.bool _))) rfl; exact rfl
          refine sq_nil ?_
          refine sq_then ?_
          refine cq_cond_t rfl ?_
          refine cq_seq ?_
          refine cq_region ?_
          apply sq_g; exact g_assign (s := .av (.val (.int _ _))) rfl; exact rfl
          refine sq_nil ?_
          refine sq_then ?_
          refine cq_ret ?_
          refine sq_inBlock_ret ?_
          refine sq_then_ret ?_
          refine sq_inBlock_ret ?_
          refine sq_then_ret ?_
          refine sq_then_ret ?_
          refine sq_inBlock_ret ?_
          refine sq_then_ret ?_
          rotate_left
          apply sq_on; exact g_index_own rfl rfl rfl (by decide); exact rfl; exact rfl; exact rfl
          apply sq_on; exact g_load_own (s := .av (.val (.int _ _))) rfl rfl rfl; exact rfl; exact rfl; exact rfl
          apply sq_on; exact g_cmp rfl rfl rfl; exact rfl; exact rfl; exact rfl
          apply sq_g; exact g_pick (s := .av (.val (.bool _))) rfl rfl; exact rfl
          apply sq_g; exact g_move (s := .av (.val (.bool _))) rfl; exact rfl
          refine sq_split rfl rfl (fun hb => ?_) (fun hb => ?_) <;> (try simp only [decide_eq_true_eq, decide_eq_false_iff_not, beq_iff_eq, beq_eq_false_iff_ne, bne_iff_ne, bne_eq_false_iff_eq, ne_eq, Bool.not_eq_true', Bool.not_eq_false', Bool.and_eq_true, Bool.or_eq_true, Bool.and_eq_false_iff, Bool.or_eq_false_iff] at hb) <;> (try (exfalso; omega))
          refine sq_off rfl rfl rfl rfl ?_
          refine sq_off rfl rfl rfl rfl ?_
          refine sq_off rfl rfl rfl rfl ?_
          refine sq_off rfl rfl rfl rfl ?_
          refine sq_off rfl rfl rfl rfl ?_
          apply sq_g; exact g_pick (s := .av (.val (.bool _))) rfl rfl; exact rfl
          apply sq_g; exact g_assign (s := .av (.val (.bool _))) rfl; exact rfl
          refine sq_nil ?_
          refine sq_then ?_
          refine cq_cond_t rfl ?_
          refine cq_seq ?_
          refine cq_region ?_
          apply sq_g; exact g_assign (s := .av (.val (.int _ _))) rfl; exact rfl
          refine sq_nil ?_
          refine sq_then ?_
          refine cq_ret ?_
          refine sq_inBlock_ret ?_
          refine sq_then_ret ?_
          refine sq_inBlock_ret ?_
          refine sq_then_ret ?_
          refine sq_then_ret ?_
          refine sq_inBlock_ret ?_
          refine sq_then_ret ?_
          rotate_left
          apply sq_on; exact g_index_own rfl rfl rfl (by decide); exact rfl; exact rfl; exact rfl
          apply sq_on; exact g_load_own (s := .av (.val (.int _ _))) rfl rfl rfl; exact rfl; exact rfl; exact rfl
          apply sq_on; exact g_move (s := .av _) rfl; exact rfl; exact rfl; exact rfl
          apply sq_on; exact g_len rfl; exact rfl; exact rfl; exact rfl
          apply sq_on; exact g_cmp rfl rfl rfl; exact rfl; exact rfl; exact rfl
          apply sq_g; exact g_pick (s := .av (.val (.bool _))) rfl rfl; exact rfl
          apply sq_g; exact g_assign (s := .av (.val (.bool _))) rfl; exact rfl
          refine sq_nil ?_
          refine sq_then ?_
          rotate_left
        · rw [if_pos (.inl hb)] at hg
          rw [← hg] at e0
          exact sq_res1 rfl (.tmp rfl) (by rw [e0])
        · rw [if_pos (.inr (.inl hb))] at hg
          rw [← hg] at e0
          exact sq_res1 rfl (.tmp rfl) (by rw [e0])
        · rw [if_pos (.inr (.inr (.inl hb)))] at hg
          rw [← hg] at e0
          exact sq_res1 rfl (.tmp rfl) (by rw [e0])
        · rename_i h0 h1
          have h2 := hb
          (refine cq_cond rfl (fun hb => ?_) (fun hb => ?_) <;> (try simp only [decide_eq_true_eq, decide_eq_false_iff_not, beq_iff_eq, beq_eq_false_iff_ne, bne_iff_ne, bne_eq_false_iff_eq, ne_eq, Bool.not_eq_true', Bool.not_eq_false', Bool.and_eq_true, Bool.or_eq_true, Bool.and_eq_false_iff, Bool.or_eq_false_iff] at hb) <;> (try (exfalso; omega)))
          · rw [if_pos (.inr (.inr (.inr hb)))] at hg
            rw [← hg] at e0
            refine cq_seq ?_
            refine cq_region ?_
            apply sq_g; exact g_assign (s := .av (.val (.int _ _))) rfl; exact rfl
            refine sq_nil ?_
            refine sq_then ?_
            refine cq_ret ?_
            refine sq_inBlock_ret ?_
            refine sq_then_ret ?_
            refine sq_inBlock_ret ?_
            refine sq_then_ret ?_
            refine sq_then_ret ?_
            refine sq_inBlock_ret ?_
            refine sq_then_ret ?_
            exact sq_res1 rfl (.tmp rfl) (by rw [e0])
          · rw [if_neg (by omega)] at hg
            have h3 := hb
            have hlk : (if (gp l i).2 ∈ ks then Value.bool true else Value.bool false) = Value.bool (usedB l i (gp l i).2) := by
              by_cases hu : usedB l i (gp l i).2 = true
              · rw [if_pos ((hks _).2 hu), hu]
              · rw [if_neg (fun h => hu ((hks _).1 h)), Bool.eq_false_iff.2 hu]
            have e1 : (gp l i).1 = (((gp l i).1.toNat : Nat) : Int) := by omega
            have e2 : (gp l i).2 = (((gp l i).2.toNat : Nat) : Int) := by omega
            have l1 : (gp l i).1.toNat < HH.length := by omega
            have l2 : (gp l i).2.toNat < PP.length := by omega
            have cf : CtrA Try.prog 36 [vi (gz HH (gp l i).1.toNat), vi (gz PP (gp l i).2.toNat), lim lo up] (vb (fitN HH PP lo up (gp l i).1.toNat (gp l i).2.toNat)) := fits_c _ _ lo up (bH _) (bP _)
            have hc : (fun b => if b = (gp l i).2 then Value.bool true else (fun _ => Value.bool true) b) = fun _ => Value.bool true := by funext b; split <;> rfl
            have hmx : i < maxLen := Nat.lt_of_lt_of_le (by omega : i < 1000) (by decide)
            have hnx : ∀ a, a ∈ insK (gp l i).2 ks ↔ usedB l (i + 1) a = true := fun a => by rw [mem_insK, usedB_succ, hks]
            focus
              refine cq_seq ?_
              refine cq_drawn ?_
              apply dq_g; exact g_move (s := .av (.val (.int _ _))) rfl; exact rfl
              apply dq_g; exact g_cmp rfl rfl rfl; exact rfl
              apply dq_g; exact g_move (s := .av (.val (.bool _))) rfl; exact rfl
              refine dq_split rfl rfl (fun hb => ?_) (fun hb => ?_) <;> (try simp only [decide_eq_true_eq, decide_eq_false_iff_not, beq_iff_eq, beq_eq_false_iff_ne, bne_iff_ne, bne_eq_false_iff_eq, ne_eq, Bool.not_eq_true', Bool.not_eq_false', Bool.and_eq_true, Bool.or_eq_true, Bool.and_eq_false_iff, Bool.or_eq_false_iff] at hb) <;> (try (exfalso; omega))
              apply dq_on; exact g_field rfl; exact rfl; exact rfl; exact rfl
              apply dq_on; exact g_load rfl rfl rfl; exact rfl; exact rfl; exact rfl
              apply dq_on; exact g_move (s := .av (.val (.int _ _))) rfl; exact rfl; exact rfl; exact rfl
              apply dq_on; exact g_arith rfl rfl rfl (by omega); exact rfl; exact rfl; exact rfl
              apply dq_on; exact  g_index (k := i - 1) rfl rfl (by omega) (by omega); exact rfl; exact rfl; exact rfl
              apply dq_on; exact g_index_arr rfl rfl rfl (by decide) rfl; exact rfl; exact rfl; exact rfl
              apply dq_on; exact g_load (τ := .val (.int _ _)) rfl rfl rfl; exact rfl; exact rfl; exact rfl
              apply dq_on; exact g_index_own rfl rfl rfl (by decide); exact rfl; exact rfl; exact rfl
              apply dq_on; exact g_load_own (s := .av (.val (.int _ _))) rfl rfl rfl; exact rfl; exact rfl; exact rfl
              apply dq_on; exact g_cmp rfl rfl rfl; exact rfl; exact rfl; exact rfl
              apply dq_g; exact g_pick (s := .av (.val (.bool _))) rfl rfl; exact rfl
              apply dq_g; exact g_assign (s := .av (.val (.bool _))) rfl; exact rfl
              refine dq_nil tm (by kernel_rfl) ?_
              refine sq_then ?_
              rotate_left
              refine dq_off nofun rfl rfl rfl rfl ?_
              refine dq_off nofun rfl rfl rfl rfl ?_
              refine dq_off nofun rfl rfl rfl rfl ?_
              refine dq_off nofun rfl rfl rfl rfl ?_
              refine dq_off nofun rfl rfl rfl rfl ?_
              refine dq_off nofun rfl rfl rfl rfl ?_
              refine dq_off nofun rfl rfl rfl rfl ?_
              refine dq_off nofun rfl rfl rfl rfl ?_
              refine dq_off nofun rfl rfl rfl rfl ?_
              refine dq_off nofun rfl rfl rfl rfl ?_
              apply dq_g; exact g_pick (s := .av (.val (.bool _))) rfl rfl; exact rfl
              apply dq_g; exact g_assign (s := .av (.val (.bool _))) rfl; exact rfl
              refine dq_nil tm (by kernel_rfl) ?_
              refine sq_then ?_
              refine cq_cond_f rfl ?_
              refine cq_seq ?_
              refine cq_region ?_
              apply sq_g; exact g_move (s := .osl _) rfl; exact rfl
              apply sq_g; exact g_index_own rfl rfl rfl (by decide); exact rfl
              apply sq_g; exact g_load_own (s := .av (.val (.int _ _))) rfl rfl rfl; exact rfl
              apply sq_g; exact  g_lookup_vq (fun w => by kernel_rfl) rfl rfl rfl (by omega) hlk; exact rfl
              apply sq_g; exact g_assign (s := .av (.val (.bool _))) rfl; exact rfl
              refine sq_nil ?_
              refine sq_then ?_
              rotate_left
            · have h4 := hb
              (refine cq_cond rfl (fun hb => ?_) (fun hb => ?_) <;> (try simp only [decide_eq_true_eq, decide_eq_false_iff_not, beq_iff_eq, beq_eq_false_iff_ne, bne_iff_ne, bne_eq_false_iff_eq, ne_eq, Bool.not_eq_true', Bool.not_eq_false', Bool.and_eq_true, Bool.or_eq_true, Bool.and_eq_false_iff, Bool.or_eq_false_iff] at hb) <;> (try (exfalso; omega)))
              · rw [if_pos ⟨by omega, by omega⟩] at hg
                rw [← hg] at e0
                refine cq_seq ?_
                refine cq_region ?_
                apply sq_g; exact g_assign (s := .av (.val (.int _ _))) rfl; exact rfl
                refine sq_nil ?_
                refine sq_then ?_
                refine cq_ret ?_
                refine sq_inBlock_ret ?_
                refine sq_then_ret ?_
                refine sq_inBlock_ret ?_
                refine sq_then_ret ?_
                refine sq_then_ret ?_
                refine sq_inBlock_ret ?_
                refine sq_then_ret ?_
                exact sq_res1 rfl (.tmp rfl) (by rw [e0])
              · rw [if_neg (by omega)] at hg
                refine cq_seq ?_
                refine cq_region ?_
                apply sq_g; exact g_move (s := .osl _) rfl; exact rfl
                apply sq_g; exact g_index_own rfl rfl rfl (by decide); exact rfl
                apply sq_g; exact g_load_own (s := .av (.val (.int _ _))) rfl rfl rfl; exact rfl
                apply sq_g; exact  g_lookup_vq (fun w => by kernel_rfl) rfl rfl rfl (by omega) hlk; exact rfl
                apply sq_g; exact g_assign (s := .av (.val (.bool _))) rfl; exact rfl
                refine sq_nil ?_
                refine sq_then ?_
                refine cq_cond rfl (fun hb => ?_) (fun hb => ?_)
                · rw [if_pos hb] at hg
                  rw [← hg] at e0
                  refine cq_seq ?_
                  refine cq_region ?_
                  apply sq_g; exact g_assign (s := .av (.val (.int _ _))) rfl; exact rfl
                  refine sq_nil ?_
                  refine sq_then ?_
                  refine cq_ret ?_
                  refine sq_inBlock_ret ?_
                  refine sq_then_ret ?_
                  refine sq_inBlock_ret ?_
                  refine sq_then_ret ?_
                  refine sq_then_ret ?_
                  refine sq_inBlock_ret ?_
                  refine sq_then_ret ?_
                  exact sq_res1 rfl (.tmp rfl) (by rw [e0])
                · rw [if_neg (by rw [hb]; simp)] at hg
                  refine cq_seq ?_
                  refine cq_drawn ?_
                  apply dq_g; exact g_move (s := .av _) rfl; exact rfl
                  apply dq_g; exact g_index_own rfl rfl rfl (by decide); exact rfl
                  apply dq_g; exact g_load_own (s := .av (.val (.int _ _))) rfl rfl rfl; exact rfl
                  apply dq_g; exact  g_index (k := (gp l i).1.toNat) rfl rfl e1 l1; exact rfl
                  apply dq_g; exact g_load (τ := .val (.int _ _)) rfl rfl rfl; exact rfl
                  apply dq_g; exact g_move (s := .av _) rfl; exact rfl
                  apply dq_g; exact g_index_own rfl rfl rfl (by decide); exact rfl
                  apply dq_g; exact g_load_own (s := .av (.val (.int _ _))) rfl rfl rfl; exact rfl
                  apply dq_g; exact  g_index (k := (gp l i).2.toNat) rfl rfl e2 l2; exact rfl
                  apply dq_g; exact g_load (τ := .val (.int _ _)) rfl rfl rfl; exact rfl
                  apply dq_g; exact g_field rfl; exact rfl
                  apply dq_g; exact g_load_agg (us := [.int _ _, .int _ _]) rfl rfl rfl rfl; exact rfl
                  apply dq_g; exact g_call (cf) rfl; exact rfl
                  apply dq_g; exact g_not rfl; exact rfl
                  apply dq_g; exact g_assign (s := .av (.val (.bool _))) rfl; exact rfl
                  refine dq_nil tm (by kernel_rfl) ?_
                  refine sq_then ?_
                  refine cq_cond rfl (fun hb => ?_) (fun hb => ?_)
                  · rw [if_pos (by simpa using hb)] at hg
                    rw [← hg] at e0
                    refine cq_seq ?_
                    refine cq_region ?_
                    apply sq_g; exact g_assign (s := .av (.val (.int _ _))) rfl; exact rfl
                    refine sq_nil ?_
                    refine sq_then ?_
                    refine cq_ret ?_
                    refine sq_inBlock_ret ?_
                    refine sq_then_ret ?_
                    refine sq_inBlock_ret ?_
                    refine sq_then_ret ?_
                    refine sq_then_ret ?_
                    refine sq_inBlock_ret ?_
                    refine sq_then_ret ?_
                    exact sq_res1 rfl (.tmp rfl) (by rw [e0])
                  · rw [if_neg (by simpa using hb)] at hg
                    refine cq_skip ?_
                    refine sq_then ?_
                    refine cq_region ?_
                    apply sq_g; exact g_move (s := .osl _) rfl; exact rfl
                    apply sq_g; exact g_index_own rfl rfl rfl (by decide); exact rfl
                    apply sq_g; exact g_load_own (s := .av (.val (.int _ _))) rfl rfl rfl; exact rfl
                    refine sq_s (g_update_vq rfl rfl rfl (by exact rfl) (by omega) hmx hc) ?_
                    refine sq_nil ?_
                    refine sq_then ?_
                    refine cq_region ?_
                    apply sq_g; exact g_arith rfl rfl rfl (by omega); exact rfl
                    apply sq_g; exact g_move (s := .av (.val (.int _ _))) rfl; exact rfl
                    refine sq_nil ?_
                    exact sq_round (g := (i, ks)) (i + 1, insK (gp l i).2 ks) ⟨by dsimp only; omega, hnx, hg⟩ (by dsimp only; omega) (ent ⟨.refl _, .refl _, .refl _, .refl _, .refl _, .refl _, .int (by dsimp only; omega), trivial⟩ ⟨⟨_, rfl, .refl _⟩, trivial⟩)
            · rw [if_neg (by omega)] at hg
              refine cq_cond rfl (fun hb => ?_) (fun hb => ?_)
              · rw [if_pos hb] at hg
                rw [← hg] at e0
                refine cq_seq ?_
                refine cq_region ?_
                apply sq_g; exact g_assign (s := .av (.val (.int _ _))) rfl; exact rfl
                refine sq_nil ?_
                refine sq_then ?_
                refine cq_ret ?_
                refine sq_inBlock_ret ?_
                refine sq_then_ret ?_
                refine sq_inBlock_ret ?_
                refine sq_then_ret ?_
                refine sq_then_ret ?_
                refine sq_inBlock_ret ?_
                refine sq_then_ret ?_
                exact sq_res1 rfl (.tmp rfl) (by rw [e0])
              · rw [if_neg (by rw [hb]; simp)] at hg
                refine cq_seq ?_
                refine cq_drawn ?_
                apply dq_g; exact g_move (s := .av _) rfl; exact rfl
                apply dq_g; exact g_index_own rfl rfl rfl (by decide); exact rfl
                apply dq_g; exact g_load_own (s := .av (.val (.int _ _))) rfl rfl rfl; exact rfl
                apply dq_g; exact  g_index (k := (gp l i).1.toNat) rfl rfl e1 l1; exact rfl
                apply dq_g; exact g_load (τ := .val (.int _ _)) rfl rfl rfl; exact rfl
                apply dq_g; exact g_move (s := .av _) rfl; exact rfl
                apply dq_g; exact g_index_own rfl rfl rfl (by decide); exact rfl
                apply dq_g; exact g_load_own (s := .av (.val (.int _ _))) rfl rfl rfl; exact rfl
                apply dq_g; exact  g_index (k := (gp l i).2.toNat) rfl rfl e2 l2; exact rfl
                apply dq_g; exact g_load (τ := .val (.int _ _)) rfl rfl rfl; exact rfl
                apply dq_g; exact g_field rfl; exact rfl
                apply dq_g; exact g_load_agg (us := [.int _ _, .int _ _]) rfl rfl rfl rfl; exact rfl
                apply dq_g; exact g_call (cf) rfl; exact rfl
                apply dq_g; exact g_not rfl; exact rfl
                apply dq_g; exact g_assign (s := .av (.val (.bool _))) rfl; exact rfl
                refine dq_nil tm (by kernel_rfl) ?_
                refine sq_then ?_
                refine cq_cond rfl (fun hb => ?_) (fun hb => ?_)
                · rw [if_pos (by simpa using hb)] at hg
                  rw [← hg] at e0
                  refine cq_seq ?_
                  refine cq_region ?_
                  apply sq_g; exact g_assign (s := .av (.val (.int _ _))) rfl; exact rfl
                  refine sq_nil ?_
                  refine sq_then ?_
                  refine cq_ret ?_
                  refine sq_inBlock_ret ?_
                  refine sq_then_ret ?_
                  refine sq_inBlock_ret ?_
                  refine sq_then_ret ?_
                  refine sq_then_ret ?_
                  refine sq_inBlock_ret ?_
                  refine sq_then_ret ?_
                  exact sq_res1 rfl (.tmp rfl) (by rw [e0])
                · rw [if_neg (by simpa using hb)] at hg
                  refine cq_skip ?_
                  refine sq_then ?_
                  refine cq_region ?_
                  apply sq_g; exact g_move (s := .osl _) rfl; exact rfl
                  apply sq_g; exact g_index_own rfl rfl rfl (by decide); exact rfl
                  apply sq_g; exact g_load_own (s := .av (.val (.int _ _))) rfl rfl rfl; exact rfl
                  refine sq_s (g_update_vq rfl rfl rfl (by exact rfl) (by omega) hmx hc) ?_
                  refine sq_nil ?_
                  refine sq_then ?_
                  refine cq_region ?_
                  apply sq_g; exact g_arith rfl rfl rfl (by omega); exact rfl
                  apply sq_g; exact g_move (s := .av (.val (.int _ _))) rfl; exact rfl
                  refine sq_nil ?_
                  exact sq_round (g := (i, ks)) (i + 1, insK (gp l i).2 ks) ⟨by dsimp only; omega, hnx, hg⟩ (by dsimp only; omega) (ent ⟨.refl _, .refl _, .refl _, .refl _, .refl _, .refl _, .int (by dsimp only; omega), trivial⟩ ⟨⟨_, rfl, .refl _⟩, trivial⟩)
      · have hil : i = l.length := by omega
        rw [hil, Nat.sub_self] at hg
        unfold vrE at hg
        rw [← hg] at e0
        refine cq_exit ?_
        refine sq_then ?_
        refine cq_seq ?_
        refine cq_region ?_
        apply sq_g; exact g_assign (s := .av (.val (.int _ _))) rfl; exact rfl
        refine sq_nil ?_
        refine sq_then ?_
        refine cq_ret ?_
        exact sq_res1 rfl (.tmp rfl) (by rw [e0])
end Go.Proofs.Ytogilkilkmoedaa
namespace Go.Proofs.Ytogilkilkmoedaa
open Go Go.Vc Go.RowKit
set_option maxHeartbeats 8000000
/-! KDQ -/
theorem rverify_c (HH PP : List Int) (lo up : Int) (l : List (Int × Int)) (nH : HH.length ≤ 1000000) (nP : PP.length ≤ 1000000) : CtrA Try.prog 33 [zs HH, zs PP, lim lo up, dfs l] (vi (verZ HH PP lo up l)) := by
  refine ctrA _ Try.func33 rfl rfl Try.ntmps33 rfl fun w0 Z => ?_
  have hchk := rcheck_c HH PP lo up nH nP
  simp only [initT, List.map_cons, List.map_nil, Nat.zero_add, Nat.reduceAdd]
  refine cq_seq ?_
  refine cq_region ?_
  apply sq_g; exact g_box_agg rfl; exact rfl
  apply sq_g; exact g_assign (s := .av (.val (.int _ _))) rfl; exact rfl
  refine sq_nil ?_
  refine sq_then ?_
  refine cq_seq ?_
  refine cq_seq ?_
  refine cq_region ?_
  apply sq_g; exact g_move (s := .av _) rfl; exact rfl
  apply sq_g; exact g_move (s := .av _) rfl; exact rfl
  apply sq_g; exact g_load_agg (us := [.int _ _, .int _ _]) rfl rfl rfl rfl; exact rfl
  apply sq_g; exact g_call (hchk) rfl; exact rfl
  apply sq_g; exact g_assign (s := .av (.val (.int _ _))) rfl; exact rfl
  refine sq_nil ?_
  refine sq_then ?_
  refine cq_seq ?_
  refine cq_region ?_
  apply sq_g; exact g_move (s := .av (.val (.int _ _))) rfl; exact rfl
  apply sq_g; exact g_cmp rfl rfl rfl; exact rfl
  refine sq_nil ?_
  refine sq_then ?_
  (refine cq_cond rfl (fun hb => ?_) (fun hb => ?_) <;> (try simp only [decide_eq_true_eq, decide_eq_false_iff_not, beq_iff_eq, beq_eq_false_iff_ne, bne_iff_ne, bne_eq_false_iff_eq, ne_eq, Bool.not_eq_true', Bool.not_eq_false', Bool.and_eq_true, Bool.or_eq_true, Bool.and_eq_false_iff, Bool.or_eq_false_iff] at hb) <;> (try (exfalso; omega)))
  · have e1 : verZ HH PP lo up l = errC HH PP lo up := by unfold verZ; rw [if_pos hb]
    refine cq_seq ?_
    refine cq_region ?_
    apply sq_g; exact g_move (s := .av (.val (.int _ _))) rfl; exact rfl
    apply sq_g; exact g_assign (s := .av (.val (.int _ _))) rfl; exact rfl
    refine sq_nil ?_
    refine sq_then ?_
    refine cq_ret ?_
    refine sq_then_ret ?_
    exact sq_res1 rfl (.tmp rfl) (by rw [e1])
  · have he : errC HH PP lo up = 0 := by omega
    obtain ⟨rH, rP⟩ := errC_ok he
    have bH := rH.bi
    have bP := rP.bi
    have sH := rH.len
    have sP := rP.len
    have e0 : verZ HH PP lo up l = if 256 < l.length then 5 else vrE HH PP lo up l l.length 0 := by unfold verZ; rw [if_neg (by omega)]
    refine cq_skip ?_
    refine sq_then ?_
    refine cq_seq ?_
    refine cq_seq ?_
    refine cq_region ?_
    apply sq_g; exact g_move (s := .av _) rfl; exact rfl
    apply sq_g; exact g_len rfl; exact rfl
    apply sq_g; exact g_cmp rfl rfl rfl; exact rfl
    refine sq_nil ?_
    refine sq_then ?_
    (refine cq_cond rfl (fun hb => ?_) (fun hb => ?_) <;> (try simp only [decide_eq_true_eq, decide_eq_false_iff_not, beq_iff_eq, beq_eq_false_iff_ne, bne_iff_ne, bne_eq_false_iff_eq, ne_eq, Bool.not_eq_true', Bool.not_eq_false', Bool.and_eq_true, Bool.or_eq_true, Bool.and_eq_false_iff, Bool.or_eq_false_iff] at hb) <;> (try (exfalso; omega)))
    · rw [if_pos (by omega)] at e0
      refine cq_seq ?_
      refine cq_region ?_
      apply sq_g; exact g_assign (s := .av (.val (.int _ _))) rfl; exact rfl
      refine sq_nil ?_
      refine sq_then ?_
      refine cq_ret ?_
      refine sq_then_ret ?_
      exact sq_res1 rfl (.tmp rfl) (by rw [e0])
    · rw [if_neg (by omega)] at e0
      have sl : l.length ≤ 256 := by omega
      obtain ⟨R, eR⟩ : ∃ R, vrE HH PP lo up l l.length 0 = R := ⟨_, rfl⟩
      rw [eR] at e0
      refine cq_skip ?_
      refine sq_then ?_
      refine cq_seq ?_
      refine cq_seq ?_
      refine cq_region ?_
      apply sq_g; exact g_assign (s := .av (.val (.int _ _))) rfl; exact rfl
      refine sq_nil ?_
      refine sq_then ?_
      refine cq_block ?_
      refine cq_loop (γ := Nat) (fun i => [(0, .av (zs HH)), (1, .av (zs PP)), (3, .av (dfs l)), (6, .av (blim lo up)), (10, .av (vi i))]) (fun _ => []) (fun i => i ≤ l.length ∧ vrE HH PP lo up l (l.length - i) i = R) (fun i => l.length - i) 0 ⟨Nat.zero_le _, by simpa using eR⟩ (ent ⟨.refl _, .refl _, .refl _, .refl _, .refl _, trivial⟩ trivial) ?_
      rintro i ⟨hi, hg⟩
      refine cq_seq ?_
      refine cq_seq ?_
      refine cq_region ?_
      apply sq_g; exact g_move (s := .av (.val (.int _ _))) rfl; exact rfl
      apply sq_g; exact g_move (s := .av _) rfl; exact rfl
      apply sq_g; exact g_len rfl; exact rfl
      apply sq_g; exact g_cmp rfl rfl rfl; exact rfl
      refine sq_nil ?_
      refine sq_then ?_
      (refine cq_cond rfl (fun hb => ?_) (fun hb => ?_) <;> (try simp only [decide_eq_true_eq, decide_eq_false_iff_not, beq_iff_eq, beq_eq_false_iff_ne, bne_iff_ne, bne_eq_false_iff_eq, ne_eq, Bool.not_eq_true', Bool.not_eq_false', Bool.and_eq_true, Bool.or_eq_true, Bool.and_eq_false_iff, Bool.or_eq_false_iff] at hb) <;> (try (exfalso; omega)))
      · have hil : i < l.length := by omega
        have hn : l.length - i = (l.length - (i + 1)) + 1 := by omega
        rw [hn] at hg
        unfold vrE at hg
        focus
          refine cq_skip ?_
          refine sq_then ?_
          refine cq_seq ?_
          refine cq_block ?_
          refine cq_seq ?_
          refine cq_drawn ?_
          apply dq_g; exact g_move (s := .av _) rfl; exact rfl
          apply dq_g; exact g_move (s := .av (.val (.int _ _))) rfl; exact rfl
          apply dq_g; exact g_index rfl rfl rfl (by omega); exact rfl
          apply dq_g; exact g_index_arr rfl rfl rfl (by decide) rfl; exact rfl
          apply dq_g; exact g_load (τ := .val (.int _ _)) rfl rfl rfl; exact rfl
          apply dq_g; exact g_move (s := .av _) rfl; exact rfl
          apply dq_g; exact g_move (s := .av (.val (.int _ _))) rfl; exact rfl
          apply dq_g; exact g_index rfl rfl rfl (by omega); exact rfl
          apply dq_g; exact g_index_arr rfl rfl rfl (by decide) rfl; exact rfl
          apply dq_g; exact g_load (τ := .val (.int _ _)) rfl rfl rfl; exact rfl
          apply dq_g; exact g_assign (s := .av (.val (.int _ _))) rfl; exact rfl
          apply dq_g; exact g_assign (s := .av (.val (.int _ _))) rfl; exact rfl
          refine dq_nil tm (by kernel_rfl) ?_
          refine sq_then ?_
          refine cq_seq ?_
          refine cq_seq ?_
          refine cq_region ?_
          apply sq_g; exact g_move (s := .av (.val (.int _ _))) rfl; exact rfl
          apply sq_g; exact g_cmp rfl rfl rfl; exact rfl
          apply sq_g; exact g_move (s := .av (.val (.bool _))) rfl; exact rfl
          refine sq_split rfl rfl (fun hb => ?_) (fun hb => ?_) <;> (try simp only [decide_eq_true_eq, decide_eq_false_iff_not, beq_iff_eq, beq_eq_false_iff_ne, bne_iff_ne, bne_eq_false_iff_eq, ne_eq, Bool.not_eq_true', Bool.not_eq_false', Bool.and_eq_true, Bool.or_eq_true, Bool.and_eq_false_iff, Bool.or_eq_false_iff] at hb) <;> (try (exfalso; omega))
          refine sq_off rfl rfl rfl rfl ?_
          refine sq_off rfl rfl rfl rfl ?_
          refine sq_off rfl rfl rfl rfl ?_
          refine sq_off rfl rfl rfl rfl ?_
          apply sq_g; exact g_pick (s := .av (.val (.bool _))) rfl rfl; exact rfl
          apply sq_g; exact g_move (s := .av (.val (.bool _))) rfl; exact rfl
          refine sq_off rfl rfl rfl rfl ?_
          refine sq_off rfl rfl rfl rfl ?_
          apply sq_g; exact g_pick (s := .av (.val (.bool _))) rfl rfl; exact rfl
          apply sq_g; exact g_move (s := .av (.val (.bool _))) rfl; exact rfl
          refine sq_off rfl rfl rfl rfl ?_
          refine sq_off rfl rfl rfl rfl ?_
          refine sq_off rfl rfl rfl rfl ?_
          refine sq_off rfl rfl rfl rfl ?_
          apply sq_g; exact g_pick (s := .av (.val (.bool _))) rfl rfl; exact rfl
          refine sq_nil ?_
          refine sq_then ?_
          refine cq_cond_t rfl ?_
          refine cq_seq ?_
          refine cq_region ?_
          apply sq_g; exact g_assign (s := .av (.val (.int _ _))) rfl; exact rfl
          refine sq_nil ?_
          refine sq_then ?_
          refine cq_ret ?_
          refine sq_then_ret ?_
          refine sq_inBlock_ret ?_
          refine sq_then_ret ?_
          refine sq_then_ret ?_
          refine sq_inBlock_ret ?_
          refine sq_then_ret ?_
          rotate_left
          apply sq_on; exact g_move (s := .av (.val (.int _ _))) rfl; exact rfl; exact rfl; exact rfl
          apply sq_on; exact g_move (s := .av _) rfl; exact rfl; exact rfl; exact rfl
          apply sq_on; exact g_len rfl; exact rfl; exact rfl; exact rfl
          apply sq_on; exact g_cmp rfl rfl rfl; exact rfl; exact rfl; exact rfl
          apply sq_g; exact g_pick (s := .av (.val (.bool _))) rfl rfl; exact rfl
          apply sq_g; exact g_move (s := .av (.val (.bool _))) rfl; exact rfl
          refine sq_split rfl rfl (fun hb => ?_) (fun hb => ?_) <;> (try simp only [decide_eq_true_eq, decide_eq_false_iff_not, beq_iff_eq, beq_eq_false_iff_ne, bne_iff_ne, bne_eq_false_iff_eq, ne_eq, Bool.not_eq_true', Bool.not_eq_false', Bool.and_eq_true, Bool.or_eq_true, Bool.and_eq_false_iff, Bool.or_eq_false_iff] at hb) <;> (try (exfalso; omega))
          refine sq_off rfl rfl rfl rfl ?_
          refine sq_off rfl rfl rfl rfl ?_
          apply sq_g; exact g_pick (s := .av (.val (.bool _))) rfl rfl; exact rfl
          apply sq_g; exact g_move (s := .av (.val (.bool _))) rfl; exact rfl
          refine sq_off rfl rfl rfl rfl ?_
          refine sq_off rfl rfl rfl rfl ?_
          refine sq_off rfl rfl rfl rfl ?_
          refine sq_off rfl rfl rfl rfl ?_
          apply sq_g; exact g_pick (s := .av (.val (.bool _))) rfl rfl; exact rfl
          refine sq_nil ?_
          refine sq_then ?_
          refine cq_cond_t rfl ?_
          refine cq_seq ?_
          refine cq_region ?_
          apply sq_g; exact g_assign (s := .av (.val (.int _ _))) rfl; exact rfl
          refine sq_nil ?_
          refine sq_then ?_
          refine cq_ret ?_
          refine sq_then_ret ?_
          refine sq_inBlock_ret ?_
          refine sq_then_ret ?_
          refine sq_then_ret ?_
          refine sq_inBlock_ret ?_
          refine sq_then_ret ?_
          rotate_left
          apply sq_on; exact g_move (s := .av (.val (.int _ _))) rfl; exact rfl; exact rfl; exact rfl
          apply sq_on; exact g_cmp rfl rfl rfl; exact rfl; exact rfl; exact rfl
          apply sq_g; exact g_pick (s := .av (.val (.bool _))) rfl rfl; exact rfl
          apply sq_g; exact g_move (s := .av (.val (.bool _))) rfl; exact rfl
          refine sq_split rfl rfl (fun hb => ?_) (fun hb => ?_) <;> (try simp only [decide_eq_true_eq, decide_eq_false_iff_not, beq_iff_eq, beq_eq_false_iff_ne, bne_iff_ne, bne_eq_false_iff_eq, ne_eq, Bool.not_eq_true', Bool.not_eq_false', Bool.and_eq_true, Bool.or_eq_true, Bool.and_eq_false_iff, Bool.or_eq_false_iff] at hb) <;> (try (exfalso; omega))
          refine sq_off rfl rfl rfl rfl ?_
          refine sq_off rfl rfl rfl rfl ?_
          refine sq_off rfl rfl rfl rfl ?_
          refine sq_off rfl rfl rfl rfl ?_
          apply sq_g; exact g_pick (s := .av (.val (.bool _))) rfl rfl; exact rfl
          refine sq_nil ?_
          refine sq_then ?_
          refine cq_cond_t rfl ?_
          refine cq_seq ?_
          refine cq_region ?_
          apply sq_g; exact g_assign (s := .av (.val (.int _ _))) rfl; exact rfl
          refine sq_nil ?_
          refine sq_then ?_
          refine cq_ret ?_
          refine sq_then_ret ?_
          refine sq_inBlock_ret ?_
          refine sq_then_ret ?_
          refine sq_then_ret ?_
          refine sq_inBlock_ret ?_
          refine sq_then_ret ?_
          rotate_left
          apply sq_on; exact g_move (s := .av (.val (.int _ _))) rfl; exact rfl; exact rfl; exact rfl
          apply sq_on; exact g_move (s := .av _) rfl; exact rfl; exact rfl; exact rfl
          apply sq_on; exact g_len rfl; exact rfl; exact rfl; exact rfl
          apply sq_on; exact g_cmp rfl rfl rfl; exact rfl; exact rfl; exact rfl
          apply sq_g; exact g_pick (s := .av (.val (.bool _))) rfl rfl; exact rfl
          refine sq_nil ?_
          refine sq_then ?_
          rotate_left
        · rw [if_pos (.inl hb)] at hg
          rw [← hg] at e0
          exact sq_res1 rfl (.tmp rfl) (by rw [e0])
        · rw [if_pos (.inr (.inl hb))] at hg
          rw [← hg] at e0
          exact sq_res1 rfl (.tmp rfl) (by rw [e0])
        · rw [if_pos (.inr (.inr (.inl hb)))] at hg
          rw [← hg] at e0
          exact sq_res1 rfl (.tmp rfl) (by rw [e0])
        · rename_i h0 h1
          have h2 := hb
          (refine cq_cond rfl (fun hb => ?_) (fun hb => ?_) <;> (try simp only [decide_eq_true_eq, decide_eq_false_iff_not, beq_iff_eq, beq_eq_false_iff_ne, bne_iff_ne, bne_eq_false_iff_eq, ne_eq, Bool.not_eq_true', Bool.not_eq_false', Bool.and_eq_true, Bool.or_eq_true, Bool.and_eq_false_iff, Bool.or_eq_false_iff] at hb) <;> (try (exfalso; omega)))
          · rw [if_pos (.inr (.inr (.inr hb)))] at hg
            rw [← hg] at e0
            refine cq_seq ?_
            refine cq_region ?_
            apply sq_g; exact g_assign (s := .av (.val (.int _ _))) rfl; exact rfl
            refine sq_nil ?_
            refine sq_then ?_
            refine cq_ret ?_
            refine sq_then_ret ?_
            refine sq_inBlock_ret ?_
            refine sq_then_ret ?_
            refine sq_then_ret ?_
            refine sq_inBlock_ret ?_
            refine sq_then_ret ?_
            exact sq_res1 rfl (.tmp rfl) (by rw [e0])
          · rw [if_neg (by omega)] at hg
            have h3 := hb
            have e1 : (gp l i).1 = (((gp l i).1.toNat : Nat) : Int) := by omega
            have e2 : (gp l i).2 = (((gp l i).2.toNat : Nat) : Int) := by omega
            have l1 : (gp l i).1.toNat < HH.length := by omega
            have l2 : (gp l i).2.toNat < PP.length := by omega
            have cf : CtrA Try.prog 39 [vi (gz HH (gp l i).1.toNat), vi (gz PP (gp l i).2.toNat), lim lo up] (vb (fitN HH PP lo up (gp l i).1.toNat (gp l i).2.toNat)) := clear_c _ _ lo up (bH _) (bP _)
            focus
              refine cq_skip ?_
              refine sq_then ?_
              refine cq_seq ?_
              refine cq_seq ?_
              refine cq_region ?_
              apply sq_g; exact g_move (s := .av (.val (.int _ _))) rfl; exact rfl
              apply sq_g; exact g_cmp rfl rfl rfl; exact rfl
              apply sq_g; exact g_move (s := .av (.val (.bool _))) rfl; exact rfl
              refine sq_split rfl rfl (fun hb => ?_) (fun hb => ?_) <;> (try simp only [decide_eq_true_eq, decide_eq_false_iff_not, beq_iff_eq, beq_eq_false_iff_ne, bne_iff_ne, bne_eq_false_iff_eq, ne_eq, Bool.not_eq_true', Bool.not_eq_false', Bool.and_eq_true, Bool.or_eq_true, Bool.and_eq_false_iff, Bool.or_eq_false_iff] at hb) <;> (try (exfalso; omega))
              apply sq_on; exact g_move (s := .av (.val (.int _ _))) rfl; exact rfl; exact rfl; exact rfl
              apply sq_on; exact g_move (s := .av _) rfl; exact rfl; exact rfl; exact rfl
              apply sq_on; exact g_move (s := .av (.val (.int _ _))) rfl; exact rfl; exact rfl; exact rfl
              apply sq_on; exact g_arith rfl rfl rfl (by omega); exact rfl; exact rfl; exact rfl
              apply sq_on; exact  g_index (k := i - 1) rfl rfl (by omega) (by omega); exact rfl; exact rfl; exact rfl
              apply sq_on; exact g_index_arr rfl rfl rfl (by decide) rfl; exact rfl; exact rfl; exact rfl
              apply sq_on; exact g_load (τ := .val (.int _ _)) rfl rfl rfl; exact rfl; exact rfl; exact rfl
              apply sq_on; exact g_cmp rfl rfl rfl; exact rfl; exact rfl; exact rfl
              apply sq_g; exact g_pick (s := .av (.val (.bool _))) rfl rfl; exact rfl
              refine sq_nil ?_
              refine sq_then ?_
              rotate_left
              refine sq_off rfl rfl rfl rfl ?_
              refine sq_off rfl rfl rfl rfl ?_
              refine sq_off rfl rfl rfl rfl ?_
              refine sq_off rfl rfl rfl rfl ?_
              refine sq_off rfl rfl rfl rfl ?_
              refine sq_off rfl rfl rfl rfl ?_
              refine sq_off rfl rfl rfl rfl ?_
              refine sq_off rfl rfl rfl rfl ?_
              apply sq_g; exact g_pick (s := .av (.val (.bool _))) rfl rfl; exact rfl
              refine sq_nil ?_
              refine sq_then ?_
              refine cq_cond_f rfl ?_
              refine cq_skip ?_
              refine sq_then ?_
              refine cq_seq ?_
              refine cq_seq ?_
              refine cq_region ?_
              apply sq_g; exact g_assign (s := .av (.val (.int _ _))) rfl; exact rfl
              refine sq_nil ?_
              refine sq_then ?_
              refine cq_block ?_
              rotate_left
            · have h4 := hb
              (refine cq_cond rfl (fun hb => ?_) (fun hb => ?_) <;> (try simp only [decide_eq_true_eq, decide_eq_false_iff_not, beq_iff_eq, beq_eq_false_iff_ne, bne_iff_ne, bne_eq_false_iff_eq, ne_eq, Bool.not_eq_true', Bool.not_eq_false', Bool.and_eq_true, Bool.or_eq_true, Bool.and_eq_false_iff, Bool.or_eq_false_iff] at hb) <;> (try (exfalso; omega)))
              · rw [if_pos ⟨by omega, by omega⟩] at hg
                rw [← hg] at e0
                refine cq_seq ?_
                refine cq_region ?_
                apply sq_g; exact g_assign (s := .av (.val (.int _ _))) rfl; exact rfl
                refine sq_nil ?_
                refine sq_then ?_
                refine cq_ret ?_
                refine sq_then_ret ?_
                refine sq_inBlock_ret ?_
                refine sq_then_ret ?_
                refine sq_then_ret ?_
                refine sq_inBlock_ret ?_
                refine sq_then_ret ?_
                exact sq_res1 rfl (.tmp rfl) (by rw [e0])
              · rw [if_neg (by omega)] at hg
                refine cq_skip ?_
                refine sq_then ?_
                refine cq_seq ?_
                refine cq_seq ?_
                refine cq_region ?_
                apply sq_g; exact g_assign (s := .av (.val (.int _ _))) rfl; exact rfl
                refine sq_nil ?_
                refine sq_then ?_
                refine cq_block ?_
                refine cq_loop (γ := Nat) (fun k => [(0, .av (zs HH)), (1, .av (zs PP)), (3, .av (dfs l)), (6, .av (blim lo up)), (10, .av (vi i)), (11, .av (vi (gp l i).1)), (12, .av (vi (gp l i).2)), (13, .av (vi k))]) (fun _ => []) (fun k => k ≤ i ∧ ∀ j, j < k → ((gp l j).2 == (gp l i).2) = false) (fun k => i - k) 0 ⟨Nat.zero_le _, by omega⟩ (ent ⟨.refl _, .refl _, .refl _, .refl _, .refl _, .refl _, .refl _, .refl _, trivial⟩ trivial) ?_
                rintro k ⟨hk, hall⟩
                refine cq_seq ?_
                refine cq_seq ?_
                refine cq_region ?_
                apply sq_g; exact g_move (s := .av (.val (.int _ _))) rfl; exact rfl
                apply sq_g; exact g_move (s := .av (.val (.int _ _))) rfl; exact rfl
                apply sq_g; exact g_cmp rfl rfl rfl; exact rfl
                refine sq_nil ?_
                refine sq_then ?_
                (refine cq_cond rfl (fun hb => ?_) (fun hb => ?_) <;> (try simp only [decide_eq_true_eq, decide_eq_false_iff_not, beq_iff_eq, beq_eq_false_iff_ne, bne_iff_ne, bne_eq_false_iff_eq, ne_eq, Bool.not_eq_true', Bool.not_eq_false', Bool.and_eq_true, Bool.or_eq_true, Bool.and_eq_false_iff, Bool.or_eq_false_iff] at hb) <;> (try (exfalso; omega)))
                · have hki : k < i := by omega
                  refine cq_skip ?_
                  refine sq_then ?_
                  refine cq_seq ?_
                  refine cq_block ?_
                  refine cq_seq ?_
                  refine cq_region ?_
                  apply sq_g; exact g_move (s := .av _) rfl; exact rfl
                  apply sq_g; exact g_move (s := .av (.val (.int _ _))) rfl; exact rfl
                  apply sq_g; exact g_index rfl rfl rfl (by omega); exact rfl
                  apply sq_g; exact g_index_arr rfl rfl rfl (by decide) rfl; exact rfl
                  apply sq_g; exact g_load (τ := .val (.int _ _)) rfl rfl rfl; exact rfl
                  apply sq_g; exact g_move (s := .av (.val (.int _ _))) rfl; exact rfl
                  apply sq_g; exact g_cmp rfl rfl rfl; exact rfl
                  refine sq_nil ?_
                  refine sq_then ?_
                  (refine cq_cond rfl (fun hb => ?_) (fun hb => ?_) <;> (try simp only [decide_eq_true_eq, decide_eq_false_iff_not, beq_iff_eq, beq_eq_false_iff_ne, bne_iff_ne, bne_eq_false_iff_eq, ne_eq, Bool.not_eq_true', Bool.not_eq_false', Bool.and_eq_true, Bool.or_eq_true, Bool.and_eq_false_iff, Bool.or_eq_false_iff] at hb) <;> (try (exfalso; omega)))
                  · have hu : usedB l i (gp l i).2 = true := any_yes (p := fun k => (gp l k).2 == (gp l i).2) hki (beq_iff_eq.2 hb)
                    rw [if_pos hu] at hg
                    rw [← hg] at e0
                    refine cq_seq ?_
                    refine cq_region ?_
                    apply sq_g; exact g_assign (s := .av (.val (.int _ _))) rfl; exact rfl
                    refine sq_nil ?_
                    refine sq_then ?_
                    refine cq_ret ?_
                    refine sq_inBlock_ret ?_
                    refine sq_then_ret ?_
                    refine sq_then_ret ?_
                    refine sq_inBlock_ret ?_
                    refine sq_then_ret ?_
                    refine sq_inBlock_ret ?_
                    refine sq_then_ret ?_
                    refine sq_then_ret ?_
                    refine sq_inBlock_ret ?_
                    refine sq_then_ret ?_
                    exact sq_res1 rfl (.tmp rfl) (by rw [e0])
                  · refine cq_skip ?_
                    refine sq_then ?_
                    refine cq_region ?_
                    apply sq_g; exact g_move (s := .av (.val (.int _ _))) rfl; exact rfl
                    apply sq_g; exact g_arith rfl rfl rfl (by omega); exact rfl
                    apply sq_g; exact g_assign (s := .av (.val (.int _ _))) rfl; exact rfl
                    refine sq_nil ?_
                    exact sq_round (k + 1) ⟨by omega, lt_step hall (beq_eq_false_iff_ne.2 hb)⟩ (by omega) (ent ⟨.refl _, .refl _, .refl _, .refl _, .refl _, .refl _, .refl _, .int (by omega), trivial⟩ trivial)
                · have hki : k = i := by omega
                  subst hki
                  have hu : usedB l k (gp l k).2 = false := any_no (p := fun j => (gp l j).2 == (gp l k).2) hall
                  rw [if_neg (by rw [hu]; simp)] at hg
                  refine cq_exit ?_
                  refine sq_then ?_
                  refine cq_seq ?_
                  refine cq_drawn ?_
                  apply dq_g; exact g_move (s := .av _) rfl; exact rfl
                  apply dq_g; exact g_move (s := .av (.val (.int _ _))) rfl; exact rfl
                  apply dq_g; exact  g_index (k := (gp l k).1.toNat) rfl rfl e1 l1; exact rfl
                  apply dq_g; exact g_load (τ := .val (.int _ _)) rfl rfl rfl; exact rfl
                  apply dq_g; exact g_move (s := .av _) rfl; exact rfl
                  apply dq_g; exact g_move (s := .av (.val (.int _ _))) rfl; exact rfl
                  apply dq_g; exact  g_index (k := (gp l k).2.toNat) rfl rfl e2 l2; exact rfl
                  apply dq_g; exact g_load (τ := .val (.int _ _)) rfl rfl rfl; exact rfl
                  apply dq_g; exact g_load_agg (us := [.int _ _, .int _ _]) rfl rfl rfl rfl; exact rfl
                  apply dq_g; exact g_call (cf) rfl; exact rfl
                  apply dq_g; exact g_not rfl; exact rfl
                  refine dq_nil tm (by kernel_rfl) ?_
                  refine sq_then ?_
                  refine cq_cond rfl (fun hb => ?_) (fun hb => ?_)
                  · rw [if_pos (by simpa using hb)] at hg
                    rw [← hg] at e0
                    refine cq_seq ?_
                    refine cq_region ?_
                    apply sq_g; exact g_assign (s := .av (.val (.int _ _))) rfl; exact rfl
                    refine sq_nil ?_
                    refine sq_then ?_
                    refine cq_ret ?_
                    refine sq_inBlock_ret ?_
                    refine sq_then_ret ?_
                    refine sq_then_ret ?_
                    refine sq_inBlock_ret ?_
                    refine sq_then_ret ?_
                    exact sq_res1 rfl (.tmp rfl) (by rw [e0])
                  · rw [if_neg (by simpa using hb)] at hg
                    refine cq_skip ?_
                    refine sq_then ?_
                    refine cq_region ?_
                    apply sq_g; exact g_move (s := .av (.val (.int _ _))) rfl; exact rfl
                    apply sq_g; exact g_arith rfl rfl rfl (by omega); exact rfl
                    apply sq_g; exact g_assign (s := .av (.val (.int _ _))) rfl; exact rfl
                    refine sq_nil ?_
                    exact sq_round (k + 1) ⟨by omega, hg⟩ (by omega) (ent ⟨.refl _, .refl _, .refl _, .refl _, .int (by omega), trivial⟩ trivial)
            · rw [if_neg (by omega)] at hg
              skip
              refine cq_loop (γ := Nat) (fun k => [(0, .av (zs HH)), (1, .av (zs PP)), (3, .av (dfs l)), (6, .av (blim lo up)), (10, .av (vi i)), (11, .av (vi (gp l i).1)), (12, .av (vi (gp l i).2)), (13, .av (vi k))]) (fun _ => []) (fun k => k ≤ i ∧ ∀ j, j < k → ((gp l j).2 == (gp l i).2) = false) (fun k => i - k) 0 ⟨Nat.zero_le _, by omega⟩ (ent ⟨.refl _, .refl _, .refl _, .refl _, .refl _, .refl _, .refl _, .refl _, trivial⟩ trivial) ?_
              rintro k ⟨hk, hall⟩
              refine cq_seq ?_
              refine cq_seq ?_
              refine cq_region ?_
              apply sq_g; exact g_move (s := .av (.val (.int _ _))) rfl; exact rfl
              apply sq_g; exact g_move (s := .av (.val (.int _ _))) rfl; exact rfl
              apply sq_g; exact g_cmp rfl rfl rfl; exact rfl
              refine sq_nil ?_
              refine sq_then ?_
              (refine cq_cond rfl (fun hb => ?_) (fun hb => ?_) <;> (try simp only [decide_eq_true_eq, decide_eq_false_iff_not, beq_iff_eq, beq_eq_false_iff_ne, bne_iff_ne, bne_eq_false_iff_eq, ne_eq, Bool.not_eq_true', Bool.not_eq_false', Bool.and_eq_true, Bool.or_eq_true, Bool.and_eq_false_iff, Bool.or_eq_false_iff] at hb) <;> (try (exfalso; omega)))
              have hki : k = i := by omega
              subst hki
              have hu : usedB l k (gp l k).2 = false := any_no (p := fun j => (gp l j).2 == (gp l k).2) hall
              rw [if_neg (by rw [hu]; simp)] at hg
              refine cq_exit ?_
              refine sq_then ?_
              refine cq_seq ?_
              refine cq_drawn ?_
              apply dq_g; exact g_move (s := .av _) rfl; exact rfl
              apply dq_g; exact g_move (s := .av (.val (.int _ _))) rfl; exact rfl
              apply dq_g; exact  g_index (k := (gp l k).1.toNat) rfl rfl e1 l1; exact rfl
              apply dq_g; exact g_load (τ := .val (.int _ _)) rfl rfl rfl; exact rfl
              apply dq_g; exact g_move (s := .av _) rfl; exact rfl
              apply dq_g; exact g_move (s := .av (.val (.int _ _))) rfl; exact rfl
              apply dq_g; exact  g_index (k := (gp l k).2.toNat) rfl rfl e2 l2; exact rfl
              apply dq_g; exact g_load (τ := .val (.int _ _)) rfl rfl rfl; exact rfl
              apply dq_g; exact g_load_agg (us := [.int _ _, .int _ _]) rfl rfl rfl rfl; exact rfl
              apply dq_g; exact g_call (cf) rfl; exact rfl
              apply dq_g; exact g_not rfl; exact rfl
              refine dq_nil tm (by kernel_rfl) ?_
              refine sq_then ?_
              refine cq_cond rfl (fun hb => ?_) (fun hb => ?_)
              · rw [if_pos (by simpa using hb)] at hg
                rw [← hg] at e0
                refine cq_seq ?_
                refine cq_region ?_
                apply sq_g; exact g_assign (s := .av (.val (.int _ _))) rfl; exact rfl
                refine sq_nil ?_
                refine sq_then ?_
                refine cq_ret ?_
                refine sq_inBlock_ret ?_
                refine sq_then_ret ?_
                refine sq_then_ret ?_
                refine sq_inBlock_ret ?_
                refine sq_then_ret ?_
                exact sq_res1 rfl (.tmp rfl) (by rw [e0])
              · rw [if_neg (by simpa using hb)] at hg
                refine cq_skip ?_
                refine sq_then ?_
                refine cq_region ?_
                apply sq_g; exact g_move (s := .av (.val (.int _ _))) rfl; exact rfl
                apply sq_g; exact g_arith rfl rfl rfl (by omega); exact rfl
                apply sq_g; exact g_assign (s := .av (.val (.int _ _))) rfl; exact rfl
                refine sq_nil ?_
                exact sq_round (k + 1) ⟨by omega, hg⟩ (by omega) (ent ⟨.refl _, .refl _, .refl _, .refl _, .int (by omega), trivial⟩ trivial)
      · have hil : i = l.length := by omega
        rw [hil, Nat.sub_self] at hg
        unfold vrE at hg
        rw [← hg] at e0
        refine cq_exit ?_
        refine sq_then ?_
        refine cq_seq ?_
        refine cq_region ?_
        apply sq_g; exact g_assign (s := .av (.val (.int _ _))) rfl; exact rfl
        refine sq_nil ?_
        refine sq_then ?_
        refine cq_ret ?_
        exact sq_res1 rfl (.tmp rfl) (by rw [e0])
theorem verifies_c (HH PP : List Int) (lo up : Int) (l : List (Int × Int)) : CtrA Try.prog 10 [zs HH, zs PP, .agg 3 (prF lo up l)] (vb true) := by
  refine ctrA _ Try.func10 rfl rfl Try.ntmps10 rfl fun w Z => ?_
  have aw := awake_c
  simp only [initT, List.map_cons, List.map_nil, Nat.zero_add, Nat.reduceAdd]
  focus
    refine cq_seq ?_
    refine cq_region ?_
    apply sq_g; exact  g_box_aggv rfl; exact rfl
    apply sq_g; exact g_assign (s := .av (.val (.bool _))) rfl; exact rfl
    refine sq_nil ?_
    refine sq_then ?_
    refine cq_seq ?_
    refine cq_seq ?_
    refine cq_region ?_
    apply sq_g; exact g_move (s := .av _) rfl; exact rfl
    apply sq_g; exact g_len rfl; exact rfl
    apply sq_g; exact g_cmp rfl rfl rfl; exact rfl
    apply sq_g; exact g_move (s := .av (.val (.bool _))) rfl; exact rfl
    refine sq_split rfl rfl (fun hb => ?_) (fun hb => ?_) <;> (try simp only [decide_eq_true_eq, decide_eq_false_iff_not, beq_iff_eq, beq_eq_false_iff_ne, bne_iff_ne, bne_eq_false_iff_eq, ne_eq, Bool.not_eq_true', Bool.not_eq_false', Bool.and_eq_true, Bool.or_eq_true, Bool.and_eq_false_iff, Bool.or_eq_false_iff] at hb) <;> (try (exfalso; omega))
    refine sq_off rfl rfl rfl rfl ?_
    refine sq_off rfl rfl rfl rfl ?_
    refine sq_off rfl rfl rfl rfl ?_
    apply sq_g; exact g_pick (s := .av (.val (.bool _))) rfl rfl; exact rfl
    apply sq_g; exact g_move (s := .av (.val (.bool _))) rfl; exact rfl
    refine sq_off rfl rfl rfl rfl ?_
    refine sq_off rfl rfl rfl rfl ?_
    refine sq_off rfl rfl rfl rfl ?_
    refine sq_off rfl rfl rfl rfl ?_
    apply sq_g; exact g_pick (s := .av (.val (.bool _))) rfl rfl; exact rfl
    refine sq_nil ?_
    refine sq_then ?_
    refine cq_cond_t rfl ?_
    refine cq_seq ?_
    refine cq_region ?_
    rotate_left
    apply sq_on; exact g_move (s := .av _) rfl; exact rfl; exact rfl; exact rfl
    apply sq_on; exact g_len rfl; exact rfl; exact rfl; exact rfl
    apply sq_on; exact g_cmp rfl rfl rfl; exact rfl; exact rfl; exact rfl
    apply sq_g; exact g_pick (s := .av (.val (.bool _))) rfl rfl; exact rfl
    apply sq_g; exact g_move (s := .av (.val (.bool _))) rfl; exact rfl
    refine sq_split rfl rfl (fun hb => ?_) (fun hb => ?_) <;> (try simp only [decide_eq_true_eq, decide_eq_false_iff_not, beq_iff_eq, beq_eq_false_iff_ne, bne_iff_ne, bne_eq_false_iff_eq, ne_eq, Bool.not_eq_true', Bool.not_eq_false', Bool.and_eq_true, Bool.or_eq_true, Bool.and_eq_false_iff, Bool.or_eq_false_iff] at hb) <;> (try (exfalso; omega))
    refine sq_off rfl rfl rfl rfl ?_
    refine sq_off rfl rfl rfl rfl ?_
    refine sq_off rfl rfl rfl rfl ?_
    refine sq_off rfl rfl rfl rfl ?_
    apply sq_g; exact g_pick (s := .av (.val (.bool _))) rfl rfl; exact rfl
    refine sq_nil ?_
    refine sq_then ?_
    refine cq_cond_t rfl ?_
    refine cq_seq ?_
    refine cq_region ?_
    rotate_left
    apply sq_on; exact g_field rfl; exact rfl; exact rfl; exact rfl
    apply sq_on; exact g_load rfl rfl rfl; exact rfl; exact rfl; exact rfl
    apply sq_on; exact g_len rfl; exact rfl; exact rfl; exact rfl
    apply sq_on; exact g_cmp rfl rfl rfl; exact rfl; exact rfl; exact rfl
    apply sq_g; exact g_pick (s := .av (.val (.bool _))) rfl rfl; exact rfl
    refine sq_nil ?_
    refine sq_then ?_
    rotate_left
  · apply sq_g; exact g_call (aw) rfl; exact rfl
    apply sq_g; exact g_assign (s := .av (.val (.bool _))) rfl; exact rfl
    refine sq_nil ?_
    refine sq_then ?_
    refine cq_ret ?_
    refine sq_then_ret ?_
    exact sq_res1 rfl (.tmp rfl) rfl
  · apply sq_g; exact g_call (aw) rfl; exact rfl
    apply sq_g; exact g_assign (s := .av (.val (.bool _))) rfl; exact rfl
    refine sq_nil ?_
    refine sq_then ?_
    refine cq_ret ?_
    refine sq_then_ret ?_
    exact sq_res1 rfl (.tmp rfl) rfl
  · rename_i h1
    have h3 := hb
    (refine cq_cond rfl (fun hb => ?_) (fun hb => ?_) <;> (try simp only [decide_eq_true_eq, decide_eq_false_iff_not, beq_iff_eq, beq_eq_false_iff_ne, bne_iff_ne, bne_eq_false_iff_eq, ne_eq, Bool.not_eq_true', Bool.not_eq_false', Bool.and_eq_true, Bool.or_eq_true, Bool.and_eq_false_iff, Bool.or_eq_false_iff] at hb) <;> (try (exfalso; omega)))
    · refine cq_seq ?_
      refine cq_region ?_
      apply sq_g; exact g_call (aw) rfl; exact rfl
      apply sq_g; exact g_assign (s := .av (.val (.bool _))) rfl; exact rfl
      refine sq_nil ?_
      refine sq_then ?_
      refine cq_ret ?_
      refine sq_then_ret ?_
      exact sq_res1 rfl (.tmp rfl) rfl
    · have c1 := verify_c HH PP lo up l
      have c2 := rverify_c HH PP lo up l (by omega) (by omega)
      focus
        refine cq_skip ?_
        refine sq_then ?_
        refine cq_seq ?_
        refine cq_drawn ?_
        apply dq_g; exact g_move (s := .av _) rfl; exact rfl
        apply dq_g; exact g_move (s := .av _) rfl; exact rfl
        apply dq_g; exact  g_load_aggv (k := 3) rfl rfl; exact rfl
        apply dq_g; exact g_call (c1) rfl; exact rfl
        apply dq_g; exact g_move (s := .av _) rfl; exact rfl
        apply dq_g; exact g_move (s := .av _) rfl; exact rfl
        apply dq_g; exact g_field rfl; exact rfl
        apply dq_g; exact g_load_agg (us := [.int _ _, .int _ _]) rfl rfl rfl rfl; exact rfl
        apply dq_g; exact g_field rfl; exact rfl
        apply dq_g; exact g_load rfl rfl rfl; exact rfl
        apply dq_g; exact g_call (c2) rfl; exact rfl
        apply dq_g; exact g_cmp rfl rfl rfl; exact rfl
        apply dq_g; exact g_move (s := .av (.val (.bool _))) rfl; exact rfl
        refine dq_split rfl rfl (fun hb => ?_) (fun hb => ?_) <;> (try simp only [decide_eq_true_eq, decide_eq_false_iff_not, beq_iff_eq, beq_eq_false_iff_ne, bne_iff_ne, bne_eq_false_iff_eq, ne_eq, Bool.not_eq_true', Bool.not_eq_false', Bool.and_eq_true, Bool.or_eq_true, Bool.and_eq_false_iff, Bool.or_eq_false_iff] at hb) <;> (try (exfalso; omega))
        apply dq_on; exact g_call (aw) rfl; exact rfl; exact rfl; exact rfl
        apply dq_g; exact g_pick (s := .av (.val (.bool _))) rfl rfl; exact rfl
        apply dq_g; exact g_assign (s := .av (.val (.bool _))) rfl; exact rfl
        refine dq_nil tm (by kernel_rfl) ?_
        refine sq_then ?_
        refine cq_ret ?_
        rotate_left
        refine dq_off nofun rfl rfl rfl rfl ?_
        apply dq_g; exact g_pick (s := .av (.val (.bool _))) rfl rfl; exact rfl
        apply dq_g; exact g_assign (s := .av (.val (.bool _))) rfl; exact rfl
        refine dq_nil tm (by kernel_rfl) ?_
        refine sq_then ?_
        refine cq_ret ?_
        rotate_left
      · exact sq_res1 rfl (.tmp rfl) rfl
      · exact absurd trivial hb
end Go.Proofs.Ytogilkilkmoedaa
