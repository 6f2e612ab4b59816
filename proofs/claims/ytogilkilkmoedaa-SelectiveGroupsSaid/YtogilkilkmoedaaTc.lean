/- A part of the proof that the law returns true at every input and that the input reads behind the call as it read before; this part states nothing of its own that needs a condition of the input. -/
import Derived.Test.YtogilkilkmoedaaX
import Derived.Test.YtogilkilkmoedaaSb
import Derived.Test.YtogilkilkmoedaaTb
import Derived.Test.YtogilkilkmoedaaM
set_option linter.unusedVariables false
set_option linter.unusedSimpArgs false
namespace Go.Vc
open Go Go.RowKit
section
variable {P : Program} {E : Env} {T T' : Tab} {O O' : Own} {o : Oper} {d : Option Tmp} {ty : TypeId} {pos : String} {af : Array Edge} {g : Option (Nat × Bool)}
theorem GV.le {s s' : SV} {rr : List Nat} {upd : Own} (h : GV P E o T O s rr upd) (hs : SLe s s') : GV P E o T O s' rr upd := by
  refine ⟨fun T' O' hT hO => ?_⟩
  have hv := h.vs T' O' hT hO
  refine ⟨hv.nd, fun Z ν a w hsat => ?_⟩
  refine Oper.wp_anyQ (hv.run Z ν a w hsat) ?_
  rintro a' w' ⟨v, Z', ν', h1, h2, h3⟩
  exact ⟨v, Z', ν', h1, h2, hs _ _ _ _ h3⟩
end
end Go.Vc
namespace Go.Proofs.Ytogilkilkmoedaa
open Go Go.Vc Go.RowKit
section
variable {P : Program} {E : Env} {T T' : Tab} {O O' : Go.Vc.Own} {o : Oper} {d : Option Tmp} {ty : TypeId} {pos : String} {af : Array Edge} {g : Option (Nat × Bool)}
theorem gz_take {l : List Int} {k i : Nat} (h : i < k) : gz (l.take k) i = gz l i := by
  simp only [gz, List.getD, List.getElem?_take]
  rw [if_pos h]
theorem g_take {t e : TypeId} {x y : Operand} {l : List Int} {k : Nat} {q : IntKind} {i : Int} [ht : SlTy P t e 1] (hx : T.ev x = .av (zs l)) (hy : T.ev y = .av (.val (.int q i))) (hi : i = ↑k) (hk : k ≤ l.length) :
    GV P E ⟨d, .slice t x none (some y) none, ty, pos, af, g⟩ T O (.av (zs (l.take k))) [] [] := by
  refine (g_slice (lo := none) (hi := some y) hx rfl ⟨q, i, hy, hi⟩ (Nat.zero_le k) hk).le (SLe.sl (by simp; omega) fun a ha b hb => ?_)
  have ha : a < k := by omega
  unfold zf
  rw [gz_take ha, Nat.zero_add]
end
end Go.Proofs.Ytogilkilkmoedaa
namespace Go.Proofs.Ytogilkilkmoedaa
open Go Go.Vc Go.RowKit
/-! How many pairs the best pairing has, when fits are wider or holes fewer. -/
def mxP (fit : Nat → Nat → Bool) (nH nP : Nat) : Nat := (bestL fit nH nP).length
theorem mx_le {fit fit' : Nat → Nat → Bool} {nH nH' nP : Nat} (h : nH ≤ nH') (hf : ∀ x p, x < nH → p < nP → fit x p = true → fit' x p = true) : mxP fit nH nP ≤ mxP fit' nH' nP := by
  obtain ⟨h1, _, _, _⟩ := best_spec fit nH nP
  obtain ⟨_, h2, _, _⟩ := best_spec fit' nH' nP
  exact h2 _ ⟨h1.n1, h1.n2, fun x hx => by
    obtain ⟨a, b, c⟩ := h1.ok x hx
    exact ⟨by omega, b, hf _ _ a b c⟩⟩
theorem mx_last {fit fit' : Nat → Nat → Bool} {n nP : Nat} (hf : ∀ x p, x < n → p < nP → fit x p = true → fit' x p = true) : mxP fit (n + 1) nP ≤ mxP fit' n nP + 1 := by
  obtain ⟨h1, _, _, _⟩ := best_spec fit (n + 1) nP
  obtain ⟨_, h2, _, _⟩ := best_spec fit' n nP
  have hs := h1.sub (List.filter_sublist (p := fun x => decide (x.1 < n)) (l := bestL fit (n + 1) nP))
  have e1 := h2 ((bestL fit (n + 1) nP).filter (fun x => decide (x.1 < n))) ⟨hs.n1, hs.n2, fun x hx => by
    obtain ⟨a, b, c⟩ := hs.ok x hx
    have := (List.mem_filter.1 hx).2
    simp only [decide_eq_true_eq] at this
    exact ⟨this, b, hf _ _ this b c⟩⟩
  have e2 := filter_split (fun _ => true) (fun x : Nat × Nat => decide (x.1 < n)) (bestL fit (n + 1) nP)
  rw [List.filter_eq_self.2 (fun _ _ => rfl)] at e2
  simp only [Bool.true_and] at e2
  have hs2 := h1.sub (List.filter_sublist (p := fun x => !decide (x.1 < n)) (l := bestL fit (n + 1) nP))
  have e3 : ((bestL fit (n + 1) nP).filter (fun x => !decide (x.1 < n))).length ≤ 1 := by
    rw [← List.length_map (f := fun x : Nat × Nat => x.1)]
    refine nodup_len (l' := [n]) hs2.n1 fun x hx => ?_
    obtain ⟨y, hy, rfl⟩ := List.mem_map.1 hx
    have a := (hs2.ok y hy).1
    have := (List.mem_filter.1 hy).2
    simp only [Bool.not_eq_true', decide_eq_false_iff_not] at this
    simp only [List.mem_singleton]; omega
  unfold mxP at *
  omega
end Go.Proofs.Ytogilkilkmoedaa
namespace Go.Proofs.Ytogilkilkmoedaa
open Go Go.Vc Go.RowKit
set_option maxHeartbeats 8000000
/-! KDQ -/
theorem errC_iff {H P : List Int} {lo hi : Int} : errC H P lo hi = 0 ↔ H.length ≤ 256 ∧ P.length ≤ 256 ∧ bad H = false ∧ bad P = false ∧ outZ lo = false ∧ outZ hi = false ∧ lo ≤ hi := by
  by_cases h : 256 < H.length ∨ 256 < P.length
  · rw [errC5 h]
    constructor
    · intro h2; cases h2
    · rintro ⟨a, b, _⟩; omega
  · by_cases h2 : bad H = true ∨ bad P = true ∨ outZ lo = true ∨ outZ hi = true
    · rw [errC2 h h2]
      constructor
      · intro h2; cases h2
      · rintro ⟨_, _, a, b, c, d, _⟩
        rw [a, b, c, d] at h2
        simp at h2
    · simp only [not_or, Bool.not_eq_true] at h2
      obtain ⟨a, b, c, d⟩ := h2
      rw [errC9 h a b c d]
      constructor
      · intro h3
        refine ⟨by omega, by omega, a, b, c, d, ?_⟩
        split at h3
        · cases h3
        · omega
      · rintro ⟨_, _, _, _, _, _, h3⟩
        rw [if_neg (by omega)]
def rightB (H P : List Int) (lo hi : Int) : Bool := decide (H.length ≤ 20) && decide (P.length ≤ 20) && decide (errC H P lo hi = 0)
theorem right_c (H P : List Int) (lo hi : Int) : CtrA Try.prog 19 [zs H, zs P, lim lo hi] (vb (rightB H P lo hi)) := by
  refine ctrA _ Try.func19 rfl rfl Try.ntmps19 rfl fun w Z => ?_
  by_cases hl : H.length ≤ 20 ∧ P.length ≤ 20
  · have hc := rcheck_c H P lo hi (by omega) (by omega)
    have e1 : rightB H P lo hi = decide (errC H P lo hi = 0) := by unfold rightB; rw [decide_eq_true hl.1, decide_eq_true hl.2]; rfl
    obtain ⟨l1, l2⟩ := hl
    rw [e1]
    simp only [initT, List.map_cons, List.map_nil, Nat.zero_add, Nat.reduceAdd]
    refine cq_seq ?_
    refine cq_region ?_
    apply sq_g; exact g_box_agg rfl; exact rfl
    apply sq_g; exact g_assign (s := .av (.val (.bool _))) rfl; exact rfl
    refine sq_nil ?_
    refine sq_then ?_
    refine cq_seq ?_
    refine cq_region ?_
    apply sq_g; exact g_move (s := .av _) rfl; exact rfl
    apply sq_g; exact g_len rfl; exact rfl
    apply sq_g; exact g_cmp rfl rfl rfl; exact rfl
    apply sq_g; exact g_move (s := .av (.val (.bool _))) rfl; exact rfl
    refine sq_split rfl rfl (fun hb => ?_) (fun hb => ?_) <;> (try simp only [decide_eq_true_eq, decide_eq_false_iff_not, beq_iff_eq, beq_eq_false_iff_ne, bne_iff_ne, bne_eq_false_iff_eq, ne_eq, Bool.not_eq_true', Bool.not_eq_false', Bool.and_eq_true, Bool.or_eq_true, Bool.and_eq_false_iff, Bool.or_eq_false_iff] at hb) <;> (try (exfalso; omega))
    apply sq_on; exact g_move (s := .av _) rfl; exact rfl; exact rfl; exact rfl
    apply sq_on; exact g_len rfl; exact rfl; exact rfl; exact rfl
    apply sq_on; exact g_cmp rfl rfl rfl; exact rfl; exact rfl; exact rfl
    apply sq_g; exact g_pick (s := .av (.val (.bool _))) rfl rfl; exact rfl
    apply sq_g; exact g_move (s := .av (.val (.bool _))) rfl; exact rfl
    refine sq_split rfl rfl (fun hb => ?_) (fun hb => ?_) <;> (try simp only [decide_eq_true_eq, decide_eq_false_iff_not, beq_iff_eq, beq_eq_false_iff_ne, bne_iff_ne, bne_eq_false_iff_eq, ne_eq, Bool.not_eq_true', Bool.not_eq_false', Bool.and_eq_true, Bool.or_eq_true, Bool.and_eq_false_iff, Bool.or_eq_false_iff] at hb) <;> (try (exfalso; omega))
    apply sq_on; exact g_move (s := .av _) rfl; exact rfl; exact rfl; exact rfl
    apply sq_on; exact g_move (s := .av _) rfl; exact rfl; exact rfl; exact rfl
    apply sq_on; exact g_load_agg (us := [.int _ _, .int _ _]) rfl rfl rfl rfl; exact rfl; exact rfl; exact rfl
    apply sq_on; exact g_call (hc) rfl; exact rfl; exact rfl; exact rfl
    apply sq_on; exact g_cmp rfl rfl rfl; exact rfl; exact rfl; exact rfl
    apply sq_g; exact g_pick (s := .av (.val (.bool _))) rfl rfl; exact rfl
    apply sq_g; exact g_assign (s := .av (.val (.bool _))) rfl; exact rfl
    refine sq_nil ?_
    refine sq_then ?_
    refine cq_ret ?_
    all_goals first | (exfalso; omega) | exact sq_res1 rfl (.tmp rfl) rfl
  · have e1 : rightB H P lo hi = false := by
      unfold rightB
      by_cases h1 : H.length ≤ 20
      · rw [decide_eq_false (fun h2 => hl ⟨h1, h2⟩)]; simp
      · rw [decide_eq_false h1]; rfl
    rw [e1]
    simp only [initT, List.map_cons, List.map_nil, Nat.zero_add, Nat.reduceAdd]
    focus
      refine cq_seq ?_
      refine cq_region ?_
      apply sq_g; exact g_box_agg rfl; exact rfl
      apply sq_g; exact g_assign (s := .av (.val (.bool _))) rfl; exact rfl
      refine sq_nil ?_
      refine sq_then ?_
      refine cq_seq ?_
      refine cq_region ?_
      apply sq_g; exact g_move (s := .av _) rfl; exact rfl
      apply sq_g; exact g_len rfl; exact rfl
      apply sq_g; exact g_cmp rfl rfl rfl; exact rfl
      apply sq_g; exact g_move (s := .av (.val (.bool _))) rfl; exact rfl
      refine sq_split rfl rfl (fun hb => ?_) (fun hb => ?_) <;> (try simp only [decide_eq_true_eq, decide_eq_false_iff_not, beq_iff_eq, beq_eq_false_iff_ne, bne_iff_ne, bne_eq_false_iff_eq, ne_eq, Bool.not_eq_true', Bool.not_eq_false', Bool.and_eq_true, Bool.or_eq_true, Bool.and_eq_false_iff, Bool.or_eq_false_iff] at hb) <;> (try (exfalso; omega))
      apply sq_on; exact g_move (s := .av _) rfl; exact rfl; exact rfl; exact rfl
      apply sq_on; exact g_len rfl; exact rfl; exact rfl; exact rfl
      apply sq_on; exact g_cmp rfl rfl rfl; exact rfl; exact rfl; exact rfl
      apply sq_g; exact g_pick (s := .av (.val (.bool _))) rfl rfl; exact rfl
      apply sq_g; exact g_move (s := .av (.val (.bool _))) rfl; exact rfl
      refine sq_split rfl rfl (fun hb => ?_) (fun hb => ?_) <;> (try simp only [decide_eq_true_eq, decide_eq_false_iff_not, beq_iff_eq, beq_eq_false_iff_ne, bne_iff_ne, bne_eq_false_iff_eq, ne_eq, Bool.not_eq_true', Bool.not_eq_false', Bool.and_eq_true, Bool.or_eq_true, Bool.and_eq_false_iff, Bool.or_eq_false_iff] at hb) <;> (try (exfalso; omega))
      refine sq_off rfl rfl rfl rfl ?_
      refine sq_off rfl rfl rfl rfl ?_
      refine sq_off rfl rfl rfl rfl ?_
      refine sq_off rfl rfl rfl rfl ?_
      refine sq_off rfl rfl rfl rfl ?_
      apply sq_g; exact g_pick (s := .av (.val (.bool _))) rfl rfl; exact rfl
      apply sq_g; exact g_assign (s := .av (.val (.bool _))) rfl; exact rfl
      refine sq_nil ?_
      refine sq_then ?_
      refine cq_ret ?_
      rotate_left
      refine sq_off rfl rfl rfl rfl ?_
      refine sq_off rfl rfl rfl rfl ?_
      refine sq_off rfl rfl rfl rfl ?_
      apply sq_g; exact g_pick (s := .av (.val (.bool _))) rfl rfl; exact rfl
      apply sq_g; exact g_move (s := .av (.val (.bool _))) rfl; exact rfl
      refine sq_off rfl rfl rfl rfl ?_
      refine sq_off rfl rfl rfl rfl ?_
      refine sq_off rfl rfl rfl rfl ?_
      refine sq_off rfl rfl rfl rfl ?_
      refine sq_off rfl rfl rfl rfl ?_
      apply sq_g; exact g_pick (s := .av (.val (.bool _))) rfl rfl; exact rfl
      apply sq_g; exact g_assign (s := .av (.val (.bool _))) rfl; exact rfl
      refine sq_nil ?_
      refine sq_then ?_
      refine cq_ret ?_
      rotate_left
    all_goals exact sq_res1 rfl (.tmp rfl) rfl
theorem pairsL_len {HH PP : List Int} {lo up : Int} (h : errC HH PP lo up = 0) : (pairsL HH PP lo up).length = mxP (fitN HH PP lo up) HH.length PP.length := by
  unfold pairsL; rw [if_pos h]; rfl
theorem bad_take {l : List Int} (h : bad l = false) (k : Nat) : bad (l.take k) = false := by
  unfold bad
  refine any_no fun i hi => ?_
  rw [List.length_take] at hi
  rw [gz_take (by omega)]
  refine any_elim (p := fun k => badZ (gz l k)) ?_ i (Nat.lt_of_lt_of_le hi (Nat.min_le_right _ _))
  unfold bad at h; rw [h]; simp
theorem rightB_iff {H P : List Int} {lo hi : Int} : rightB H P lo hi = true ↔ H.length ≤ 20 ∧ P.length ≤ 20 ∧ errC H P lo hi = 0 := by
  unfold rightB; simp [and_assoc]
theorem widens_len {HH PP : List Int} {lo up : Int} (hr : rightB HH PP lo up = true) (h0 : HH.length ≠ 0) (h1 : up ≠ 100000) :
    errC HH PP lo up = 0 ∧ errC HH PP lo (up + 1) = 0 ∧ errC (HH.take (HH.length - 1)) PP lo up = 0 ∧ (pairsL HH PP lo up).length ≤ (pairsL HH PP lo (up + 1)).length ∧ (pairsL (HH.take (HH.length - 1)) PP lo up).length ≤ (pairsL HH PP lo up).length ∧ (pairsL HH PP lo up).length ≤ (pairsL (HH.take (HH.length - 1)) PP lo up).length + 1 ∧ (pairsL HH PP lo up).length ≤ 20 := by
  obtain ⟨n1, n2, he⟩ := rightB_iff.1 hr
  obtain ⟨a1, a2, a3, a4, a5, a6, a7⟩ := errC_iff.1 he
  have b6 : up ≤ 100000 ∧ -100000 ≤ up := by
    unfold outZ at a6; simp at a6; omega
  have he2 : errC HH PP lo (up + 1) = 0 := errC_iff.2 ⟨a1, a2, a3, a4, a5, by unfold outZ; rw [decide_eq_false (by omega), decide_eq_false (by omega)]; rfl, by omega⟩
  have ht : (HH.take (HH.length - 1)).length = HH.length - 1 := by rw [List.length_take]; omega
  have he3 : errC (HH.take (HH.length - 1)) PP lo up = 0 := errC_iff.2 ⟨by omega, a2, bad_take a3 _, a4, a5, a6, a7⟩
  rw [pairsL_len he, pairsL_len he2, pairsL_len he3, ht]
  have hft : ∀ x p, x < HH.length - 1 → (fitN (HH.take (HH.length - 1)) PP lo up x p = true ↔ fitN HH PP lo up x p = true) := fun x p hx => by
    unfold fitN; rw [gz_take hx]
  have hl := mx_last (fit := fitN HH PP lo up) (fit' := fitN (HH.take (HH.length - 1)) PP lo up) (n := HH.length - 1) (nP := PP.length) (fun x p hx _ hf => (hft x p hx).2 hf)
  have e : HH.length - 1 + 1 = HH.length := by omega
  rw [e] at hl
  refine ⟨he, he2, he3, mx_le (Nat.le_refl _) fun x p _ _ hf => ?_, mx_le (by omega) fun x p hx _ hf => (hft x p hx).1 hf, hl, ?_⟩
  · unfold fitN fitB at hf ⊢
    simp only [Bool.and_eq_true, decide_eq_true_eq] at hf ⊢
    omega
  · obtain ⟨hM, _⟩ := best_spec (fitN HH PP lo up) HH.length PP.length
    have := nodup_len (l' := List.range HH.length) hM.n1 (fun x hx => by
      obtain ⟨y, hy, rfl⟩ := List.mem_map.1 hx
      exact List.mem_range.2 (hM.ok y hy).1)
    rw [List.length_map, List.length_range] at this
    unfold mxP; omega
theorem widens_c (HH PP : List Int) (lo up : Int) : CtrA Try.prog 5 [zs HH, zs PP, lim lo up] (vb true) := by
  refine ctrA _ Try.func5 rfl rfl Try.ntmps5 rfl fun w Z => ?_
  have aw := awake_c
  have cr := right_c HH PP lo up
  simp only [initT, List.map_cons, List.map_nil, Nat.zero_add, Nat.reduceAdd]
  focus
    refine cq_seq ?_
    refine cq_region ?_
    apply sq_g; exact g_box_agg rfl; exact rfl
    apply sq_g; exact g_assign (s := .av (.val (.bool _))) rfl; exact rfl
    refine sq_nil ?_
    refine sq_then ?_
    refine cq_seq ?_
    refine cq_seq ?_
    refine cq_region ?_
    apply sq_g; exact g_move (s := .av _) rfl; exact rfl
    apply sq_g; exact g_move (s := .av _) rfl; exact rfl
    apply sq_g; exact g_load_agg (us := [.int _ _, .int _ _]) rfl rfl rfl rfl; exact rfl
    apply sq_g; exact g_call (cr) rfl; exact rfl
    apply sq_g; exact g_not rfl; exact rfl
    apply sq_g; exact g_move (s := .av (.val (.bool _))) rfl; exact rfl
    refine sq_split rfl rfl (fun hb => ?_) (fun hb => ?_) <;> (try simp only [decide_eq_true_eq, decide_eq_false_iff_not, beq_iff_eq, beq_eq_false_iff_ne, bne_iff_ne, bne_eq_false_iff_eq, ne_eq, Bool.not_eq_true', Bool.not_eq_false', Bool.and_eq_true, Bool.or_eq_true, Bool.and_eq_false_iff, Bool.or_eq_false_iff] at hb) <;> (try (exfalso; omega))
    refine sq_off rfl rfl rfl rfl ?_
    refine sq_off rfl rfl rfl rfl ?_
    refine sq_off rfl rfl rfl rfl ?_
    apply sq_g; exact g_pick (s := .av (.val (.bool _))) rfl rfl; exact rfl
    apply sq_g; exact g_move (s := .av (.val (.bool _))) rfl; exact rfl
    refine sq_off rfl rfl rfl rfl ?_
    refine sq_off rfl rfl rfl rfl ?_
    refine sq_off rfl rfl rfl rfl ?_
    apply sq_g; exact g_pick (s := .av (.val (.bool _))) rfl rfl; exact rfl
    refine sq_nil ?_
    refine sq_then ?_
    refine cq_cond_t rfl ?_
    refine cq_seq ?_
    refine cq_region ?_
    apply sq_g; exact g_call (aw) rfl; exact rfl
    apply sq_g; exact g_assign (s := .av (.val (.bool _))) rfl; exact rfl
    refine sq_nil ?_
    refine sq_then ?_
    refine cq_ret ?_
    refine sq_then_ret ?_
    rotate_left
    apply sq_on; exact g_move (s := .av _) rfl; exact rfl; exact rfl; exact rfl
    apply sq_on; exact g_len rfl; exact rfl; exact rfl; exact rfl
    apply sq_on; exact g_cmp rfl rfl rfl; exact rfl; exact rfl; exact rfl
    apply sq_g; exact g_pick (s := .av (.val (.bool _))) rfl rfl; exact rfl
    apply sq_g; exact g_move (s := .av (.val (.bool _))) rfl; exact rfl
    refine sq_split rfl rfl (fun hb => ?_) (fun hb => ?_) <;> (try simp only [decide_eq_true_eq, decide_eq_false_iff_not, beq_iff_eq, beq_eq_false_iff_ne, bne_iff_ne, bne_eq_false_iff_eq, ne_eq, Bool.not_eq_true', Bool.not_eq_false', Bool.and_eq_true, Bool.or_eq_true, Bool.and_eq_false_iff, Bool.or_eq_false_iff] at hb) <;> (try (exfalso; omega))
    refine sq_off rfl rfl rfl rfl ?_
    refine sq_off rfl rfl rfl rfl ?_
    refine sq_off rfl rfl rfl rfl ?_
    apply sq_g; exact g_pick (s := .av (.val (.bool _))) rfl rfl; exact rfl
    refine sq_nil ?_
    refine sq_then ?_
    refine cq_cond_t rfl ?_
    refine cq_seq ?_
    refine cq_region ?_
    apply sq_g; exact g_call (aw) rfl; exact rfl
    apply sq_g; exact g_assign (s := .av (.val (.bool _))) rfl; exact rfl
    refine sq_nil ?_
    refine sq_then ?_
    refine cq_ret ?_
    refine sq_then_ret ?_
    rotate_left
    apply sq_on; exact g_field rfl; exact rfl; exact rfl; exact rfl
    apply sq_on; exact g_load (τ := .val (.int _ _)) rfl rfl rfl; exact rfl; exact rfl; exact rfl
    apply sq_on; exact g_cmp rfl rfl rfl; exact rfl; exact rfl; exact rfl
    apply sq_g; exact g_pick (s := .av (.val (.bool _))) rfl rfl; exact rfl
    refine sq_nil ?_
    refine sq_then ?_
    rotate_left
  · exact sq_res1 rfl (.tmp rfl) rfl
  · exact sq_res1 rfl (.tmp rfl) rfl
  · rename_i hr
    have h0 := hb
    (refine cq_cond rfl (fun hb => ?_) (fun hb => ?_) <;> (try simp only [decide_eq_true_eq, decide_eq_false_iff_not, beq_iff_eq, beq_eq_false_iff_ne, bne_iff_ne, bne_eq_false_iff_eq, ne_eq, Bool.not_eq_true', Bool.not_eq_false', Bool.and_eq_true, Bool.or_eq_true, Bool.and_eq_false_iff, Bool.or_eq_false_iff] at hb) <;> (try (exfalso; omega)))
    · refine cq_seq ?_
      refine cq_region ?_
      apply sq_g; exact g_call (aw) rfl; exact rfl
      apply sq_g; exact g_assign (s := .av (.val (.bool _))) rfl; exact rfl
      refine sq_nil ?_
      refine sq_then ?_
      refine cq_ret ?_
      refine sq_then_ret ?_
      exact sq_res1 rfl (.tmp rfl) rfl
    · obtain ⟨he, he2, he3, l1, l2, l3, l4⟩ := widens_len hr (by omega) hb
      have c1 := (pairs_c HH PP lo up).roN
      have c2 := (pairs_c HH PP lo (up + 1)).roN
      have c3 := (pairs_c (HH.take (HH.length - 1)) PP lo up).roN
      rw [he] at c1
      rw [he2] at c2
      rw [he3] at c3
      have n1 := (rightB_iff.1 hr).1
      generalize pairsL HH PP lo up = A1 at c1 l1 l2 l3 l4
      generalize pairsL HH PP lo (up + 1) = A2 at c2 l1
      generalize pairsL (HH.take (HH.length - 1)) PP lo up = A3 at c3 l2 l3
      obtain ⟨b1, b2⟩ : up ≤ 100000 ∧ -100000 ≤ up := by
        have := (errC_iff.1 he).2.2.2.2.2.1
        unfold outZ at this; simp at this; omega
      have ek : ((HH.length : Int) - 1) = ((HH.length - 1 : Nat) : Int) := by omega
      refine cq_skip ?_
      refine sq_then ?_
      refine cq_seq ?_
      refine cq_region ?_
      apply sq_g; exact g_move (s := .av _) rfl; exact rfl
      apply sq_g; exact g_move (s := .av _) rfl; exact rfl
      apply sq_g; exact g_load_agg (us := [.int _ _, .int _ _]) rfl rfl rfl rfl; exact rfl
      apply sq_g; exact g_call (c1) rfl; exact rfl
      apply sq_g; exact g_move (s := .av _) rfl; exact rfl
      apply sq_g; exact g_extractT rfl rfl; exact rfl
      apply sq_g; exact g_extractT rfl rfl; exact rfl
      apply sq_g; exact g_assign (s := .av _) rfl; exact rfl
      apply sq_g; exact g_assign (s := .av (.val (.int _ _))) rfl; exact rfl
      refine sq_nil ?_
      refine sq_then ?_
      refine cq_seq ?_
      refine cq_region ?_
      apply sq_g; exact g_move (s := .av _) rfl; exact rfl
      apply sq_g; exact g_move (s := .av _) rfl; exact rfl
      apply sq_g; exact g_field rfl; exact rfl
      apply sq_g; exact g_load (τ := .val (.int _ _)) rfl rfl rfl; exact rfl
      apply sq_g; exact g_field rfl; exact rfl
      apply sq_g; exact g_load (τ := .val (.int _ _)) rfl rfl rfl; exact rfl
      apply sq_g; exact g_arith rfl rfl rfl (by omega); exact rfl
      apply sq_g; exact g_build (is := [0, 1]) (xs := [_, _]) (vs := [_, _]) (tb24 _ _) rfl rfl; exact rfl
      apply sq_g; exact g_call (c2) rfl; exact rfl
      apply sq_g; exact g_move (s := .av _) rfl; exact rfl
      apply sq_g; exact g_extractT rfl rfl; exact rfl
      apply sq_g; exact g_extractT rfl rfl; exact rfl
      apply sq_g; exact g_assign (s := .av _) rfl; exact rfl
      apply sq_g; exact g_assign (s := .av (.val (.int _ _))) rfl; exact rfl
      refine sq_nil ?_
      refine sq_then ?_
      refine cq_seq ?_
      refine cq_drawn ?_
      apply dq_g; exact g_move (s := .av _) rfl; exact rfl
      apply dq_g; exact g_move (s := .av _) rfl; exact rfl
      apply dq_g; exact g_len rfl; exact rfl
      apply dq_g; exact g_arith rfl rfl rfl (by omega); exact rfl
      apply dq_g; exact  g_take rfl rfl ek (by omega); exact rfl
      apply dq_g; exact g_move (s := .av _) rfl; exact rfl
      apply dq_g; exact g_load_agg (us := [.int _ _, .int _ _]) rfl rfl rfl rfl; exact rfl
      apply dq_g; exact g_call (c3) rfl; exact rfl
      apply dq_g; exact g_move (s := .av _) rfl; exact rfl
      apply dq_g; exact g_extractT rfl rfl; exact rfl
      apply dq_g; exact g_extractT rfl rfl; exact rfl
      apply dq_g; exact g_assign (s := .av _) rfl; exact rfl
      apply dq_g; exact g_assign (s := .av (.val (.int _ _))) rfl; exact rfl
      refine dq_nil tm (by kernel_rfl) ?_
      refine sq_then ?_
      refine cq_seq ?_
      refine cq_region ?_
      apply sq_g; exact g_move (s := .av (.val (.int _ _))) rfl; exact rfl
      apply sq_g; exact g_move (s := .av (.val (.int _ _))) rfl; exact rfl
      apply sq_g; exact g_arith rfl rfl rfl (by omega); exact rfl
      apply sq_g; exact g_move (s := .av (.val (.int _ _))) rfl; exact rfl
      apply sq_g; exact g_arith rfl rfl rfl (by omega); exact rfl
      apply sq_g; exact g_cmp rfl rfl rfl; exact rfl
      apply sq_g; exact g_move (s := .av (.val (.bool _))) rfl; exact rfl
      apply sq_on; exact g_move (s := .av _) rfl; exact rfl; exact rfl; exact rfl
      apply sq_on; exact g_len rfl; exact rfl; exact rfl; exact rfl
      apply sq_on; exact g_move (s := .av _) rfl; exact rfl; exact rfl; exact rfl
      apply sq_on; exact g_len rfl; exact rfl; exact rfl; exact rfl
      apply sq_on; exact g_cmp rfl rfl rfl; exact rfl; exact rfl; exact rfl
      apply sq_g; exact g_pick (s := .av (.val (.bool _))) rfl rfl; exact rfl
      apply sq_g; exact g_move (s := .av (.val (.bool _))) rfl; exact rfl
      refine sq_split rfl rfl (fun hb => ?_) (fun hb => ?_) <;> (try simp only [decide_eq_true_eq, decide_eq_false_iff_not, beq_iff_eq, beq_eq_false_iff_ne, bne_iff_ne, bne_eq_false_iff_eq, ne_eq, Bool.not_eq_true', Bool.not_eq_false', Bool.and_eq_true, Bool.or_eq_true, Bool.and_eq_false_iff, Bool.or_eq_false_iff] at hb) <;> (try (exfalso; omega))
      apply sq_on; exact g_move (s := .av _) rfl; exact rfl; exact rfl; exact rfl
      apply sq_on; exact g_len rfl; exact rfl; exact rfl; exact rfl
      apply sq_on; exact g_move (s := .av _) rfl; exact rfl; exact rfl; exact rfl
      apply sq_on; exact g_len rfl; exact rfl; exact rfl; exact rfl
      apply sq_on; exact g_cmp rfl rfl rfl; exact rfl; exact rfl; exact rfl
      apply sq_g; exact g_pick (s := .av (.val (.bool _))) rfl rfl; exact rfl
      apply sq_g; exact g_move (s := .av (.val (.bool _))) rfl; exact rfl
      refine sq_split rfl rfl (fun hb => ?_) (fun hb => ?_) <;> (try simp only [decide_eq_true_eq, decide_eq_false_iff_not, beq_iff_eq, beq_eq_false_iff_ne, bne_iff_ne, bne_eq_false_iff_eq, ne_eq, Bool.not_eq_true', Bool.not_eq_false', Bool.and_eq_true, Bool.or_eq_true, Bool.and_eq_false_iff, Bool.or_eq_false_iff] at hb) <;> (try (exfalso; omega))
      apply sq_on; exact g_move (s := .av _) rfl; exact rfl; exact rfl; exact rfl
      apply sq_on; exact g_len rfl; exact rfl; exact rfl; exact rfl
      apply sq_on; exact g_move (s := .av _) rfl; exact rfl; exact rfl; exact rfl
      apply sq_on; exact g_len rfl; exact rfl; exact rfl; exact rfl
      apply sq_on; exact g_arith rfl rfl rfl (by omega); exact rfl; exact rfl; exact rfl
      apply sq_on; exact g_cmp rfl rfl rfl; exact rfl; exact rfl; exact rfl
      apply sq_g; exact g_pick (s := .av (.val (.bool _))) rfl rfl; exact rfl
      apply sq_g; exact g_move (s := .av (.val (.bool _))) rfl; exact rfl
      refine sq_split rfl rfl (fun hb => ?_) (fun hb => ?_) <;> (try simp only [decide_eq_true_eq, decide_eq_false_iff_not, beq_iff_eq, beq_eq_false_iff_ne, bne_iff_ne, bne_eq_false_iff_eq, ne_eq, Bool.not_eq_true', Bool.not_eq_false', Bool.and_eq_true, Bool.or_eq_true, Bool.and_eq_false_iff, Bool.or_eq_false_iff] at hb) <;> (try (exfalso; omega))
      apply sq_on; exact g_call (aw) rfl; exact rfl; exact rfl; exact rfl
      apply sq_g; exact g_pick (s := .av (.val (.bool _))) rfl rfl; exact rfl
      apply sq_g; exact g_assign (s := .av (.val (.bool _))) rfl; exact rfl
      refine sq_nil ?_
      refine sq_then ?_
      refine cq_ret ?_
      exact sq_res1 rfl (.tmp rfl) rfl
end Go.Proofs.Ytogilkilkmoedaa
