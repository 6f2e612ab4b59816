/- A part of the proof that the law returns true at every input and that the input reads behind the call as it read before; this part states nothing of its own that needs a condition of the input. -/
import Derived.Test.YtogilkilkmoedaaSb
import Derived.Test.YtogilkilkmoedaaTe
import Derived.Test.YtogilkilkmoedaaTf
set_option linter.unusedVariables false
set_option linter.unusedSimpArgs false
namespace Go.Proofs.Ytogilkilkmoedaa
open Go Go.Vc Go.RowKit
/-! The reference's groups and plan are the same lists. -/
theorem asc_le {l : List Int} (h : l.Pairwise (fun a b => a < b)) : l.Pairwise (fun a b => decide (a ≤ b) = true) := h.imp fun {a b} h => by simp only [decide_eq_true_eq]; omega
theorem asc_nodup {l : List Int} (h : l.Pairwise (fun a b => a < b)) : l.Nodup := h.imp fun {a b} h e => by omega
/-- An ascending list with the same members is the sorted list of keys. -/
theorem sortK_is {ks l : List Int} (ha : l.Pairwise (fun a b => a < b)) (hm : ∀ x, x ∈ l ↔ x ∈ ks) : sortK ks = l :=
  sortK_eq (perm_dd (asc_nodup ha) (fun a h => (hm a).1 h) (fun a h => (hm a).2 h)).symm (asc_le ha)
/-- The groups of the quotients below q. -/
def rsL (l : List Int) (w : Int) : Nat → List (List Int)
  | 0 => []
  | q + 1 => rsL l w q ++ if idx l w l.length q = [] then [] else [idx l w l.length q]
theorem rsL_len (l : List Int) (w : Int) : ∀ q, (rsL l w q).length ≤ q
  | 0 => Nat.le_refl _
  | q + 1 => by
    have := rsL_len l w q
    unfold rsL
    rw [List.length_append]
    split <;> simp <;> omega
def keysN (p : Int → Bool) (lo : Int) (q : Nat) : List Int := ((List.range q).map (fun i : Nat => lo + (i : Int))).filter p
theorem keysN_succ (p : Int → Bool) (lo : Int) (q : Nat) : keysN p lo (q + 1) = keysN p lo q ++ if p (lo + q) = true then [lo + (q : Int)] else [] := by
  unfold keysN
  rw [List.range_succ, List.map_append, List.filter_append]
  congr 1
  simp only [List.map_cons, List.map_nil, List.filter_cons, List.filter_nil]
theorem keysN_asc (p : Int → Bool) (lo : Int) (q : Nat) : (keysN p lo q).Pairwise (fun a b => a < b) := by
  refine List.Pairwise.filter _ ?_
  rw [List.pairwise_map]
  exact (List.pairwise_lt_range (n := q)).imp (fun {a b} h => by omega)
theorem mem_keysN {p : Int → Bool} {lo : Int} {q : Nat} {x : Int} : x ∈ keysN p lo q ↔ p x = true ∧ lo ≤ x ∧ x < lo + q := by
  unfold keysN
  rw [List.mem_filter, List.mem_map]
  constructor
  · rintro ⟨⟨i, hi, rfl⟩, h⟩
    have := List.mem_range.1 hi
    exact ⟨h, by omega, by omega⟩
  · rintro ⟨h, h1, h2⟩
    exact ⟨⟨(x - lo).toNat, List.mem_range.2 (by omega), by omega⟩, h⟩
theorem rsL_keys (l : List Int) (w : Int) : ∀ q, rsL l w q = (keysN (fun a => !(idx l w l.length a).isEmpty) 0 q).map (fun a => idx l w l.length a)
  | 0 => rfl
  | q + 1 => by
    unfold rsL
    rw [keysN_succ, List.map_append, rsL_keys l w q, Int.zero_add]
    congr 1
    by_cases h : idx l w l.length q = []
    · simp [h]
    · simp [h]
theorem rs_groups {l : List Int} {w : Int} (hr : RightL l) (hw1 : 1 ≤ w) (q : Nat) (hq : (q : Int) = 100000 / w + 1) : rsL l w q = (sortK (quots l w)).map (fun a => idx l w l.length a) := by
  rw [rsL_keys, sortK_is (keysN_asc _ _ _)]
  intro x
  rw [mem_keysN, mem_quots]
  have hne : (!(idx l w l.length x).isEmpty) = true ↔ ∃ i, i < l.length ∧ gz l i / w = x := by
    rw [Bool.not_eq_true', List.isEmpty_eq_false_iff_exists_mem]
    constructor
    · rintro ⟨y, hy⟩
      obtain ⟨i, h1, h2, _⟩ := mem_idx.1 hy
      exact ⟨i, h1, h2⟩
    · rintro ⟨i, h1, h2⟩
      exact ⟨i, mem_idx.2 ⟨i, h1, h2, rfl⟩⟩
  rw [hne]
  constructor
  · exact fun h => h.1
  · rintro ⟨i, hi, rfl⟩
    have := hr.at_ i
    have h1 : gz l i / w ≤ 100000 / w := Int.ediv_le_ediv (by omega) this.2
    have h2 := Int.ediv_nonneg this.1 (show 0 ≤ w by omega)
    exact ⟨⟨i, hi, rfl⟩, by omega, by omega⟩
theorem minL_zero {H P : List Int} {w a b : Int} (h : a ∉ quots H w) : minL H P w a b = 0 := by
  have : idx H w H.length a = [] := by
    rw [List.eq_nil_iff_forall_not_mem]
    intro y hy
    obtain ⟨i, h1, h2, _⟩ := mem_idx.1 hy
    exact h (mem_quots.2 ⟨i, h1, h2⟩)
  unfold minL
  rw [this]
  simp
theorem minL_pos {H P : List Int} {w a b : Int} (h1 : a ∈ quots H w) (h2 : b ∈ quots P w) : 1 ≤ minL H P w a b := by
  obtain ⟨i, hi, ei⟩ := mem_quots.1 h1
  obtain ⟨j, hj, ej⟩ := mem_quots.1 h2
  have a1 := List.length_pos_of_mem (mem_idx.2 ⟨i, hi, ei, rfl⟩)
  have a2 := List.length_pos_of_mem (mem_idx.2 ⟨j, hj, ej, rfl⟩)
  unfold minL
  omega
theorem cntC_app (m : Int → Int → Int) (L M : List (Int × Int)) (d : Int) : cntC m (L ++ M) d = cntC m L d + cntC m M d := by
  unfold cntC
  rw [List.filter_append, List.map_append, List.sum_append]
theorem sum_add {α : Type} (f g : α → Int) : ∀ l : List α, (l.map (fun x => f x + g x)).sum = (l.map f).sum + (l.map g).sum
  | [] => rfl
  | x :: l => by simp only [List.map_cons, List.sum_cons, sum_add f g l]; omega
theorem cntC_row (m : Int → Int → Int) (a d : Int) : ∀ B : List Int, cntC m (B.map (fun b => (a, b))) d = (B.map (fun b => if b + d = a then m a b else 0)).sum
  | [] => rfl
  | b :: B => by
    have e : cntC m ((b :: B).map (fun b => (a, b))) d = cntC m [(a, b)] d + cntC m (B.map (fun b => (a, b))) d := by rw [← cntC_app]; rfl
    rw [e, cntC_row m a d B, List.map_cons, List.sum_cons]
    congr 1
    have := cntC_snoc m [] a b d
    simp only [List.nil_append] at this
    rw [this, cntC_nil]
    by_cases h : d = a - b
    · rw [if_pos h, if_pos (by omega)]; omega
    · rw [if_neg h, if_neg (by omega)]
theorem cntC_prod (m : Int → Int → Int) (d : Int) (B : List Int) : ∀ A : List Int, A.Nodup → cntC m (prodK A B) d = (B.map (fun b => if b + d ∈ A then m (b + d) b else 0)).sum
  | [], _ => by
    have : (B.map (fun b => if b + d ∈ ([] : List Int) then m (b + d) b else 0)).sum = 0 := by
      induction B with
      | nil => rfl
      | cons b B ih => rw [List.map_cons, List.sum_cons, ih]; simp
    rw [this]; rfl
  | a :: A, h => by
    obtain ⟨h1, h2⟩ := List.nodup_cons.1 h
    have e : prodK (a :: A) B = B.map (fun b => (a, b)) ++ prodK A B := by simp [prodK]
    rw [e, cntC_app, cntC_row, cntC_prod m d B A h2, ← sum_add]
    congr 1
    refine List.map_congr_left fun b _ => ?_
    by_cases hb : b + d = a
    · rw [if_pos hb, if_neg (by rw [hb]; exact h1), if_pos (by rw [hb]; exact List.mem_cons_self), hb]; omega
    · rw [if_neg hb]
      by_cases hb2 : b + d ∈ A
      · rw [if_pos hb2, if_pos (List.mem_cons_of_mem _ hb2)]; omega
      · rw [if_neg hb2, if_neg (by rw [List.mem_cons]; exact fun h => h.elim hb hb2)]; rfl
/-- What the reference counts at d: over the groups of pins. -/
def nS (H P : List Int) (w d : Int) (K : List Int) : Int := (K.map (fun b => minL H P w (b + d) b)).sum
theorem nS_snoc (H P : List Int) (w d : Int) (K : List Int) (b : Int) : nS H P w d (K ++ [b]) = nS H P w d K + minL H P w (b + d) b := by
  unfold nS
  rw [List.map_append, List.sum_append]
  simp
theorem nS_cnt (H P : List Int) (w d : Int) : nS H P w d (sortK (quots P w)) = cntC (minL H P w) (prodK (dd (quots H w)) (dd (quots P w))) d := by
  rw [cntC_prod _ _ _ _ (nodup_dd _)]
  have e : (sortK (quots P w)).Perm (dd (quots P w)) := List.mergeSort_perm _ _
  unfold nS
  rw [sum_perm (e.map _)]
  congr 1
  refine List.map_congr_left fun b _ => ?_
  by_cases h : b + d ∈ dd (quots H w)
  · rw [if_pos h]
  · rw [if_neg h]
    exact minL_zero (fun h2 => h (mem_dd.2 h2))
/-- The list of the differences below lo + q with something. -/
def rpL (H P : List Int) (w lo : Int) (q : Nat) : List (Int × Int) := (keysN (fun d => decide (0 < nS H P w d (sortK (quots P w)))) lo q).map (fun d => (d, nS H P w d (sortK (quots P w))))
theorem rpL_succ (H P : List Int) (w lo : Int) (q : Nat) : rpL H P w lo (q + 1) = rpL H P w lo q ++ if 0 < nS H P w (lo + q) (sortK (quots P w)) then [(lo + (q : Int), nS H P w (lo + q) (sortK (quots P w)))] else [] := by
  unfold rpL
  rw [keysN_succ, List.map_append]
  congr 1
  by_cases h : 0 < nS H P w (lo + q) (sortK (quots P w))
  · simp [h]
  · simp [h]
theorem rpL_len (H P : List Int) (w lo : Int) (q : Nat) : (rpL H P w lo q).length ≤ q := by
  unfold rpL keysN
  rw [List.length_map]
  refine Nat.le_trans (List.length_filter_le _ _) ?_
  simp
theorem rp_plan {H P : List Int} {w lo hi : Int} (q : Nat) (hq : (q : Int) = hi + 1 - lo ∨ (hi < lo ∧ q = 0)) (hc : ∀ i k, i < H.length → k < P.length → lo ≤ gz H i / w - gz P k / w ∧ gz H i / w - gz P k / w ≤ hi) : rpL H P w lo q = planK (minL H P w) (quots H w) (quots P w) := by
  unfold rpL planK
  have hk : sortK (keysC (prodK (dd (quots H w)) (dd (quots P w)))) = keysN (fun d => decide (0 < nS H P w d (sortK (quots P w)))) lo q := by
    refine sortK_is (keysN_asc _ _ _) fun d => ?_
    rw [mem_keysN, decide_eq_true_eq, nS_cnt]
    constructor
    · rintro ⟨h, _, _⟩
      by_cases hd : d ∈ keysC (prodK (dd (quots H w)) (dd (quots P w)))
      · exact hd
      · rw [cntC_out _ _ _ hd] at h
        exact absurd h (by omega)
    · intro hd
      obtain ⟨⟨a, b⟩, hab, ed⟩ := List.mem_map.1 hd
      have hab0 := hab
      unfold prodK at hab
      obtain ⟨a', ha, hb0⟩ := List.mem_flatMap.1 hab
      obtain ⟨b', hb, e⟩ := List.mem_map.1 hb0
      simp only [Prod.mk.injEq] at e
      obtain ⟨rfl, rfl⟩ := e
      simp only at ed
      have ha1 := mem_dd.1 ha
      have hb1 := mem_dd.1 hb
      have hp := minL_pos (H := H) (P := P) ha1 hb1
      obtain ⟨i, hi1, ei⟩ := mem_quots.1 ha1
      obtain ⟨j, hj1, ej⟩ := mem_quots.1 hb1
      have hcov := hc i j hi1 hj1
      rw [ei, ej] at hcov
      refine ⟨?_, by omega, by omega⟩
      have hmem : minL H P w a' b' ∈ ((prodK (dd (quots H w)) (dd (quots P w))).filter (fun p => p.1 - p.2 == d)).map (fun p => minL H P w p.1 p.2) := List.mem_map.2 ⟨(a', b'), List.mem_filter.2 ⟨hab0, by simp [ed]⟩, rfl⟩
      unfold cntC
      have key : ∀ l : List Int, (∀ x ∈ l, 0 ≤ x) → ∀ x ∈ l, x ≤ l.sum := by
        intro l
        induction l with
        | nil => intro _ x h; cases h
        | cons y l ih =>
          intro h x hx
          have hs : 0 ≤ l.sum := by
            clear ih hx
            have h' : ∀ x ∈ l, 0 ≤ x := fun x hx => h x (List.mem_cons_of_mem _ hx)
            clear h
            induction l with
            | nil => simp
            | cons z l ih2 => have := ih2 (fun x hx => h' x (List.mem_cons_of_mem _ hx)); have := h' z List.mem_cons_self; rw [List.sum_cons]; omega
          rw [List.sum_cons]
          rcases List.mem_cons.1 hx with rfl | hx
          · omega
          · have := ih (fun x hx => h x (List.mem_cons_of_mem _ hx)) x hx
            have := h y List.mem_cons_self
            omega
      have := key _ (fun x hx => by
        obtain ⟨p, _, rfl⟩ := List.mem_map.1 hx
        unfold minL; omega) _ hmem
      omega
  rw [hk]
  exact List.map_congr_left fun d _ => by rw [nS_cnt]
end Go.Proofs.Ytogilkilkmoedaa
namespace Go.Proofs.Ytogilkilkmoedaa
open Go Go.Vc Go.RowKit
set_option maxHeartbeats 8000000
/-! KDQ -/
theorem chkL1 (l : List Int) : chkL [l] = if 256 < l.length then 5 else if bad l = true then 2 else 0 := by
  have e1 : (List.range [l].length).any (fun k => decide (256 < (gl [l] k).length)) = decide (256 < l.length) := by simp [gl]
  have e2 : (List.range [l].length).any (fun k => bad (gl [l] k)) = bad l := by simp [gl]
  unfold chkL
  rw [e1, e2]
  simp
theorem given_c (l : List Int) : CtrA Try.prog 57 [zs l] (vi (chkL [l])) := by
  refine ctrA _ Try.func57 rfl rfl Try.ntmps57 rfl fun w Z => ?_
  simp only [initT, List.map_cons, List.map_nil, Nat.zero_add, Nat.reduceAdd]
  refine cq_seq ?_
  refine cq_region ?_
  apply sq_g; exact g_assign (s := .av (.val (.int _ _))) rfl; exact rfl
  refine sq_nil ?_
  refine sq_then ?_
  refine cq_seq ?_
  refine cq_seq ?_
  refine cq_region ?_
  apply sq_g; exact g_move (s := .av _) rfl; exact rfl
  apply sq_g; exact g_len rfl; exact rfl
  apply sq_g; exact g_cmp rfl rfl rfl; exact rfl
  refine sq_nil ?_
  refine sq_then ?_
  (refine cq_cond rfl (fun hb => ?_) (fun hb => ?_) <;> (try simp only [decide_eq_true_eq, decide_eq_false_iff_not, beq_iff_eq, beq_eq_false_iff_ne, bne_iff_ne, bne_eq_false_iff_eq, ne_eq, Bool.not_eq_true', Bool.not_eq_false', Bool.and_eq_true, Bool.or_eq_true, Bool.and_eq_false_iff, Bool.or_eq_false_iff] at hb) <;> (try (exfalso; omega)))
  · have e : chkL [l] = 5 := by rw [chkL1, if_pos (by omega)]
    rw [e]
    refine cq_seq ?_
    refine cq_region ?_
    apply sq_g; exact g_assign (s := .av (.val (.int _ _))) rfl; exact rfl
    refine sq_nil ?_
    refine sq_then ?_
    refine cq_ret ?_
    refine sq_then_ret ?_
    exact sq_res1 rfl (.tmp rfl) rfl
  · have e : chkL [l] = if bad l = true then 2 else 0 := by rw [chkL1, if_neg (by omega)]
    rw [e]
    have hs := sizes_c l (by omega)
    refine cq_skip ?_
    refine sq_then ?_
    refine cq_seq ?_
    refine cq_region ?_
    apply sq_g; exact g_move (s := .av _) rfl; exact rfl
    apply sq_g; exact g_call (hs) rfl; exact rfl
    apply sq_g; exact g_assign (s := .av (.val (.int _ _))) rfl; exact rfl
    refine sq_nil ?_
    refine sq_then ?_
    refine cq_ret ?_
    exact sq_res1 rfl (.tmp rfl) rfl
theorem width_c (w : Int) : CtrA Try.prog 58 [vi w] (vi (if wideB w = true then 0 else 2)) := by
  have e1 : (w < 1 ∨ 100000 < w) → (if wideB w = true then (0 : Int) else 2) = 2 := fun h => if_neg (by unfold wideB; simp; omega)
  have e2 : (1 ≤ w ∧ w ≤ 100000) → (if wideB w = true then (0 : Int) else 2) = 0 := fun h => if_pos (by unfold wideB; simp; omega)
  refine ctrA _ Try.func58 rfl rfl Try.ntmps58 rfl fun w0 Z => ?_
  simp only [initT, List.map_cons, List.map_nil, Nat.zero_add, Nat.reduceAdd]
  focus
    refine cq_seq ?_
    refine cq_region ?_
    apply sq_g; exact g_assign (s := .av (.val (.int _ _))) rfl; exact rfl
    refine sq_nil ?_
    refine sq_then ?_
    refine cq_seq ?_
    refine cq_seq ?_
    refine cq_region ?_
    apply sq_g; exact g_move (s := .av (.val (.int _ _))) rfl; exact rfl
    apply sq_g; exact g_cmp rfl rfl rfl; exact rfl
    apply sq_g; exact g_move (s := .av (.val (.bool _))) rfl; exact rfl
    refine sq_split rfl rfl (fun hb => ?_) (fun hb => ?_) <;> (try simp only [decide_eq_true_eq, decide_eq_false_iff_not, beq_iff_eq, beq_eq_false_iff_ne, bne_iff_ne, bne_eq_false_iff_eq, ne_eq, Bool.not_eq_true', Bool.not_eq_false', Bool.and_eq_true, Bool.or_eq_true, Bool.and_eq_false_iff, Bool.or_eq_false_iff] at hb) <;> (try (exfalso; omega))
    refine sq_off rfl rfl rfl rfl ?_
    refine sq_off rfl rfl rfl rfl ?_
    apply sq_g; exact g_pick (s := .av (.val (.bool _))) rfl rfl; exact rfl
    refine sq_nil ?_
    refine sq_then ?_
    refine cq_cond_t rfl ?_
    refine cq_seq ?_
    refine cq_region ?_
    apply sq_g; exact g_assign (s := .av (.val (.int _ _))) rfl; exact rfl
    refine sq_nil ?_
    refine sq_then ?_
    refine cq_ret ?_
    refine sq_then_ret ?_
    rotate_left
    apply sq_on; exact g_move (s := .av (.val (.int _ _))) rfl; exact rfl; exact rfl; exact rfl
    apply sq_on; exact g_cmp rfl rfl rfl; exact rfl; exact rfl; exact rfl
    apply sq_g; exact g_pick (s := .av (.val (.bool _))) rfl rfl; exact rfl
    refine sq_nil ?_
    refine sq_then ?_
    rotate_left
  · rw [e1 (.inl (by omega))]
    exact sq_res1 rfl (.tmp rfl) rfl
  · have hb0 := hb
    (refine cq_cond rfl (fun hb => ?_) (fun hb => ?_) <;> (try simp only [decide_eq_true_eq, decide_eq_false_iff_not, beq_iff_eq, beq_eq_false_iff_ne, bne_iff_ne, bne_eq_false_iff_eq, ne_eq, Bool.not_eq_true', Bool.not_eq_false', Bool.and_eq_true, Bool.or_eq_true, Bool.and_eq_false_iff, Bool.or_eq_false_iff] at hb) <;> (try (exfalso; omega)))
    · rw [e1 (.inr (by omega))]
      refine cq_seq ?_
      refine cq_region ?_
      apply sq_g; exact g_assign (s := .av (.val (.int _ _))) rfl; exact rfl
      refine sq_nil ?_
      refine sq_then ?_
      refine cq_ret ?_
      refine sq_then_ret ?_
      exact sq_res1 rfl (.tmp rfl) rfl
    · rw [e2 (by omega)]
      refine cq_skip ?_
      refine sq_then ?_
      refine cq_seq ?_
      refine cq_region ?_
      apply sq_g; exact g_assign (s := .av (.val (.int _ _))) rfl; exact rfl
      refine sq_nil ?_
      refine sq_then ?_
      refine cq_ret ?_
      exact sq_res1 rfl (.tmp rfl) rfl
/-- The indices below k with a quotient. -/
def ixK (l : List Int) (w : Int) (k : Nat) (a : Int) : List Nat := (List.range k).filter (fun i => gz l i / w == a)
theorem ixK_succ (l : List Int) (w : Int) (k : Nat) (a : Int) : ixK l w (k + 1) a = if gz l k / w = a then ixK l w k a ++ [k] else ixK l w k a := by
  unfold ixK
  rw [List.range_succ, List.filter_append]
  split
  · rename_i h; simp [h]
  · rename_i h; simp [h]
theorem idx_ixK (l : List Int) (w : Int) (k : Nat) (a : Int) : idx l w k a = (ixK l w k a).map (fun i : Nat => (i : Int)) := rfl
theorem ixK_len (l : List Int) (w : Int) (k : Nat) (a : Int) : (ixK l w k a).length = (idx l w k a).length := by rw [idx_ixK, List.length_map]
theorem xz (L : List Nat) : ∀ i, i < L.length → ∀ j, j < 1 → xf L i j = zf (L.map (fun i : Nat => (i : Int))) i j := by
  intro i hi j hj
  unfold xf zf gi gz
  simp [List.getD, hi]
theorem gl_end (A : List (List Int)) (X : List Int) : gl (A ++ [X]) A.length = X := by unfold gl; simp [List.getD]
theorem gl_app {A B : List (List Int)} {i : Nat} (h : i < A.length) : gl (A ++ B) i = gl A i := by unfold gl; simp [List.getD, List.getElem?_append_left h]
theorem row_outz (U : List (List Int)) (Y : List Int) : ∀ i, i < U.length + 1 → ∀ j, j < 1 → rowApp U.length (gsF U) (fun i _ => [zs Y].getD i .any) i j = gsF (U ++ [Y]) i j := by
  intro i hi j hj
  unfold rowApp gsF
  by_cases h : i < U.length
  · rw [if_pos h, gl_app h]
  · have e : i = U.length := by omega
    subst e
    rw [if_neg h, gl_end]
    simp
theorem count_c (l : List Int) (w q : Int) (hr : RightL l) (hw1 : 1 ≤ w) : CtrA Try.prog 60 [zs l, vi w, vi q] (vi (idx l w l.length q).length) := by
  refine ctrA _ Try.func60 rfl rfl Try.ntmps60 rfl fun w0 Z => ?_
  have hl := hr.len
  simp only [initT, List.map_cons, List.map_nil, Nat.zero_add, Nat.reduceAdd]
  refine cq_seq ?_
  refine cq_region ?_
  apply sq_g; exact g_assign (s := .av (.val (.int _ _))) rfl; exact rfl
  refine sq_nil ?_
  refine sq_then ?_
  refine cq_seq ?_
  refine cq_region ?_
  apply sq_g; exact g_assign (s := .av (.val (.int _ _))) rfl; exact rfl
  refine sq_nil ?_
  refine sq_then ?_
  refine cq_seq ?_
  refine cq_seq ?_
  refine cq_region ?_
  apply sq_g; exact g_assign (s := .av (.val (.int _ _))) rfl; exact rfl
  refine sq_nil ?_
  refine sq_then ?_
  refine cq_block ?_
  refine cq_loop (γ := Nat) (fun k => [(0, .av (zs l)), (1, .av (vi w)), (2, .av (vi q)), (7, .av (vi (idx l w k q).length)), (8, .av (vi k))]) (fun _ => []) (fun k => k ≤ l.length) (fun k => l.length - k) 0 (Nat.zero_le _) (ent ⟨.refl _, .refl _, .refl _, .refl _, .refl _, trivial⟩ trivial) ?_
  intro k hk
  refine cq_seq ?_
  refine cq_seq ?_
  refine cq_region ?_
  apply sq_g; exact g_move (s := .av (.val (.int _ _))) rfl; exact rfl
  apply sq_g; exact g_move (s := .av _) rfl; exact rfl
  apply sq_g; exact g_len rfl; exact rfl
  apply sq_g; exact g_cmp rfl rfl rfl; exact rfl
  refine sq_nil ?_
  refine sq_then ?_
  (refine cq_cond rfl (fun hb => ?_) (fun hb => ?_) <;> (try simp only [decide_eq_true_eq, decide_eq_false_iff_not, beq_iff_eq, beq_eq_false_iff_ne, bne_iff_ne, bne_eq_false_iff_eq, ne_eq, Bool.not_eq_true', Bool.not_eq_false', Bool.and_eq_true, Bool.or_eq_true, Bool.and_eq_false_iff, Bool.or_eq_false_iff] at hb) <;> (try (exfalso; omega)))
  · have hkl : k < l.length := by omega
    have hp := hr.at_ k
    have hil := idx_len l w k q
    have hs := idx_succ l w k q
    refine cq_skip ?_
    refine sq_then ?_
    refine cq_seq ?_
    refine cq_block ?_
    refine cq_seq ?_
    refine cq_region ?_
    apply sq_g; exact g_move (s := .av _) rfl; exact rfl
    apply sq_g; exact g_move (s := .av (.val (.int _ _))) rfl; exact rfl
    apply sq_g; exact g_index rfl rfl rfl (by omega); exact rfl
    apply sq_g; exact g_load (τ := .val (.int _ _)) rfl rfl rfl; exact rfl
    apply sq_g; exact g_move (s := .av (.val (.int _ _))) rfl; exact rfl
    apply sq_g; exact g_quo rfl rfl (by omega) (by omega) (by omega); exact rfl
    apply sq_g; exact g_move (s := .av (.val (.int _ _))) rfl; exact rfl
    apply sq_g; exact g_cmp rfl rfl rfl; exact rfl
    refine sq_nil ?_
    refine sq_then ?_
    (refine cq_cond rfl (fun hb => ?_) (fun hb => ?_) <;> (try simp only [decide_eq_true_eq, decide_eq_false_iff_not, beq_iff_eq, beq_eq_false_iff_ne, bne_iff_ne, bne_eq_false_iff_eq, ne_eq, Bool.not_eq_true', Bool.not_eq_false', Bool.and_eq_true, Bool.or_eq_true, Bool.and_eq_false_iff, Bool.or_eq_false_iff] at hb) <;> (try (exfalso; omega)))
    · rw [if_pos hb] at hs
      have hs' : (idx l w (k + 1) q).length = (idx l w k q).length + 1 := by rw [hs]; simp
      refine cq_region ?_
      apply sq_g; exact g_move (s := .av (.val (.int _ _))) rfl; exact rfl
      apply sq_g; exact g_arith rfl rfl rfl (by omega); exact rfl
      apply sq_g; exact g_assign (s := .av (.val (.int _ _))) rfl; exact rfl
      refine sq_nil ?_
      refine sq_then ?_
      refine cq_region ?_
      apply sq_g; exact g_move (s := .av (.val (.int _ _))) rfl; exact rfl
      apply sq_g; exact g_arith rfl rfl rfl (by omega); exact rfl
      apply sq_g; exact g_assign (s := .av (.val (.int _ _))) rfl; exact rfl
      refine sq_nil ?_
      exact sq_round (k + 1) (by omega) (by omega) (ent ⟨.refl _, .refl _, .refl _, .int (by omega), .int (by omega), trivial⟩ trivial)
    · rw [if_neg hb] at hs
      refine cq_skip ?_
      refine sq_then ?_
      refine cq_region ?_
      apply sq_g; exact g_move (s := .av (.val (.int _ _))) rfl; exact rfl
      apply sq_g; exact g_arith rfl rfl rfl (by omega); exact rfl
      apply sq_g; exact g_assign (s := .av (.val (.int _ _))) rfl; exact rfl
      refine sq_nil ?_
      exact sq_round (k + 1) (by omega) (by omega) (ent ⟨.refl _, .refl _, .refl _, .int (by rw [hs]), .int (by omega), trivial⟩ trivial)
  · have hkl : k = l.length := by omega
    subst hkl
    refine cq_exit ?_
    refine sq_then ?_
    refine cq_seq ?_
    refine cq_region ?_
    apply sq_g; exact g_move (s := .av (.val (.int _ _))) rfl; exact rfl
    apply sq_g; exact g_assign (s := .av (.val (.int _ _))) rfl; exact rfl
    refine sq_nil ?_
    refine sq_then ?_
    refine cq_ret ?_
    exact sq_res1 rfl (.tmp rfl) rfl
theorem sortedr_c (l : List Int) (w : Int) (hr : RightL l) (hw1 : 1 ≤ w) (Q : Nat) (hQ : (Q : Int) = 100000 / w + 1) : CtrR Try.prog 59 [zs l, vi w] 22 1 (rsL l w Q).length (gsF (rsL l w Q)) [] := by
  refine ctrR _ Try.func59 rfl rfl Try.ntmps59 rfl fun w0 Z => ?_
  have hl := hr.len
  have hq1 : 100000 / w ≤ 100000 := Int.ediv_le_self w (by decide)
  have hq0 : 0 ≤ 100000 / w := Int.ediv_nonneg (by decide) (by omega)
  simp only [initT, List.map_cons, List.map_nil, Nat.zero_add, Nat.reduceAdd]
  refine cq_seq ?_
  refine cq_region ?_
  apply sq_g; exact g_assign (s := .av _) rfl; exact rfl
  refine sq_nil ?_
  refine sq_then ?_
  refine cq_seq ?_
  refine cq_region ?_
  apply sq_g; exact g_assign (s := .av _) rfl; exact rfl
  refine sq_nil ?_
  refine sq_then ?_
  refine cq_seq ?_
  refine cq_seq ?_
  refine cq_region ?_
  apply sq_g; exact g_assign (s := .av (.val (.int _ _))) rfl; exact rfl
  refine sq_nil ?_
  refine sq_then ?_
  refine cq_block ?_
  refine cq_loop (γ := Nat) (fun q => [(0, .av (zs l)), (1, .av (vi w)), (5, .osl 70), (6, .av (vi q))]) (fun q => [(70, .row 22 1 (rsL l w q).length (gsF (rsL l w q)))]) (fun q => q ≤ Q) (fun q => Q - q) 0 (Nat.zero_le _) (Ent.trans (ent_row (dd := 5) 70 22 1 (gsF []) rfl rfl) (ent ⟨.refl _, .refl _, .refl _, .refl _, trivial⟩ ⟨⟨_, rfl, .refl _⟩, trivial⟩)) ?_
  intro q hq
  refine cq_seq ?_
  refine cq_seq ?_
  refine cq_region ?_
  apply sq_g; exact g_move (s := .av (.val (.int _ _))) rfl; exact rfl
  apply sq_g; exact g_move (s := .av (.val (.int _ _))) rfl; exact rfl
  apply sq_g; exact g_quo rfl rfl (by omega) (by omega) (by omega); exact rfl
  apply sq_g; exact g_cmp rfl rfl rfl; exact rfl
  refine sq_nil ?_
  refine sq_then ?_
  (refine cq_cond rfl (fun hb => ?_) (fun hb => ?_) <;> (try simp only [decide_eq_true_eq, decide_eq_false_iff_not, beq_iff_eq, beq_eq_false_iff_ne, bne_iff_ne, bne_eq_false_iff_eq, ne_eq, Bool.not_eq_true', Bool.not_eq_false', Bool.and_eq_true, Bool.or_eq_true, Bool.and_eq_false_iff, Bool.or_eq_false_iff] at hb) <;> (try (exfalso; omega)))
  · have hqQ : q < Q := by omega
    have hU1 : rsL l w (q + 1) = rsL l w q ++ if idx l w l.length q = [] then [] else [idx l w l.length q] := rfl
    have hUl := rsL_len l w q
    generalize rsL l w q = U at hU1 hUl ⊢
    refine cq_skip ?_
    refine sq_then ?_
    refine cq_seq ?_
    refine cq_block ?_
    refine cq_seq ?_
    refine cq_region ?_
    apply sq_g; exact g_assign (s := .av _) rfl; exact rfl
    refine sq_nil ?_
    refine sq_then ?_
    refine cq_seq ?_
    refine cq_seq ?_
    refine cq_region ?_
    apply sq_g; exact g_assign (s := .av (.val (.int _ _))) rfl; exact rfl
    refine sq_nil ?_
    refine sq_then ?_
    refine cq_block ?_
    refine cq_loop (γ := Nat) (fun i => [(0, .av (zs l)), (1, .av (vi w)), (5, .osl 70), (6, .av (vi q)), (7, .osl 60), (8, .av (vi i))]) (fun i => [(70, .row 22 1 U.length (gsF U)), (60, .row 3 1 (ixK l w i q).length (xf (ixK l w i q)))]) (fun i => i ≤ l.length) (fun i => l.length - i) 0 (Nat.zero_le _) (Ent.trans (ent_row (dd := 7) 60 3 1 (xf []) rfl rfl) (ent ⟨.refl _, .refl _, .refl _, .refl _, .refl _, .refl _, trivial⟩ ⟨⟨_, rfl, .refl _⟩, ⟨_, rfl, .refl _⟩, trivial⟩)) ?_
    intro i hi
    refine cq_seq ?_
    refine cq_seq ?_
    refine cq_region ?_
    apply sq_g; exact g_move (s := .av (.val (.int _ _))) rfl; exact rfl
    apply sq_g; exact g_move (s := .av _) rfl; exact rfl
    apply sq_g; exact g_len rfl; exact rfl
    apply sq_g; exact g_cmp rfl rfl rfl; exact rfl
    refine sq_nil ?_
    refine sq_then ?_
    (refine cq_cond rfl (fun hb => ?_) (fun hb => ?_) <;> (try simp only [decide_eq_true_eq, decide_eq_false_iff_not, beq_iff_eq, beq_eq_false_iff_ne, bne_iff_ne, bne_eq_false_iff_eq, ne_eq, Bool.not_eq_true', Bool.not_eq_false', Bool.and_eq_true, Bool.or_eq_true, Bool.and_eq_false_iff, Bool.or_eq_false_iff] at hb) <;> (try (exfalso; omega)))
    · have hil : i < l.length := by omega
      have hp := hr.at_ i
      have hkl := idx_len l w i q
      rw [← ixK_len] at hkl
      have hs := ixK_succ l w i q
      refine cq_skip ?_
      refine sq_then ?_
      refine cq_seq ?_
      refine cq_block ?_
      refine cq_seq ?_
      refine cq_region ?_
      apply sq_g; exact g_move (s := .av _) rfl; exact rfl
      apply sq_g; exact g_move (s := .av (.val (.int _ _))) rfl; exact rfl
      apply sq_g; exact g_index rfl rfl rfl (by omega); exact rfl
      apply sq_g; exact g_load (τ := .val (.int _ _)) rfl rfl rfl; exact rfl
      apply sq_g; exact g_move (s := .av (.val (.int _ _))) rfl; exact rfl
      apply sq_g; exact g_quo rfl rfl (by omega) (by omega) (by omega); exact rfl
      apply sq_g; exact g_move (s := .av (.val (.int _ _))) rfl; exact rfl
      apply sq_g; exact g_cmp rfl rfl rfl; exact rfl
      refine sq_nil ?_
      refine sq_then ?_
      (refine cq_cond rfl (fun hb => ?_) (fun hb => ?_) <;> (try simp only [decide_eq_true_eq, decide_eq_false_iff_not, beq_iff_eq, beq_eq_false_iff_ne, bne_iff_ne, bne_eq_false_iff_eq, ne_eq, Bool.not_eq_true', Bool.not_eq_false', Bool.and_eq_true, Bool.or_eq_true, Bool.and_eq_false_iff, Bool.or_eq_false_iff] at hb) <;> (try (exfalso; omega)))
      · rw [if_pos hb] at hs
        have hml : (ixK l w i q).length + 1 ≤ maxLen := by simp only [maxLen]; omega
        refine cq_region ?_
        apply sq_g; exact g_move (s := .osl _) rfl; exact rfl
        apply sq_g; exact g_move (s := .av (.val (.int _ _))) rfl; exact rfl
        apply sq_g; exact  g_one_ix (tq22 _) rfl rfl; exact rfl
        refine sq_v (v_push_ix rfl rfl rfl (by omega) rfl) rfl ?_
        apply sq_g; exact g_assign (s := .osl _) rfl; exact rfl
        refine sq_nil ?_
        refine sq_then ?_
        refine cq_region ?_
        apply sq_g; exact g_move (s := .av (.val (.int _ _))) rfl; exact rfl
        apply sq_g; exact g_arith rfl rfl rfl (by omega); exact rfl
        apply sq_g; exact g_assign (s := .av (.val (.int _ _))) rfl; exact rfl
        refine sq_nil ?_
        exact sq_round (i + 1) (by omega) (by omega) (ent ⟨.refl _, .refl _, .refl _, .refl _, .refl _, .int (by omega), trivial⟩ ⟨⟨_, rfl, .refl _⟩, ⟨_, rfl, .row (by rw [hs]) (fun _ _ _ _ => by rw [hs])⟩, trivial⟩)
      · rw [if_neg hb] at hs
        refine cq_skip ?_
        refine sq_then ?_
        refine cq_region ?_
        apply sq_g; exact g_move (s := .av (.val (.int _ _))) rfl; exact rfl
        apply sq_g; exact g_arith rfl rfl rfl (by omega); exact rfl
        apply sq_g; exact g_assign (s := .av (.val (.int _ _))) rfl; exact rfl
        refine sq_nil ?_
        exact sq_round (i + 1) (by omega) (by omega) (ent ⟨.refl _, .refl _, .refl _, .refl _, .refl _, .int (by omega), trivial⟩ ⟨⟨_, rfl, .refl _⟩, ⟨_, rfl, .row (by rw [hs]) (fun _ _ _ _ => by rw [hs])⟩, trivial⟩)
    · have hil : i = l.length := by omega
      subst hil
      have hxz := xz (ixK l w l.length q)
      have hXY := ixK_len l w l.length q
      rw [← idx_ixK] at hxz
      generalize ixK l w l.length q = X at hxz hXY ⊢
      generalize idx l w l.length q = Y at hxz hXY hU1 ⊢
      refine cq_exit ?_
      refine sq_then ?_
      refine cq_seq ?_
      refine cq_region ?_
      apply sq_g; exact g_move (s := .osl _) rfl; exact rfl
      apply sq_g; exact g_len_own rfl rfl; exact rfl
      apply sq_g; exact g_cmp rfl rfl rfl; exact rfl
      refine sq_nil ?_
      refine sq_then ?_
      (refine cq_cond rfl (fun hb => ?_) (fun hb => ?_) <;> (try simp only [decide_eq_true_eq, decide_eq_false_iff_not, beq_iff_eq, beq_eq_false_iff_ne, bne_iff_ne, bne_eq_false_iff_eq, ne_eq, Bool.not_eq_true', Bool.not_eq_false', Bool.and_eq_true, Bool.or_eq_true, Bool.and_eq_false_iff, Bool.or_eq_false_iff] at hb) <;> (try (exfalso; omega)))
      · have hne : Y ≠ [] := fun h => by rw [h] at hXY; simp at hXY; rw [hXY] at hb; simp at hb
        rw [if_neg hne] at hU1
        have hml : U.length + 1 ≤ maxLen := by simp only [maxLen]; omega
        have hone1 : ∀ i, i < 1 → ∀ j, j < 1 → ((fun i (_ : Nat) => [zs Y].getD i AV.any) i j).one = true := fun i hi j hj => by
          obtain rfl : i = 0 := by omega
          rfl
        have hrl : (rsL l w (q + 1)).length = U.length + 1 := by rw [hU1]; simp
        refine cq_region ?_
        apply sq_g; exact g_move (s := .osl _) rfl; exact rfl
        apply sq_g; exact g_move (s := .osl _) rfl; exact rfl
        refine lsq_ent (Ent.trans (ent_upd (upd := [(60, .row 3 1 Y.length (zf Y))]) ⟨⟨_, rfl, .row hXY hxz⟩, trivial⟩) (ent_freeze 60 rfl)) ?_
        apply sq_g; exact  g_bslice_av (is := [0]) (xs := [_]) (τs := [zs Y]) (fun vs w h1 h2 => tq50_1 vs w h1 h2) rfl rfl rfl rfl rfl; exact rfl
        refine sq_v (v_append (h := fun i _ => [zs Y].getD i .any) (m := 1) rfl rfl rfl hone1 (by omega) hml (by omega)) rfl ?_
        apply sq_g; exact g_assign (s := .osl _) rfl; exact rfl
        refine sq_nil ?_
        refine sq_then ?_
        refine cq_region ?_
        apply sq_g; exact g_move (s := .av (.val (.int _ _))) rfl; exact rfl
        apply sq_g; exact g_arith rfl rfl rfl (by omega); exact rfl
        apply sq_g; exact g_assign (s := .av (.val (.int _ _))) rfl; exact rfl
        refine sq_nil ?_
        exact sq_round (q + 1) (by omega) (by omega) (ent ⟨.refl _, .refl _, .refl _, .int (by omega), trivial⟩ ⟨⟨_, rfl, .row hrl.symm (fun i hi j hj => by rw [hU1]; exact row_outz U _ i hi j hj)⟩, trivial⟩)
      · have he : Y = [] := List.eq_nil_of_length_eq_zero (by omega)
        rw [if_pos he, List.append_nil] at hU1
        refine cq_skip ?_
        refine sq_then ?_
        refine cq_region ?_
        apply sq_g; exact g_move (s := .av (.val (.int _ _))) rfl; exact rfl
        apply sq_g; exact g_arith rfl rfl rfl (by omega); exact rfl
        apply sq_g; exact g_assign (s := .av (.val (.int _ _))) rfl; exact rfl
        refine sq_nil ?_
        exact sq_round (q + 1) (by omega) (by omega) (ent ⟨.refl _, .refl _, .refl _, .int (by omega), trivial⟩ ⟨⟨_, rfl, .row (by rw [hU1]) (fun _ _ _ _ => by rw [hU1])⟩, trivial⟩)
  · have hqQ : q = Q := by omega
    subst hqQ
    refine cq_exit ?_
    refine sq_then ?_
    refine cq_seq ?_
    refine cq_region ?_
    apply sq_g; exact g_move (s := .osl _) rfl; exact rfl
    apply sq_g; exact g_assign (s := .osl _) rfl; exact rfl
    refine sq_nil ?_
    refine sq_then ?_
    refine cq_ret ?_
    exact sq_retR rfl rfl rfl rfl (fun _ _ _ _ => rfl)
theorem errG_w {l : List Int} {w : Int} (h : chkL [l] = 0) : errG l w = if wideB w = true then 0 else 2 := by unfold errG; rw [if_neg (by omega)]
theorem rgroups_c (l : List Int) (w : Int) : CtrA Try.prog 28 [zs l, vi w] (tupOf [.sl (groupsL l w).length 1 (gsF (groupsL l w)), vi (errG l w)]) := by
  refine ctrA _ Try.func28 rfl rfl Try.ntmps28 rfl fun w0 Z => ?_
  have hg := given_c l
  have hwd := width_c w
  simp only [initT, List.map_cons, List.map_nil, Nat.zero_add, Nat.reduceAdd]
  refine cq_seq ?_
  refine cq_region ?_
  apply sq_g; exact g_assign (s := .av _) rfl; exact rfl
  apply sq_g; exact g_assign (s := .av (.val (.int _ _))) rfl; exact rfl
  refine sq_nil ?_
  refine sq_then ?_
  refine cq_seq ?_
  refine cq_seq ?_
  refine cq_region ?_
  apply sq_g; exact g_move (s := .av _) rfl; exact rfl
  apply sq_g; exact g_call (hg) rfl; exact rfl
  apply sq_g; exact g_assign (s := .av (.val (.int _ _))) rfl; exact rfl
  refine sq_nil ?_
  refine sq_then ?_
  refine cq_seq ?_
  refine cq_region ?_
  apply sq_g; exact g_move (s := .av (.val (.int _ _))) rfl; exact rfl
  apply sq_g; exact g_cmp rfl rfl rfl; exact rfl
  refine sq_nil ?_
  refine sq_then ?_
  (refine cq_cond rfl (fun hb => ?_) (fun hb => ?_) <;> (try simp only [decide_eq_true_eq, decide_eq_false_iff_not, beq_iff_eq, beq_eq_false_iff_ne, bne_iff_ne, bne_eq_false_iff_eq, ne_eq, Bool.not_eq_true', Bool.not_eq_false', Bool.and_eq_true, Bool.or_eq_true, Bool.and_eq_false_iff, Bool.or_eq_false_iff] at hb) <;> (try (exfalso; omega)))
  · have e1 : errG l w = chkL [l] := by unfold errG; rw [if_pos hb]
    have e2 : groupsL l w = [] := by unfold groupsL; rw [if_neg (by omega)]
    rw [e1, e2]
    refine cq_seq ?_
    refine cq_region ?_
    apply sq_g; exact g_move (s := .av (.val (.int _ _))) rfl; exact rfl
    apply sq_g; exact g_assign (s := .av _) rfl; exact rfl
    apply sq_g; exact g_assign (s := .av (.val (.int _ _))) rfl; exact rfl
    refine sq_nil ?_
    refine sq_then ?_
    refine cq_ret ?_
    refine sq_then_ret ?_
    exact sq_ent (ent_nil 4 1 (gsF []) rfl) (sq_resN (rvs := [_, _]) (τs := [_, _]) rfl rfl ⟨.tmp rfl, .tmp rfl, trivial⟩ rfl)
  · have h0 : chkL [l] = 0 := by omega
    have e1 := errG_w (w := w) h0
    refine cq_skip ?_
    refine sq_then ?_
    refine cq_seq ?_
    refine cq_seq ?_
    refine cq_region ?_
    apply sq_g; exact g_move (s := .av (.val (.int _ _))) rfl; exact rfl
    apply sq_g; exact g_call (hwd) rfl; exact rfl
    apply sq_g; exact g_assign (s := .av (.val (.int _ _))) rfl; exact rfl
    refine sq_nil ?_
    refine sq_then ?_
    refine cq_seq ?_
    refine cq_region ?_
    apply sq_g; exact g_move (s := .av (.val (.int _ _))) rfl; exact rfl
    apply sq_g; exact g_cmp rfl rfl rfl; exact rfl
    refine sq_nil ?_
    refine sq_then ?_
    rw [← e1]
    (refine cq_cond rfl (fun hb => ?_) (fun hb => ?_) <;> (try simp only [decide_eq_true_eq, decide_eq_false_iff_not, beq_iff_eq, beq_eq_false_iff_ne, bne_iff_ne, bne_eq_false_iff_eq, ne_eq, Bool.not_eq_true', Bool.not_eq_false', Bool.and_eq_true, Bool.or_eq_true, Bool.and_eq_false_iff, Bool.or_eq_false_iff] at hb) <;> (try (exfalso; omega)))
    · have e2 : groupsL l w = [] := by unfold groupsL; rw [if_neg (by omega)]
      rw [e2]
      refine cq_seq ?_
      refine cq_region ?_
      apply sq_g; exact g_move (s := .av (.val (.int _ _))) rfl; exact rfl
      apply sq_g; exact g_assign (s := .av _) rfl; exact rfl
      apply sq_g; exact g_assign (s := .av (.val (.int _ _))) rfl; exact rfl
      refine sq_nil ?_
      refine sq_then ?_
      refine cq_ret ?_
      refine sq_then_ret ?_
      exact sq_ent (ent_nil 4 1 (gsF []) rfl) (sq_resN (rvs := [_, _]) (τs := [_, _]) rfl rfl ⟨.tmp rfl, .tmp rfl, trivial⟩ rfl)
    · have he : errG l w = 0 := by omega
      obtain ⟨hr, hw1, hw2⟩ := errG_ok he
      have hq0 : 0 ≤ 100000 / w := Int.ediv_nonneg (by decide) (by omega)
      have hQ : (((100000 / w + 1).toNat : Nat) : Int) = 100000 / w + 1 := Int.toNat_of_nonneg (by omega)
      have hs := (sortedr_c l w hr hw1 _ hQ).ro
      have e2 : groupsL l w = rsL l w (100000 / w + 1).toNat := by rw [rs_groups hr hw1 _ hQ]; unfold groupsL; rw [if_pos he]
      rw [← e2] at hs
      rw [he]
      refine cq_skip ?_
      refine sq_then ?_
      refine cq_seq ?_
      refine cq_region ?_
      apply sq_g; exact g_move (s := .av _) rfl; exact rfl
      apply sq_g; exact g_move (s := .av (.val (.int _ _))) rfl; exact rfl
      apply sq_g; exact g_call (hs) rfl; exact rfl
      apply sq_g; exact g_assign (s := .av _) rfl; exact rfl
      apply sq_g; exact g_assign (s := .av (.val (.int _ _))) rfl; exact rfl
      refine sq_nil ?_
      refine sq_then ?_
      refine cq_ret ?_
      exact sq_resN (rvs := [_, _]) (τs := [_, _]) rfl rfl ⟨.tmp rfl, .tmp rfl, trivial⟩ rfl
theorem samez_c (X : List (Int × Int)) (hn : X.length ≤ 1000000) : CtrA Try.prog 18 [dfs X, dfs X] (vb true) := by
  refine ctrA _ Try.func18 rfl rfl Try.ntmps18 rfl fun w Z => ?_
  simp only [initT, List.map_cons, List.map_nil, Nat.zero_add, Nat.reduceAdd]
  refine cq_seq ?_
  refine cq_region ?_
  apply sq_g; exact g_assign (s := .av (.val (.bool _))) rfl; exact rfl
  refine sq_nil ?_
  refine sq_then ?_
  refine cq_seq ?_
  refine cq_seq ?_
  refine cq_region ?_
  apply sq_g; exact g_move (s := .av _) rfl; exact rfl
  apply sq_g; exact g_len rfl; exact rfl
  apply sq_g; exact g_move (s := .av _) rfl; exact rfl
  apply sq_g; exact g_len rfl; exact rfl
  apply sq_g; exact g_cmp rfl rfl rfl; exact rfl
  refine sq_nil ?_
  refine sq_then ?_
  refine cq_cond rfl (fun hb => ?_) (fun _ => ?_)
  · simp at hb
  · refine cq_skip ?_
    refine sq_then ?_
    refine cq_seq ?_
    refine cq_seq ?_
    refine cq_region ?_
    apply sq_g; exact g_assign (s := .av (.val (.int _ _))) rfl; exact rfl
    refine sq_nil ?_
    refine sq_then ?_
    refine cq_block ?_
    refine cq_loop (γ := Nat) (fun k => [(0, .av (dfs X)), (1, .av (dfs X)), (5, .av (vi k))]) (fun _ => []) (fun k => k ≤ X.length) (fun k => X.length - k) 0 (Nat.zero_le _) (ent ⟨.refl _, .refl _, .refl _, trivial⟩ trivial) ?_
    intro k hk
    refine cq_seq ?_
    refine cq_seq ?_
    refine cq_region ?_
    apply sq_g; exact g_move (s := .av (.val (.int _ _))) rfl; exact rfl
    apply sq_g; exact g_move (s := .av _) rfl; exact rfl
    apply sq_g; exact g_len rfl; exact rfl
    apply sq_g; exact g_cmp rfl rfl rfl; exact rfl
    refine sq_nil ?_
    refine sq_then ?_
    (refine cq_cond rfl (fun hb => ?_) (fun hb => ?_) <;> (try simp only [decide_eq_true_eq, decide_eq_false_iff_not, beq_iff_eq, beq_eq_false_iff_ne, bne_iff_ne, bne_eq_false_iff_eq, ne_eq, Bool.not_eq_true', Bool.not_eq_false', Bool.and_eq_true, Bool.or_eq_true, Bool.and_eq_false_iff, Bool.or_eq_false_iff] at hb) <;> (try (exfalso; omega)))
    · have hkl : k < X.length := by omega
      refine cq_skip ?_
      refine sq_then ?_
      refine cq_seq ?_
      refine cq_block ?_
      refine cq_seq ?_
      refine cq_drawn ?_
      apply dq_g; exact g_move (s := .av _) rfl; exact rfl
      apply dq_g; exact g_move (s := .av (.val (.int _ _))) rfl; exact rfl
      apply dq_g; exact g_index rfl rfl rfl (by omega); exact rfl
      apply dq_g; exact g_load_agg (us := [.int _ _, .int _ _]) rfl rfl rfl rfl; exact rfl
      apply dq_g; exact g_move (s := .av _) rfl; exact rfl
      apply dq_g; exact g_move (s := .av (.val (.int _ _))) rfl; exact rfl
      apply dq_g; exact g_index rfl rfl rfl (by omega); exact rfl
      apply dq_g; exact g_load_agg (us := [.int _ _, .int _ _]) rfl rfl rfl rfl; exact rfl
      apply dq_g; exact  g_neq (xs := [(gp X k).1, (gp X k).2]) (ys := [(gp X k).1, (gp X k).2]) rfl rfl rfl rfl; exact rfl
      refine dq_nil tm (by kernel_rfl) ?_
      refine sq_then ?_
      refine cq_cond rfl (fun hb => ?_) (fun _ => ?_)
      · simp at hb
      · refine cq_skip ?_
        refine sq_then ?_
        refine cq_region ?_
        apply sq_g; exact g_move (s := .av (.val (.int _ _))) rfl; exact rfl
        apply sq_g; exact g_arith rfl rfl rfl (by omega); exact rfl
        apply sq_g; exact g_assign (s := .av (.val (.int _ _))) rfl; exact rfl
        refine sq_nil ?_
        exact sq_round (k + 1) (by omega) (by omega) (ent ⟨.refl _, .refl _, .int (by omega), trivial⟩ trivial)
    · refine cq_exit ?_
      refine sq_then ?_
      refine cq_seq ?_
      refine cq_region ?_
      apply sq_g; exact g_assign (s := .av (.val (.bool _))) rfl; exact rfl
      refine sq_nil ?_
      refine sq_then ?_
      refine cq_ret ?_
      exact sq_res1 rfl (.tmp rfl) rfl
theorem eqZ_self (a : List Int) : eqZ a a = true := by unfold eqZ; simp
theorem equalf_c (L : List (List Int)) (hn : L.length ≤ 1000000) (hL : ∀ k, k < L.length → (gl L k).length ≤ 1000000) : CtrA Try.prog 30 [.sl L.length 1 (gsF L), .sl L.length 1 (gsF L), .val (.func (.func 31) #[] #[])] (vb true) := by
  refine ctrA _ Try.func30 rfl rfl Try.ntmps30 rfl fun w Z => ?_
  simp only [initT, List.map_cons, List.map_nil, Nat.zero_add, Nat.reduceAdd]
  refine cq_seq ?_
  refine cq_region ?_
  apply sq_g; exact g_assign (s := .av (.val (.bool _))) rfl; exact rfl
  refine sq_nil ?_
  refine sq_then ?_
  refine cq_seq ?_
  refine cq_seq ?_
  refine cq_region ?_
  apply sq_g; exact g_move (s := .av _) rfl; exact rfl
  apply sq_g; exact g_len rfl; exact rfl
  apply sq_g; exact g_move (s := .av _) rfl; exact rfl
  apply sq_g; exact g_len rfl; exact rfl
  apply sq_g; exact g_cmp rfl rfl rfl; exact rfl
  refine sq_nil ?_
  refine sq_then ?_
  refine cq_cond rfl (fun hb => ?_) (fun _ => ?_)
  · simp at hb
  · refine cq_skip ?_
    refine sq_then ?_
    refine cq_seq ?_
    refine cq_seq ?_
    refine cq_region ?_
    apply sq_g; exact g_move (s := .av _) rfl; exact rfl
    apply sq_g; exact g_len rfl; exact rfl
    apply sq_g; exact g_move (s := .av (.val (.int _ _))) rfl; exact rfl
    refine sq_nil ?_
    refine sq_then ?_
    refine cq_block ?_
    refine cq_loop (γ := Nat) (fun k => [(0, .av (.sl L.length 1 (gsF L))), (1, .av (.sl L.length 1 (gsF L))), (2, .av (.val (.func (.func 31) #[] #[]))), (15, .av (.sl L.length 1 (gsF L))), (16, .av (vi L.length)), (17, .av (vi k))]) (fun _ => []) (fun k => k ≤ L.length) (fun k => L.length - k) 0 (Nat.zero_le _) (ent ⟨.refl _, .refl _, .refl _, .refl _, .refl _, .refl _, trivial⟩ trivial) ?_
    intro k hk
    refine cq_seq ?_
    refine cq_region ?_
    apply sq_g; exact g_cmp rfl rfl rfl; exact rfl
    refine sq_nil ?_
    refine sq_then ?_
    refine cq_seq ?_
    (refine cq_cond rfl (fun hb => ?_) (fun hb => ?_) <;> (try simp only [decide_eq_true_eq, decide_eq_false_iff_not, beq_iff_eq, beq_eq_false_iff_ne, bne_iff_ne, bne_eq_false_iff_eq, ne_eq, Bool.not_eq_true', Bool.not_eq_false', Bool.and_eq_true, Bool.or_eq_true, Bool.and_eq_false_iff, Bool.or_eq_false_iff] at hb) <;> (try (exfalso; omega)))
    · have hkl : k < L.length := by omega
      have he := equalz_c (gl L k) (gl L k) (hL k hkl)
      rw [eqZ_self] at he
      refine cq_skip ?_
      refine sq_then ?_
      refine cq_seq ?_
      refine cq_block ?_
      refine cq_seq ?_
      refine cq_region ?_
      apply sq_g; exact g_move (s := .av (.val (.int _ _))) rfl; exact rfl
      apply sq_g; exact g_index rfl rfl rfl (by omega); exact rfl
      apply sq_g; exact  g_load (τ := zs (gl L k)) rfl rfl rfl; exact rfl
      apply sq_g; exact g_assign (s := .av (.val (.int _ _))) rfl; exact rfl
      apply sq_g; exact g_assign (s := .av _) rfl; exact rfl
      refine sq_nil ?_
      refine sq_then ?_
      refine cq_seq ?_
      refine cq_region ?_
      apply sq_g; exact g_move (s := .av _) rfl; exact rfl
      apply sq_g; exact g_move (s := .av (.val (.int _ _))) rfl; exact rfl
      apply sq_g; exact g_index rfl rfl rfl (by omega); exact rfl
      apply sq_g; exact  g_load (τ := zs (gl L k)) rfl rfl rfl; exact rfl
      apply sq_g; exact g_assign (s := .av _) rfl; exact rfl
      refine sq_nil ?_
      refine sq_then ?_
      refine cq_seq ?_
      refine cq_region ?_
      apply sq_g; exact g_move (s := .av _) rfl; exact rfl
      apply sq_g; exact g_move (s := .av _) rfl; exact rfl
      apply sq_g; exact g_move (s := .av _) rfl; exact rfl
      apply sq_g; exact g_callv (he) rfl rfl; exact rfl
      apply sq_g; exact g_not rfl; exact rfl
      refine sq_nil ?_
      refine sq_then ?_
      refine cq_cond_f rfl ?_
      refine cq_skip ?_
      refine sq_then ?_
      refine cq_region ?_
      apply sq_g; exact g_arith rfl rfl rfl (by omega); exact rfl
      apply sq_g; exact g_move (s := .av (.val (.int _ _))) rfl; exact rfl
      refine sq_nil ?_
      exact sq_round (k + 1) (by omega) (by omega) (ent ⟨.refl _, .refl _, .refl _, .refl _, .refl _, .int (by omega), trivial⟩ trivial)
    · refine cq_exit ?_
      refine sq_then ?_
      refine cq_seq ?_
      refine cq_region ?_
      apply sq_g; exact g_assign (s := .av (.val (.bool _))) rfl; exact rfl
      refine sq_nil ?_
      refine sq_then ?_
      refine cq_ret ?_
      exact sq_res1 rfl (.tmp rfl) rfl
end Go.Proofs.Ytogilkilkmoedaa
namespace Go.Proofs.Ytogilkilkmoedaa
open Go Go.Vc Go.RowKit
set_option maxHeartbeats 8000000
/-! KDQ -/
theorem takeK {K : List Int} {j : Nat} (h : j < K.length) : K.take (j + 1) = K.take j ++ [gz K j] := by
  rw [List.take_add_one]
  congr 1
  unfold gz
  simp [List.getD, h]
theorem nS_bd {H P : List Int} (w d : Int) (hH : H.length ≤ 256) : ∀ K : List Int, 0 ≤ nS H P w d K ∧ nS H P w d K ≤ K.length * 256
  | [] => by simp [nS]
  | b :: K => by
    have ih := nS_bd (P := P) w d hH K
    have h1 : nS H P w d (b :: K) = minL H P w (b + d) b + nS H P w d K := by simp [nS]
    have h2 := idx_len H w H.length (b + d)
    have h3 : 0 ≤ minL H P w (b + d) b ∧ minL H P w (b + d) b ≤ 256 := by unfold minL; omega
    rw [h1, List.length_cons]
    omega
theorem errP_w {H P : List Int} {w : Int} (h1 : chkL [H] = 0) (h2 : chkL [P] = 0) : errP H P w = if wideB w = true then 0 else 2 := by unfold errP; rw [if_neg (by omega), if_neg (by omega)]
theorem rplan_c (H P : List Int) (w : Int) : CtrR Try.prog 29 [zs H, zs P, vi w] 42 2 (planL H P w).length (df (planL H P w)) [vi (errP H P w)] := by
  refine ctrR _ Try.func29 rfl rfl Try.ntmps29 rfl fun w0 Z => ?_
  have hg1 := given_c H
  have hg2 := given_c P
  have hwd := width_c w
  simp only [initT, List.map_cons, List.map_nil, Nat.zero_add, Nat.reduceAdd]
  refine cq_seq ?_
  refine cq_region ?_
  apply sq_g; exact g_assign (s := .av _) rfl; exact rfl
  apply sq_g; exact g_assign (s := .av (.val (.int _ _))) rfl; exact rfl
  refine sq_nil ?_
  refine sq_then ?_
  refine cq_seq ?_
  refine cq_seq ?_
  refine cq_region ?_
  apply sq_g; exact g_move (s := .av _) rfl; exact rfl
  apply sq_g; exact g_call (hg1) rfl; exact rfl
  apply sq_g; exact g_assign (s := .av (.val (.int _ _))) rfl; exact rfl
  refine sq_nil ?_
  refine sq_then ?_
  refine cq_seq ?_
  refine cq_region ?_
  apply sq_g; exact g_move (s := .av (.val (.int _ _))) rfl; exact rfl
  apply sq_g; exact g_cmp rfl rfl rfl; exact rfl
  refine sq_nil ?_
  refine sq_then ?_
  (refine cq_cond rfl (fun hb => ?_) (fun hb => ?_) <;> (try simp only [decide_eq_true_eq, decide_eq_false_iff_not, beq_iff_eq, beq_eq_false_iff_ne, bne_iff_ne, bne_eq_false_iff_eq, ne_eq, Bool.not_eq_true', Bool.not_eq_false', Bool.and_eq_true, Bool.or_eq_true, Bool.and_eq_false_iff, Bool.or_eq_false_iff] at hb) <;> (try (exfalso; omega)))
  · have e1 : errP H P w = chkL [H] := by unfold errP; rw [if_pos hb]
    have e2 : planL H P w = [] := by unfold planL; rw [if_neg (by omega)]
    rw [e1, e2]
    refine cq_seq ?_
    refine cq_region ?_
    apply sq_g; exact g_move (s := .av (.val (.int _ _))) rfl; exact rfl
    apply sq_g; exact g_assign (s := .av _) rfl; exact rfl
    apply sq_g; exact g_assign (s := .av (.val (.int _ _))) rfl; exact rfl
    refine sq_nil ?_
    refine sq_then ?_
    refine cq_ret ?_
    refine sq_then_ret ?_
    exact sq_retRN_nil rfl rfl rfl (τs := [vi (chkL [H])]) ⟨.tmp rfl, trivial⟩ rfl
  have h1 : chkL [H] = 0 := by omega
  refine cq_skip ?_
  refine sq_then ?_
  refine cq_seq ?_
  refine cq_seq ?_
  refine cq_region ?_
  apply sq_g; exact g_move (s := .av _) rfl; exact rfl
  apply sq_g; exact g_call (hg2) rfl; exact rfl
  apply sq_g; exact g_assign (s := .av (.val (.int _ _))) rfl; exact rfl
  refine sq_nil ?_
  refine sq_then ?_
  refine cq_seq ?_
  refine cq_region ?_
  apply sq_g; exact g_move (s := .av (.val (.int _ _))) rfl; exact rfl
  apply sq_g; exact g_cmp rfl rfl rfl; exact rfl
  refine sq_nil ?_
  refine sq_then ?_
  (refine cq_cond rfl (fun hb => ?_) (fun hb => ?_) <;> (try simp only [decide_eq_true_eq, decide_eq_false_iff_not, beq_iff_eq, beq_eq_false_iff_ne, bne_iff_ne, bne_eq_false_iff_eq, ne_eq, Bool.not_eq_true', Bool.not_eq_false', Bool.and_eq_true, Bool.or_eq_true, Bool.and_eq_false_iff, Bool.or_eq_false_iff] at hb) <;> (try (exfalso; omega)))
  · have e1 : errP H P w = chkL [P] := by unfold errP; rw [if_neg (by omega), if_pos hb]
    have e2 : planL H P w = [] := by unfold planL; rw [if_neg (by omega)]
    rw [e1, e2]
    refine cq_seq ?_
    refine cq_region ?_
    apply sq_g; exact g_move (s := .av (.val (.int _ _))) rfl; exact rfl
    apply sq_g; exact g_assign (s := .av _) rfl; exact rfl
    apply sq_g; exact g_assign (s := .av (.val (.int _ _))) rfl; exact rfl
    refine sq_nil ?_
    refine sq_then ?_
    refine cq_ret ?_
    refine sq_then_ret ?_
    exact sq_retRN_nil rfl rfl rfl (τs := [vi (chkL [P])]) ⟨.tmp rfl, trivial⟩ rfl
  have h2 : chkL [P] = 0 := by omega
  have e1 := errP_w (w := w) h1 h2
  rw [← e1] at hwd
  refine cq_skip ?_
  refine sq_then ?_
  refine cq_seq ?_
  refine cq_seq ?_
  refine cq_region ?_
  apply sq_g; exact g_move (s := .av (.val (.int _ _))) rfl; exact rfl
  apply sq_g; exact g_call (hwd) rfl; exact rfl
  apply sq_g; exact g_assign (s := .av (.val (.int _ _))) rfl; exact rfl
  refine sq_nil ?_
  refine sq_then ?_
  refine cq_seq ?_
  refine cq_region ?_
  apply sq_g; exact g_move (s := .av (.val (.int _ _))) rfl; exact rfl
  apply sq_g; exact g_cmp rfl rfl rfl; exact rfl
  refine sq_nil ?_
  refine sq_then ?_
  (refine cq_cond rfl (fun hb => ?_) (fun hb => ?_) <;> (try simp only [decide_eq_true_eq, decide_eq_false_iff_not, beq_iff_eq, beq_eq_false_iff_ne, bne_iff_ne, bne_eq_false_iff_eq, ne_eq, Bool.not_eq_true', Bool.not_eq_false', Bool.and_eq_true, Bool.or_eq_true, Bool.and_eq_false_iff, Bool.or_eq_false_iff] at hb) <;> (try (exfalso; omega)))
  · have e2 : planL H P w = [] := by unfold planL; rw [if_neg (by omega)]
    rw [e2]
    refine cq_seq ?_
    refine cq_region ?_
    apply sq_g; exact g_move (s := .av (.val (.int _ _))) rfl; exact rfl
    apply sq_g; exact g_assign (s := .av _) rfl; exact rfl
    apply sq_g; exact g_assign (s := .av (.val (.int _ _))) rfl; exact rfl
    refine sq_nil ?_
    refine sq_then ?_
    refine cq_ret ?_
    refine sq_then_ret ?_
    exact sq_retRN_nil rfl rfl rfl (τs := [vi (errP H P w)]) ⟨.tmp rfl, trivial⟩ rfl
  have h3 : errP H P w = 0 := by omega
  have e2 : planL H P w = planK (minL H P w) (quots H w) (quots P w) := by unfold planL; rw [if_pos h3]
  have hw : wideB w = true := by
    rw [h3] at e1
    by_cases h : wideB w = true
    · exact h
    · rw [if_neg h] at e1; omega
  rw [h3]
  have hw1 : 1 ≤ w ∧ w ≤ 100000 := by unfold wideB at hw; simpa using hw
  have hrH := chk1_ok h1
  have hrP := chk1_ok h2
  have lH := hrH.len
  have lP := hrP.len
  have hq0 : 0 ≤ 100000 / w := Int.ediv_nonneg (by decide) (by omega)
  have hQ : (((100000 / w + 1).toNat : Nat) : Int) = 100000 / w + 1 := Int.toNat_of_nonneg (by omega)
  have hs := (sortedr_c P w hrP hw1.1 _ hQ).ro
  rw [rs_groups hrP hw1.1 _ hQ] at hs
  have qH : ∀ i, 0 ≤ gz H i / w ∧ gz H i / w ≤ 100000 := fun i => by
    have := hrH.at_ i
    have h1 : gz H i / w ≤ gz H i := Int.ediv_le_self w this.1
    have hw0 : 0 ≤ w := by omega
    exact ⟨Int.ediv_nonneg this.1 hw0, by omega⟩
  have qP : ∀ i, 0 ≤ gz P i / w ∧ gz P i / w ≤ 100000 := fun i => by
    have := hrP.at_ i
    have h1 : gz P i / w ≤ gz P i := Int.ediv_le_self w this.1
    have hw0 : 0 ≤ w := by omega
    exact ⟨Int.ediv_nonneg this.1 hw0, by omega⟩
  have hKm : ∀ k, k < (sortK (quots P w)).length → ∃ i, i < P.length ∧ gz P i / w = gz (sortK (quots P w)) k := fun k hk => mem_quots.1 (mem_sortK.1 (gz_mem hk))
  have hKl : (sortK (quots P w)).length ≤ 256 := by have := sortK_len (quots P w); simp [quots] at this ⊢; omega
  have hrpl := fun lo q => rpL_len H P w lo q
  have hrps := fun lo q => rpL_succ H P w lo q
  have hrpp := fun {lo hi : Int} (q : Nat) h1 h2 => rp_plan (H := H) (P := P) (w := w) (lo := lo) (hi := hi) q h1 h2
  have hrp0 : ∀ lo, rpL H P w lo 0 = [] := fun lo => rfl
  generalize rpL H P w = RP at hrpl hrps hrpp hrp0
  generalize hK : sortK (quots P w) = K at hs hKm hKl hrps
  have hgl : ∀ k, k < K.length → gl (K.map (fun a => idx P w P.length a)) k = idx P w P.length (gz K k) := fun k hk => gl_map hk
  have hLl : (K.map (fun a => idx P w P.length a)).length = K.length := by simp
  generalize K.map (fun a => idx P w P.length a) = G at hs hgl hLl
  refine cq_skip ?_
  refine sq_then ?_
  refine cq_seq ?_
  refine cq_region ?_
  apply sq_g; exact g_move (s := .av _) rfl; exact rfl
  apply sq_g; exact g_move (s := .av (.val (.int _ _))) rfl; exact rfl
  apply sq_g; exact g_call (hs) rfl; exact rfl
  apply sq_g; exact g_assign (s := .av _) rfl; exact rfl
  refine sq_nil ?_
  refine sq_then ?_
  refine cq_seq ?_
  refine cq_region ?_
  apply sq_g; exact g_assign (s := .av (.val (.int _ _))) rfl; exact rfl
  apply sq_g; exact g_assign (s := .av (.val (.int _ _))) rfl; exact rfl
  refine sq_nil ?_
  refine sq_then ?_
  refine cq_seq ?_
  refine cq_seq ?_
  refine cq_region ?_
  apply sq_g; exact g_assign (s := .av (.val (.int _ _))) rfl; exact rfl
  refine sq_nil ?_
  refine sq_then ?_
  refine cq_block ?_
  refine cq_loop (γ := Nat × Int × Int) (fun g => [(0, .av (zs H)), (1, .av (zs P)), (2, .av (vi w)), (11, .av (.sl G.length 1 (gsF G))), (12, .av (vi g.2.1)), (13, .av (vi g.2.2)), (14, .av (vi g.1))]) (fun _ => []) (fun g => g.1 ≤ H.length ∧ -100000 ≤ g.2.1 ∧ g.2.1 ≤ 100000 ∧ -100000 ≤ g.2.2 ∧ g.2.2 ≤ 100000 ∧ g.2.1 ≤ g.2.2 + 1 ∧ ∀ i k, i < g.1 → k < P.length → g.2.1 ≤ gz H i / w - gz P k / w ∧ gz H i / w - gz P k / w ≤ g.2.2) (fun g => H.length - g.1) (0, 0, -1) ⟨Nat.zero_le _, by decide, by decide, by decide, by decide, by decide, fun i k hi => absurd hi (Nat.not_lt_zero _)⟩ (ent ⟨.refl _, .refl _, .refl _, .refl _, .refl _, .refl _, .refl _, trivial⟩ trivial) ?_
  rintro ⟨i, lo, hi⟩ ⟨b1, b2, b3, b4, b5, b6, hc⟩
  dsimp only at b1 b2 b3 b4 b5 b6 hc ⊢
  refine cq_seq ?_
  refine cq_seq ?_
  refine cq_region ?_
  apply sq_g; exact g_move (s := .av (.val (.int _ _))) rfl; exact rfl
  apply sq_g; exact g_move (s := .av _) rfl; exact rfl
  apply sq_g; exact g_len rfl; exact rfl
  apply sq_g; exact g_cmp rfl rfl rfl; exact rfl
  refine sq_nil ?_
  refine sq_then ?_
  (refine cq_cond rfl (fun hb => ?_) (fun hb => ?_) <;> (try simp only [decide_eq_true_eq, decide_eq_false_iff_not, beq_iff_eq, beq_eq_false_iff_ne, bne_iff_ne, bne_eq_false_iff_eq, ne_eq, Bool.not_eq_true', Bool.not_eq_false', Bool.and_eq_true, Bool.or_eq_true, Bool.and_eq_false_iff, Bool.or_eq_false_iff] at hb) <;> (try (exfalso; omega)))
  · have hiH : i < H.length := by omega
    refine cq_skip ?_
    refine sq_then ?_
    refine cq_seq ?_
    refine cq_block ?_
    refine cq_seq ?_
    refine cq_region ?_
    apply sq_g; exact g_assign (s := .av (.val (.int _ _))) rfl; exact rfl
    refine sq_nil ?_
    refine sq_then ?_
    refine cq_block ?_
    refine cq_loop (γ := Nat × Int × Int) (fun g => [(0, .av (zs H)), (1, .av (zs P)), (2, .av (vi w)), (11, .av (.sl G.length 1 (gsF G))), (12, .av (vi g.2.1)), (13, .av (vi g.2.2)), (14, .av (vi i)), (15, .av (vi g.1))]) (fun _ => []) (fun g => g.1 ≤ P.length ∧ -100000 ≤ g.2.1 ∧ g.2.1 ≤ 100000 ∧ -100000 ≤ g.2.2 ∧ g.2.2 ≤ 100000 ∧ g.2.1 ≤ g.2.2 + 1 ∧ ∀ i' k, (i' < i ∧ k < P.length ∨ i' = i ∧ k < g.1) → g.2.1 ≤ gz H i' / w - gz P k / w ∧ gz H i' / w - gz P k / w ≤ g.2.2) (fun g => P.length - g.1) (0, lo, hi) ⟨Nat.zero_le _, b2, b3, b4, b5, b6, fun i' k h => hc i' k (by omega) (by omega)⟩ (ent ⟨.refl _, .refl _, .refl _, .refl _, .refl _, .refl _, .refl _, .refl _, trivial⟩ trivial) ?_
    clear b2 b3 b4 b5 b6 hc
    rintro ⟨k, l2, u2⟩ ⟨b1', b2, b3, b4, b5, b6, hc⟩
    dsimp only at b1' b2 b3 b4 b5 b6 hc ⊢
    refine cq_seq ?_
    refine cq_seq ?_
    refine cq_region ?_
    apply sq_g; exact g_move (s := .av (.val (.int _ _))) rfl; exact rfl
    apply sq_g; exact g_move (s := .av _) rfl; exact rfl
    apply sq_g; exact g_len rfl; exact rfl
    apply sq_g; exact g_cmp rfl rfl rfl; exact rfl
    refine sq_nil ?_
    refine sq_then ?_
    (refine cq_cond rfl (fun hb => ?_) (fun hb => ?_) <;> (try simp only [decide_eq_true_eq, decide_eq_false_iff_not, beq_iff_eq, beq_eq_false_iff_ne, bne_iff_ne, bne_eq_false_iff_eq, ne_eq, Bool.not_eq_true', Bool.not_eq_false', Bool.and_eq_true, Bool.or_eq_true, Bool.and_eq_false_iff, Bool.or_eq_false_iff] at hb) <;> (try (exfalso; omega)))
    · have hkP : k < P.length := by omega
      have pH := hrH.at_ i
      have pP := hrP.at_ k
      have qHi := qH i
      have qPk := qP k
      refine cq_skip ?_
      refine sq_then ?_
      refine cq_seq ?_
      refine cq_block ?_
      refine cq_seq ?_
      refine cq_drawn ?_
      apply dq_g; exact g_move (s := .av _) rfl; exact rfl
      apply dq_g; exact g_move (s := .av (.val (.int _ _))) rfl; exact rfl
      apply dq_g; exact g_index rfl rfl rfl (by omega); exact rfl
      apply dq_g; exact g_load (τ := .val (.int _ _)) rfl rfl rfl; exact rfl
      apply dq_g; exact g_move (s := .av (.val (.int _ _))) rfl; exact rfl
      apply dq_g; exact g_quo rfl rfl (by omega) (by omega) (by omega); exact rfl
      apply dq_g; exact g_move (s := .av _) rfl; exact rfl
      apply dq_g; exact g_move (s := .av (.val (.int _ _))) rfl; exact rfl
      apply dq_g; exact g_index rfl rfl rfl (by omega); exact rfl
      apply dq_g; exact g_load (τ := .val (.int _ _)) rfl rfl rfl; exact rfl
      apply dq_g; exact g_move (s := .av (.val (.int _ _))) rfl; exact rfl
      apply dq_g; exact g_quo rfl rfl (by omega) (by omega) (by omega); exact rfl
      apply dq_g; exact g_arith rfl rfl rfl (by omega); exact rfl
      apply dq_g; exact g_assign (s := .av (.val (.int _ _))) rfl; exact rfl
      refine dq_nil tm (by kernel_rfl) ?_
      refine sq_then ?_
      refine cq_seq ?_
      refine cq_seq ?_
      refine cq_region ?_
      apply sq_g; exact g_move (s := .av (.val (.int _ _))) rfl; exact rfl
      apply sq_g; exact g_move (s := .av (.val (.int _ _))) rfl; exact rfl
      apply sq_g; exact g_cmp rfl rfl rfl; exact rfl
      refine sq_nil ?_
      refine sq_then ?_
      generalize hD : gz H i / w - gz P k / w = D
      have hDb : -100000 ≤ D ∧ D ≤ 100000 := by omega
      have hst : ∀ l3 u3 : Int, l3 ≤ D → D ≤ u3 → (u2 < l2 ∨ l3 ≤ l2 ∧ u2 ≤ u3) → ∀ i' k', (i' < i ∧ k' < P.length ∨ i' = i ∧ k' < k + 1) → l3 ≤ gz H i' / w - gz P k' / w ∧ gz H i' / w - gz P k' / w ≤ u3 := fun l3 u3 h1 h2 h3 i' k' h => by
        by_cases e : i' = i ∧ k' = k
        · obtain ⟨rfl, rfl⟩ := e
          rw [hD]; exact ⟨h1, h2⟩
        · have := hc i' k' (by omega)
          omega
      (refine cq_cond rfl (fun hb => ?_) (fun hb => ?_) <;> (try simp only [decide_eq_true_eq, decide_eq_false_iff_not, beq_iff_eq, beq_eq_false_iff_ne, bne_iff_ne, bne_eq_false_iff_eq, ne_eq, Bool.not_eq_true', Bool.not_eq_false', Bool.and_eq_true, Bool.or_eq_true, Bool.and_eq_false_iff, Bool.or_eq_false_iff] at hb) <;> (try (exfalso; omega)))
      · refine cq_region ?_
        apply sq_g; exact g_move (s := .av (.val (.int _ _))) rfl; exact rfl
        apply sq_g; exact g_move (s := .av (.val (.int _ _))) rfl; exact rfl
        apply sq_g; exact g_assign (s := .av (.val (.int _ _))) rfl; exact rfl
        apply sq_g; exact g_assign (s := .av (.val (.int _ _))) rfl; exact rfl
        refine sq_nil ?_
        refine sq_then ?_
        refine cq_region ?_
        apply sq_g; exact g_move (s := .av (.val (.int _ _))) rfl; exact rfl
        apply sq_g; exact g_move (s := .av (.val (.int _ _))) rfl; exact rfl
        apply sq_g; exact g_min rfl rfl; exact rfl
        apply sq_g; exact g_move (s := .av (.val (.int _ _))) rfl; exact rfl
        apply sq_g; exact g_move (s := .av (.val (.int _ _))) rfl; exact rfl
        apply sq_g; exact g_max rfl rfl; exact rfl
        apply sq_g; exact g_assign (s := .av (.val (.int _ _))) rfl; exact rfl
        apply sq_g; exact g_assign (s := .av (.val (.int _ _))) rfl; exact rfl
        refine sq_nil ?_
        refine sq_then ?_
        refine cq_region ?_
        apply sq_g; exact g_move (s := .av (.val (.int _ _))) rfl; exact rfl
        apply sq_g; exact g_arith rfl rfl rfl (by omega); exact rfl
        apply sq_g; exact g_assign (s := .av (.val (.int _ _))) rfl; exact rfl
        refine sq_nil ?_
        exact sq_round (g := (k, l2, u2)) (k + 1, min D D, max D D) ⟨by dsimp only; omega, by dsimp only; omega, by dsimp only; omega, by dsimp only; omega, by dsimp only; omega, by dsimp only; omega, hst (min D D) (max D D) (by omega) (by omega) (by omega)⟩ (by dsimp only; omega) (ent ⟨.refl _, .refl _, .refl _, .refl _, .int (by dsimp only; simp only [Int.min_def, Int.max_def]; (split <;> split <;> omega)), .int (by dsimp only; simp only [Int.min_def, Int.max_def]; (split <;> split <;> omega)), .refl _, .int (by dsimp only; omega), trivial⟩ trivial)
      · refine cq_skip ?_
        refine sq_then ?_
        refine cq_region ?_
        apply sq_g; exact g_move (s := .av (.val (.int _ _))) rfl; exact rfl
        apply sq_g; exact g_move (s := .av (.val (.int _ _))) rfl; exact rfl
        apply sq_g; exact g_min rfl rfl; exact rfl
        apply sq_g; exact g_move (s := .av (.val (.int _ _))) rfl; exact rfl
        apply sq_g; exact g_move (s := .av (.val (.int _ _))) rfl; exact rfl
        apply sq_g; exact g_max rfl rfl; exact rfl
        apply sq_g; exact g_assign (s := .av (.val (.int _ _))) rfl; exact rfl
        apply sq_g; exact g_assign (s := .av (.val (.int _ _))) rfl; exact rfl
        refine sq_nil ?_
        refine sq_then ?_
        refine cq_region ?_
        apply sq_g; exact g_move (s := .av (.val (.int _ _))) rfl; exact rfl
        apply sq_g; exact g_arith rfl rfl rfl (by omega); exact rfl
        apply sq_g; exact g_assign (s := .av (.val (.int _ _))) rfl; exact rfl
        refine sq_nil ?_
        exact sq_round (g := (k, l2, u2)) (k + 1, min l2 D, max u2 D) ⟨by dsimp only; omega, by dsimp only; omega, by dsimp only; omega, by dsimp only; omega, by dsimp only; omega, by dsimp only; omega, hst (min l2 D) (max u2 D) (by omega) (by omega) (by omega)⟩ (by dsimp only; omega) (ent ⟨.refl _, .refl _, .refl _, .refl _, .int (by dsimp only; simp only [Int.min_def, Int.max_def]; (split <;> split <;> omega)), .int (by dsimp only; simp only [Int.min_def, Int.max_def]; (split <;> split <;> omega)), .refl _, .int (by dsimp only; omega), trivial⟩ trivial)
    · have hkP : k = P.length := by omega
      subst hkP
      refine cq_exit ?_
      refine sq_then ?_
      refine cq_region ?_
      apply sq_g; exact g_move (s := .av (.val (.int _ _))) rfl; exact rfl
      apply sq_g; exact g_arith rfl rfl rfl (by omega); exact rfl
      apply sq_g; exact g_assign (s := .av (.val (.int _ _))) rfl; exact rfl
      refine sq_nil ?_
      exact sq_round (g := (i, lo, hi)) (i + 1, l2, u2) ⟨by dsimp only; omega, b2, b3, b4, b5, b6, fun i' k h1 h2 => hc i' k (by dsimp only at h1; omega)⟩ (by dsimp only; omega) (ent ⟨.refl _, .refl _, .refl _, .refl _, .refl _, .refl _, .int (by dsimp only; omega), trivial⟩ trivial)
  · have hiH : i = H.length := by omega
    subst hiH
    have hq : (((hi + 1 - lo).toNat : Nat) : Int) = hi + 1 - lo := Int.toNat_of_nonneg (by omega)
    generalize (hi + 1 - lo).toNat = q at hq
    have hfin := hrpp (lo := lo) (hi := hi) q (.inl hq) hc
    rw [e2, ← hfin]
    refine cq_exit ?_
    refine sq_then ?_
    refine cq_seq ?_
    refine cq_region ?_
    apply sq_g; exact g_assign (s := .av _) rfl; exact rfl
    refine sq_nil ?_
    refine sq_then ?_
    refine cq_seq ?_
    refine cq_seq ?_
    refine cq_region ?_
    apply sq_g; exact g_move (s := .av (.val (.int _ _))) rfl; exact rfl
    apply sq_g; exact g_assign (s := .av (.val (.int _ _))) rfl; exact rfl
    refine sq_nil ?_
    refine sq_then ?_
    refine cq_block ?_
    refine cq_loop (γ := Nat) (fun t => [(0, .av (zs H)), (1, .av (zs P)), (2, .av (vi w)), (11, .av (.sl G.length 1 (gsF G))), (13, .av (vi hi)), (17, .osl 70), (18, .av (vi (lo + t)))]) (fun t => [(70, .row 42 2 (RP lo t).length (df (RP lo t)))]) (fun t => t ≤ q) (fun t => q - t) 0 (Nat.zero_le _) (Ent.trans (ent_row (dd := 17) 70 42 2 (df []) rfl rfl) (ent ⟨.refl _, .refl _, .refl _, .refl _, .refl _, .refl _, .int (by omega), trivial⟩ ⟨⟨_, rfl, .row (by rw [hrp0]; rfl) (fun _ _ _ _ => by rw [hrp0])⟩, trivial⟩)) ?_
    intro t ht
    refine cq_seq ?_
    refine cq_seq ?_
    refine cq_region ?_
    apply sq_g; exact g_move (s := .av (.val (.int _ _))) rfl; exact rfl
    apply sq_g; exact g_move (s := .av (.val (.int _ _))) rfl; exact rfl
    apply sq_g; exact g_cmp rfl rfl rfl; exact rfl
    refine sq_nil ?_
    refine sq_then ?_
    (refine cq_cond rfl (fun hb => ?_) (fun hb => ?_) <;> (try simp only [decide_eq_true_eq, decide_eq_false_iff_not, beq_iff_eq, beq_eq_false_iff_ne, bne_iff_ne, bne_eq_false_iff_eq, ne_eq, Bool.not_eq_true', Bool.not_eq_false', Bool.and_eq_true, Bool.or_eq_true, Bool.and_eq_false_iff, Bool.or_eq_false_iff] at hb) <;> (try (exfalso; omega)))
    · have htq : t < q := by omega
      have hU1 := hrps lo t
      have hUl := hrpl lo t
      generalize RP lo t = U at hU1 hUl ⊢
      generalize hd : lo + (t : Int) = d at hU1 hb ⊢
      have hdb : -100000 ≤ d ∧ d ≤ 100000 := by omega
      refine cq_skip ?_
      refine sq_then ?_
      refine cq_seq ?_
      refine cq_block ?_
      refine cq_seq ?_
      refine cq_region ?_
      apply sq_g; exact g_assign (s := .av (.val (.int _ _))) rfl; exact rfl
      refine sq_nil ?_
      refine sq_then ?_
      refine cq_seq ?_
      refine cq_seq ?_
      refine cq_region ?_
      apply sq_g; exact g_assign (s := .av (.val (.int _ _))) rfl; exact rfl
      refine sq_nil ?_
      refine sq_then ?_
      refine cq_block ?_
      refine cq_loop (γ := Nat) (fun j => [(0, .av (zs H)), (1, .av (zs P)), (2, .av (vi w)), (11, .av (.sl G.length 1 (gsF G))), (13, .av (vi hi)), (17, .osl 70), (18, .av (vi d)), (19, .av (vi (nS H P w d (K.take j)))), (20, .av (vi j))]) (fun _ => [(70, .row 42 2 U.length (df U))]) (fun j => j ≤ K.length) (fun j => K.length - j) 0 (Nat.zero_le _) (ent ⟨.refl _, .refl _, .refl _, .refl _, .refl _, .refl _, .refl _, .int (by simp [nS]), .refl _, trivial⟩ ⟨⟨_, rfl, .refl _⟩, trivial⟩) ?_
      intro j hj
      refine cq_seq ?_
      refine cq_seq ?_
      refine cq_region ?_
      apply sq_g; exact g_move (s := .av (.val (.int _ _))) rfl; exact rfl
      apply sq_g; exact g_move (s := .av _) rfl; exact rfl
      apply sq_g; exact g_len rfl; exact rfl
      apply sq_g; exact g_cmp rfl rfl rfl; exact rfl
      refine sq_nil ?_
      refine sq_then ?_
      (refine cq_cond rfl (fun hb => ?_) (fun hb => ?_) <;> (try simp only [decide_eq_true_eq, decide_eq_false_iff_not, beq_iff_eq, beq_eq_false_iff_ne, bne_iff_ne, bne_eq_false_iff_eq, ne_eq, Bool.not_eq_true', Bool.not_eq_false', Bool.and_eq_true, Bool.or_eq_true, Bool.and_eq_false_iff, Bool.or_eq_false_iff] at hb) <;> (try (exfalso; omega)))
      · have hjl : j < K.length := by omega
        have hL := congrArg zs (hgl j hjl)
        obtain ⟨i0, hi0, eq0⟩ := hKm j hjl
        have hgm : ∀ x, x ∈ idx P w P.length (gz K j) ↔ ∃ i : Nat, i < P.length ∧ gz P i / w = gz K j ∧ x = i := fun x => mem_idx
        have hYl := idx_len P w P.length (gz K j)
        have hYe : minL H P w (gz K j + d) (gz K j) = ((min (idx H w H.length (gz K j + d)).length (idx P w P.length (gz K j)).length : Nat) : Int) := rfl
        have htk := takeK hjl
        have hns := nS_snoc H P w d (K.take j) (gz K j)
        rw [← htk] at hns
        have hnb := nS_bd (P := P) w d lH (K.take j)
        have htl : (K.take j).length = j := by rw [List.length_take]; omega
        rw [htl] at hnb
        generalize idx P w P.length (gz K j) = Y at hL hgm hYl hYe
        have hY0 : 0 < Y.length := List.length_pos_of_mem ((hgm _).2 ⟨i0, hi0, eq0, rfl⟩)
        obtain ⟨i1, hi1, eq1, ei1⟩ := (hgm _).1 (gz_mem hY0)
        have pP := hrP.at_ i1
        have qPi := qP i1
        have hcc := count_c H w (gz P i1 / w + d) hrH hw1.1
        have hXl := idx_len H w H.length (gz P i1 / w + d)
        have hjG : j < G.length := by omega
        have hw0 : 0 < w := by omega
        refine cq_skip ?_
        refine sq_then ?_
        refine cq_seq ?_
        refine cq_block ?_
        refine cq_drawn ?_
        apply dq_g; exact g_move (s := .av (.val (.int _ _))) rfl; exact rfl
        apply dq_g; exact g_move (s := .av _) rfl; exact rfl
        apply dq_g; exact g_move (s := .av (.val (.int _ _))) rfl; exact rfl
        apply dq_g; exact g_index rfl rfl rfl (by omega); exact rfl
        apply dq_g; exact  g_load (τ := zs Y) rfl rfl hL; exact rfl
        apply dq_g; exact g_len rfl; exact rfl
        apply dq_g; exact g_move (s := .av _) rfl; exact rfl
        apply dq_g; exact g_move (s := .av (.val (.int _ _))) rfl; exact rfl
        apply dq_g; exact g_move (s := .av _) rfl; exact rfl
        apply dq_g; exact g_move (s := .av _) rfl; exact rfl
        apply dq_g; exact g_move (s := .av (.val (.int _ _))) rfl; exact rfl
        apply dq_g; exact g_index rfl rfl rfl (by omega); exact rfl
        apply dq_g; exact  g_load (τ := zs Y) rfl rfl hL; exact rfl
        apply dq_g; exact  g_index (k := 0) rfl rfl rfl hY0; exact rfl
        apply dq_g; exact g_load (τ := .val (.int _ _)) rfl rfl rfl; exact rfl
        apply dq_g; exact  g_index (k := i1) rfl rfl ei1 hi1; exact rfl
        apply dq_g; exact g_load (τ := .val (.int _ _)) rfl rfl rfl; exact rfl
        apply dq_g; exact g_move (s := .av (.val (.int _ _))) rfl; exact rfl
        apply dq_g; exact g_quo rfl rfl (by omega) (by omega) (by omega); exact rfl
        apply dq_g; exact g_move (s := .av (.val (.int _ _))) rfl; exact rfl
        apply dq_g; exact g_arith rfl rfl rfl (by omega); exact rfl
        apply dq_g; exact g_call (hcc) rfl; exact rfl
        apply dq_g; exact g_min rfl rfl; exact rfl
        apply dq_g; exact g_arith rfl rfl rfl (by omega); exact rfl
        apply dq_g; exact g_assign (s := .av (.val (.int _ _))) rfl; exact rfl
        refine dq_nil tm (by kernel_rfl) ?_
        refine sq_then ?_
        refine cq_region ?_
        apply sq_g; exact g_move (s := .av (.val (.int _ _))) rfl; exact rfl
        apply sq_g; exact g_arith rfl rfl rfl (by omega); exact rfl
        apply sq_g; exact g_assign (s := .av (.val (.int _ _))) rfl; exact rfl
        refine sq_nil ?_
        rw [eq1] at hXl ⊢
        exact sq_round (j + 1) (by omega) (by omega) (ent ⟨.refl _, .refl _, .refl _, .refl _, .refl _, .refl _, .refl _, .int (by rw [hns, hYe]; omega), .int (by omega), trivial⟩ ⟨⟨_, rfl, .refl _⟩, trivial⟩)
      · have hjl : j = K.length := by omega
        subst hjl
        have hnb := nS_bd (P := P) w d lH K
        rw [List.take_length]
        generalize nS H P w d K = n at hU1 hnb ⊢
        have hml : U.length + 1 ≤ maxLen := by simp only [maxLen]; omega
        refine cq_exit ?_
        refine sq_then ?_
        refine cq_seq ?_
        refine cq_region ?_
        apply sq_g; exact g_move (s := .av (.val (.int _ _))) rfl; exact rfl
        apply sq_g; exact g_cmp rfl rfl rfl; exact rfl
        refine sq_nil ?_
        refine sq_then ?_
        (refine cq_cond rfl (fun hb => ?_) (fun hb => ?_) <;> (try simp only [decide_eq_true_eq, decide_eq_false_iff_not, beq_iff_eq, beq_eq_false_iff_ne, bne_iff_ne, bne_eq_false_iff_eq, ne_eq, Bool.not_eq_true', Bool.not_eq_false', Bool.and_eq_true, Bool.or_eq_true, Bool.and_eq_false_iff, Bool.or_eq_false_iff] at hb) <;> (try (exfalso; omega)))
        · rw [if_pos hb] at hU1
          refine cq_region ?_
          apply sq_g; exact g_move (s := .osl _) rfl; exact rfl
          apply sq_g; exact g_move (s := .av (.val (.int _ _))) rfl; exact rfl
          apply sq_g; exact g_move (s := .av (.val (.int _ _))) rfl; exact rfl
          apply sq_g; exact g_build (is := [0, 1]) (xs := [_, _]) (vs := [_, _]) (tb42 _ _) rfl rfl; exact rfl
          apply sq_g; exact  g_bslice (is := [0]) (xs := [_]) (vs := [_]) (us := [_, _]) (tq33 _ _) rfl rfl rfl (df_row _ _); exact rfl
          refine sq_v (v_append (h := df [(d, n)]) (m := 1) rfl rfl rfl (fun i _ j _ => df_one _ i j) (by omega) hml (by omega)) rfl ?_
          apply sq_g; exact g_assign (s := .osl _) rfl; exact rfl
          refine sq_nil ?_
          refine sq_then ?_
          refine cq_region ?_
          apply sq_g; exact g_move (s := .av (.val (.int _ _))) rfl; exact rfl
          apply sq_g; exact g_arith rfl rfl rfl (by omega); exact rfl
          apply sq_g; exact g_assign (s := .av (.val (.int _ _))) rfl; exact rfl
          refine sq_nil ?_
          exact sq_round (t + 1) (by omega) (by omega) (ent ⟨.refl _, .refl _, .refl _, .refl _, .refl _, .refl _, .int (by omega), trivial⟩ ⟨⟨_, rfl, .row (by rw [hU1]; simp) (fun i hi j hj => by rw [hU1]; exact df_app _ _ i hi j hj)⟩, trivial⟩)
        · rw [if_neg (by omega), List.append_nil] at hU1
          refine cq_skip ?_
          refine sq_then ?_
          refine cq_region ?_
          apply sq_g; exact g_move (s := .av (.val (.int _ _))) rfl; exact rfl
          apply sq_g; exact g_arith rfl rfl rfl (by omega); exact rfl
          apply sq_g; exact g_assign (s := .av (.val (.int _ _))) rfl; exact rfl
          refine sq_nil ?_
          exact sq_round (t + 1) (by omega) (by omega) (ent ⟨.refl _, .refl _, .refl _, .refl _, .refl _, .refl _, .int (by omega), trivial⟩ ⟨⟨_, rfl, .row (by rw [hU1]) (fun _ _ _ _ => by rw [hU1])⟩, trivial⟩)
    · have htq : t = q := by omega
      subst htq
      refine cq_exit ?_
      refine sq_then ?_
      refine cq_seq ?_
      refine cq_region ?_
      apply sq_g; exact g_move (s := .osl _) rfl; exact rfl
      apply sq_g; exact g_assign (s := .osl _) rfl; exact rfl
      apply sq_g; exact g_assign (s := .av (.val (.int _ _))) rfl; exact rfl
      refine sq_nil ?_
      refine sq_then ?_
      refine cq_ret ?_
      exact sq_retRN rfl rfl rfl rfl (fun _ _ _ _ => rfl) (τs := [vi 0]) ⟨.tmp rfl, trivial⟩ rfl
end Go.Proofs.Ytogilkilkmoedaa
namespace Go.Proofs.Ytogilkilkmoedaa
open Go Go.Vc Go.RowKit
set_option maxHeartbeats 8000000
/-! KDQ -/
theorem groups_small (l : List Int) (w : Int) : (groupsL l w).length ≤ 1000000 ∧ ∀ k, k < (groupsL l w).length → (gl (groupsL l w) k).length ≤ 1000000 := by
  by_cases h : errG l w = 0
  · obtain ⟨hr, _⟩ := errG_ok h
    have hl := hr.len
    have e : groupsL l w = (sortK (quots l w)).map (fun a => idx l w l.length a) := by unfold groupsL; rw [if_pos h]
    have hk : (sortK (quots l w)).length ≤ 256 := by have := sortK_len (quots l w); simp [quots] at this ⊢; omega
    rw [e]
    refine ⟨by rw [List.length_map]; omega, fun k hk => ?_⟩
    rw [List.length_map] at hk
    rw [gl_map hk]
    have := idx_len l w l.length (gz (sortK (quots l w)) k)
    omega
  · have e : groupsL l w = [] := by unfold groupsL; rw [if_neg h]
    rw [e]
    exact ⟨by simp, fun k hk => absurd hk (by simp)⟩
theorem plan_small (H P : List Int) (w : Int) : (planL H P w).length ≤ 1000000 := by
  by_cases h : errP H P w = 0
  · have e2 : planL H P w = planK (minL H P w) (quots H w) (quots P w) := by unfold planL; rw [if_pos h]
    have h1 : chkL [H] = 0 := by
      unfold errP at h
      by_cases h1 : chkL [H] = 0
      · exact h1
      · rw [if_pos h1] at h; exact h
    have h2 : chkL [P] = 0 := by
      unfold errP at h
      rw [if_neg (by omega)] at h
      by_cases h2 : chkL [P] = 0
      · exact h2
      · rw [if_pos h2] at h; exact h
    have lH := (chk1_ok h1).len
    have lP := (chk1_ok h2).len
    rw [e2]
    unfold planK
    rw [List.length_map]
    have a1 := sortK_len (keysC (prodK (dd (quots H w)) (dd (quots P w))))
    have a2 : (keysC (prodK (dd (quots H w)) (dd (quots P w)))).length = (dd (quots H w)).length * (dd (quots P w)).length := by unfold keysC; rw [List.length_map, prodK_len]
    have a3 := dd_len (quots H w)
    have a4 := dd_len (quots P w)
    have a5 : (quots H w).length = H.length := by simp [quots]
    have a6 : (quots P w).length = P.length := by simp [quots]
    have a7 := sq256 (a := (dd (quots H w)).length) (b := (dd (quots P w)).length) (by omega) (by omega)
    omega
  · have e : planL H P w = [] := by unfold planL; rw [if_neg h]
    rw [e]; simp
theorem groupslaw_c (H P : List Int) (w : Int) : CtrA Try.prog 9 [zs H, zs P, vi w] (vb true) := by
  refine ctrA _ Try.func9 rfl rfl Try.ntmps9 rfl fun w0 Z => ?_
  have aw := awake_c
  have c1 := (groups_c H w).roN
  have c2 := rgroups_c H w
  have c3 := (plan_c H P w).roN
  have c4 := (rplan_c H P w).roN
  have hgs := groups_small H w
  have c5 := equalf_c (groupsL H w) hgs.1 hgs.2
  have c6 := samez_c (planL H P w) (plan_small H P w)
  clear hgs
  generalize groupsL H w = GL at c1 c2 c5
  generalize planL H P w = PL at c3 c4 c6
  generalize errG H w = eg at c1 c2
  generalize errP H P w = ep at c3 c4
  simp only [initT, List.map_cons, List.map_nil, Nat.zero_add, Nat.reduceAdd]
  focus
    refine cq_seq ?_
    refine cq_region ?_
    apply sq_g; exact g_assign (s := .av (.val (.bool _))) rfl; exact rfl
    refine sq_nil ?_
    refine sq_then ?_
    refine cq_seq ?_
    refine cq_seq ?_
    refine cq_region ?_
    apply sq_g; exact g_move (s := .av _) rfl; exact rfl
    apply sq_g; exact g_len rfl; exact rfl
    apply sq_g; exact g_cmp rfl rfl rfl; exact rfl
    apply sq_g; exact g_move (s := .av (.val (.bool _))) rfl; exact rfl
    refine sq_split rfl rfl (fun hb => ?_) (fun hb => ?_) <;> (try simp only [decide_eq_true_eq, decide_eq_false_iff_not, beq_iff_eq, beq_eq_false_iff_ne, bne_iff_ne, bne_eq_false_iff_eq, ne_eq, Bool.not_eq_true', Bool.not_eq_false', Bool.and_eq_true, Bool.or_eq_true, Bool.and_eq_false_iff, Bool.or_eq_false_iff] at hb) <;> (try (exfalso; omega))
    refine sq_off rfl rfl rfl rfl ?_
    refine sq_off rfl rfl rfl rfl ?_
    refine sq_off rfl rfl rfl rfl ?_
    apply sq_g; exact g_pick (s := .av (.val (.bool _))) rfl rfl; exact rfl
    apply sq_g; exact g_move (s := .av (.val (.bool _))) rfl; exact rfl
    refine sq_off rfl rfl rfl rfl ?_
    refine sq_off rfl rfl rfl rfl ?_
    refine sq_off rfl rfl rfl rfl ?_
    refine sq_offu rfl rfl rfl ?_
    refine sq_offu rfl rfl rfl ?_
    refine sq_off rfl rfl rfl rfl ?_
    apply sq_g; exact g_pick (s := .av (.val (.bool _))) rfl rfl; exact rfl
    refine sq_nil ?_
    refine sq_then ?_
    refine cq_cond_t rfl ?_
    refine cq_seq ?_
    refine cq_region ?_
    apply sq_g; exact g_call (aw) rfl; exact rfl
    apply sq_g; exact g_assign (s := .av (.val (.bool _))) rfl; exact rfl
    refine sq_nil ?_
    refine sq_then ?_
    refine cq_ret ?_
    refine sq_then_ret ?_
    rotate_left
    apply sq_on; exact g_move (s := .av _) rfl; exact rfl; exact rfl; exact rfl
    apply sq_on; exact g_len rfl; exact rfl; exact rfl; exact rfl
    apply sq_on; exact g_cmp rfl rfl rfl; exact rfl; exact rfl; exact rfl
    apply sq_g; exact g_pick (s := .av (.val (.bool _))) rfl rfl; exact rfl
    apply sq_g; exact g_move (s := .av (.val (.bool _))) rfl; exact rfl
    refine sq_split rfl rfl (fun hb => ?_) (fun hb => ?_) <;> (try simp only [decide_eq_true_eq, decide_eq_false_iff_not, beq_iff_eq, beq_eq_false_iff_ne, bne_iff_ne, bne_eq_false_iff_eq, ne_eq, Bool.not_eq_true', Bool.not_eq_false', Bool.and_eq_true, Bool.or_eq_true, Bool.and_eq_false_iff, Bool.or_eq_false_iff] at hb) <;> (try (exfalso; omega))
    refine sq_off rfl rfl rfl rfl ?_
    refine sq_off rfl rfl rfl rfl ?_
    refine sq_off rfl rfl rfl rfl ?_
    refine sq_offu rfl rfl rfl ?_
    refine sq_offu rfl rfl rfl ?_
    refine sq_off rfl rfl rfl rfl ?_
    apply sq_g; exact g_pick (s := .av (.val (.bool _))) rfl rfl; exact rfl
    refine sq_nil ?_
    refine sq_then ?_
    refine cq_cond_t rfl ?_
    refine cq_seq ?_
    refine cq_region ?_
    apply sq_g; exact g_call (aw) rfl; exact rfl
    apply sq_g; exact g_assign (s := .av (.val (.bool _))) rfl; exact rfl
    refine sq_nil ?_
    refine sq_then ?_
    refine cq_ret ?_
    refine sq_then_ret ?_
    rotate_left
    apply sq_on; exact g_move (s := .av (.val (.int _ _))) rfl; exact rfl; exact rfl; exact rfl
    apply sq_on; exact g_cmp rfl rfl rfl; exact rfl; exact rfl; exact rfl
    apply sq_on; exact g_move (s := .av (.val (.bool _))) rfl; exact rfl; exact rfl; exact rfl
    refine sq_split rfl rfl (fun hb => ?_) (fun hb => ?_) <;> (try simp only [decide_eq_true_eq, decide_eq_false_iff_not, beq_iff_eq, beq_eq_false_iff_ne, bne_iff_ne, bne_eq_false_iff_eq, ne_eq, Bool.not_eq_true', Bool.not_eq_false', Bool.and_eq_true, Bool.or_eq_true, Bool.and_eq_false_iff, Bool.or_eq_false_iff] at hb) <;> (try (exfalso; omega))
    apply sq_on; exact g_move (s := .av (.val (.int _ _))) rfl; exact rfl; exact rfl; exact rfl
    apply sq_on; exact g_cmp rfl rfl rfl; exact rfl; exact rfl; exact rfl
    apply sq_on; exact g_pick (s := .av (.val (.bool _))) rfl rfl; exact rfl; exact rfl; exact rfl
    apply sq_g; exact g_pick (s := .av (.val (.bool _))) rfl rfl; exact rfl
    refine sq_nil ?_
    refine sq_then ?_
    rotate_left
    refine sq_off rfl rfl rfl rfl ?_
    refine sq_off rfl rfl rfl rfl ?_
    apply sq_on; exact g_pick (s := .av (.val (.bool _))) rfl rfl; exact rfl; exact rfl; exact rfl
    apply sq_g; exact g_pick (s := .av (.val (.bool _))) rfl rfl; exact rfl
    refine sq_nil ?_
    refine sq_then ?_
    refine cq_cond_f rfl ?_
    refine cq_skip ?_
    refine sq_then ?_
    refine cq_seq ?_
    refine cq_region ?_
    apply sq_g; exact g_move (s := .av _) rfl; exact rfl
    apply sq_g; exact g_move (s := .av (.val (.int _ _))) rfl; exact rfl
    apply sq_g; exact g_call (c1) rfl; exact rfl
    apply sq_g; exact g_move (s := .av _) rfl; exact rfl
    apply sq_g; exact g_extractT rfl rfl; exact rfl
    apply sq_g; exact g_extractT rfl rfl; exact rfl
    apply sq_g; exact g_assign (s := .av _) rfl; exact rfl
    apply sq_g; exact g_assign (s := .av (.val (.int _ _))) rfl; exact rfl
    refine sq_nil ?_
    refine sq_then ?_
    refine cq_seq ?_
    refine cq_region ?_
    apply sq_g; exact g_move (s := .av _) rfl; exact rfl
    apply sq_g; exact g_move (s := .av (.val (.int _ _))) rfl; exact rfl
    apply sq_g; exact g_call (c2) rfl; exact rfl
    apply sq_g; exact g_move (s := .av _) rfl; exact rfl
    apply sq_g; exact g_extractT rfl rfl; exact rfl
    apply sq_g; exact g_extractT rfl rfl; exact rfl
    apply sq_g; exact g_assign (s := .av _) rfl; exact rfl
    apply sq_g; exact g_assign (s := .av (.val (.int _ _))) rfl; exact rfl
    refine sq_nil ?_
    refine sq_then ?_
    refine cq_seq ?_
    refine cq_region ?_
    apply sq_g; exact g_move (s := .av _) rfl; exact rfl
    apply sq_g; exact g_move (s := .av _) rfl; exact rfl
    apply sq_g; exact g_move (s := .av (.val (.int _ _))) rfl; exact rfl
    apply sq_g; exact g_call (c3) rfl; exact rfl
    apply sq_g; exact g_move (s := .av _) rfl; exact rfl
    apply sq_g; exact g_extractT rfl rfl; exact rfl
    apply sq_g; exact g_extractT rfl rfl; exact rfl
    apply sq_g; exact g_assign (s := .av _) rfl; exact rfl
    apply sq_g; exact g_assign (s := .av (.val (.int _ _))) rfl; exact rfl
    refine sq_nil ?_
    refine sq_then ?_
    refine cq_seq ?_
    refine cq_region ?_
    apply sq_g; exact g_move (s := .av _) rfl; exact rfl
    apply sq_g; exact g_move (s := .av _) rfl; exact rfl
    apply sq_g; exact g_move (s := .av (.val (.int _ _))) rfl; exact rfl
    apply sq_g; exact g_call (c4) rfl; exact rfl
    apply sq_g; exact g_move (s := .av _) rfl; exact rfl
    apply sq_g; exact g_extractT rfl rfl; exact rfl
    apply sq_g; exact g_extractT rfl rfl; exact rfl
    apply sq_g; exact g_assign (s := .av _) rfl; exact rfl
    apply sq_g; exact g_assign (s := .av (.val (.int _ _))) rfl; exact rfl
    refine sq_nil ?_
    refine sq_then ?_
    refine cq_seq ?_
    refine cq_region ?_
    apply sq_g; exact g_move (s := .av _) rfl; exact rfl
    apply sq_g; exact g_move (s := .av _) rfl; exact rfl
    apply sq_g; exact g_call (c5) rfl; exact rfl
    apply sq_g; exact g_move (s := .av (.val (.bool _))) rfl; exact rfl
    apply sq_on; exact g_move (s := .av (.val (.int _ _))) rfl; exact rfl; exact rfl; exact rfl
    apply sq_on; exact g_move (s := .av (.val (.int _ _))) rfl; exact rfl; exact rfl; exact rfl
    apply sq_on; exact g_cmp rfl rfl rfl; exact rfl; exact rfl; exact rfl
    apply sq_g; exact g_pick (s := .av (.val (.bool _))) rfl rfl; exact rfl
    apply sq_g; exact g_move (s := .av (.val (.bool _))) rfl; exact rfl
    refine sq_split rfl rfl (fun hb => ?_) (fun hb => ?_) <;> (try simp only [decide_eq_true_eq, decide_eq_false_iff_not, beq_iff_eq, beq_eq_false_iff_ne, bne_iff_ne, bne_eq_false_iff_eq, ne_eq, Bool.not_eq_true', Bool.not_eq_false', Bool.and_eq_true, Bool.or_eq_true, Bool.and_eq_false_iff, Bool.or_eq_false_iff] at hb) <;> (try (exfalso; omega))
    apply sq_on; exact g_move (s := .av _) rfl; exact rfl; exact rfl; exact rfl
    apply sq_on; exact g_move (s := .av _) rfl; exact rfl; exact rfl; exact rfl
    apply sq_on; exact g_call (c6) rfl; exact rfl; exact rfl; exact rfl
    apply sq_g; exact g_pick (s := .av (.val (.bool _))) rfl rfl; exact rfl
    apply sq_g; exact g_move (s := .av (.val (.bool _))) rfl; exact rfl
    apply sq_on; exact g_move (s := .av (.val (.int _ _))) rfl; exact rfl; exact rfl; exact rfl
    apply sq_on; exact g_move (s := .av (.val (.int _ _))) rfl; exact rfl; exact rfl; exact rfl
    apply sq_on; exact g_cmp rfl rfl rfl; exact rfl; exact rfl; exact rfl
    apply sq_g; exact g_pick (s := .av (.val (.bool _))) rfl rfl; exact rfl
    apply sq_g; exact g_move (s := .av (.val (.bool _))) rfl; exact rfl
    refine sq_split rfl rfl (fun hb => ?_) (fun hb => ?_) <;> (try simp only [decide_eq_true_eq, decide_eq_false_iff_not, beq_iff_eq, beq_eq_false_iff_ne, bne_iff_ne, bne_eq_false_iff_eq, ne_eq, Bool.not_eq_true', Bool.not_eq_false', Bool.and_eq_true, Bool.or_eq_true, Bool.and_eq_false_iff, Bool.or_eq_false_iff] at hb) <;> (try (exfalso; omega))
    apply sq_on; exact g_call (aw) rfl; exact rfl; exact rfl; exact rfl
    apply sq_g; exact g_pick (s := .av (.val (.bool _))) rfl rfl; exact rfl
    apply sq_g; exact g_assign (s := .av (.val (.bool _))) rfl; exact rfl
    refine sq_nil ?_
    refine sq_then ?_
    refine cq_ret ?_
    rotate_left
    refine sq_off rfl rfl rfl rfl ?_
    apply sq_g; exact g_pick (s := .av (.val (.bool _))) rfl rfl; exact rfl
    apply sq_g; exact g_assign (s := .av (.val (.bool _))) rfl; exact rfl
    refine sq_nil ?_
    refine sq_then ?_
    refine cq_ret ?_
    rotate_left
    refine sq_off rfl rfl rfl rfl ?_
    refine sq_off rfl rfl rfl rfl ?_
    refine sq_off rfl rfl rfl rfl ?_
    apply sq_g; exact g_pick (s := .av (.val (.bool _))) rfl rfl; exact rfl
    apply sq_g; exact g_move (s := .av (.val (.bool _))) rfl; exact rfl
    refine sq_off rfl rfl rfl rfl ?_
    refine sq_off rfl rfl rfl rfl ?_
    refine sq_off rfl rfl rfl rfl ?_
    apply sq_g; exact g_pick (s := .av (.val (.bool _))) rfl rfl; exact rfl
    apply sq_g; exact g_move (s := .av (.val (.bool _))) rfl; exact rfl
    refine sq_off rfl rfl rfl rfl ?_
    apply sq_g; exact g_pick (s := .av (.val (.bool _))) rfl rfl; exact rfl
    apply sq_g; exact g_assign (s := .av (.val (.bool _))) rfl; exact rfl
    refine sq_nil ?_
    refine sq_then ?_
    refine cq_ret ?_
    rotate_left
  · exact sq_res1 rfl (.tmp rfl) rfl
  · exact sq_res1 rfl (.tmp rfl) rfl
  · have hw := hb
    (refine cq_cond rfl (fun hb => ?_) (fun hb => ?_) <;> (try simp only [decide_eq_true_eq, decide_eq_false_iff_not, beq_iff_eq, beq_eq_false_iff_ne, bne_iff_ne, bne_eq_false_iff_eq, ne_eq, Bool.not_eq_true', Bool.not_eq_false', Bool.and_eq_true, Bool.or_eq_true, Bool.and_eq_false_iff, Bool.or_eq_false_iff] at hb) <;> (try (exfalso; omega)))
    · refine cq_seq ?_
      refine cq_region ?_
      apply sq_g; exact g_call (aw) rfl; exact rfl
      apply sq_g; exact g_assign (s := .av (.val (.bool _))) rfl; exact rfl
      refine sq_nil ?_
      refine sq_then ?_
      refine cq_ret ?_
      refine sq_then_ret ?_
      exact sq_res1 rfl (.tmp rfl) rfl
    · focus
        refine cq_skip ?_
        refine sq_then ?_
        refine cq_seq ?_
        refine cq_region ?_
        apply sq_g; exact g_move (s := .av _) rfl; exact rfl
        apply sq_g; exact g_move (s := .av (.val (.int _ _))) rfl; exact rfl
        apply sq_g; exact g_call (c1) rfl; exact rfl
        apply sq_g; exact g_move (s := .av _) rfl; exact rfl
        apply sq_g; exact g_extractT rfl rfl; exact rfl
        apply sq_g; exact g_extractT rfl rfl; exact rfl
        apply sq_g; exact g_assign (s := .av _) rfl; exact rfl
        apply sq_g; exact g_assign (s := .av (.val (.int _ _))) rfl; exact rfl
        refine sq_nil ?_
        refine sq_then ?_
        refine cq_seq ?_
        refine cq_region ?_
        apply sq_g; exact g_move (s := .av _) rfl; exact rfl
        apply sq_g; exact g_move (s := .av (.val (.int _ _))) rfl; exact rfl
        apply sq_g; exact g_call (c2) rfl; exact rfl
        apply sq_g; exact g_move (s := .av _) rfl; exact rfl
        apply sq_g; exact g_extractT rfl rfl; exact rfl
        apply sq_g; exact g_extractT rfl rfl; exact rfl
        apply sq_g; exact g_assign (s := .av _) rfl; exact rfl
        apply sq_g; exact g_assign (s := .av (.val (.int _ _))) rfl; exact rfl
        refine sq_nil ?_
        refine sq_then ?_
        refine cq_seq ?_
        refine cq_region ?_
        apply sq_g; exact g_move (s := .av _) rfl; exact rfl
        apply sq_g; exact g_move (s := .av _) rfl; exact rfl
        apply sq_g; exact g_move (s := .av (.val (.int _ _))) rfl; exact rfl
        apply sq_g; exact g_call (c3) rfl; exact rfl
        apply sq_g; exact g_move (s := .av _) rfl; exact rfl
        apply sq_g; exact g_extractT rfl rfl; exact rfl
        apply sq_g; exact g_extractT rfl rfl; exact rfl
        apply sq_g; exact g_assign (s := .av _) rfl; exact rfl
        apply sq_g; exact g_assign (s := .av (.val (.int _ _))) rfl; exact rfl
        refine sq_nil ?_
        refine sq_then ?_
        refine cq_seq ?_
        refine cq_region ?_
        apply sq_g; exact g_move (s := .av _) rfl; exact rfl
        apply sq_g; exact g_move (s := .av _) rfl; exact rfl
        apply sq_g; exact g_move (s := .av (.val (.int _ _))) rfl; exact rfl
        apply sq_g; exact g_call (c4) rfl; exact rfl
        apply sq_g; exact g_move (s := .av _) rfl; exact rfl
        apply sq_g; exact g_extractT rfl rfl; exact rfl
        apply sq_g; exact g_extractT rfl rfl; exact rfl
        apply sq_g; exact g_assign (s := .av _) rfl; exact rfl
        apply sq_g; exact g_assign (s := .av (.val (.int _ _))) rfl; exact rfl
        refine sq_nil ?_
        refine sq_then ?_
        refine cq_seq ?_
        refine cq_region ?_
        apply sq_g; exact g_move (s := .av _) rfl; exact rfl
        apply sq_g; exact g_move (s := .av _) rfl; exact rfl
        apply sq_g; exact g_call (c5) rfl; exact rfl
        apply sq_g; exact g_move (s := .av (.val (.bool _))) rfl; exact rfl
        apply sq_on; exact g_move (s := .av (.val (.int _ _))) rfl; exact rfl; exact rfl; exact rfl
        apply sq_on; exact g_move (s := .av (.val (.int _ _))) rfl; exact rfl; exact rfl; exact rfl
        apply sq_on; exact g_cmp rfl rfl rfl; exact rfl; exact rfl; exact rfl
        apply sq_g; exact g_pick (s := .av (.val (.bool _))) rfl rfl; exact rfl
        apply sq_g; exact g_move (s := .av (.val (.bool _))) rfl; exact rfl
        refine sq_split rfl rfl (fun hb => ?_) (fun hb => ?_) <;> (try simp only [decide_eq_true_eq, decide_eq_false_iff_not, beq_iff_eq, beq_eq_false_iff_ne, bne_iff_ne, bne_eq_false_iff_eq, ne_eq, Bool.not_eq_true', Bool.not_eq_false', Bool.and_eq_true, Bool.or_eq_true, Bool.and_eq_false_iff, Bool.or_eq_false_iff] at hb) <;> (try (exfalso; omega))
        apply sq_on; exact g_move (s := .av _) rfl; exact rfl; exact rfl; exact rfl
        apply sq_on; exact g_move (s := .av _) rfl; exact rfl; exact rfl; exact rfl
        apply sq_on; exact g_call (c6) rfl; exact rfl; exact rfl; exact rfl
        apply sq_g; exact g_pick (s := .av (.val (.bool _))) rfl rfl; exact rfl
        apply sq_g; exact g_move (s := .av (.val (.bool _))) rfl; exact rfl
        apply sq_on; exact g_move (s := .av (.val (.int _ _))) rfl; exact rfl; exact rfl; exact rfl
        apply sq_on; exact g_move (s := .av (.val (.int _ _))) rfl; exact rfl; exact rfl; exact rfl
        apply sq_on; exact g_cmp rfl rfl rfl; exact rfl; exact rfl; exact rfl
        apply sq_g; exact g_pick (s := .av (.val (.bool _))) rfl rfl; exact rfl
        apply sq_g; exact g_move (s := .av (.val (.bool _))) rfl; exact rfl
        refine sq_split rfl rfl (fun hb => ?_) (fun hb => ?_) <;> (try simp only [decide_eq_true_eq, decide_eq_false_iff_not, beq_iff_eq, beq_eq_false_iff_ne, bne_iff_ne, bne_eq_false_iff_eq, ne_eq, Bool.not_eq_true', Bool.not_eq_false', Bool.and_eq_true, Bool.or_eq_true, Bool.and_eq_false_iff, Bool.or_eq_false_iff] at hb) <;> (try (exfalso; omega))
        apply sq_on; exact g_call (aw) rfl; exact rfl; exact rfl; exact rfl
        apply sq_g; exact g_pick (s := .av (.val (.bool _))) rfl rfl; exact rfl
        apply sq_g; exact g_assign (s := .av (.val (.bool _))) rfl; exact rfl
        refine sq_nil ?_
        refine sq_then ?_
        refine cq_ret ?_
        rotate_left
        refine sq_off rfl rfl rfl rfl ?_
        apply sq_g; exact g_pick (s := .av (.val (.bool _))) rfl rfl; exact rfl
        apply sq_g; exact g_assign (s := .av (.val (.bool _))) rfl; exact rfl
        refine sq_nil ?_
        refine sq_then ?_
        refine cq_ret ?_
        rotate_left
        refine sq_off rfl rfl rfl rfl ?_
        refine sq_off rfl rfl rfl rfl ?_
        refine sq_off rfl rfl rfl rfl ?_
        apply sq_g; exact g_pick (s := .av (.val (.bool _))) rfl rfl; exact rfl
        apply sq_g; exact g_move (s := .av (.val (.bool _))) rfl; exact rfl
        refine sq_off rfl rfl rfl rfl ?_
        refine sq_off rfl rfl rfl rfl ?_
        refine sq_off rfl rfl rfl rfl ?_
        apply sq_g; exact g_pick (s := .av (.val (.bool _))) rfl rfl; exact rfl
        apply sq_g; exact g_move (s := .av (.val (.bool _))) rfl; exact rfl
        refine sq_off rfl rfl rfl rfl ?_
        apply sq_g; exact g_pick (s := .av (.val (.bool _))) rfl rfl; exact rfl
        apply sq_g; exact g_assign (s := .av (.val (.bool _))) rfl; exact rfl
        refine sq_nil ?_
        refine sq_then ?_
        refine cq_ret ?_
        rotate_left
      all_goals (first | (exact absurd trivial (by assumption)) | (exact sq_res1 rfl (.tmp rfl) (by simp)) | (exact sq_res1 rfl (.tmp rfl) rfl))
  all_goals (first | (exact absurd trivial (by assumption)) | (exact sq_res1 rfl (.tmp rfl) (by simp)) | (exact sq_res1 rfl (.tmp rfl) rfl))
end Go.Proofs.Ytogilkilkmoedaa
